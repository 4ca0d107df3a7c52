/- Reading a unit's bytes: the plain words. -/
import Derived.Test.YtpopgnengimieaaInj
import Derived.Test.YtpopgnengimieaaShallow
namespace Go.Proofs.Ytpopgnengimieaa
open Go.RowKit
set_option linter.unusedSimpArgs false
set_option linter.unusedVariables false

/-- a list of things of which E tells -/
def OkL {α : Type} (E : α → Prop) (l : List α) : Prop := l.length ≤ 140737488355328 ∧ ∀ x ∈ l, E x
theorem OkL.imp {α : Type} {E E' : α → Prop} {l : List α} (h : OkL E l) (k : ∀ x ∈ l, E x → E' x) : OkL E' l := ⟨h.1, fun x hx => k x hx (h.2 x hx)⟩
def OkTy : Nat → Ty → Prop
  | 0, _ => False
  | m + 1, .mk k p n la lr => I64 k ∧ Fits p ∧ Fits n ∧ OkL (OkTy m) la ∧ OkL (OkTy m) lr
def OkEx : Nat → Ex → Prop
  | 0, _ => False
  | m + 1, .mk op n s ks => I64 op ∧ I64 n ∧ Fits s ∧ OkL (OkEx m) ks
def OkSt : Nat → St → Prop
  | 0, _ => False
  | m + 1, .mk op n es bs ls => I64 op ∧ I64 n ∧ OkL (OkEx m) es ∧ OkL (OkSt m) bs ∧ OkL (OkSt m) ls
def OkFd (f : Fd) : Prop := Fits f.name ∧ OkTy 101 f.type
def OkIm (i : Im) : Prop := Fits i.name ∧ I64 i.hash
def OkDe (x : De) : Prop := I64 x.kind ∧ Fits x.name ∧ Fits x.of_ ∧ I64 x.value ∧ OkTy 101 x.type ∧ OkL OkFd x.fields
def OkFn (f : Fn1) : Prop := Fits f.name ∧ I64 f.params ∧ I64 f.locals ∧ OkL (OkSt 101) f.body
def OkUn (u : Un) : Prop := Fits u.pkg ∧ OkL OkIm u.imports ∧ OkL OkDe u.decls ∧ OkL OkFn u.bodies

/-- the bytes r begin with no such thing -/
def No {α : Type} (E : α → Prop) (enc : α → List UInt8) (r : List UInt8) : Prop := ∀ x r', E x → r ≠ enc x ++ r'
def encT (b : Bool) : List UInt8 := le8 (if b = true then 1 else 0)
theorem encT_pi {a b : Bool} {r r' : List UInt8} (h : encT a ++ r = encT b ++ r') : a = b ∧ r = r' := by
  unfold encT at h
  obtain ⟨h1, h2⟩ := le8_pi (by unfold I64; split <;> omega) (by unfold I64; split <;> omega) h
  refine ⟨?_, h2⟩
  cases a <;> cases b <;> simp at h1 <;> rfl
theorem list_pi {α : Type} {E : α → Prop} {enc : α → List UInt8} (h : PI E E enc) : PI (OkL E) (OkL E) (encL enc) :=
  fun l m hl hm r r' e => encL_pi h l m hl.1 hm.1 hl.2 hm.2 e

theorem pi_OkTy : ∀ m : Nat, PI (OkTy m) (OkTy m) encTy
  | 0 => fun _ _ h _ => h.elim
  | m + 1 => by
    rintro ⟨k, p, n, la, lr⟩ ⟨k', p', n', la', lr'⟩ ⟨h1, h2, h3, h4, h5⟩ ⟨h1', h2', h3', h4', h5'⟩ r r' e
    simp only [encTy_mk, List.append_assoc] at e
    obtain ⟨e1, e⟩ := le8_pi h1 h1' e
    obtain ⟨e2, e⟩ := encS_pi h2 h2' e
    obtain ⟨e3, e⟩ := encS_pi h3 h3' e
    obtain ⟨e4, e⟩ := list_pi (pi_OkTy m) _ _ h4 h4' _ _ e
    obtain ⟨e5, e⟩ := list_pi (pi_OkTy m) _ _ h5 h5' _ _ e
    exact ⟨by rw [e1, e2, e3, e4, e5], e⟩
theorem pi_OkEx : ∀ m : Nat, PI (OkEx m) (OkEx m) encEx
  | 0 => fun _ _ h _ => h.elim
  | m + 1 => by
    rintro ⟨k, p, n, la⟩ ⟨k', p', n', la'⟩ ⟨h1, h2, h3, h4⟩ ⟨h1', h2', h3', h4'⟩ r r' e
    simp only [encEx_mk, List.append_assoc] at e
    obtain ⟨e1, e⟩ := le8_pi h1 h1' e
    obtain ⟨e2, e⟩ := le8_pi h2 h2' e
    obtain ⟨e3, e⟩ := encS_pi h3 h3' e
    obtain ⟨e4, e⟩ := list_pi (pi_OkEx m) _ _ h4 h4' _ _ e
    exact ⟨by rw [e1, e2, e3, e4], e⟩
theorem pi_OkSt : ∀ m : Nat, PI (OkSt m) (OkSt m) encSt
  | 0 => fun _ _ h _ => h.elim
  | m + 1 => by
    rintro ⟨k, p, es, bs, ls⟩ ⟨k', p', es', bs', ls'⟩ ⟨h1, h2, h3, h4, h5⟩ ⟨h1', h2', h3', h4', h5'⟩ r r' e
    simp only [encSt_mk, List.append_assoc] at e
    obtain ⟨e1, e⟩ := le8_pi h1 h1' e
    obtain ⟨e2, e⟩ := le8_pi h2 h2' e
    obtain ⟨e3, e⟩ := list_pi (pi_OkEx m) _ _ h3 h3' _ _ e
    obtain ⟨e4, e⟩ := list_pi (pi_OkSt m) _ _ h4 h4' _ _ e
    obtain ⟨e5, e⟩ := list_pi (pi_OkSt m) _ _ h5 h5' _ _ e
    exact ⟨by rw [e1, e2, e3, e4, e5], e⟩
theorem pi_OkFd : PI OkFd OkFd encFd := by
  rintro ⟨n, t⟩ ⟨n', t'⟩ ⟨h1, h2⟩ ⟨h1', h2'⟩ r r' e
  simp only [encFd, List.append_assoc] at e
  obtain ⟨e1, e⟩ := encS_pi h1 h1' e
  obtain ⟨e2, e⟩ := pi_OkTy 101 _ _ h2 h2' _ _ e
  exact ⟨by simp only at e1 e2; rw [e1, e2], e⟩
theorem pi_OkIm : PI OkIm OkIm encIm := by
  rintro ⟨n, t⟩ ⟨n', t'⟩ ⟨h1, h2⟩ ⟨h1', h2'⟩ r r' e
  simp only [encIm, List.append_assoc] at e
  obtain ⟨e1, e⟩ := encS_pi h1 h1' e
  obtain ⟨e2, e⟩ := le8_pi h2 h2' e
  exact ⟨by simp only at e1 e2; rw [e1, e2], e⟩
theorem pi_OkDe : PI OkDe OkDe encDe := by
  rintro ⟨a, b, c, d, f, g⟩ ⟨a', b', c', d', f', g'⟩ ⟨h1, h2, h3, h4, h5, h6⟩ ⟨h1', h2', h3', h4', h5', h6'⟩ r r' e
  simp only [encDe, List.append_assoc] at e
  obtain ⟨e1, e⟩ := le8_pi h1 h1' e
  obtain ⟨e2, e⟩ := encS_pi h2 h2' e
  obtain ⟨e3, e⟩ := encS_pi h3 h3' e
  obtain ⟨e4, e⟩ := le8_pi h4 h4' e
  obtain ⟨e5, e⟩ := pi_OkTy 101 _ _ h5 h5' _ _ e
  obtain ⟨e6, e⟩ := list_pi pi_OkFd _ _ h6 h6' _ _ e
  exact ⟨by simp only at e1 e2 e3 e4 e5 e6; rw [e1, e2, e3, e4, e5, e6], e⟩
theorem pi_OkFn : PI OkFn OkFn encFn := by
  rintro ⟨a, b, c, d, f⟩ ⟨a', b', c', d', f'⟩ ⟨h1, h2, h3, h4⟩ ⟨h1', h2', h3', h4'⟩ r r' e
  simp only [encFn, List.append_assoc] at e
  obtain ⟨e1, e⟩ := encS_pi h1 h1' e
  obtain ⟨e0, e⟩ := encT_pi e
  obtain ⟨e2, e⟩ := le8_pi h2 h2' e
  obtain ⟨e3, e⟩ := le8_pi h3 h3' e
  obtain ⟨e4, e⟩ := list_pi (pi_OkSt 101) _ _ h4 h4' _ _ e
  exact ⟨by simp only at e1 e0 e2 e3 e4; rw [e1, e0, e2, e3, e4], e⟩
theorem pi_OkUn : PI OkUn OkUn encUn := by
  rintro ⟨a, b, c, d⟩ ⟨a', b', c', d'⟩ ⟨h1, h2, h3, h4⟩ ⟨h1', h2', h3', h4'⟩ r r' e
  simp only [encUn, List.append_assoc] at e
  have e := List.append_cancel_left e
  obtain ⟨e1, e⟩ := encS_pi h1 h1' e
  obtain ⟨e2, e⟩ := list_pi pi_OkIm _ _ h2 h2' _ _ e
  obtain ⟨e3, e⟩ := list_pi pi_OkDe _ _ h3 h3' _ _ e
  obtain ⟨e4, e⟩ := list_pi pi_OkFn _ _ h4 h4' _ _ e
  exact ⟨by simp only at e1 e2 e3 e4; rw [e1, e2, e3, e4], e⟩

theorem encL_pos {α : Type} (enc : α → List UInt8) (l : List α) : 1 ≤ (encL enc l).length := by
  unfold encL; rw [List.length_append, le8_length]; omega
theorem flat_len {α : Type} {E : α → Prop} {enc : α → List UInt8} (h1 : ∀ x, E x → 1 ≤ (enc x).length) : ∀ l : List α, (∀ x ∈ l, E x) → l.length ≤ (l.flatMap enc).length
  | [], _ => by simp
  | x :: l, h => by
    have h2 := h1 x (h x (List.mem_cons_self ..))
    have h3 := flat_len h1 l (fun z hz => h z (List.mem_cons_of_mem _ hz))
    simp only [List.flatMap_cons, List.length_append, List.length_cons]
    omega
theorem no_num {α : Type} {E : α → Prop} {enc : α → List UInt8} {r : List UInt8} (h : No I64 le8 r) : No (OkL E) (encL enc) r := by
  intro l r' hl e
  unfold encL at e
  rw [List.append_assoc] at e
  exact h _ _ (by have := hl.1; unfold I64; omega) e
theorem no_count {α : Type} {E : α → Prop} {enc : α → List UInt8} (h1 : ∀ x, E x → 1 ≤ (enc x).length) {r r1 : List UInt8} {v : Int} (hv : I64 v) (hr : r = le8 v ++ r1) (hb : v < 0 ∨ (r1.length : Int) < v) : No (OkL E) (encL enc) r := by
  intro l r' hl e
  unfold encL at e
  rw [hr, List.append_assoc] at e
  obtain ⟨e1, e2⟩ := le8_pi hv (by have := hl.1; unfold I64; omega) e
  have := flat_len h1 l hl.2
  have h3 := congrArg List.length e2
  rw [List.length_append] at h3
  omega
theorem flat_next {α : Type} {E : α → Prop} {enc : α → List UInt8} (h : PI E E enc) : ∀ (l m : List α), l.length < m.length → (∀ x ∈ l, E x) → (∀ y ∈ m, E y) → ∀ r r' : List UInt8, l.flatMap enc ++ r = m.flatMap enc ++ r' → ∃ x r'', E x ∧ r = enc x ++ r''
  | [], y :: m, _, _, hy, r, r', e => ⟨y, m.flatMap enc ++ r', hy _ (List.mem_cons_self ..), by simpa using e⟩
  | x :: l, y :: m, hl, hx, hy, r, r', e => by
    simp only [List.flatMap_cons, List.append_assoc] at e
    obtain ⟨h1, h2⟩ := h x y (hx _ (List.mem_cons_self ..)) (hy _ (List.mem_cons_self ..)) _ _ e
    exact flat_next h l m (by simpa using hl) (fun z hz => hx z (List.mem_cons_of_mem _ hz)) (fun z hz => hy z (List.mem_cons_of_mem _ hz)) r r' h2
  | _, [], hl, _, _, _, _, _ => by simp at hl
theorem no_list {α : Type} {E : α → Prop} {enc : α → List UInt8} (h : PI E E enc) {r r2 : List UInt8} {n : Nat} (l : List α) (hn : n ≤ 140737488355328) (hr : r = le8 n ++ (l.flatMap enc ++ r2)) (hl : l.length < n) (hx : ∀ x ∈ l, E x) (hno : No E enc r2) : No (OkL E) (encL enc) r := by
  intro m r' hm e
  unfold encL at e
  rw [hr, List.append_assoc] at e
  obtain ⟨e1, e2⟩ := nat_pi hn hm.1 e
  obtain ⟨x, r'', h1, h2⟩ := flat_next h l m (by omega) hx hm.2 _ _ e2
  exact hno x r'' h1 h2
theorem yes_list {α : Type} {enc : α → List UInt8} {r r2 : List UInt8} {n : Nat} (l : List α) (hr : r = le8 n ++ (l.flatMap enc ++ r2)) (hl : l.length = n) : r = encL enc l ++ r2 := by
  unfold encL; rw [List.append_assoc, hl]; exact hr

theorem okL_of {α : Type} {B : Nat} {W : World} {n : Nat} {E : α → List Value → Prop} {E' : α → Prop} {l : List α} {v : Value} (h : SlB B W n E l v) (k : ∀ x ∈ l, ∀ cs, E x cs → E' x) : OkL E' l :=
  ⟨h.all.1, fun x hx => let ⟨cs, hc⟩ := h.all.2 x hx; k x hx cs hc⟩
theorem fitTys_mem {a : Int} : ∀ {l : List Ty}, fitTys l a = true → ∀ x ∈ l, fitTy x a = true
  | t :: r, h, x, hx => by
    simp only [fitTys, Bool.and_eq_true] at h
    rcases List.mem_cons.1 hx with rfl | hx
    · exact h.1
    · exact fitTys_mem h.2 x hx
theorem fitExs_mem {a : Int} : ∀ {l : List Ex}, fitExs l a = true → ∀ x ∈ l, fitEx x a = true
  | t :: r, h, x, hx => by
    simp only [fitExs, Bool.and_eq_true] at h
    rcases List.mem_cons.1 hx with rfl | hx
    · exact h.1
    · exact fitExs_mem h.2 x hx
theorem fitSts_mem {a : Int} : ∀ {l : List St}, fitSts l a = true → ∀ x ∈ l, fitSt x a = true
  | t :: r, h, x, hx => by
    simp only [fitSts, Bool.and_eq_true] at h
    rcases List.mem_cons.1 hx with rfl | hx
    · exact h.1
    · exact fitSts_mem h.2 x hx
theorem fitTys_of {a : Int} : ∀ {l : List Ty}, (∀ x ∈ l, fitTy x a = true) → fitTys l a = true
  | [], _ => rfl
  | t :: r, h => by
    simp only [fitTys, Bool.and_eq_true]
    exact ⟨h t (List.mem_cons_self ..), fitTys_of fun x hx => h x (List.mem_cons_of_mem _ hx)⟩
theorem fitExs_of {a : Int} : ∀ {l : List Ex}, (∀ x ∈ l, fitEx x a = true) → fitExs l a = true
  | [], _ => rfl
  | t :: r, h => by
    simp only [fitExs, Bool.and_eq_true]
    exact ⟨h t (List.mem_cons_self ..), fitExs_of fun x hx => h x (List.mem_cons_of_mem _ hx)⟩
theorem fitSts_of {a : Int} : ∀ {l : List St}, (∀ x ∈ l, fitSt x a = true) → fitSts l a = true
  | [], _ => rfl
  | t :: r, h => by
    simp only [fitSts, Bool.and_eq_true]
    exact ⟨h t (List.mem_cons_self ..), fitSts_of fun x hx => h x (List.mem_cons_of_mem _ hx)⟩
theorem okTy_of {B : Nat} {W : World} : ∀ (d : Nat) (x : Ty) (cs : List Value), TyAt B W d x cs → ∀ (a : Int) (m : Nat), a + m = 101 → fitTy x a = true → OkTy m x
  | 0, _, _, h, _, _, _, _ => h.elim
  | d + 1, .mk k p n la lr, cs, h, a, m, hm, hf => by
    obtain ⟨va, vr, _, h1, h2, h3, h4, h5⟩ := h
    simp only [fitTy, Bool.and_eq_true, decide_eq_true_eq] at hf
    obtain ⟨m0, rfl⟩ : ∃ m0, m = m0 + 1 := ⟨m - 1, by omega⟩
    exact ⟨h1, h2, h3, okL_of h4 fun x hx cs hc => okTy_of d x cs hc (a + 1) m0 (by omega) (fitTys_mem hf.2.1 x hx), okL_of h5 fun x hx cs hc => okTy_of d x cs hc (a + 1) m0 (by omega) (fitTys_mem hf.2.2 x hx)⟩
theorem okEx_of {B : Nat} {W : World} : ∀ (d : Nat) (x : Ex) (cs : List Value), ExAt B W d x cs → ∀ (a : Int) (m : Nat), a + m = 101 → fitEx x a = true → OkEx m x
  | 0, _, _, h, _, _, _, _ => h.elim
  | d + 1, .mk k p n la, cs, h, a, m, hm, hf => by
    obtain ⟨va, _, h1, h2, h3, h4⟩ := h
    simp only [fitEx, Bool.and_eq_true, decide_eq_true_eq] at hf
    obtain ⟨m0, rfl⟩ : ∃ m0, m = m0 + 1 := ⟨m - 1, by omega⟩
    exact ⟨h1, h2, h3, okL_of h4 fun x hx cs hc => okEx_of d x cs hc (a + 1) m0 (by omega) (fitExs_mem hf.2 x hx)⟩
theorem okSt_of {B : Nat} {W : World} : ∀ (d : Nat) (x : St) (cs : List Value), StAt B W d x cs → ∀ (a : Int) (m : Nat), a + m = 101 → fitSt x a = true → OkSt m x
  | 0, _, _, h, _, _, _, _ => h.elim
  | d + 1, .mk k p es bs ls, cs, h, a, m, hm, hf => by
    obtain ⟨_, _, _, _, h1, h2, h3, h4, h5⟩ := h
    simp only [fitSt, Bool.and_eq_true, decide_eq_true_eq] at hf
    obtain ⟨m0, rfl⟩ : ∃ m0, m = m0 + 1 := ⟨m - 1, by omega⟩
    exact ⟨h1, h2, okL_of h3 fun x hx cs hc => okEx_of d x cs hc (a + 1) m0 (by omega) (fitExs_mem hf.2.1 x hx), okL_of h4 fun x hx cs hc => okSt_of d x cs hc (a + 1) m0 (by omega) (fitSts_mem hf.2.2.1 x hx),
      okL_of h5 fun x hx cs hc => okSt_of d x cs hc (a + 1) m0 (by omega) (fitSts_mem hf.2.2.2 x hx)⟩
theorem fitTy_of : ∀ (m : Nat) (x : Ty) (a : Int), a + m = 101 → OkTy m x → fitTy x a = true
  | 0, _, _, _, h => h.elim
  | m + 1, .mk k p n la lr, a, hm, ⟨_, _, _, h4, h5⟩ => by
    simp only [fitTy, Bool.and_eq_true, decide_eq_true_eq]
    exact ⟨by omega, fitTys_of fun x hx => fitTy_of m x (a + 1) (by omega) (h4.2 x hx), fitTys_of fun x hx => fitTy_of m x (a + 1) (by omega) (h5.2 x hx)⟩
theorem fitEx_of : ∀ (m : Nat) (x : Ex) (a : Int), a + m = 101 → OkEx m x → fitEx x a = true
  | 0, _, _, _, h => h.elim
  | m + 1, .mk k p n la, a, hm, ⟨_, _, _, h4⟩ => by
    simp only [fitEx, Bool.and_eq_true, decide_eq_true_eq]
    exact ⟨by omega, fitExs_of fun x hx => fitEx_of m x (a + 1) (by omega) (h4.2 x hx)⟩
theorem fitSt_of : ∀ (m : Nat) (x : St) (a : Int), a + m = 101 → OkSt m x → fitSt x a = true
  | 0, _, _, _, h => h.elim
  | m + 1, .mk k p es bs ls, a, hm, ⟨_, _, h3, h4, h5⟩ => by
    simp only [fitSt, Bool.and_eq_true, decide_eq_true_eq]
    exact ⟨by omega, fitExs_of fun x hx => fitEx_of m x (a + 1) (by omega) (h3.2 x hx), fitSts_of fun x hx => fitSt_of m x (a + 1) (by omega) (h4.2 x hx), fitSts_of fun x hx => fitSt_of m x (a + 1) (by omega) (h5.2 x hx)⟩
theorem okUn_of {B : Nat} {W : World} {d : Nat} {u : Un} {cs : List Value} (h : UnAt B W d u cs) (hf : fitUn u = true) : OkUn u := by
  obtain ⟨vi, vd, vb, _, h1, h2, h3, h4⟩ := h
  simp only [fitUn, Bool.and_eq_true, List.all_eq_true] at hf
  refine ⟨h1, okL_of h2 fun x _ cs hc => hc.2, okL_of h3 fun x hx cs hc => ?_, okL_of h4 fun x hx cs hc => ?_⟩
  · obtain ⟨ct, vf, _, _, g1, g2, g3, g4, g5, g6⟩ := hc
    have hd := hf.1 x hx
    simp only [fitDe, Bool.and_eq_true, Bool.not_eq_true', List.any_eq_false, Bool.not_eq_eq_eq_not, Bool.not_true, Bool.not_eq_false] at hd
    refine ⟨g1, g2, g3, g4, okTy_of d _ _ g5 0 101 (by omega) hd.1, okL_of g6 fun f hf' cs hc => ?_⟩
    obtain ⟨ct, _, _, k1, k2⟩ := hc
    exact ⟨k1, okTy_of d _ _ k2 0 101 (by omega) (by simpa using hd.2 f hf')⟩
  · obtain ⟨vb, _, g1, g2, g3, g4⟩ := hc
    have hd := hf.2 x hx
    simp only [fitFn, Bool.not_eq_true', List.any_eq_false] at hd
    exact ⟨g1, g2, g3, okL_of g4 fun s hs cs hc => okSt_of d _ _ hc 0 101 (by omega) (by simpa using hd s hs)⟩
theorem fitUn_of {u : Un} (h : OkUn u) : fitUn u = true := by
  obtain ⟨_, _, h3, h4⟩ := h
  simp only [fitUn, Bool.and_eq_true, List.all_eq_true]
  refine ⟨fun x hx => ?_, fun x hx => ?_⟩
  · obtain ⟨_, _, _, _, g5, g6⟩ := h3.2 x hx
    simp only [fitDe, Bool.and_eq_true, Bool.not_eq_true', List.any_eq_false]
    exact ⟨fitTy_of 101 _ 0 (by omega) g5, fun f hf => by simpa using fitTy_of 101 _ 0 (by omega) (g6.2 f hf).2⟩
  · obtain ⟨_, _, _, g4⟩ := h4.2 x hx
    simp only [fitFn, Bool.not_eq_true', List.any_eq_false]
    exact fun s hs => by simpa using fitSt_of 101 _ 0 (by omega) (g4.2 s hs)
theorem encB_pi {u v : Un} (hu : OkUn u) (hv : OkUn v) {r r' : List UInt8} (e : encB u ++ r = encB v ++ r') : u = v ∧ r = r' := by
  unfold encB at e
  simp only [List.append_assoc] at e
  obtain ⟨e1, e2⟩ := pi_OkUn u v hu hv _ _ e
  subst e1
  exact ⟨rfl, List.append_cancel_left e2⟩
end Go.Proofs.Ytpopgnengimieaa
