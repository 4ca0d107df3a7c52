/- Reading an object's bytes: the plain words. -/
import Derived.Test.YtfdjlicegfgodaaLaw28
namespace Go.Proofs.Ytfdjlicegfgodaa
open Go.RowKit
set_option linter.unusedSimpArgs false
set_option linter.unusedVariables false


theorem u8_inj {x y : Int} (hx : 0 ≤ x ∧ x < 256) (hy : 0 ≤ y ∧ y < 256) (h : UInt8.ofNat x.toNat = UInt8.ofNat y.toNat) : x = y := by
  have := congrArg UInt8.toNat h
  rw [UInt8.toNat_ofNat', UInt8.toNat_ofNat'] at this
  omega
theorem digits_inj {a b : Int} (ha : 0 ≤ a ∧ a < 18446744073709551616) (hb : 0 ≤ b ∧ b < 18446744073709551616)
    (h0 : a % 256 = b % 256) (h1 : a / 256 % 256 = b / 256 % 256) (h2 : a / 65536 % 256 = b / 65536 % 256) (h3 : a / 16777216 % 256 = b / 16777216 % 256) (h4 : a / 4294967296 % 256 = b / 4294967296 % 256)
    (h5 : a / 1099511627776 % 256 = b / 1099511627776 % 256) (h6 : a / 281474976710656 % 256 = b / 281474976710656 % 256) (h7 : a / 72057594037927936 % 256 = b / 72057594037927936 % 256) : a = b := by omega
theorem u64_range (n : Int) : 0 ≤ IntKind.u64.wrap n ∧ IntKind.u64.wrap n < 18446744073709551616 := by
  simp only [IntKind.wrap, IntKind.bits, IntKind.signed]
  simp
  omega
theorem u64_inj {a b : Int} (ha : I64 a) (hb : I64 b) (h : IntKind.u64.wrap a = IntKind.u64.wrap b) : a = b := by
  simp only [IntKind.wrap, IntKind.bits, IntKind.signed] at h
  simp at h
  unfold I64 at ha hb
  omega
theorem le8_inj {a b : Int} (ha : I64 a) (hb : I64 b) (h : le8 a = le8 b) : a = b := by
  refine u64_inj ha hb ?_
  have ra := u64_range a
  have rb := u64_range b
  simp only [le8, leN, List.map_cons, List.map_nil, List.cons.injEq, and_true] at h
  generalize IntKind.u64.wrap a = x at *
  generalize IntKind.u64.wrap b = y at *
  obtain ⟨h0, h1, h2, h3, h4, h5, h6, h7⟩ := h
  exact digits_inj ra rb (u8_inj (by omega) (by omega) h0) (u8_inj (by omega) (by omega) h1) (u8_inj (by omega) (by omega) h2) (u8_inj (by omega) (by omega) h3) (u8_inj (by omega) (by omega) h4) (u8_inj (by omega) (by omega) h5) (u8_inj (by omega) (by omega) h6) (u8_inj (by omega) (by omega) h7)
/-- no code of one begins another's -/
def PI {α : Type} (E E' : α → Prop) (enc : α → List UInt8) : Prop := ∀ x y, E x → E' y → ∀ r r' : List UInt8, enc x ++ r = enc y ++ r' → x = y ∧ r = r'
theorem le8_pi {a b : Int} (ha : I64 a) (hb : I64 b) {r r' : List UInt8} (h : le8 a ++ r = le8 b ++ r') : a = b ∧ r = r' := by
  obtain ⟨h1, h2⟩ := List.append_inj h (by rw [le8_length, le8_length])
  exact ⟨le8_inj ha hb h1, h2⟩
theorem nat_pi {a b : Nat} (ha : a ≤ 140737488355328) (hb : b ≤ 140737488355328) {r r' : List UInt8} (h : le8 a ++ r = le8 b ++ r') : a = b ∧ r = r' := by
  obtain ⟨h1, h2⟩ := le8_pi (by unfold I64; omega) (by unfold I64; omega) h
  exact ⟨by omega, h2⟩
theorem encS_pi {s t : ByteArray} (hs : Fits s) (ht : Fits t) {r r' : List UInt8} (h : encS s ++ r = encS t ++ r') : s = t ∧ r = r' := by
  unfold encS at h
  rw [List.append_assoc, List.append_assoc] at h
  obtain ⟨h1, h2⟩ := nat_pi hs ht h
  obtain ⟨h3, h4⟩ := List.append_inj h2 (by rw [Array.length_toList, Array.length_toList]; exact h1)
  refine ⟨?_, h4⟩
  cases s; cases t
  simp at h3
  rw [h3]
theorem flat_pi {α : Type} {E E' : α → Prop} {enc : α → List UInt8} (h : PI E E' enc) : ∀ (l m : List α), l.length = m.length → (∀ x ∈ l, E x) → (∀ y ∈ m, E' y) → ∀ r r' : List UInt8, l.flatMap enc ++ r = m.flatMap enc ++ r' → l = m ∧ r = r'
  | [], [], _, _, _, r, r', e => ⟨rfl, by simpa using e⟩
  | x :: l, y :: m, hl, hx, hy, r, r', e => by
    simp only [List.flatMap_cons, List.append_assoc] at e
    obtain ⟨h1, h2⟩ := h x y (hx _ (List.mem_cons_self ..)) (hy _ (List.mem_cons_self ..)) _ _ e
    obtain ⟨h3, h4⟩ := flat_pi h l m (by simpa using hl) (fun z hz => hx z (List.mem_cons_of_mem _ hz)) (fun z hz => hy z (List.mem_cons_of_mem _ hz)) r r' h2
    exact ⟨by rw [h1, h3], h4⟩
  | [], _ :: _, hl, _, _, _, _, _ => by simp at hl
  | _ :: _, [], hl, _, _, _, _, _ => by simp at hl
theorem encL_pi {α : Type} {E E' : α → Prop} {enc : α → List UInt8} (h : PI E E' enc) (l m : List α) (hl : l.length ≤ 140737488355328) (hm : m.length ≤ 140737488355328) (hx : ∀ x ∈ l, E x) (hy : ∀ y ∈ m, E' y) {r r' : List UInt8}
    (e : encL enc l ++ r = encL enc m ++ r') : l = m ∧ r = r' := by
  unfold encL at e
  rw [List.append_assoc, List.append_assoc] at e
  obtain ⟨h1, h2⟩ := nat_pi hl hm e
  exact flat_pi h l m h1 hx hy r r' h2
theorem SlB.all {α : Type} {B : Nat} {W : World} {n : Nat} {E : α → List Value → Prop} {l : List α} {v : Value} (h : SlB B W n E l v) : l.length ≤ 140737488355328 ∧ ∀ x ∈ l, ∃ cs, E x cs := by
  obtain ⟨_, _, _, hl, hc⟩ := h
  refine ⟨hl, fun x hx => ?_⟩
  obtain ⟨b, o, _, _, he⟩ := hc (by intro e; rw [e] at hx; cases hx)
  obtain ⟨i, hi, rfl⟩ := List.getElem_of_mem hx
  obtain ⟨cs, _, _, h⟩ := he i hi
  exact ⟨cs, h⟩

/-- a list of things of which E tells -/
def OkL {α : Type} (E : α → Prop) (l : List α) : Prop := l.length ≤ 140737488355328 ∧ ∀ x ∈ l, E x
theorem OkL.imp {α : Type} {E E' : α → Prop} {l : List α} (h : OkL E l) (k : ∀ x ∈ l, E x → E' x) : OkL E' l := ⟨h.1, fun x hx => k x hx (h.2 x hx)⟩

def OkIm (i : Im) : Prop := Fits i.name ∧ I64 i.hash
def OkSy (s : Sy) : Prop := Fits s.name ∧ I64 s.kind ∧ I64 s.at_ ∧ I64 s.size ∧ I64 s.frame
def OkRe (r : Re) : Prop := I64 r.at_ ∧ Fits r.name
def OkOb (o : Ob) : Prop := Fits o.pkg ∧ I64 o.hash ∧ OkL OkIm o.imports ∧ OkL OkSy o.syms ∧ OkL OkRe o.relocs ∧ OkL I64 o.code ∧ OkL I64 o.data

/-- the bytes r begin with no such thing -/
def No {α : Type} (E : α → Prop) (enc : α → List UInt8) (r : List UInt8) : Prop := ∀ x r', E x → r ≠ enc x ++ r'
theorem encB_pi {a b : Bool} {r r' : List UInt8} (h : encB a ++ r = encB b ++ r') : a = b ∧ r = r' := by
  unfold encB at h
  obtain ⟨h1, h2⟩ := le8_pi (by unfold I64; split <;> omega) (by unfold I64; split <;> omega) h
  refine ⟨?_, h2⟩
  cases a <;> cases b <;> simp at h1 <;> rfl
theorem list_pi {α : Type} {E : α → Prop} {enc : α → List UInt8} (h : PI E E enc) : PI (OkL E) (OkL E) (encL enc) :=
  fun l m hl hm r r' e => encL_pi h l m hl.1 hm.1 hl.2 hm.2 e


theorem pi_I64 : PI I64 I64 le8 := fun _ _ h h' _ _ e => le8_pi h h' e
theorem pi_OkIm : PI OkIm OkIm encIm := by
  rintro ⟨n, t⟩ ⟨n', t'⟩ ⟨h1, h2⟩ ⟨h1', h2'⟩ r r' e
  simp only [encIm, List.append_assoc] at e
  obtain ⟨e1, e⟩ := encS_pi h1 h1' e
  obtain ⟨e2, e⟩ := le8_pi h2 h2' e
  exact ⟨by simp only at e1 e2; rw [e1, e2], e⟩
theorem pi_OkSy : PI OkSy OkSy encSy := by
  rintro ⟨a, b, c, d, f, g⟩ ⟨a', b', c', d', f', g'⟩ ⟨h1, h2, h3, h4, h5⟩ ⟨h1', h2', h3', h4', h5'⟩ r r' e
  simp only [encSy, List.append_assoc] at e
  obtain ⟨e1, e⟩ := encS_pi h1 h1' e
  obtain ⟨e2, e⟩ := le8_pi h2 h2' e
  obtain ⟨e0, e⟩ := encB_pi e
  obtain ⟨e3, e⟩ := le8_pi h3 h3' e
  obtain ⟨e4, e⟩ := le8_pi h4 h4' e
  obtain ⟨e5, e⟩ := le8_pi h5 h5' e
  exact ⟨by simp only at e1 e0 e2 e3 e4 e5; rw [e1, e0, e2, e3, e4, e5], e⟩
theorem pi_OkRe : PI OkRe OkRe encRe := by
  rintro ⟨a, b, c⟩ ⟨a', b', c'⟩ ⟨h1, h2⟩ ⟨h1', h2'⟩ r r' e
  simp only [encRe, List.append_assoc] at e
  obtain ⟨e0, e⟩ := encB_pi e
  obtain ⟨e1, e⟩ := le8_pi h1 h1' e
  obtain ⟨e2, e⟩ := encS_pi h2 h2' e
  exact ⟨by simp only at e0 e1 e2; rw [e0, e1, e2], e⟩
theorem pi_OkOb : PI OkOb OkOb encO := by
  rintro ⟨a, b, c, d, f, g, i⟩ ⟨a', b', c', d', f', g', i'⟩ ⟨h1, h2, h3, h4, h5, h6, h7⟩ ⟨h1', h2', h3', h4', h5', h6', h7'⟩ r r' e
  simp only [encO, List.append_assoc] at e
  obtain ⟨e1, e⟩ := encS_pi h1 h1' e
  obtain ⟨e2, e⟩ := le8_pi h2 h2' e
  obtain ⟨e3, e⟩ := list_pi pi_OkIm _ _ h3 h3' _ _ e
  obtain ⟨e4, e⟩ := list_pi pi_OkSy _ _ h4 h4' _ _ e
  obtain ⟨e5, e⟩ := list_pi pi_OkRe _ _ h5 h5' _ _ e
  obtain ⟨e6, e⟩ := list_pi pi_I64 _ _ h6 h6' _ _ e
  obtain ⟨e7, e⟩ := list_pi pi_I64 _ _ h7 h7' _ _ e
  exact ⟨by simp only at e1 e2 e3 e4 e5 e6 e7; rw [e1, e2, e3, e4, e5, e6, e7], e⟩

theorem encL_pos {α : Type} (enc : α → List UInt8) (l : List α) : 1 ≤ (encL enc l).length := by
  unfold encL; rw [List.length_append, le8_length]; omega
theorem flat_len {α : Type} {E : α → Prop} {enc : α → List UInt8} (h1 : ∀ x, E x → 1 ≤ (enc x).length) : ∀ l : List α, (∀ x ∈ l, E x) → l.length ≤ (l.flatMap enc).length
  | [], _ => by simp
  | x :: l, h => by
    have h2 := h1 x (h x (List.mem_cons_self ..))
    have h3 := flat_len h1 l (fun z hz => h z (List.mem_cons_of_mem _ hz))
    simp only [List.flatMap_cons, List.length_append, List.length_cons]
    omega
theorem no_num {α : Type} {E : α → Prop} {enc : α → List UInt8} {r : List UInt8} (h : No I64 le8 r) : No (OkL E) (encL enc) r := by
  intro l r' hl e
  unfold encL at e
  rw [List.append_assoc] at e
  exact h _ _ (by have := hl.1; unfold I64; omega) e
theorem no_count {α : Type} {E : α → Prop} {enc : α → List UInt8} (h1 : ∀ x, E x → 1 ≤ (enc x).length) {r r1 : List UInt8} {v : Int} (hv : I64 v) (hr : r = le8 v ++ r1) (hb : v < 0 ∨ (r1.length : Int) < v) : No (OkL E) (encL enc) r := by
  intro l r' hl e
  unfold encL at e
  rw [hr, List.append_assoc] at e
  obtain ⟨e1, e2⟩ := le8_pi hv (by have := hl.1; unfold I64; omega) e
  have := flat_len h1 l hl.2
  have h3 := congrArg List.length e2
  rw [List.length_append] at h3
  omega
theorem flat_next {α : Type} {E : α → Prop} {enc : α → List UInt8} (h : PI E E enc) : ∀ (l m : List α), l.length < m.length → (∀ x ∈ l, E x) → (∀ y ∈ m, E y) → ∀ r r' : List UInt8, l.flatMap enc ++ r = m.flatMap enc ++ r' → ∃ x r'', E x ∧ r = enc x ++ r''
  | [], y :: m, _, _, hy, r, r', e => ⟨y, m.flatMap enc ++ r', hy _ (List.mem_cons_self ..), by simpa using e⟩
  | x :: l, y :: m, hl, hx, hy, r, r', e => by
    simp only [List.flatMap_cons, List.append_assoc] at e
    obtain ⟨h1, h2⟩ := h x y (hx _ (List.mem_cons_self ..)) (hy _ (List.mem_cons_self ..)) _ _ e
    exact flat_next h l m (by simpa using hl) (fun z hz => hx z (List.mem_cons_of_mem _ hz)) (fun z hz => hy z (List.mem_cons_of_mem _ hz)) r r' h2
  | _, [], hl, _, _, _, _, _ => by simp at hl
theorem no_list {α : Type} {E : α → Prop} {enc : α → List UInt8} (h : PI E E enc) {r r2 : List UInt8} {n : Nat} (l : List α) (hn : n ≤ 140737488355328) (hr : r = le8 n ++ (l.flatMap enc ++ r2)) (hl : l.length < n) (hx : ∀ x ∈ l, E x) (hno : No E enc r2) : No (OkL E) (encL enc) r := by
  intro m r' hm e
  unfold encL at e
  rw [hr, List.append_assoc] at e
  obtain ⟨e1, e2⟩ := nat_pi hn hm.1 e
  obtain ⟨x, r'', h1, h2⟩ := flat_next h l m (by omega) hx hm.2 _ _ e2
  exact hno x r'' h1 h2
theorem yes_list {α : Type} {enc : α → List UInt8} {r r2 : List UInt8} {n : Nat} (l : List α) (hr : r = le8 n ++ (l.flatMap enc ++ r2)) (hl : l.length = n) : r = encL enc l ++ r2 := by
  unfold encL; rw [List.append_assoc, hl]; exact hr

theorem okL_of {α : Type} {B : Nat} {W : World} {n : Nat} {E : α → List Value → Prop} {E' : α → Prop} {l : List α} {v : Value} (h : SlB B W n E l v) (k : ∀ x ∈ l, ∀ cs, E x cs → E' x) : OkL E' l :=
  ⟨h.all.1, fun x hx => let ⟨cs, hc⟩ := h.all.2 x hx; k x hx cs hc⟩

theorem pos_Im (x : Im) (h : OkIm x) : 1 ≤ (encIm x).length := by
  unfold encIm; rw [List.length_append, le8_length]; omega
theorem pos_Sy (x : Sy) (h : OkSy x) : 1 ≤ (encSy x).length := by
  unfold encSy; simp only [List.length_append, le8_length]; omega
theorem pos_Re (x : Re) (h : OkRe x) : 1 ≤ (encRe x).length := by
  unfold encRe; simp only [List.length_append, le8_length]; omega
theorem pos_Wd (x : Int) (h : I64 x) : 1 ≤ (le8 x).length := by rw [le8_length]; decide
theorem okOb_of {B : Nat} {W : World} {o : Ob} {cs : List Value} (h : ObAt B W o cs) : OkOb o := by
  obtain ⟨_, _, _, _, _, _, h1, h2, h3, h4, h5, h6, h7⟩ := h
  exact ⟨h1, h2, okL_of h3 fun x _ cs hc => hc.2, okL_of h4 fun x _ cs hc => hc.2, okL_of h5 fun x _ cs hc => hc.2, okL_of h6 fun x _ cs hc => hc.2, okL_of h7 fun x _ cs hc => hc.2⟩
theorem objB_pi {u v : Ob} (hu : OkOb u) (hv : OkOb v) {r r' : List UInt8} (e : objB u ++ r = objB v ++ r') : u = v ∧ r = r' := by
  unfold objB mkO at e
  simp only [List.append_assoc] at e
  have e := List.append_cancel_left e
  obtain ⟨e1, e2⟩ := pi_OkOb u v hu hv _ _ e
  subst e1
  exact ⟨rfl, List.append_cancel_left e2⟩
end Go.Proofs.Ytfdjlicegfgodaa
