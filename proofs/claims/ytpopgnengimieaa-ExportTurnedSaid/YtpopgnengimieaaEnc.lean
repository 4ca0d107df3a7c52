/- The program's writer over a unit's parts. -/
import Derived.Test.YtpopgnengimieaaWriter
import Derived.Test.YtpopgnengimieaaData
namespace Go.Proofs.Ytpopgnengimieaa
open Go.RowKit

def encS (s : ByteArray) : List UInt8 := le8 s.size ++ s.data.toList
def encL {α : Type} (f : α → List UInt8) (l : List α) : List UInt8 := le8 l.length ++ l.flatMap f

/-- the writer at p, all that came in lies below B -/
structure WrIn (B : Nat) (W w : World) (p : Nat) (ob : Option Nat) (st : Option (List UInt8)) : Prop where
  at_ : WrAt w p ob st
  bel : Below B W w
  hp : B ≤ p
  ho : ∀ k, ob = some k → B ≤ k
/-- a block of the call's own beside the writer -/
structure Loc (w : World) (p : Nat) (ob : Option Nat) (bx : Nat) (cs : List Value) (t : TypeId) : Prop where
  blk : Blk w bx cs t
  np : bx ≠ p
  no : some bx ≠ ob
def WOut (B : Nat) (W w : World) (p : Nat) (ob : Option Nat) (st' : Option (List UInt8)) (e : Ending) (w' : World) : Prop :=
  e = .returned (.tuple #[]) ∧ ∃ ob', WrIn B W w' p ob' st' ∧ Kp (fun b => b = p ∨ some b = ob) w w' ∧ ∀ k, ob' = some k → ob = some k ∨ w.heap.size ≤ k
theorem WOut.mk {B : Nat} {W w : World} {p : Nat} {ob : Option Nat} {st st' : Option (List UInt8)} {e : Ending} {w' : World} (h : WrIn B W w p ob st) (x : WPost w p ob st' e w') : WOut B W w p ob st' e w' := by
  obtain ⟨he, ob', h1, k, h2⟩ := x
  have hs := h.bel.size
  have hb := h.at_.p_lt
  refine ⟨he, ob', ⟨h1, h.bel.trans (k.below ?_ ?_), h.hp, ?_⟩, k, h2⟩
  · exact Nat.le_of_lt (Nat.lt_of_le_of_lt h.hp hb)
  · rintro x hx (e | e)
    · have := h.hp; omega
    · have := h.ho x e.symm; omega
  · intro x hx
    rcases h2 x hx with h3 | h3
    · exact h.ho x h3
    · exact Nat.le_trans (Nat.le_of_lt (Nat.lt_of_le_of_lt h.hp hb)) h3
theorem WrIn.alloc {B : Nat} {W w : World} {p : Nat} {ob : Option Nat} {st : Option (List UInt8)} (h : WrIn B W w p ob st) (o : Obj) : WrIn B W (w.alloc o) p ob st :=
  ⟨h.at_.alloc o, h.bel.alloc (Nat.le_of_lt (Nat.lt_of_le_of_lt h.hp h.at_.p_lt)) o, h.hp, h.ho⟩
theorem Loc.new {B : Nat} {W w : World} {p : Nat} {ob : Option Nat} {st : Option (List UInt8)} (h : WrIn B W w p ob st) (cs : List Value) (t : TypeId) : Loc (w.alloc (.cells cs.toArray t)) p ob w.heap.size cs t :=
  ⟨Blk.new w cs t, fun e => by have := h.at_.p_lt; omega, fun e => by have := h.at_.ob_lt _ e.symm; omega⟩
theorem Loc.next {w w' : World} {p : Nat} {ob ob' : Option Nat} {bx : Nat} {cs : List Value} {t : TypeId} (h : Loc w p ob bx cs t) (k : Kp (fun b => b = p ∨ some b = ob) w w')
    (ho : ∀ k, ob' = some k → ob = some k ∨ w.heap.size ≤ k) : Loc w' p ob' bx cs t :=
  ⟨h.blk.kp k (by rintro (e | e); exact h.np e; exact h.no e), h.np, fun e => by
    rcases ho bx e.symm with h1 | h1
    · exact h.no h1.symm
    · have := h.blk.lt; omega⟩
theorem WOut.trans {B : Nat} {W w w1 w2 : World} {p : Nat} {ob ob1 : Option Nat} {st2 : Option (List UInt8)} {e : Ending}
    (k1 : Kp (fun b => b = p ∨ some b = ob) w w1) (o1 : ∀ k, ob1 = some k → ob = some k ∨ w.heap.size ≤ k) (h : WOut B W w1 p ob1 st2 e w2) : WOut B W w p ob st2 e w2 := by
  obtain ⟨he, ob2, h2, k2, o2⟩ := h
  refine ⟨he, ob2, h2, k1.trans k2 ?_, ?_⟩
  · rintro x hx (hs | hs)
    · exact .inl hs
    · rcases o1 x hs.symm with h3 | h3
      · exact .inr h3.symm
      · omega
  · intro k hk
    rcases o2 k hk with h3 | h3
    · exact o1 k h3
    · have := k1.size; exact .inr (by omega)
theorem WOut.ofAlloc {B : Nat} {W w w2 : World} {p : Nat} {ob : Option Nat} {st2 : Option (List UInt8)} {e : Ending} {o : Obj} (h : WOut B W (w.alloc o) p ob st2 e w2) : WOut B W w p ob st2 e w2 :=
  WOut.trans ((Kp.refl _ w).alloc o) (fun _ hk => .inl hk) h
theorem wbytes_in {B : Nat} {W w : World} {p : Nat} {ob : Option Nat} {st : Option (List UInt8)} (h : WrIn B W w p ob st) (s : ByteArray) (hs : Fits s) :
    Calls Try.prog 22 #[.pointer (some ⟨p, 0, none⟩), .string s] w (WOut B W w p ob (wput st s.data.toList)) :=
  (wbytes_any w p ob s st h.at_ hs).mono fun _ _ x => WOut.mk h x
theorem wnum_in {B : Nat} {W w : World} {p : Nat} {ob : Option Nat} {st : Option (List UInt8)} (h : WrIn B W w p ob st) (n : Int) :
    Calls Try.prog 30 #[.pointer (some ⟨p, 0, none⟩), .int .i64 n] w (WOut B W w p ob (wput st (le8 n))) :=
  (wnum_any w p ob n st h.at_).mono fun _ _ x => WOut.mk h x
set_option maxHeartbeats 400000 in
theorem wtext_in {B : Nat} {W w : World} {p : Nat} {ob : Option Nat} {st : Option (List UInt8)} (h : WrIn B W w p ob st) (s : ByteArray) (hs : Fits s) :
    Calls Try.prog 23 #[.pointer (some ⟨p, 0, none⟩), .string s] w (WOut B W w p ob (wput st (encS s))) := by
  have G := Lib.hid h
  have Hs := Lib.hid hs
  clear h hs
  go_enter Try.func23, Try.ntmps23
  go_wp2_with fail
  refine (wnum_in G.out _).mono ?_
  rintro e1 w1 ⟨rfl, ob1, g1, k1, o1⟩
  have G1 := Lib.hid g1
  have K1 := Lib.hid k1
  have O1 := Lib.hid o1
  clear g1 k1 o1
  go_wp2_with fail
  refine (wbytes_in G1.out s Hs.out).mono ?_
  intro e2 w2 h2
  have X := Lib.hid (WOut.trans K1.out O1.out h2)
  obtain ⟨rfl, _⟩ := h2
  go_wp2_with fail
  go_returns
  rw [show wput st (encS s) = wput (wput st (le8 s.size)) s.data.toList from (wput_wput _ _ _).symm]
  exact X.out
theorem wtruth_in {B : Nat} {W w : World} {p : Nat} {ob : Option Nat} {st : Option (List UInt8)} (h : WrIn B W w p ob st) (b : Bool) :
    Calls Try.prog 60 #[.pointer (some ⟨p, 0, none⟩), .bool b] w (WOut B W w p ob (wput st (le8 (if b = true then 1 else 0)))) := by
  have G := Lib.hid h
  clear h
  cases b
  all_goals
    (go_enter Try.func60, Try.ntmps60
     go_wp2_with fail
     refine (wnum_in G.out _).mono ?_
     intro e2 w2 h2
     have X := Lib.hid h2
     obtain ⟨rfl, _⟩ := h2
     go_wp2_with fail
     go_returns
     exact X.out)

theorem SlB.slice {α : Type} {B : Nat} {W : World} {n : Nat} {E : α → List Value → Prop} {l : List α} {v : Value} (h : SlB B W n E l v) : ∃ x m c, v = .slice x m c := by
  obtain ⟨x, c, hv, _⟩ := h; exact ⟨x, l.length, c, hv⟩
theorem shape_Ty {B : Nat} {W : World} {d : Nat} {x : Ty} {cs : List Value} (h : TyAt B W d x cs) : ∃ (q0 : Int) (q1 : ByteArray) (q2 : ByteArray) (q3 : Option Addr) (q3l : Nat) (q3c : Nat) (q4 : Option Addr) (q4l : Nat) (q4c : Nat), cs = [.int .i64 q0, .string q1, .string q2, .slice q3 q3l q3c, .slice q4 q4l q4c] := by
  cases d with
  | zero => exact h.elim
  | succ d =>
    obtain ⟨k, p, n, la, lr⟩ := x
    obtain ⟨va, vr, rfl, _, _, _, h1, h2⟩ := h
    obtain ⟨x1, m1, c1, rfl⟩ := h1.slice
    obtain ⟨x2, m2, c2, rfl⟩ := h2.slice
    exact ⟨k, p, n, x1, m1, c1, x2, m2, c2, rfl⟩
theorem shape_Ex {B : Nat} {W : World} {d : Nat} {x : Ex} {cs : List Value} (h : ExAt B W d x cs) : ∃ (q0 : Int) (q1 : Int) (q2 : ByteArray) (q3 : Option Addr) (q3l : Nat) (q3c : Nat), cs = [.int .i64 q0, .int .i64 q1, .string q2, .slice q3 q3l q3c] := by
  cases d with
  | zero => exact h.elim
  | succ d =>
    obtain ⟨k, n, s, ks⟩ := x
    obtain ⟨va, rfl, _, _, _, h1⟩ := h
    obtain ⟨x1, m1, c1, rfl⟩ := h1.slice
    exact ⟨k, n, s, x1, m1, c1, rfl⟩
theorem shape_St {B : Nat} {W : World} {d : Nat} {x : St} {cs : List Value} (h : StAt B W d x cs) : ∃ (q0 : Int) (q1 : Int) (q2 : Option Addr) (q2l : Nat) (q2c : Nat) (q3 : Option Addr) (q3l : Nat) (q3c : Nat) (q4 : Option Addr) (q4l : Nat) (q4c : Nat), cs = [.int .i64 q0, .int .i64 q1, .slice q2 q2l q2c, .slice q3 q3l q3c, .slice q4 q4l q4c] := by
  cases d with
  | zero => exact h.elim
  | succ d =>
    obtain ⟨k, n, es, bs, ls⟩ := x
    obtain ⟨ve, vb, vl, rfl, _, _, h1, h2, h3⟩ := h
    obtain ⟨x1, m1, c1, rfl⟩ := h1.slice
    obtain ⟨x2, m2, c2, rfl⟩ := h2.slice
    obtain ⟨x3, m3, c3, rfl⟩ := h3.slice
    exact ⟨k, n, x1, m1, c1, x2, m2, c2, x3, m3, c3, rfl⟩
theorem shape_Im {x : Im} {cs : List Value} (h : ImAt x cs) : ∃ (q0 : ByteArray) (q1 : Int), cs = [.string q0, .int .i64 q1] := by
  obtain ⟨rfl, _⟩ := h
  exact ⟨_, _, rfl⟩
theorem shape_Fn {B : Nat} {W : World} {d : Nat} {x : Fn1} {cs : List Value} (h : FnAt B W d x cs) : ∃ (q0 : ByteArray) (q1 : Bool) (q2 : Int) (q3 : Int) (q4 : Option Addr) (q4l : Nat) (q4c : Nat), cs = [.string q0, .bool q1, .int .i64 q2, .int .i64 q3, .slice q4 q4l q4c] := by
  obtain ⟨vb, rfl, _, _, _, h1⟩ := h
  obtain ⟨x1, m1, c1, rfl⟩ := h1.slice
  exact ⟨_, _, _, _, x1, m1, c1, rfl⟩
theorem shape_Fd {B : Nat} {W : World} {d : Nat} {x : Fd} {cs : List Value} (h : FdAt B W d x cs) : ∃ (q0 : ByteArray) (q1 : Int) (q2 : ByteArray) (q3 : ByteArray) (q4 : Option Addr) (q4l : Nat) (q4c : Nat) (q5 : Option Addr) (q5l : Nat) (q5c : Nat), cs = [.string q0, .int .i64 q1, .string q2, .string q3, .slice q4 q4l q4c, .slice q5 q5l q5c] := by
  obtain ⟨ct, rfl, _, _, h1⟩ := h
  obtain ⟨k, p, n, x1, m1, c1, x2, m2, c2, rfl⟩ := shape_Ty h1
  exact ⟨_, k, p, n, x1, m1, c1, x2, m2, c2, rfl⟩
theorem shape_De {B : Nat} {W : World} {d : Nat} {x : De} {cs : List Value} (h : DeAt B W d x cs) : ∃ (q0 : Int) (q1 : ByteArray) (q2 : ByteArray) (q3 : Int) (q4 : Int) (q5 : ByteArray) (q6 : ByteArray) (q7 : Option Addr) (q7l : Nat) (q7c : Nat) (q8 : Option Addr) (q8l : Nat) (q8c : Nat) (q9 : Option Addr) (q9l : Nat) (q9c : Nat), cs = [.int .i64 q0, .string q1, .string q2, .int .i64 q3, .int .i64 q4, .string q5, .string q6, .slice q7 q7l q7c, .slice q8 q8l q8c, .slice q9 q9l q9c] := by
  obtain ⟨ct, vf, rfl, _, _, _, _, _, h1, h2⟩ := h
  obtain ⟨k, p, n, x1, m1, c1, x2, m2, c2, rfl⟩ := shape_Ty h1
  obtain ⟨x3, m3, c3, rfl⟩ := h2.slice
  exact ⟨_, _, _, _, k, p, n, x1, m1, c1, x2, m2, c2, x3, m3, c3, rfl⟩

mutual
def encTy : Ty → List UInt8
  | .mk k p n la lr => le8 k ++ encS p ++ encS n ++ (le8 la.length ++ encTys la) ++ (le8 lr.length ++ encTys lr)
def encTys : List Ty → List UInt8
  | [] => []
  | t :: r => encTy t ++ encTys r
end
mutual
def encEx : Ex → List UInt8
  | .mk op n s ks => le8 op ++ le8 n ++ encS s ++ (le8 ks.length ++ encExs ks)
def encExs : List Ex → List UInt8
  | [] => []
  | t :: r => encEx t ++ encExs r
end
mutual
def encSt : St → List UInt8
  | .mk op n es bs ls => le8 op ++ le8 n ++ encL encEx es ++ (le8 bs.length ++ encSts bs) ++ (le8 ls.length ++ encSts ls)
def encSts : List St → List UInt8
  | [] => []
  | t :: r => encSt t ++ encSts r
end
theorem encTys_eq : ∀ l : List Ty, encTys l = l.flatMap encTy
  | [] => by simp [encTys]
  | t :: r => by rw [encTys, encTys_eq r]; simp
theorem encExs_eq : ∀ l : List Ex, encExs l = l.flatMap encEx
  | [] => by simp [encExs]
  | t :: r => by rw [encExs, encExs_eq r]; simp
theorem encSts_eq : ∀ l : List St, encSts l = l.flatMap encSt
  | [] => by simp [encSts]
  | t :: r => by rw [encSts, encSts_eq r]; simp
theorem encTy_mk (k : Int) (p n : ByteArray) (la lr : List Ty) : encTy (.mk k p n la lr) = le8 k ++ encS p ++ encS n ++ encL encTy la ++ encL encTy lr := by
  simp only [encTy, encTys_eq, encL]
theorem encEx_mk (op n : Int) (s : ByteArray) (ks : List Ex) : encEx (.mk op n s ks) = le8 op ++ le8 n ++ encS s ++ encL encEx ks := by
  simp only [encEx, encExs_eq, encL]
theorem encSt_mk (op n : Int) (es : List Ex) (bs ls : List St) : encSt (.mk op n es bs ls) = le8 op ++ le8 n ++ encL encEx es ++ encL encSt bs ++ encL encSt ls := by
  simp only [encSt, encSts_eq, encL]
def encFd (f : Fd) : List UInt8 := encS f.name ++ encTy f.type
def encIm (i : Im) : List UInt8 := encS i.name ++ le8 i.hash
def encDe (x : De) : List UInt8 := le8 x.kind ++ encS x.name ++ encS x.of_ ++ le8 x.value ++ encTy x.type ++ encL encFd x.fields
def encFn (f : Fn1) : List UInt8 := encS f.name ++ le8 (if f.weak = true then 1 else 0) ++ le8 f.params ++ le8 f.locals ++ encL encSt f.body
def encUn (u : Un) : List UInt8 := [77, 85, 49, 10] ++ encS u.pkg ++ encL encIm u.imports ++ encL encDe u.decls ++ encL encFn u.bodies
theorem chain {w w1 w2 : World} {p : Nat} {ob ob1 ob2 : Option Nat} (k1 : Kp (fun b => b = p ∨ some b = ob) w w1) (o1 : ∀ k, ob1 = some k → ob = some k ∨ w.heap.size ≤ k)
    (k2 : Kp (fun b => b = p ∨ some b = ob1) w1 w2) (o2 : ∀ k, ob2 = some k → ob1 = some k ∨ w1.heap.size ≤ k) :
    Kp (fun b => b = p ∨ some b = ob) w w2 ∧ ∀ k, ob2 = some k → ob = some k ∨ w.heap.size ≤ k := by
  refine ⟨k1.trans k2 ?_, ?_⟩
  · rintro x hx (hs | hs)
    · exact .inl hs
    · rcases o1 x hs.symm with h3 | h3
      · exact .inr h3.symm
      · omega
  · intro k hk
    rcases o2 k hk with h3 | h3
    · exact o1 k h3
    · have := k1.size; exact .inr (by omega)
theorem WrAt.len {w : World} {p : Nat} {ob : Option Nat} {st : Option (List UInt8)} (h : WrAt w p ob st) : ∀ x, st = some x → x.length ≤ 262144 := by
  obtain ⟨a, c, bs, _, _, _, _, hl, hx⟩ := h
  intro x e; rw [← hx x e]; exact hl
theorem wput_nil {st : Option (List UInt8)} (h : ∀ x, st = some x → x.length ≤ 262144) : wput st [] = st := by
  cases st with
  | none => rfl
  | some x => simp [wput, h x rfl]
theorem take_flat {α : Type} (f : α → List UInt8) (l : List α) (k : Nat) (h : k < l.length) : (l.take (k + 1)).flatMap f = (l.take k).flatMap f ++ f l[k] := by
  rw [List.take_succ_eq_append_getElem h, List.flatMap_append, List.flatMap_cons, List.flatMap_nil, List.append_nil]

set_option maxRecDepth 100000 in
set_option maxHeartbeats 400000 in
theorem puts_ty {B : Nat} {W : World} {d : Nat} {enc : Ty → List UInt8}
    (one : ∀ (t : Ty) (cs : List Value) (w : World) (p : Nat) (ob : Option Nat) (st : Option (List UInt8)), TyAt B W d t cs → WrIn B W w p ob st →
      Calls Try.prog 57 #[.pointer (some ⟨p, 0, none⟩), .agg cs.toArray] w (WOut B W w p ob (wput st (enc t))))
    (l : List Ty) (v : Value) (w : World) (p : Nat) (ob : Option Nat) (st : Option (List UInt8)) (hl : SlB B W 5 (TyAt B W d) l v) (h : WrIn B W w p ob st) :
    Calls Try.prog 87 #[.pointer (some ⟨p, 0, none⟩), v, .func (.func 57) #[] #[]] w (WOut B W w p ob (wput st (encL enc l))) := by
  obtain ⟨x, cap, rfl, hlen, hel⟩ := hl
  have G := Lib.hid h
  have HE := Lib.hid hel
  have ONE := Lib.hid one
  clear h hel one
  obtain ⟨n, hn⟩ : ∃ n, n = l.length := ⟨_, rfl⟩
  rw [← hn] at hlen ⊢
  have HN := Lib.hid hn
  clear hn
  go_enter Try.func87, Try.ntmps87
  go_wp2_with fail
  refine (wnum_in G.out _).mono ?_
  rintro e1 w1 ⟨rfl, ob1, g1, k1, o1⟩
  have G1 := Lib.hid (show WrIn B W w1 p ob1 (wput (wput st (le8 n)) ((l.take 0).flatMap enc)) by
    rw [List.take_zero, List.flatMap_nil, wput_nil g1.at_.len]; exact g1)
  have K1 := Lib.hid k1
  have O1 := Lib.hid o1
  clear g1 k1 o1
  go_wp2_with fail
  go_loopw [14] (fun i wr1 => ∃ k : Nat, k ≤ n ∧ i = .int .i64 k ∧ ∃ obk, WrIn B W wr1 p obk (wput (wput st (le8 n)) ((l.take k).flatMap enc)) ∧ Kp (fun b => b = p ∨ some b = ob) w wr1 ∧ ∀ k, obk = some k → ob = some k ∨ w.heap.size ≤ k) (fun i _ => n - (intOf i).toNat)
  case atStart => exact ⟨0, Nat.zero_le _, rfl, ob1, G1.out, K1.out, O1.out⟩
  case round =>
    obtain ⟨k, hk, rfl, obk, g, kk, ok⟩ := hrel
    have Gk := Lib.hid g
    have Kk := Lib.hid kk
    have Ok := Lib.hid ok
    clear g kk ok
    by_cases hlt : k < n
    · have hkl : k < l.length := by rw [← HN.out]; exact hlt
      obtain ⟨b, o, rfl, hb, he⟩ := HE.out (by intro e; rw [e] at hkl; simp at hkl)
      obtain ⟨cs, hcl, hcc, hce⟩ := he k hkl
      obtain ⟨q0, q1, q2, q3, q3l, q3c, q4, q4l, q4c, rfl⟩ := shape_Ty hce
      have f0 := (Gk.out.bel.cell (p := ⟨b, o + k * 5 + 0, none⟩) hb).trans (hcc 0 (by simp))
      have f1 := (Gk.out.bel.cell (p := ⟨b, o + k * 5 + 1, none⟩) hb).trans (hcc 1 (by simp))
      have f2 := (Gk.out.bel.cell (p := ⟨b, o + k * 5 + 2, none⟩) hb).trans (hcc 2 (by simp))
      have f3 := (Gk.out.bel.cell (p := ⟨b, o + k * 5 + 3, none⟩) hb).trans (hcc 3 (by simp))
      have f4 := (Gk.out.bel.cell (p := ⟨b, o + k * 5 + 4, none⟩) hb).trans (hcc 4 (by simp))
      simp only [List.getElem?_cons_zero, List.getElem?_cons_succ, Nat.add_zero] at f0 f1 f2 f3 f4
      have HF := Lib.hid (take_flat enc l k hkl)
      have HCE := Lib.hid hce
      clear he hcc hce
      go_wp2_with fail
      refine (ONE.out _ _ _ _ _ _ HCE.out (Gk.out.alloc _)).mono ?_
      rintro e2 w2 ⟨rfl, ob2, g2, k2, o2⟩
      have C := chain ((Kk.out).alloc _) Ok.out k2 (by intro k hk; rcases o2 k hk with h | h; exact .inl h; exact .inr h)
      have G2 := Lib.hid (show WrIn B W w2 p ob2 (wput (wput st (le8 n)) ((l.take (k + 1)).flatMap enc)) by rw [HF.out, ← wput_wput]; exact g2)
      have C2 := Lib.hid C
      clear g2 k2 o2 C
      go_wp2_with fail
      go_roundw
      case rel => exact ⟨k + 1, by omega, by go_num, ob2, G2.out, C2.out.1, C2.out.2⟩
      case measure => simp [intOf]; omega
    · have hkn : k = l.length := by rw [← HN.out]; omega
      have HX := Lib.hid (show WOut B W w p ob (wput st (encL enc l)) (.returned (.tuple #[])) _ by
        refine ⟨rfl, obk, ?_, Kk.out, Ok.out⟩
        have g := Gk.out
        rw [wput_wput, List.take_of_length_le (by omega), HN.out] at g
        exact g)
      go_wp2_with fail
      go_returns
      exact HX.out

set_option maxRecDepth 100000 in
set_option maxHeartbeats 400000 in
theorem wtyp_succ {B : Nat} {W : World} (d : Nat) (ih : ∀ (x : Ty) (cs : List Value) (w : World) (p : Nat) (ob : Option Nat) (st : Option (List UInt8)), TyAt B W d x cs → WrIn B W w p ob st → Calls Try.prog 57 #[.pointer (some ⟨p, 0, none⟩), .agg cs.toArray] w (WOut B W w p ob (wput st (encTy x))))
    (x : Ty) (cs : List Value) (w : World) (p : Nat) (ob : Option Nat) (st : Option (List UInt8)) (hx : TyAt B W (d + 1) x cs) (h : WrIn B W w p ob st) :
    Calls Try.prog 57 #[.pointer (some ⟨p, 0, none⟩), .agg cs.toArray] w (WOut B W w p ob (wput st (encTy x))) := by
  obtain ⟨kd, pk, nm, la, lr⟩ := x
  have IH := Lib.hid ih
  clear ih
  obtain ⟨va, vr, rfl, _, hp, hn, ha, hr⟩ := hx
  obtain ⟨x1, m1, c1, rfl⟩ := ha.slice
  obtain ⟨x2, m2, c2, rfl⟩ := hr.slice
  have Hp := Lib.hid hp
  have Hn := Lib.hid hn
  have Ha := Lib.hid ha
  have Hr := Lib.hid hr
  have G := Lib.hid h
  clear hp hn ha hr h
  have C0 := Lib.hid (show Kp (fun b => b = p ∨ some b = ob) w (w.alloc (.cells #[.int .i64 kd, .string pk, .string nm, .slice x1 m1 c1, .slice x2 m2 c2] 41)) ∧ ∀ k, ob = some k → ob = some k ∨ w.heap.size ≤ k from ⟨(Kp.refl _ w).alloc _, fun _ h => .inl h⟩)
  have L0 := Lib.hid (Loc.new G.out [.int .i64 kd, .string pk, .string nm, .slice x1 m1 c1, .slice x2 m2 c2] 41)
  have G0 := Lib.hid (G.out.alloc (.cells #[.int .i64 kd, .string pk, .string nm, .slice x1 m1 c1, .slice x2 m2 c2] 41))
  clear G
  go_enter Try.func57, Try.ntmps57
  go_wp2_with fail
  refine (wnum_in G0.out _).mono ?_
  rintro e1 w1 ⟨rfl, ob1, g1, k1, o1⟩
  have C1 := Lib.hid (chain C0.out.1 C0.out.2 k1 o1)
  have L1 := Lib.hid (L0.out.next k1 o1)
  have c1 := L1.out.blk.cell
  have G1 := Lib.hid g1
  clear g1 k1 o1
  go_wp2_with fail
  refine (wtext_in G1.out _ Hp.out).mono ?_
  rintro e2 w2 ⟨rfl, ob2, g2, k2, o2⟩
  have C2 := Lib.hid (chain C1.out.1 C1.out.2 k2 o2)
  have L2 := Lib.hid (L1.out.next k2 o2)
  have c2 := L2.out.blk.cell
  have G2 := Lib.hid g2
  clear g2 k2 o2 c1
  go_wp2_with fail
  refine (wtext_in G2.out _ Hn.out).mono ?_
  rintro e3 w3 ⟨rfl, ob3, g3, k3, o3⟩
  have C3 := Lib.hid (chain C2.out.1 C2.out.2 k3 o3)
  have L3 := Lib.hid (L2.out.next k3 o3)
  have c3 := L3.out.blk.cell
  have G3 := Lib.hid g3
  clear g3 k3 o3 c2
  go_wp2_with fail
  refine (puts_ty IH.out _ _ _ _ _ _ Ha.out G3.out).mono ?_
  rintro e4 w4 ⟨rfl, ob4, g4, k4, o4⟩
  have C4 := Lib.hid (chain C3.out.1 C3.out.2 k4 o4)
  have L4 := Lib.hid (L3.out.next k4 o4)
  have c4 := L4.out.blk.cell
  have G4 := Lib.hid g4
  clear g4 k4 o4 c3
  go_wp2_with fail
  refine (puts_ty IH.out _ _ _ _ _ _ Hr.out G4.out).mono ?_
  intro e5 w5 h5
  have X := Lib.hid (WOut.trans C4.out.1 C4.out.2 h5)
  obtain ⟨rfl, _⟩ := h5
  go_wp2_with fail
  go_returns
  simp only [encTy_mk, ← wput_wput]
  exact X.out
theorem wtyp {B : Nat} {W : World} (d : Nat) : ∀ (x : Ty) (cs : List Value) (w : World) (p : Nat) (ob : Option Nat) (st : Option (List UInt8)), TyAt B W d x cs → WrIn B W w p ob st →
    Calls Try.prog 57 #[.pointer (some ⟨p, 0, none⟩), .agg cs.toArray] w (WOut B W w p ob (wput st (encTy x))) := by
  induction d with
  | zero => intro _ _ _ _ _ _ h; exact h.elim
  | succ d ih => exact wtyp_succ d ih
set_option maxRecDepth 100000 in
set_option maxHeartbeats 400000 in
theorem wfield {B : Nat} {W : World} (d : Nat) (x : Fd) (cs : List Value) (w : World) (p : Nat) (ob : Option Nat) (st : Option (List UInt8)) (hx : FdAt B W d x cs) (h : WrIn B W w p ob st) :
    Calls Try.prog 59 #[.pointer (some ⟨p, 0, none⟩), .agg cs.toArray] w (WOut B W w p ob (wput st (encFd x))) := by
  obtain ⟨ct, rfl, _, hn, ht⟩ := hx
  obtain ⟨k, pk, nm, x1, m1, c1, x2, m2, c2, rfl⟩ := shape_Ty ht
  have Hn := Lib.hid hn
  have Ht := Lib.hid ht
  have G := Lib.hid h
  clear hn ht h
  have C0 := Lib.hid (show Kp (fun b => b = p ∨ some b = ob) w (w.alloc (.cells #[.string x.name, .int .i64 k, .string pk, .string nm, .slice x1 m1 c1, .slice x2 m2 c2] 93)) ∧ ∀ k, ob = some k → ob = some k ∨ w.heap.size ≤ k from ⟨(Kp.refl _ w).alloc _, fun _ h => .inl h⟩)
  have L0 := Lib.hid (Loc.new G.out [.string x.name, .int .i64 k, .string pk, .string nm, .slice x1 m1 c1, .slice x2 m2 c2] 93)
  have G0 := Lib.hid (G.out.alloc (.cells #[.string x.name, .int .i64 k, .string pk, .string nm, .slice x1 m1 c1, .slice x2 m2 c2] 93))
  clear G
  go_enter Try.func59, Try.ntmps59
  go_wp2_with fail
  refine (wtext_in G0.out _ Hn.out).mono ?_
  rintro e1 w1 ⟨rfl, ob1, g1, k1, o1⟩
  have C1 := Lib.hid (chain C0.out.1 C0.out.2 k1 o1)
  have L1 := Lib.hid (L0.out.next k1 o1)
  have c1 := L1.out.blk.cell
  have G1 := Lib.hid g1
  clear g1 k1 o1
  go_wp2_with fail
  refine (wtyp d _ _ _ _ _ _ Ht.out G1.out).mono ?_
  intro e2 w2 h2
  have X := Lib.hid (WOut.trans C1.out.1 C1.out.2 h2)
  obtain ⟨rfl, _⟩ := h2
  go_wp2_with fail
  go_returns
  simp only [encFd, ← wput_wput]
  exact X.out
set_option maxRecDepth 100000 in
set_option maxHeartbeats 400000 in
theorem puts_fd {B : Nat} {W : World} {d : Nat} {enc : Fd → List UInt8}
    (one : ∀ (t : Fd) (cs : List Value) (w : World) (p : Nat) (ob : Option Nat) (st : Option (List UInt8)), FdAt B W d t cs → WrIn B W w p ob st →
      Calls Try.prog 59 #[.pointer (some ⟨p, 0, none⟩), .agg cs.toArray] w (WOut B W w p ob (wput st (enc t))))
    (l : List Fd) (v : Value) (w : World) (p : Nat) (ob : Option Nat) (st : Option (List UInt8)) (hl : SlB B W 6 (FdAt B W d) l v) (h : WrIn B W w p ob st) :
    Calls Try.prog 58 #[.pointer (some ⟨p, 0, none⟩), v, .func (.func 59) #[] #[]] w (WOut B W w p ob (wput st (encL enc l))) := by
  obtain ⟨x, cap, rfl, hlen, hel⟩ := hl
  have G := Lib.hid h
  have HE := Lib.hid hel
  have ONE := Lib.hid one
  clear h hel one
  obtain ⟨n, hn⟩ : ∃ n, n = l.length := ⟨_, rfl⟩
  rw [← hn] at hlen ⊢
  have HN := Lib.hid hn
  clear hn
  go_enter Try.func58, Try.ntmps58
  go_wp2_with fail
  refine (wnum_in G.out _).mono ?_
  rintro e1 w1 ⟨rfl, ob1, g1, k1, o1⟩
  have G1 := Lib.hid (show WrIn B W w1 p ob1 (wput (wput st (le8 n)) ((l.take 0).flatMap enc)) by
    rw [List.take_zero, List.flatMap_nil, wput_nil g1.at_.len]; exact g1)
  have K1 := Lib.hid k1
  have O1 := Lib.hid o1
  clear g1 k1 o1
  go_wp2_with fail
  go_loopw [14] (fun i wr1 => ∃ k : Nat, k ≤ n ∧ i = .int .i64 k ∧ ∃ obk, WrIn B W wr1 p obk (wput (wput st (le8 n)) ((l.take k).flatMap enc)) ∧ Kp (fun b => b = p ∨ some b = ob) w wr1 ∧ ∀ k, obk = some k → ob = some k ∨ w.heap.size ≤ k) (fun i _ => n - (intOf i).toNat)
  case atStart => exact ⟨0, Nat.zero_le _, rfl, ob1, G1.out, K1.out, O1.out⟩
  case round =>
    obtain ⟨k, hk, rfl, obk, g, kk, ok⟩ := hrel
    have Gk := Lib.hid g
    have Kk := Lib.hid kk
    have Ok := Lib.hid ok
    clear g kk ok
    by_cases hlt : k < n
    · have hkl : k < l.length := by rw [← HN.out]; exact hlt
      obtain ⟨b, o, rfl, hb, he⟩ := HE.out (by intro e; rw [e] at hkl; simp at hkl)
      obtain ⟨cs, hcl, hcc, hce⟩ := he k hkl
      obtain ⟨q0, q1, q2, q3, q4, q4l, q4c, q5, q5l, q5c, rfl⟩ := shape_Fd hce
      have f0 := (Gk.out.bel.cell (p := ⟨b, o + k * 6 + 0, none⟩) hb).trans (hcc 0 (by simp))
      have f1 := (Gk.out.bel.cell (p := ⟨b, o + k * 6 + 1, none⟩) hb).trans (hcc 1 (by simp))
      have f2 := (Gk.out.bel.cell (p := ⟨b, o + k * 6 + 2, none⟩) hb).trans (hcc 2 (by simp))
      have f3 := (Gk.out.bel.cell (p := ⟨b, o + k * 6 + 3, none⟩) hb).trans (hcc 3 (by simp))
      have f4 := (Gk.out.bel.cell (p := ⟨b, o + k * 6 + 4, none⟩) hb).trans (hcc 4 (by simp))
      have f5 := (Gk.out.bel.cell (p := ⟨b, o + k * 6 + 5, none⟩) hb).trans (hcc 5 (by simp))
      simp only [List.getElem?_cons_zero, List.getElem?_cons_succ, Nat.add_zero] at f0 f1 f2 f3 f4 f5
      have HF := Lib.hid (take_flat enc l k hkl)
      have HCE := Lib.hid hce
      clear he hcc hce
      go_wp2_with fail
      refine (ONE.out _ _ _ _ _ _ HCE.out (Gk.out.alloc _)).mono ?_
      rintro e2 w2 ⟨rfl, ob2, g2, k2, o2⟩
      have C := chain ((Kk.out).alloc _) Ok.out k2 (by intro k hk; rcases o2 k hk with h | h; exact .inl h; exact .inr h)
      have G2 := Lib.hid (show WrIn B W w2 p ob2 (wput (wput st (le8 n)) ((l.take (k + 1)).flatMap enc)) by rw [HF.out, ← wput_wput]; exact g2)
      have C2 := Lib.hid C
      clear g2 k2 o2 C
      go_wp2_with fail
      go_roundw
      case rel => exact ⟨k + 1, by omega, by go_num, ob2, G2.out, C2.out.1, C2.out.2⟩
      case measure => simp [intOf]; omega
    · have hkn : k = l.length := by rw [← HN.out]; omega
      have HX := Lib.hid (show WOut B W w p ob (wput st (encL enc l)) (.returned (.tuple #[])) _ by
        refine ⟨rfl, obk, ?_, Kk.out, Ok.out⟩
        have g := Gk.out
        rw [wput_wput, List.take_of_length_le (by omega), HN.out] at g
        exact g)
      go_wp2_with fail
      go_returns
      exact HX.out

set_option maxRecDepth 100000 in
set_option maxHeartbeats 400000 in
theorem wimported {B : Nat} {W : World} (x : Im) (cs : List Value) (w : World) (p : Nat) (ob : Option Nat) (st : Option (List UInt8)) (hx : ImAt x cs) (h : WrIn B W w p ob st) :
    Calls Try.prog 25 #[.pointer (some ⟨p, 0, none⟩), .agg cs.toArray] w (WOut B W w p ob (wput st (encIm x))) := by
  obtain ⟨rfl, hn, _⟩ := hx
  have Hn := Lib.hid hn
  have G := Lib.hid h
  clear hn h
  have C0 := Lib.hid (show Kp (fun b => b = p ∨ some b = ob) w (w.alloc (.cells #[.string x.name, .int .i64 x.hash] 58)) ∧ ∀ k, ob = some k → ob = some k ∨ w.heap.size ≤ k from ⟨(Kp.refl _ w).alloc _, fun _ h => .inl h⟩)
  have L0 := Lib.hid (Loc.new G.out [.string x.name, .int .i64 x.hash] 58)
  have G0 := Lib.hid (G.out.alloc (.cells #[.string x.name, .int .i64 x.hash] 58))
  clear G
  go_enter Try.func25, Try.ntmps25
  go_wp2_with fail
  refine (wtext_in G0.out _ Hn.out).mono ?_
  rintro e1 w1 ⟨rfl, ob1, g1, k1, o1⟩
  have C1 := Lib.hid (chain C0.out.1 C0.out.2 k1 o1)
  have L1 := Lib.hid (L0.out.next k1 o1)
  have c1 := L1.out.blk.cell
  have G1 := Lib.hid g1
  clear g1 k1 o1
  go_wp2_with fail
  refine (wnum_in G1.out _).mono ?_
  intro e2 w2 h2
  have X := Lib.hid (WOut.trans C1.out.1 C1.out.2 h2)
  obtain ⟨rfl, _⟩ := h2
  go_wp2_with fail
  go_returns
  simp only [encIm, ← wput_wput]
  exact X.out
set_option maxRecDepth 100000 in
set_option maxHeartbeats 400000 in
theorem puts_im {B : Nat} {W : World} {enc : Im → List UInt8}
    (one : ∀ (t : Im) (cs : List Value) (w : World) (p : Nat) (ob : Option Nat) (st : Option (List UInt8)), ImAt t cs → WrIn B W w p ob st →
      Calls Try.prog 25 #[.pointer (some ⟨p, 0, none⟩), .agg cs.toArray] w (WOut B W w p ob (wput st (enc t))))
    (l : List Im) (v : Value) (w : World) (p : Nat) (ob : Option Nat) (st : Option (List UInt8)) (hl : SlB B W 2 (ImAt) l v) (h : WrIn B W w p ob st) :
    Calls Try.prog 24 #[.pointer (some ⟨p, 0, none⟩), v, .func (.func 25) #[] #[]] w (WOut B W w p ob (wput st (encL enc l))) := by
  obtain ⟨x, cap, rfl, hlen, hel⟩ := hl
  have G := Lib.hid h
  have HE := Lib.hid hel
  have ONE := Lib.hid one
  clear h hel one
  obtain ⟨n, hn⟩ : ∃ n, n = l.length := ⟨_, rfl⟩
  rw [← hn] at hlen ⊢
  have HN := Lib.hid hn
  clear hn
  go_enter Try.func24, Try.ntmps24
  go_wp2_with fail
  refine (wnum_in G.out _).mono ?_
  rintro e1 w1 ⟨rfl, ob1, g1, k1, o1⟩
  have G1 := Lib.hid (show WrIn B W w1 p ob1 (wput (wput st (le8 n)) ((l.take 0).flatMap enc)) by
    rw [List.take_zero, List.flatMap_nil, wput_nil g1.at_.len]; exact g1)
  have K1 := Lib.hid k1
  have O1 := Lib.hid o1
  clear g1 k1 o1
  go_wp2_with fail
  go_loopw [14] (fun i wr1 => ∃ k : Nat, k ≤ n ∧ i = .int .i64 k ∧ ∃ obk, WrIn B W wr1 p obk (wput (wput st (le8 n)) ((l.take k).flatMap enc)) ∧ Kp (fun b => b = p ∨ some b = ob) w wr1 ∧ ∀ k, obk = some k → ob = some k ∨ w.heap.size ≤ k) (fun i _ => n - (intOf i).toNat)
  case atStart => exact ⟨0, Nat.zero_le _, rfl, ob1, G1.out, K1.out, O1.out⟩
  case round =>
    obtain ⟨k, hk, rfl, obk, g, kk, ok⟩ := hrel
    have Gk := Lib.hid g
    have Kk := Lib.hid kk
    have Ok := Lib.hid ok
    clear g kk ok
    by_cases hlt : k < n
    · have hkl : k < l.length := by rw [← HN.out]; exact hlt
      obtain ⟨b, o, rfl, hb, he⟩ := HE.out (by intro e; rw [e] at hkl; simp at hkl)
      obtain ⟨cs, hcl, hcc, hce⟩ := he k hkl
      obtain ⟨q0, q1, rfl⟩ := shape_Im hce
      have f0 := (Gk.out.bel.cell (p := ⟨b, o + k * 2 + 0, none⟩) hb).trans (hcc 0 (by simp))
      have f1 := (Gk.out.bel.cell (p := ⟨b, o + k * 2 + 1, none⟩) hb).trans (hcc 1 (by simp))
      simp only [List.getElem?_cons_zero, List.getElem?_cons_succ, Nat.add_zero] at f0 f1
      have HF := Lib.hid (take_flat enc l k hkl)
      have HCE := Lib.hid hce
      clear he hcc hce
      go_wp2_with fail
      refine (ONE.out _ _ _ _ _ _ HCE.out (Gk.out.alloc _)).mono ?_
      rintro e2 w2 ⟨rfl, ob2, g2, k2, o2⟩
      have C := chain ((Kk.out).alloc _) Ok.out k2 (by intro k hk; rcases o2 k hk with h | h; exact .inl h; exact .inr h)
      have G2 := Lib.hid (show WrIn B W w2 p ob2 (wput (wput st (le8 n)) ((l.take (k + 1)).flatMap enc)) by rw [HF.out, ← wput_wput]; exact g2)
      have C2 := Lib.hid C
      clear g2 k2 o2 C
      go_wp2_with fail
      go_roundw
      case rel => exact ⟨k + 1, by omega, by go_num, ob2, G2.out, C2.out.1, C2.out.2⟩
      case measure => simp [intOf]; omega
    · have hkn : k = l.length := by rw [← HN.out]; omega
      have HX := Lib.hid (show WOut B W w p ob (wput st (encL enc l)) (.returned (.tuple #[])) _ by
        refine ⟨rfl, obk, ?_, Kk.out, Ok.out⟩
        have g := Gk.out
        rw [wput_wput, List.take_of_length_le (by omega), HN.out] at g
        exact g)
      go_wp2_with fail
      go_returns
      exact HX.out

set_option maxRecDepth 100000 in
set_option maxHeartbeats 400000 in
theorem wdecl {B : Nat} {W : World} (d : Nat) (x : De) (cs : List Value) (w : World) (p : Nat) (ob : Option Nat) (st : Option (List UInt8)) (hx : DeAt B W d x cs) (h : WrIn B W w p ob st) :
    Calls Try.prog 27 #[.pointer (some ⟨p, 0, none⟩), .agg cs.toArray] w (WOut B W w p ob (wput st (encDe x))) := by
  obtain ⟨ct, vf, rfl, _, _, hn, ho, _, ht, hf⟩ := hx
  obtain ⟨k, pk, nm, x1, m1, c1, x2, m2, c2, rfl⟩ := shape_Ty ht
  obtain ⟨x3, m3, c3, rfl⟩ := hf.slice
  have Hn := Lib.hid hn
  have Ho := Lib.hid ho
  have Ht := Lib.hid ht
  have Hf := Lib.hid hf
  have G := Lib.hid h
  clear hn ho ht hf h
  simp only [List.cons_append, List.nil_append]
  have C0 := Lib.hid (show Kp (fun b => b = p ∨ some b = ob) w (w.alloc (.cells #[.int .i64 x.kind, .string x.name, .string x.of_, .int .i64 x.value, .int .i64 k, .string pk, .string nm, .slice x1 m1 c1, .slice x2 m2 c2, .slice x3 m3 c3] 44)) ∧ ∀ k, ob = some k → ob = some k ∨ w.heap.size ≤ k from ⟨(Kp.refl _ w).alloc _, fun _ h => .inl h⟩)
  have L0 := Lib.hid (Loc.new G.out [.int .i64 x.kind, .string x.name, .string x.of_, .int .i64 x.value, .int .i64 k, .string pk, .string nm, .slice x1 m1 c1, .slice x2 m2 c2, .slice x3 m3 c3] 44)
  have G0 := Lib.hid (G.out.alloc (.cells #[.int .i64 x.kind, .string x.name, .string x.of_, .int .i64 x.value, .int .i64 k, .string pk, .string nm, .slice x1 m1 c1, .slice x2 m2 c2, .slice x3 m3 c3] 44))
  clear G
  go_enter Try.func27, Try.ntmps27
  go_wp2_with fail
  refine (wnum_in G0.out _).mono ?_
  rintro e1 w1 ⟨rfl, ob1, g1, k1, o1⟩
  have C1 := Lib.hid (chain C0.out.1 C0.out.2 k1 o1)
  have L1 := Lib.hid (L0.out.next k1 o1)
  have c1 := L1.out.blk.cell
  have G1 := Lib.hid g1
  clear g1 k1 o1
  go_wp2_with fail
  refine (wtext_in G1.out _ Hn.out).mono ?_
  rintro e2 w2 ⟨rfl, ob2, g2, k2, o2⟩
  have C2 := Lib.hid (chain C1.out.1 C1.out.2 k2 o2)
  have L2 := Lib.hid (L1.out.next k2 o2)
  have c2 := L2.out.blk.cell
  have G2 := Lib.hid g2
  clear g2 k2 o2 c1
  go_wp2_with fail
  refine (wtext_in G2.out _ Ho.out).mono ?_
  rintro e3 w3 ⟨rfl, ob3, g3, k3, o3⟩
  have C3 := Lib.hid (chain C2.out.1 C2.out.2 k3 o3)
  have L3 := Lib.hid (L2.out.next k3 o3)
  have c3 := L3.out.blk.cell
  have G3 := Lib.hid g3
  clear g3 k3 o3 c2
  go_wp2_with fail
  refine (wnum_in G3.out _).mono ?_
  rintro e4 w4 ⟨rfl, ob4, g4, k4, o4⟩
  have C4 := Lib.hid (chain C3.out.1 C3.out.2 k4 o4)
  have L4 := Lib.hid (L3.out.next k4 o4)
  have c4 := L4.out.blk.cell
  have G4 := Lib.hid g4
  clear g4 k4 o4 c3
  go_wp2_with fail
  refine (wtyp d _ _ _ _ _ _ Ht.out G4.out).mono ?_
  rintro e5 w5 ⟨rfl, ob5, g5, k5, o5⟩
  have C5 := Lib.hid (chain C4.out.1 C4.out.2 k5 o5)
  have L5 := Lib.hid (L4.out.next k5 o5)
  have c5 := L5.out.blk.cell
  have G5 := Lib.hid g5
  clear g5 k5 o5 c4
  go_wp2_with fail
  refine (puts_fd (wfield d) _ _ _ _ _ _ Hf.out G5.out).mono ?_
  intro e6 w6 h6
  have X := Lib.hid (WOut.trans C5.out.1 C5.out.2 h6)
  obtain ⟨rfl, _⟩ := h6
  go_wp2_with fail
  go_returns
  simp only [encDe, ← wput_wput]
  exact X.out
set_option maxRecDepth 100000 in
set_option maxHeartbeats 400000 in
theorem puts_de {B : Nat} {W : World} {d : Nat} {enc : De → List UInt8}
    (one : ∀ (t : De) (cs : List Value) (w : World) (p : Nat) (ob : Option Nat) (st : Option (List UInt8)), DeAt B W d t cs → WrIn B W w p ob st →
      Calls Try.prog 27 #[.pointer (some ⟨p, 0, none⟩), .agg cs.toArray] w (WOut B W w p ob (wput st (enc t))))
    (l : List De) (v : Value) (w : World) (p : Nat) (ob : Option Nat) (st : Option (List UInt8)) (hl : SlB B W 10 (DeAt B W d) l v) (h : WrIn B W w p ob st) :
    Calls Try.prog 26 #[.pointer (some ⟨p, 0, none⟩), v, .func (.func 27) #[] #[]] w (WOut B W w p ob (wput st (encL enc l))) := by
  obtain ⟨x, cap, rfl, hlen, hel⟩ := hl
  have G := Lib.hid h
  have HE := Lib.hid hel
  have ONE := Lib.hid one
  clear h hel one
  obtain ⟨n, hn⟩ : ∃ n, n = l.length := ⟨_, rfl⟩
  rw [← hn] at hlen ⊢
  have HN := Lib.hid hn
  clear hn
  go_enter Try.func26, Try.ntmps26
  go_wp2_with fail
  refine (wnum_in G.out _).mono ?_
  rintro e1 w1 ⟨rfl, ob1, g1, k1, o1⟩
  have G1 := Lib.hid (show WrIn B W w1 p ob1 (wput (wput st (le8 n)) ((l.take 0).flatMap enc)) by
    rw [List.take_zero, List.flatMap_nil, wput_nil g1.at_.len]; exact g1)
  have K1 := Lib.hid k1
  have O1 := Lib.hid o1
  clear g1 k1 o1
  go_wp2_with fail
  go_loopw [14] (fun i wr1 => ∃ k : Nat, k ≤ n ∧ i = .int .i64 k ∧ ∃ obk, WrIn B W wr1 p obk (wput (wput st (le8 n)) ((l.take k).flatMap enc)) ∧ Kp (fun b => b = p ∨ some b = ob) w wr1 ∧ ∀ k, obk = some k → ob = some k ∨ w.heap.size ≤ k) (fun i _ => n - (intOf i).toNat)
  case atStart => exact ⟨0, Nat.zero_le _, rfl, ob1, G1.out, K1.out, O1.out⟩
  case round =>
    obtain ⟨k, hk, rfl, obk, g, kk, ok⟩ := hrel
    have Gk := Lib.hid g
    have Kk := Lib.hid kk
    have Ok := Lib.hid ok
    clear g kk ok
    by_cases hlt : k < n
    · have hkl : k < l.length := by rw [← HN.out]; exact hlt
      obtain ⟨b, o, rfl, hb, he⟩ := HE.out (by intro e; rw [e] at hkl; simp at hkl)
      obtain ⟨cs, hcl, hcc, hce⟩ := he k hkl
      obtain ⟨q0, q1, q2, q3, q4, q5, q6, q7, q7l, q7c, q8, q8l, q8c, q9, q9l, q9c, rfl⟩ := shape_De hce
      have f0 := (Gk.out.bel.cell (p := ⟨b, o + k * 10 + 0, none⟩) hb).trans (hcc 0 (by simp))
      have f1 := (Gk.out.bel.cell (p := ⟨b, o + k * 10 + 1, none⟩) hb).trans (hcc 1 (by simp))
      have f2 := (Gk.out.bel.cell (p := ⟨b, o + k * 10 + 2, none⟩) hb).trans (hcc 2 (by simp))
      have f3 := (Gk.out.bel.cell (p := ⟨b, o + k * 10 + 3, none⟩) hb).trans (hcc 3 (by simp))
      have f4 := (Gk.out.bel.cell (p := ⟨b, o + k * 10 + 4, none⟩) hb).trans (hcc 4 (by simp))
      have f5 := (Gk.out.bel.cell (p := ⟨b, o + k * 10 + 5, none⟩) hb).trans (hcc 5 (by simp))
      have f6 := (Gk.out.bel.cell (p := ⟨b, o + k * 10 + 6, none⟩) hb).trans (hcc 6 (by simp))
      have f7 := (Gk.out.bel.cell (p := ⟨b, o + k * 10 + 7, none⟩) hb).trans (hcc 7 (by simp))
      have f8 := (Gk.out.bel.cell (p := ⟨b, o + k * 10 + 8, none⟩) hb).trans (hcc 8 (by simp))
      have f9 := (Gk.out.bel.cell (p := ⟨b, o + k * 10 + 9, none⟩) hb).trans (hcc 9 (by simp))
      simp only [List.getElem?_cons_zero, List.getElem?_cons_succ, Nat.add_zero] at f0 f1 f2 f3 f4 f5 f6 f7 f8 f9
      have HF := Lib.hid (take_flat enc l k hkl)
      have HCE := Lib.hid hce
      clear he hcc hce
      go_wp2_with fail
      refine (ONE.out _ _ _ _ _ _ HCE.out (Gk.out.alloc _)).mono ?_
      rintro e2 w2 ⟨rfl, ob2, g2, k2, o2⟩
      have C := chain ((Kk.out).alloc _) Ok.out k2 (by intro k hk; rcases o2 k hk with h | h; exact .inl h; exact .inr h)
      have G2 := Lib.hid (show WrIn B W w2 p ob2 (wput (wput st (le8 n)) ((l.take (k + 1)).flatMap enc)) by rw [HF.out, ← wput_wput]; exact g2)
      have C2 := Lib.hid C
      clear g2 k2 o2 C
      go_wp2_with fail
      go_roundw
      case rel => exact ⟨k + 1, by omega, by go_num, ob2, G2.out, C2.out.1, C2.out.2⟩
      case measure => simp [intOf]; omega
    · have hkn : k = l.length := by rw [← HN.out]; omega
      have HX := Lib.hid (show WOut B W w p ob (wput st (encL enc l)) (.returned (.tuple #[])) _ by
        refine ⟨rfl, obk, ?_, Kk.out, Ok.out⟩
        have g := Gk.out
        rw [wput_wput, List.take_of_length_le (by omega), HN.out] at g
        exact g)
      go_wp2_with fail
      go_returns
      exact HX.out

set_option maxRecDepth 100000 in
set_option maxHeartbeats 400000 in
theorem puts_ex {B : Nat} {W : World} {d : Nat} {enc : Ex → List UInt8}
    (one : ∀ (t : Ex) (cs : List Value) (w : World) (p : Nat) (ob : Option Nat) (st : Option (List UInt8)), ExAt B W d t cs → WrIn B W w p ob st →
      Calls Try.prog 89 #[.pointer (some ⟨p, 0, none⟩), .agg cs.toArray] w (WOut B W w p ob (wput st (enc t))))
    (l : List Ex) (v : Value) (w : World) (p : Nat) (ob : Option Nat) (st : Option (List UInt8)) (hl : SlB B W 4 (ExAt B W d) l v) (h : WrIn B W w p ob st) :
    Calls Try.prog 88 #[.pointer (some ⟨p, 0, none⟩), v, .func (.func 89) #[] #[]] w (WOut B W w p ob (wput st (encL enc l))) := by
  obtain ⟨x, cap, rfl, hlen, hel⟩ := hl
  have G := Lib.hid h
  have HE := Lib.hid hel
  have ONE := Lib.hid one
  clear h hel one
  obtain ⟨n, hn⟩ : ∃ n, n = l.length := ⟨_, rfl⟩
  rw [← hn] at hlen ⊢
  have HN := Lib.hid hn
  clear hn
  go_enter Try.func88, Try.ntmps88
  go_wp2_with fail
  refine (wnum_in G.out _).mono ?_
  rintro e1 w1 ⟨rfl, ob1, g1, k1, o1⟩
  have G1 := Lib.hid (show WrIn B W w1 p ob1 (wput (wput st (le8 n)) ((l.take 0).flatMap enc)) by
    rw [List.take_zero, List.flatMap_nil, wput_nil g1.at_.len]; exact g1)
  have K1 := Lib.hid k1
  have O1 := Lib.hid o1
  clear g1 k1 o1
  go_wp2_with fail
  go_loopw [14] (fun i wr1 => ∃ k : Nat, k ≤ n ∧ i = .int .i64 k ∧ ∃ obk, WrIn B W wr1 p obk (wput (wput st (le8 n)) ((l.take k).flatMap enc)) ∧ Kp (fun b => b = p ∨ some b = ob) w wr1 ∧ ∀ k, obk = some k → ob = some k ∨ w.heap.size ≤ k) (fun i _ => n - (intOf i).toNat)
  case atStart => exact ⟨0, Nat.zero_le _, rfl, ob1, G1.out, K1.out, O1.out⟩
  case round =>
    obtain ⟨k, hk, rfl, obk, g, kk, ok⟩ := hrel
    have Gk := Lib.hid g
    have Kk := Lib.hid kk
    have Ok := Lib.hid ok
    clear g kk ok
    by_cases hlt : k < n
    · have hkl : k < l.length := by rw [← HN.out]; exact hlt
      obtain ⟨b, o, rfl, hb, he⟩ := HE.out (by intro e; rw [e] at hkl; simp at hkl)
      obtain ⟨cs, hcl, hcc, hce⟩ := he k hkl
      obtain ⟨q0, q1, q2, q3, q3l, q3c, rfl⟩ := shape_Ex hce
      have f0 := (Gk.out.bel.cell (p := ⟨b, o + k * 4 + 0, none⟩) hb).trans (hcc 0 (by simp))
      have f1 := (Gk.out.bel.cell (p := ⟨b, o + k * 4 + 1, none⟩) hb).trans (hcc 1 (by simp))
      have f2 := (Gk.out.bel.cell (p := ⟨b, o + k * 4 + 2, none⟩) hb).trans (hcc 2 (by simp))
      have f3 := (Gk.out.bel.cell (p := ⟨b, o + k * 4 + 3, none⟩) hb).trans (hcc 3 (by simp))
      simp only [List.getElem?_cons_zero, List.getElem?_cons_succ, Nat.add_zero] at f0 f1 f2 f3
      have HF := Lib.hid (take_flat enc l k hkl)
      have HCE := Lib.hid hce
      clear he hcc hce
      go_wp2_with fail
      refine (ONE.out _ _ _ _ _ _ HCE.out (Gk.out.alloc _)).mono ?_
      rintro e2 w2 ⟨rfl, ob2, g2, k2, o2⟩
      have C := chain ((Kk.out).alloc _) Ok.out k2 (by intro k hk; rcases o2 k hk with h | h; exact .inl h; exact .inr h)
      have G2 := Lib.hid (show WrIn B W w2 p ob2 (wput (wput st (le8 n)) ((l.take (k + 1)).flatMap enc)) by rw [HF.out, ← wput_wput]; exact g2)
      have C2 := Lib.hid C
      clear g2 k2 o2 C
      go_wp2_with fail
      go_roundw
      case rel => exact ⟨k + 1, by omega, by go_num, ob2, G2.out, C2.out.1, C2.out.2⟩
      case measure => simp [intOf]; omega
    · have hkn : k = l.length := by rw [← HN.out]; omega
      have HX := Lib.hid (show WOut B W w p ob (wput st (encL enc l)) (.returned (.tuple #[])) _ by
        refine ⟨rfl, obk, ?_, Kk.out, Ok.out⟩
        have g := Gk.out
        rw [wput_wput, List.take_of_length_le (by omega), HN.out] at g
        exact g)
      go_wp2_with fail
      go_returns
      exact HX.out

set_option maxRecDepth 100000 in
set_option maxHeartbeats 400000 in
theorem wexpr_succ {B : Nat} {W : World} (d : Nat) (ih : ∀ (x : Ex) (cs : List Value) (w : World) (p : Nat) (ob : Option Nat) (st : Option (List UInt8)), ExAt B W d x cs → WrIn B W w p ob st → Calls Try.prog 89 #[.pointer (some ⟨p, 0, none⟩), .agg cs.toArray] w (WOut B W w p ob (wput st (encEx x))))
    (x : Ex) (cs : List Value) (w : World) (p : Nat) (ob : Option Nat) (st : Option (List UInt8)) (hx : ExAt B W (d + 1) x cs) (h : WrIn B W w p ob st) :
    Calls Try.prog 89 #[.pointer (some ⟨p, 0, none⟩), .agg cs.toArray] w (WOut B W w p ob (wput st (encEx x))) := by
  obtain ⟨op, nn, s, ks⟩ := x
  have IH := Lib.hid ih
  clear ih
  obtain ⟨vk, rfl, _, _, hs, hk⟩ := hx
  obtain ⟨x1, m1, c1, rfl⟩ := hk.slice
  have Hs := Lib.hid hs
  have Hk := Lib.hid hk
  have G := Lib.hid h
  clear hs hk h
  have C0 := Lib.hid (show Kp (fun b => b = p ∨ some b = ob) w (w.alloc (.cells #[.int .i64 op, .int .i64 nn, .string s, .slice x1 m1 c1] 132)) ∧ ∀ k, ob = some k → ob = some k ∨ w.heap.size ≤ k from ⟨(Kp.refl _ w).alloc _, fun _ h => .inl h⟩)
  have L0 := Lib.hid (Loc.new G.out [.int .i64 op, .int .i64 nn, .string s, .slice x1 m1 c1] 132)
  have G0 := Lib.hid (G.out.alloc (.cells #[.int .i64 op, .int .i64 nn, .string s, .slice x1 m1 c1] 132))
  clear G
  go_enter Try.func89, Try.ntmps89
  go_wp2_with fail
  refine (wnum_in G0.out _).mono ?_
  rintro e1 w1 ⟨rfl, ob1, g1, k1, o1⟩
  have C1 := Lib.hid (chain C0.out.1 C0.out.2 k1 o1)
  have L1 := Lib.hid (L0.out.next k1 o1)
  have c1 := L1.out.blk.cell
  have G1 := Lib.hid g1
  clear g1 k1 o1
  go_wp2_with fail
  refine (wnum_in G1.out _).mono ?_
  rintro e2 w2 ⟨rfl, ob2, g2, k2, o2⟩
  have C2 := Lib.hid (chain C1.out.1 C1.out.2 k2 o2)
  have L2 := Lib.hid (L1.out.next k2 o2)
  have c2 := L2.out.blk.cell
  have G2 := Lib.hid g2
  clear g2 k2 o2 c1
  go_wp2_with fail
  refine (wtext_in G2.out _ Hs.out).mono ?_
  rintro e3 w3 ⟨rfl, ob3, g3, k3, o3⟩
  have C3 := Lib.hid (chain C2.out.1 C2.out.2 k3 o3)
  have L3 := Lib.hid (L2.out.next k3 o3)
  have c3 := L3.out.blk.cell
  have G3 := Lib.hid g3
  clear g3 k3 o3 c2
  go_wp2_with fail
  refine (puts_ex IH.out _ _ _ _ _ _ Hk.out G3.out).mono ?_
  intro e4 w4 h4
  have X := Lib.hid (WOut.trans C3.out.1 C3.out.2 h4)
  obtain ⟨rfl, _⟩ := h4
  go_wp2_with fail
  go_returns
  simp only [encEx_mk, ← wput_wput]
  exact X.out
theorem wexpr {B : Nat} {W : World} (d : Nat) : ∀ (x : Ex) (cs : List Value) (w : World) (p : Nat) (ob : Option Nat) (st : Option (List UInt8)), ExAt B W d x cs → WrIn B W w p ob st →
    Calls Try.prog 89 #[.pointer (some ⟨p, 0, none⟩), .agg cs.toArray] w (WOut B W w p ob (wput st (encEx x))) := by
  induction d with
  | zero => intro _ _ _ _ _ _ h; exact h.elim
  | succ d ih => exact wexpr_succ d ih
set_option maxRecDepth 100000 in
set_option maxHeartbeats 400000 in
theorem puts_st {B : Nat} {W : World} {d : Nat} {enc : St → List UInt8}
    (one : ∀ (t : St) (cs : List Value) (w : World) (p : Nat) (ob : Option Nat) (st : Option (List UInt8)), StAt B W d t cs → WrIn B W w p ob st →
      Calls Try.prog 62 #[.pointer (some ⟨p, 0, none⟩), .agg cs.toArray] w (WOut B W w p ob (wput st (enc t))))
    (l : List St) (v : Value) (w : World) (p : Nat) (ob : Option Nat) (st : Option (List UInt8)) (hl : SlB B W 5 (StAt B W d) l v) (h : WrIn B W w p ob st) :
    Calls Try.prog 61 #[.pointer (some ⟨p, 0, none⟩), v, .func (.func 62) #[] #[]] w (WOut B W w p ob (wput st (encL enc l))) := by
  obtain ⟨x, cap, rfl, hlen, hel⟩ := hl
  have G := Lib.hid h
  have HE := Lib.hid hel
  have ONE := Lib.hid one
  clear h hel one
  obtain ⟨n, hn⟩ : ∃ n, n = l.length := ⟨_, rfl⟩
  rw [← hn] at hlen ⊢
  have HN := Lib.hid hn
  clear hn
  go_enter Try.func61, Try.ntmps61
  go_wp2_with fail
  refine (wnum_in G.out _).mono ?_
  rintro e1 w1 ⟨rfl, ob1, g1, k1, o1⟩
  have G1 := Lib.hid (show WrIn B W w1 p ob1 (wput (wput st (le8 n)) ((l.take 0).flatMap enc)) by
    rw [List.take_zero, List.flatMap_nil, wput_nil g1.at_.len]; exact g1)
  have K1 := Lib.hid k1
  have O1 := Lib.hid o1
  clear g1 k1 o1
  go_wp2_with fail
  go_loopw [14] (fun i wr1 => ∃ k : Nat, k ≤ n ∧ i = .int .i64 k ∧ ∃ obk, WrIn B W wr1 p obk (wput (wput st (le8 n)) ((l.take k).flatMap enc)) ∧ Kp (fun b => b = p ∨ some b = ob) w wr1 ∧ ∀ k, obk = some k → ob = some k ∨ w.heap.size ≤ k) (fun i _ => n - (intOf i).toNat)
  case atStart => exact ⟨0, Nat.zero_le _, rfl, ob1, G1.out, K1.out, O1.out⟩
  case round =>
    obtain ⟨k, hk, rfl, obk, g, kk, ok⟩ := hrel
    have Gk := Lib.hid g
    have Kk := Lib.hid kk
    have Ok := Lib.hid ok
    clear g kk ok
    by_cases hlt : k < n
    · have hkl : k < l.length := by rw [← HN.out]; exact hlt
      obtain ⟨b, o, rfl, hb, he⟩ := HE.out (by intro e; rw [e] at hkl; simp at hkl)
      obtain ⟨cs, hcl, hcc, hce⟩ := he k hkl
      obtain ⟨q0, q1, q2, q2l, q2c, q3, q3l, q3c, q4, q4l, q4c, rfl⟩ := shape_St hce
      have f0 := (Gk.out.bel.cell (p := ⟨b, o + k * 5 + 0, none⟩) hb).trans (hcc 0 (by simp))
      have f1 := (Gk.out.bel.cell (p := ⟨b, o + k * 5 + 1, none⟩) hb).trans (hcc 1 (by simp))
      have f2 := (Gk.out.bel.cell (p := ⟨b, o + k * 5 + 2, none⟩) hb).trans (hcc 2 (by simp))
      have f3 := (Gk.out.bel.cell (p := ⟨b, o + k * 5 + 3, none⟩) hb).trans (hcc 3 (by simp))
      have f4 := (Gk.out.bel.cell (p := ⟨b, o + k * 5 + 4, none⟩) hb).trans (hcc 4 (by simp))
      simp only [List.getElem?_cons_zero, List.getElem?_cons_succ, Nat.add_zero] at f0 f1 f2 f3 f4
      have HF := Lib.hid (take_flat enc l k hkl)
      have HCE := Lib.hid hce
      clear he hcc hce
      go_wp2_with fail
      refine (ONE.out _ _ _ _ _ _ HCE.out (Gk.out.alloc _)).mono ?_
      rintro e2 w2 ⟨rfl, ob2, g2, k2, o2⟩
      have C := chain ((Kk.out).alloc _) Ok.out k2 (by intro k hk; rcases o2 k hk with h | h; exact .inl h; exact .inr h)
      have G2 := Lib.hid (show WrIn B W w2 p ob2 (wput (wput st (le8 n)) ((l.take (k + 1)).flatMap enc)) by rw [HF.out, ← wput_wput]; exact g2)
      have C2 := Lib.hid C
      clear g2 k2 o2 C
      go_wp2_with fail
      go_roundw
      case rel => exact ⟨k + 1, by omega, by go_num, ob2, G2.out, C2.out.1, C2.out.2⟩
      case measure => simp [intOf]; omega
    · have hkn : k = l.length := by rw [← HN.out]; omega
      have HX := Lib.hid (show WOut B W w p ob (wput st (encL enc l)) (.returned (.tuple #[])) _ by
        refine ⟨rfl, obk, ?_, Kk.out, Ok.out⟩
        have g := Gk.out
        rw [wput_wput, List.take_of_length_le (by omega), HN.out] at g
        exact g)
      go_wp2_with fail
      go_returns
      exact HX.out

set_option maxRecDepth 100000 in
set_option maxHeartbeats 400000 in
theorem wstat_succ {B : Nat} {W : World} (d : Nat) (ih : ∀ (x : St) (cs : List Value) (w : World) (p : Nat) (ob : Option Nat) (st : Option (List UInt8)), StAt B W d x cs → WrIn B W w p ob st → Calls Try.prog 62 #[.pointer (some ⟨p, 0, none⟩), .agg cs.toArray] w (WOut B W w p ob (wput st (encSt x))))
    (x : St) (cs : List Value) (w : World) (p : Nat) (ob : Option Nat) (st : Option (List UInt8)) (hx : StAt B W (d + 1) x cs) (h : WrIn B W w p ob st) :
    Calls Try.prog 62 #[.pointer (some ⟨p, 0, none⟩), .agg cs.toArray] w (WOut B W w p ob (wput st (encSt x))) := by
  obtain ⟨op, nn, es, bs, ls⟩ := x
  have IH := Lib.hid ih
  clear ih
  obtain ⟨ve, vb, vl, rfl, _, _, he, hb, hl⟩ := hx
  obtain ⟨x1, m1, c1, rfl⟩ := he.slice
  obtain ⟨x2, m2, c2, rfl⟩ := hb.slice
  obtain ⟨x3, m3, c3, rfl⟩ := hl.slice
  have He := Lib.hid he
  have Hb := Lib.hid hb
  have Hl := Lib.hid hl
  have G := Lib.hid h
  clear he hb hl h
  have C0 := Lib.hid (show Kp (fun b => b = p ∨ some b = ob) w (w.alloc (.cells #[.int .i64 op, .int .i64 nn, .slice x1 m1 c1, .slice x2 m2 c2, .slice x3 m3 c3] 101)) ∧ ∀ k, ob = some k → ob = some k ∨ w.heap.size ≤ k from ⟨(Kp.refl _ w).alloc _, fun _ h => .inl h⟩)
  have L0 := Lib.hid (Loc.new G.out [.int .i64 op, .int .i64 nn, .slice x1 m1 c1, .slice x2 m2 c2, .slice x3 m3 c3] 101)
  have G0 := Lib.hid (G.out.alloc (.cells #[.int .i64 op, .int .i64 nn, .slice x1 m1 c1, .slice x2 m2 c2, .slice x3 m3 c3] 101))
  clear G
  go_enter Try.func62, Try.ntmps62
  go_wp2_with fail
  refine (wnum_in G0.out _).mono ?_
  rintro e1 w1 ⟨rfl, ob1, g1, k1, o1⟩
  have C1 := Lib.hid (chain C0.out.1 C0.out.2 k1 o1)
  have L1 := Lib.hid (L0.out.next k1 o1)
  have c1 := L1.out.blk.cell
  have G1 := Lib.hid g1
  clear g1 k1 o1
  go_wp2_with fail
  refine (wnum_in G1.out _).mono ?_
  rintro e2 w2 ⟨rfl, ob2, g2, k2, o2⟩
  have C2 := Lib.hid (chain C1.out.1 C1.out.2 k2 o2)
  have L2 := Lib.hid (L1.out.next k2 o2)
  have c2 := L2.out.blk.cell
  have G2 := Lib.hid g2
  clear g2 k2 o2 c1
  go_wp2_with fail
  refine (puts_ex (wexpr d) _ _ _ _ _ _ He.out G2.out).mono ?_
  rintro e3 w3 ⟨rfl, ob3, g3, k3, o3⟩
  have C3 := Lib.hid (chain C2.out.1 C2.out.2 k3 o3)
  have L3 := Lib.hid (L2.out.next k3 o3)
  have c3 := L3.out.blk.cell
  have G3 := Lib.hid g3
  clear g3 k3 o3 c2
  go_wp2_with fail
  refine (puts_st IH.out _ _ _ _ _ _ Hb.out G3.out).mono ?_
  rintro e4 w4 ⟨rfl, ob4, g4, k4, o4⟩
  have C4 := Lib.hid (chain C3.out.1 C3.out.2 k4 o4)
  have L4 := Lib.hid (L3.out.next k4 o4)
  have c4 := L4.out.blk.cell
  have G4 := Lib.hid g4
  clear g4 k4 o4 c3
  go_wp2_with fail
  refine (puts_st IH.out _ _ _ _ _ _ Hl.out G4.out).mono ?_
  intro e5 w5 h5
  have X := Lib.hid (WOut.trans C4.out.1 C4.out.2 h5)
  obtain ⟨rfl, _⟩ := h5
  go_wp2_with fail
  go_returns
  simp only [encSt_mk, ← wput_wput]
  exact X.out
theorem wstat {B : Nat} {W : World} (d : Nat) : ∀ (x : St) (cs : List Value) (w : World) (p : Nat) (ob : Option Nat) (st : Option (List UInt8)), StAt B W d x cs → WrIn B W w p ob st →
    Calls Try.prog 62 #[.pointer (some ⟨p, 0, none⟩), .agg cs.toArray] w (WOut B W w p ob (wput st (encSt x))) := by
  induction d with
  | zero => intro _ _ _ _ _ _ h; exact h.elim
  | succ d ih => exact wstat_succ d ih
set_option maxRecDepth 100000 in
set_option maxHeartbeats 400000 in
theorem wfunction {B : Nat} {W : World} (d : Nat) (x : Fn1) (cs : List Value) (w : World) (p : Nat) (ob : Option Nat) (st : Option (List UInt8)) (hx : FnAt B W d x cs) (h : WrIn B W w p ob st) :
    Calls Try.prog 29 #[.pointer (some ⟨p, 0, none⟩), .agg cs.toArray] w (WOut B W w p ob (wput st (encFn x))) := by
  obtain ⟨vb, rfl, hn, _, _, hb⟩ := hx
  obtain ⟨x1, m1, c1, rfl⟩ := hb.slice
  have Hn := Lib.hid hn
  have Hb := Lib.hid hb
  have G := Lib.hid h
  clear hn hb h
  have C0 := Lib.hid (show Kp (fun b => b = p ∨ some b = ob) w (w.alloc (.cells #[.string x.name, .bool x.weak, .int .i64 x.params, .int .i64 x.locals, .slice x1 m1 c1] 67)) ∧ ∀ k, ob = some k → ob = some k ∨ w.heap.size ≤ k from ⟨(Kp.refl _ w).alloc _, fun _ h => .inl h⟩)
  have L0 := Lib.hid (Loc.new G.out [.string x.name, .bool x.weak, .int .i64 x.params, .int .i64 x.locals, .slice x1 m1 c1] 67)
  have G0 := Lib.hid (G.out.alloc (.cells #[.string x.name, .bool x.weak, .int .i64 x.params, .int .i64 x.locals, .slice x1 m1 c1] 67))
  clear G
  go_enter Try.func29, Try.ntmps29
  go_wp2_with fail
  refine (wtext_in G0.out _ Hn.out).mono ?_
  rintro e1 w1 ⟨rfl, ob1, g1, k1, o1⟩
  have C1 := Lib.hid (chain C0.out.1 C0.out.2 k1 o1)
  have L1 := Lib.hid (L0.out.next k1 o1)
  have c1 := L1.out.blk.cell
  have G1 := Lib.hid g1
  clear g1 k1 o1
  go_wp2_with fail
  refine (wtruth_in G1.out _).mono ?_
  rintro e2 w2 ⟨rfl, ob2, g2, k2, o2⟩
  have C2 := Lib.hid (chain C1.out.1 C1.out.2 k2 o2)
  have L2 := Lib.hid (L1.out.next k2 o2)
  have c2 := L2.out.blk.cell
  have G2 := Lib.hid g2
  clear g2 k2 o2 c1
  go_wp2_with fail
  refine (wnum_in G2.out _).mono ?_
  rintro e3 w3 ⟨rfl, ob3, g3, k3, o3⟩
  have C3 := Lib.hid (chain C2.out.1 C2.out.2 k3 o3)
  have L3 := Lib.hid (L2.out.next k3 o3)
  have c3 := L3.out.blk.cell
  have G3 := Lib.hid g3
  clear g3 k3 o3 c2
  go_wp2_with fail
  refine (wnum_in G3.out _).mono ?_
  rintro e4 w4 ⟨rfl, ob4, g4, k4, o4⟩
  have C4 := Lib.hid (chain C3.out.1 C3.out.2 k4 o4)
  have L4 := Lib.hid (L3.out.next k4 o4)
  have c4 := L4.out.blk.cell
  have G4 := Lib.hid g4
  clear g4 k4 o4 c3
  go_wp2_with fail
  refine (puts_st (wstat d) _ _ _ _ _ _ Hb.out G4.out).mono ?_
  intro e5 w5 h5
  have X := Lib.hid (WOut.trans C4.out.1 C4.out.2 h5)
  obtain ⟨rfl, _⟩ := h5
  go_wp2_with fail
  go_returns
  simp only [encFn, ← wput_wput]
  exact X.out
set_option maxRecDepth 100000 in
set_option maxHeartbeats 400000 in
theorem puts_fn {B : Nat} {W : World} {d : Nat} {enc : Fn1 → List UInt8}
    (one : ∀ (t : Fn1) (cs : List Value) (w : World) (p : Nat) (ob : Option Nat) (st : Option (List UInt8)), FnAt B W d t cs → WrIn B W w p ob st →
      Calls Try.prog 29 #[.pointer (some ⟨p, 0, none⟩), .agg cs.toArray] w (WOut B W w p ob (wput st (enc t))))
    (l : List Fn1) (v : Value) (w : World) (p : Nat) (ob : Option Nat) (st : Option (List UInt8)) (hl : SlB B W 5 (FnAt B W d) l v) (h : WrIn B W w p ob st) :
    Calls Try.prog 28 #[.pointer (some ⟨p, 0, none⟩), v, .func (.func 29) #[] #[]] w (WOut B W w p ob (wput st (encL enc l))) := by
  obtain ⟨x, cap, rfl, hlen, hel⟩ := hl
  have G := Lib.hid h
  have HE := Lib.hid hel
  have ONE := Lib.hid one
  clear h hel one
  obtain ⟨n, hn⟩ : ∃ n, n = l.length := ⟨_, rfl⟩
  rw [← hn] at hlen ⊢
  have HN := Lib.hid hn
  clear hn
  go_enter Try.func28, Try.ntmps28
  go_wp2_with fail
  refine (wnum_in G.out _).mono ?_
  rintro e1 w1 ⟨rfl, ob1, g1, k1, o1⟩
  have G1 := Lib.hid (show WrIn B W w1 p ob1 (wput (wput st (le8 n)) ((l.take 0).flatMap enc)) by
    rw [List.take_zero, List.flatMap_nil, wput_nil g1.at_.len]; exact g1)
  have K1 := Lib.hid k1
  have O1 := Lib.hid o1
  clear g1 k1 o1
  go_wp2_with fail
  go_loopw [14] (fun i wr1 => ∃ k : Nat, k ≤ n ∧ i = .int .i64 k ∧ ∃ obk, WrIn B W wr1 p obk (wput (wput st (le8 n)) ((l.take k).flatMap enc)) ∧ Kp (fun b => b = p ∨ some b = ob) w wr1 ∧ ∀ k, obk = some k → ob = some k ∨ w.heap.size ≤ k) (fun i _ => n - (intOf i).toNat)
  case atStart => exact ⟨0, Nat.zero_le _, rfl, ob1, G1.out, K1.out, O1.out⟩
  case round =>
    obtain ⟨k, hk, rfl, obk, g, kk, ok⟩ := hrel
    have Gk := Lib.hid g
    have Kk := Lib.hid kk
    have Ok := Lib.hid ok
    clear g kk ok
    by_cases hlt : k < n
    · have hkl : k < l.length := by rw [← HN.out]; exact hlt
      obtain ⟨b, o, rfl, hb, he⟩ := HE.out (by intro e; rw [e] at hkl; simp at hkl)
      obtain ⟨cs, hcl, hcc, hce⟩ := he k hkl
      obtain ⟨q0, q1, q2, q3, q4, q4l, q4c, rfl⟩ := shape_Fn hce
      have f0 := (Gk.out.bel.cell (p := ⟨b, o + k * 5 + 0, none⟩) hb).trans (hcc 0 (by simp))
      have f1 := (Gk.out.bel.cell (p := ⟨b, o + k * 5 + 1, none⟩) hb).trans (hcc 1 (by simp))
      have f2 := (Gk.out.bel.cell (p := ⟨b, o + k * 5 + 2, none⟩) hb).trans (hcc 2 (by simp))
      have f3 := (Gk.out.bel.cell (p := ⟨b, o + k * 5 + 3, none⟩) hb).trans (hcc 3 (by simp))
      have f4 := (Gk.out.bel.cell (p := ⟨b, o + k * 5 + 4, none⟩) hb).trans (hcc 4 (by simp))
      simp only [List.getElem?_cons_zero, List.getElem?_cons_succ, Nat.add_zero] at f0 f1 f2 f3 f4
      have HF := Lib.hid (take_flat enc l k hkl)
      have HCE := Lib.hid hce
      clear he hcc hce
      go_wp2_with fail
      refine (ONE.out _ _ _ _ _ _ HCE.out (Gk.out.alloc _)).mono ?_
      rintro e2 w2 ⟨rfl, ob2, g2, k2, o2⟩
      have C := chain ((Kk.out).alloc _) Ok.out k2 (by intro k hk; rcases o2 k hk with h | h; exact .inl h; exact .inr h)
      have G2 := Lib.hid (show WrIn B W w2 p ob2 (wput (wput st (le8 n)) ((l.take (k + 1)).flatMap enc)) by rw [HF.out, ← wput_wput]; exact g2)
      have C2 := Lib.hid C
      clear g2 k2 o2 C
      go_wp2_with fail
      go_roundw
      case rel => exact ⟨k + 1, by omega, by go_num, ob2, G2.out, C2.out.1, C2.out.2⟩
      case measure => simp [intOf]; omega
    · have hkn : k = l.length := by rw [← HN.out]; omega
      have HX := Lib.hid (show WOut B W w p ob (wput st (encL enc l)) (.returned (.tuple #[])) _ by
        refine ⟨rfl, obk, ?_, Kk.out, Ok.out⟩
        have g := Gk.out
        rw [wput_wput, List.take_of_length_le (by omega), HN.out] at g
        exact g)
      go_wp2_with fail
      go_returns
      exact HX.out

end Go.Proofs.Ytpopgnengimieaa
