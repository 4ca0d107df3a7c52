/- Reading an object's bytes: refusals; a list half read whose slice lies in a local struct; words. -/
import Derived.Test.YtfdjlicegfgodaaTK3
namespace Go.Proofs.Ytfdjlicegfgodaa
open Go.RowKit
set_option linter.unusedSimpArgs false
set_option linter.unusedVariables false

theorem noIm0 {r : List UInt8}  (hno : No Fits encS r) : No OkIm encIm r := by
  intro z s hz e
  obtain ⟨c0, c1⟩ := z
  obtain ⟨g0, g1⟩ := hz
  simp only [encIm, List.append_assoc] at e
  exact hno _ _ g0 e
theorem noIm1 {r : List UInt8} {a0 : ByteArray} {r0 : List UInt8} (x0 : Fits a0) (h0 : r = encS a0 ++ r0) (hno : No I64 le8 r0) : No OkIm encIm r := by
  intro z s hz e
  obtain ⟨c0, c1⟩ := z
  obtain ⟨g0, g1⟩ := hz
  simp only [encIm, List.append_assoc] at e
  rw [h0] at e
  obtain ⟨_, e⟩ := encS_pi x0 g0 e
  exact hno _ _ g1 e
theorem noSy0 {r : List UInt8}  (hno : No Fits encS r) : No OkSy encSy r := by
  intro z s hz e
  obtain ⟨c0, c1, c2, c3, c4, c5⟩ := z
  obtain ⟨g0, g1, g3, g4, g5⟩ := hz
  simp only [encSy, List.append_assoc] at e
  exact hno _ _ g0 e
theorem noSy1 {r : List UInt8} {a0 : ByteArray} {r0 : List UInt8} (x0 : Fits a0) (h0 : r = encS a0 ++ r0) (hno : No I64 le8 r0) : No OkSy encSy r := by
  intro z s hz e
  obtain ⟨c0, c1, c2, c3, c4, c5⟩ := z
  obtain ⟨g0, g1, g3, g4, g5⟩ := hz
  simp only [encSy, List.append_assoc] at e
  rw [h0] at e
  obtain ⟨_, e⟩ := encS_pi x0 g0 e
  exact hno _ _ g1 e
theorem noSy2 {r : List UInt8} {a0 : ByteArray} {r0 : List UInt8} (x0 : Fits a0) (h0 : r = encS a0 ++ r0) {a1 : Int} {r1 : List UInt8} (x1 : I64 a1) (h1 : r0 = le8 a1 ++ r1) (hno : No (fun _ : Bool => True) encB r1) : No OkSy encSy r := by
  intro z s hz e
  obtain ⟨c0, c1, c2, c3, c4, c5⟩ := z
  obtain ⟨g0, g1, g3, g4, g5⟩ := hz
  simp only [encSy, List.append_assoc] at e
  rw [h0] at e
  obtain ⟨_, e⟩ := encS_pi x0 g0 e
  rw [h1] at e
  obtain ⟨_, e⟩ := le8_pi x1 g1 e
  exact hno _ _ trivial e
theorem noSy3 {r : List UInt8} {a0 : ByteArray} {r0 : List UInt8} (x0 : Fits a0) (h0 : r = encS a0 ++ r0) {a1 : Int} {r1 : List UInt8} (x1 : I64 a1) (h1 : r0 = le8 a1 ++ r1) {a2 : Bool} {r2 : List UInt8} (x2 : (fun _ : Bool => True) a2) (h2 : r1 = encB a2 ++ r2) (hno : No I64 le8 r2) : No OkSy encSy r := by
  intro z s hz e
  obtain ⟨c0, c1, c2, c3, c4, c5⟩ := z
  obtain ⟨g0, g1, g3, g4, g5⟩ := hz
  simp only [encSy, List.append_assoc] at e
  rw [h0] at e
  obtain ⟨_, e⟩ := encS_pi x0 g0 e
  rw [h1] at e
  obtain ⟨_, e⟩ := le8_pi x1 g1 e
  rw [h2] at e
  obtain ⟨_, e⟩ := encB_pi e
  exact hno _ _ g3 e
theorem noSy4 {r : List UInt8} {a0 : ByteArray} {r0 : List UInt8} (x0 : Fits a0) (h0 : r = encS a0 ++ r0) {a1 : Int} {r1 : List UInt8} (x1 : I64 a1) (h1 : r0 = le8 a1 ++ r1) {a2 : Bool} {r2 : List UInt8} (x2 : (fun _ : Bool => True) a2) (h2 : r1 = encB a2 ++ r2) {a3 : Int} {r3 : List UInt8} (x3 : I64 a3) (h3 : r2 = le8 a3 ++ r3) (hno : No I64 le8 r3) : No OkSy encSy r := by
  intro z s hz e
  obtain ⟨c0, c1, c2, c3, c4, c5⟩ := z
  obtain ⟨g0, g1, g3, g4, g5⟩ := hz
  simp only [encSy, List.append_assoc] at e
  rw [h0] at e
  obtain ⟨_, e⟩ := encS_pi x0 g0 e
  rw [h1] at e
  obtain ⟨_, e⟩ := le8_pi x1 g1 e
  rw [h2] at e
  obtain ⟨_, e⟩ := encB_pi e
  rw [h3] at e
  obtain ⟨_, e⟩ := le8_pi x3 g3 e
  exact hno _ _ g4 e
theorem noSy5 {r : List UInt8} {a0 : ByteArray} {r0 : List UInt8} (x0 : Fits a0) (h0 : r = encS a0 ++ r0) {a1 : Int} {r1 : List UInt8} (x1 : I64 a1) (h1 : r0 = le8 a1 ++ r1) {a2 : Bool} {r2 : List UInt8} (x2 : (fun _ : Bool => True) a2) (h2 : r1 = encB a2 ++ r2) {a3 : Int} {r3 : List UInt8} (x3 : I64 a3) (h3 : r2 = le8 a3 ++ r3) {a4 : Int} {r4 : List UInt8} (x4 : I64 a4) (h4 : r3 = le8 a4 ++ r4) (hno : No I64 le8 r4) : No OkSy encSy r := by
  intro z s hz e
  obtain ⟨c0, c1, c2, c3, c4, c5⟩ := z
  obtain ⟨g0, g1, g3, g4, g5⟩ := hz
  simp only [encSy, List.append_assoc] at e
  rw [h0] at e
  obtain ⟨_, e⟩ := encS_pi x0 g0 e
  rw [h1] at e
  obtain ⟨_, e⟩ := le8_pi x1 g1 e
  rw [h2] at e
  obtain ⟨_, e⟩ := encB_pi e
  rw [h3] at e
  obtain ⟨_, e⟩ := le8_pi x3 g3 e
  rw [h4] at e
  obtain ⟨_, e⟩ := le8_pi x4 g4 e
  exact hno _ _ g5 e
theorem noRe0 {r : List UInt8}  (hno : No (fun _ : Bool => True) encB r) : No OkRe encRe r := by
  intro z s hz e
  obtain ⟨c0, c1, c2⟩ := z
  obtain ⟨g1, g2⟩ := hz
  simp only [encRe, List.append_assoc] at e
  exact hno _ _ trivial e
theorem noRe1 {r : List UInt8} {a0 : Bool} {r0 : List UInt8} (x0 : (fun _ : Bool => True) a0) (h0 : r = encB a0 ++ r0) (hno : No I64 le8 r0) : No OkRe encRe r := by
  intro z s hz e
  obtain ⟨c0, c1, c2⟩ := z
  obtain ⟨g1, g2⟩ := hz
  simp only [encRe, List.append_assoc] at e
  rw [h0] at e
  obtain ⟨_, e⟩ := encB_pi e
  exact hno _ _ g1 e
theorem noRe2 {r : List UInt8} {a0 : Bool} {r0 : List UInt8} (x0 : (fun _ : Bool => True) a0) (h0 : r = encB a0 ++ r0) {a1 : Int} {r1 : List UInt8} (x1 : I64 a1) (h1 : r0 = le8 a1 ++ r1) (hno : No Fits encS r1) : No OkRe encRe r := by
  intro z s hz e
  obtain ⟨c0, c1, c2⟩ := z
  obtain ⟨g1, g2⟩ := hz
  simp only [encRe, List.append_assoc] at e
  rw [h0] at e
  obtain ⟨_, e⟩ := encB_pi e
  rw [h1] at e
  obtain ⟨_, e⟩ := le8_pi x1 g1 e
  exact hno _ _ g2 e
theorem noOb0 {r : List UInt8}  (hno : No Fits encS r) : No OkOb encO r := by
  intro z s hz e
  obtain ⟨c0, c1, c2, c3, c4, c5, c6⟩ := z
  obtain ⟨g0, g1, g2, g3, g4, g5, g6⟩ := hz
  simp only [encO, List.append_assoc] at e
  exact hno _ _ g0 e
theorem noOb1 {r : List UInt8} {a0 : ByteArray} {r0 : List UInt8} (x0 : Fits a0) (h0 : r = encS a0 ++ r0) (hno : No I64 le8 r0) : No OkOb encO r := by
  intro z s hz e
  obtain ⟨c0, c1, c2, c3, c4, c5, c6⟩ := z
  obtain ⟨g0, g1, g2, g3, g4, g5, g6⟩ := hz
  simp only [encO, List.append_assoc] at e
  rw [h0] at e
  obtain ⟨_, e⟩ := encS_pi x0 g0 e
  exact hno _ _ g1 e
theorem noOb2 {r : List UInt8} {a0 : ByteArray} {r0 : List UInt8} (x0 : Fits a0) (h0 : r = encS a0 ++ r0) {a1 : Int} {r1 : List UInt8} (x1 : I64 a1) (h1 : r0 = le8 a1 ++ r1) (hno : No (OkL OkIm) (encL encIm) r1) : No OkOb encO r := by
  intro z s hz e
  obtain ⟨c0, c1, c2, c3, c4, c5, c6⟩ := z
  obtain ⟨g0, g1, g2, g3, g4, g5, g6⟩ := hz
  simp only [encO, List.append_assoc] at e
  rw [h0] at e
  obtain ⟨_, e⟩ := encS_pi x0 g0 e
  rw [h1] at e
  obtain ⟨_, e⟩ := le8_pi x1 g1 e
  exact hno _ _ g2 e
theorem noOb3 {r : List UInt8} {a0 : ByteArray} {r0 : List UInt8} (x0 : Fits a0) (h0 : r = encS a0 ++ r0) {a1 : Int} {r1 : List UInt8} (x1 : I64 a1) (h1 : r0 = le8 a1 ++ r1) {a2 : List Im} {r2 : List UInt8} (x2 : (OkL OkIm) a2) (h2 : r1 = (encL encIm) a2 ++ r2) (hno : No (OkL OkSy) (encL encSy) r2) : No OkOb encO r := by
  intro z s hz e
  obtain ⟨c0, c1, c2, c3, c4, c5, c6⟩ := z
  obtain ⟨g0, g1, g2, g3, g4, g5, g6⟩ := hz
  simp only [encO, List.append_assoc] at e
  rw [h0] at e
  obtain ⟨_, e⟩ := encS_pi x0 g0 e
  rw [h1] at e
  obtain ⟨_, e⟩ := le8_pi x1 g1 e
  rw [h2] at e
  obtain ⟨_, e⟩ := list_pi pi_OkIm _ _ x2 g2 _ _ e
  exact hno _ _ g3 e
theorem noOb4 {r : List UInt8} {a0 : ByteArray} {r0 : List UInt8} (x0 : Fits a0) (h0 : r = encS a0 ++ r0) {a1 : Int} {r1 : List UInt8} (x1 : I64 a1) (h1 : r0 = le8 a1 ++ r1) {a2 : List Im} {r2 : List UInt8} (x2 : (OkL OkIm) a2) (h2 : r1 = (encL encIm) a2 ++ r2) {a3 : List Sy} {r3 : List UInt8} (x3 : (OkL OkSy) a3) (h3 : r2 = (encL encSy) a3 ++ r3) (hno : No (OkL OkRe) (encL encRe) r3) : No OkOb encO r := by
  intro z s hz e
  obtain ⟨c0, c1, c2, c3, c4, c5, c6⟩ := z
  obtain ⟨g0, g1, g2, g3, g4, g5, g6⟩ := hz
  simp only [encO, List.append_assoc] at e
  rw [h0] at e
  obtain ⟨_, e⟩ := encS_pi x0 g0 e
  rw [h1] at e
  obtain ⟨_, e⟩ := le8_pi x1 g1 e
  rw [h2] at e
  obtain ⟨_, e⟩ := list_pi pi_OkIm _ _ x2 g2 _ _ e
  rw [h3] at e
  obtain ⟨_, e⟩ := list_pi pi_OkSy _ _ x3 g3 _ _ e
  exact hno _ _ g4 e
theorem noOb5 {r : List UInt8} {a0 : ByteArray} {r0 : List UInt8} (x0 : Fits a0) (h0 : r = encS a0 ++ r0) {a1 : Int} {r1 : List UInt8} (x1 : I64 a1) (h1 : r0 = le8 a1 ++ r1) {a2 : List Im} {r2 : List UInt8} (x2 : (OkL OkIm) a2) (h2 : r1 = (encL encIm) a2 ++ r2) {a3 : List Sy} {r3 : List UInt8} (x3 : (OkL OkSy) a3) (h3 : r2 = (encL encSy) a3 ++ r3) {a4 : List Re} {r4 : List UInt8} (x4 : (OkL OkRe) a4) (h4 : r3 = (encL encRe) a4 ++ r4) (hno : No (OkL I64) (encL le8) r4) : No OkOb encO r := by
  intro z s hz e
  obtain ⟨c0, c1, c2, c3, c4, c5, c6⟩ := z
  obtain ⟨g0, g1, g2, g3, g4, g5, g6⟩ := hz
  simp only [encO, List.append_assoc] at e
  rw [h0] at e
  obtain ⟨_, e⟩ := encS_pi x0 g0 e
  rw [h1] at e
  obtain ⟨_, e⟩ := le8_pi x1 g1 e
  rw [h2] at e
  obtain ⟨_, e⟩ := list_pi pi_OkIm _ _ x2 g2 _ _ e
  rw [h3] at e
  obtain ⟨_, e⟩ := list_pi pi_OkSy _ _ x3 g3 _ _ e
  rw [h4] at e
  obtain ⟨_, e⟩ := list_pi pi_OkRe _ _ x4 g4 _ _ e
  exact hno _ _ g5 e
theorem noOb6 {r : List UInt8} {a0 : ByteArray} {r0 : List UInt8} (x0 : Fits a0) (h0 : r = encS a0 ++ r0) {a1 : Int} {r1 : List UInt8} (x1 : I64 a1) (h1 : r0 = le8 a1 ++ r1) {a2 : List Im} {r2 : List UInt8} (x2 : (OkL OkIm) a2) (h2 : r1 = (encL encIm) a2 ++ r2) {a3 : List Sy} {r3 : List UInt8} (x3 : (OkL OkSy) a3) (h3 : r2 = (encL encSy) a3 ++ r3) {a4 : List Re} {r4 : List UInt8} (x4 : (OkL OkRe) a4) (h4 : r3 = (encL encRe) a4 ++ r4) {a5 : List Int} {r5 : List UInt8} (x5 : (OkL I64) a5) (h5 : r4 = (encL le8) a5 ++ r5) (hno : No (OkL I64) (encL le8) r5) : No OkOb encO r := by
  intro z s hz e
  obtain ⟨c0, c1, c2, c3, c4, c5, c6⟩ := z
  obtain ⟨g0, g1, g2, g3, g4, g5, g6⟩ := hz
  simp only [encO, List.append_assoc] at e
  rw [h0] at e
  obtain ⟨_, e⟩ := encS_pi x0 g0 e
  rw [h1] at e
  obtain ⟨_, e⟩ := le8_pi x1 g1 e
  rw [h2] at e
  obtain ⟨_, e⟩ := list_pi pi_OkIm _ _ x2 g2 _ _ e
  rw [h3] at e
  obtain ⟨_, e⟩ := list_pi pi_OkSy _ _ x3 g3 _ _ e
  rw [h4] at e
  obtain ⟨_, e⟩ := list_pi pi_OkRe _ _ x4 g4 _ _ e
  rw [h5] at e
  obtain ⟨_, e⟩ := list_pi pi_I64 _ _ x5 g5 _ _ e
  exact hno _ _ g6 e

/-- a list half read; its slice v stands in a local struct at block bo; w1: the world when its count was read -/
def Tq {α : Type} (B : Nat) (W : World) (q : Nat) (k : Int) (bo : Nat) (ok : α → Prop) (enc : α → List UInt8) (nn : Nat) (ty : TypeId) (E : α → List Value → Prop) (w1 : World) (n : Nat) (r : List UInt8) (v : Value) (m : Nat) (wr : World) : Prop :=
  ∃ (l : List α) (rc : List UInt8) (xs : List Value), l.length + m = n ∧ n ≤ 262144 ∧ (∃ x c, v = .slice x l.length c) ∧ r = le8 n ++ (l.flatMap enc ++ rc) ∧ (∀ x ∈ l, ok x) ∧ RdAt B W wr q rc k ∧ Kp (fun b => b = q ∨ b = bo) w1 wr ∧
    wr.ownsRow w1.heap.size ty nn v l.length xs ∧ Row nn E l xs
section
variable {α : Type} {B : Nat} {W : World} {q : Nat} {r : List UInt8} {k : Int} {bo : Nat} {ok : α → Prop} {enc : α → List UInt8} {nn : Nat} {ty : TypeId} {E : α → List Value → Prop} {w1 : World} {n : Nat}
theorem Tq.start {r1 : List UInt8} (hn : n ≤ r1.length) (hr : r = le8 n ++ r1) (hrd : RdAt B W w1 q r1 k) : Tq B W q k bo ok enc nn ty E w1 n r (.slice none 0 0) n w1 :=
  ⟨[], r1, [], by simp, by have := hrd.len; omega, ⟨none, 0, rfl⟩, by simpa using hr, (fun x hx => by cases hx), hrd, Kp.refl _ _, ⟨by simp, .inl ⟨rfl, rfl⟩⟩, by simp, fun i hi => by simp at hi⟩
/-- one element more: w2: it is read, w3: it is appended, then the slice is laid into the struct -/
theorem Tq.step {x : Option Addr} {c m : Nat} {l : List α} {rc rc' : List UInt8} {xs cs : List Value} {wr w2 w3 : World} {y : α} {x' : Option Addr} {c' : Nat} {ob : Obj} {bcs : List Value} {bt : TypeId}
    (hq : q < w1.heap.size) (hb : bo < w1.heap.size) (hne : bo ≠ q) (hBq : B ≤ q) (hBb : B ≤ bo) (hl : l.length + (m + 1) = n) (hn : n ≤ 262144) (hr : r = le8 n ++ (l.flatMap enc ++ rc)) (hx : ∀ x ∈ l, ok x) (hk : Kp (fun b => b = q ∨ b = bo) w1 wr)
    (how : wr.ownsRow w1.heap.size ty nn (.slice x l.length c) l.length xs) (hrow : Row nn E l xs)
    (hy : ok y) (hre : rc = enc y ++ rc') (hcs : E y cs) (hcl : cs.length = nn) (hrd : RdAt B W w2 q rc' k) (hk2 : Kp (fun b => b = q ∨ b = bo) wr w2) (hblk : Blk w2 bo bcs bt)
    (ho : w3.ownsRow w1.heap.size ty nn (.slice x' (l.length + 1) c') (l.length + 1) (xs ++ cs)) (hg : (w2.alloc ob).grownBy w3 (Value.slice x l.length c).ownBlock)
    (hloc : (Value.slice x' (l.length + 1) c').ownBlock = (Value.slice x l.length c).ownBlock ∨ (Value.slice x' (l.length + 1) c').ownBlock = some (w2.alloc ob).heap.size) (i : Nat) :
    Blk w3 bo bcs bt ∧ Tq B W q k bo ok enc nn ty E w1 n r (.slice x' (l.length + 1) c') m (w3.setCell ⟨bo, i, none⟩ (.slice x' (l.length + 1) c')) ∧ Blk (w3.setCell ⟨bo, i, none⟩ (.slice x' (l.length + 1) c')) bo (bcs.set i (.slice x' (l.length + 1) c')) bt := by
  have hs1 := hk.size
  have hs2 := hk2.size
  have hs3 := hg.size
  have ha : (w2.alloc ob).heap.size = w2.heap.size + 1 := by simp
  have hnq : ∀ g, (Value.slice x l.length c).ownBlock = some g → w1.heap.size ≤ g ∧ g < wr.heap.size := fun g h => own_lt how h
  have keep : ∀ b, b < w2.heap.size → some b ≠ (Value.slice x l.length c).ownBlock → w3.heap[b]? = w2.heap[b]? := fun b hb hne =>
    (hg.block b (by omega) hne).trans (Below.heap_alloc w2 ob b hb)
  have k3 : Kp (fun b => some b = (Value.slice x l.length c).ownBlock) w2 w3 := ⟨hg.os, hg.tape, hg.output, by omega, fun b hb hne => keep b hb hne⟩
  have hb3 : Blk w3 bo bcs bt := hblk.kp k3 (fun e => by have := hnq bo e.symm; omega)
  have k4 : Kp (fun b => b = bo) w3 (w3.setCell ⟨bo, i, none⟩ (.slice x' (l.length + 1) c')) := (Kp.refl (fun b => b = bo) w3).setCell (p := ⟨bo, i, none⟩) (fun _ => rfl) _
  refine ⟨hb3, ⟨l ++ [y], rc', xs ++ cs, by rw [List.length_append, List.length_singleton]; omega, hn, ⟨x', c', by rw [List.length_append, List.length_singleton]⟩, ?_, ?_, ?_, ?_, ?_, Row.snoc hrow hcl hcs⟩, hb3.set i _⟩
  · rw [hr, hre, List.flatMap_append]; simp
  · intro z hz
    rcases List.mem_append.1 hz with hz | hz
    · exact hx z hz
    · rw [List.mem_singleton.1 hz]; exact hy
  · refine (hrd.kp k3 (fun b hb e => ?_) (fun e => ?_)).kp k4 (fun b hb e => by omega) (fun e => hne e.symm)
    · have := hnq b e.symm; omega
    · have := hnq q e.symm; omega
  · exact Kp.trans (Kp.trans (Kp.trans hk hk2 (fun _ _ x => x)) k3 (fun b hb e => by have := hnq b e.symm; omega)) k4 (fun b hb e => .inr e)
  · rw [List.length_append, List.length_singleton]
    refine own_kp ho k4 (fun g hg2 e => ?_)
    have := own_lt ho hg2
    omega
theorem Tq.slt {v : Value} {wr : World} (h : Tq B W q k bo ok enc nn ty E w1 n r v 0 wr) : ∃ (l : List α) (rc : List UInt8), r = encL enc l ++ rc ∧ OkL ok l ∧ RdAt B W wr q rc k ∧ Kp (fun b => b = q ∨ b = bo) w1 wr ∧ SlT (fun b => w1.heap.size ≤ b ∧ b < wr.heap.size) wr nn E l v := by
  obtain ⟨l, rc, xs, hl, hn, ⟨x, c, rfl⟩, hr, hx, hrd, hk, how, hrow⟩ := h
  refine ⟨l, rc, yes_list l hr (by omega), ⟨by omega, hx⟩, hrd, hk, x, c, rfl, by omega, fun hne => ?_⟩
  rcases how.2 with ⟨h1, h2⟩ | ⟨g, cap, cur, h1, h2, h3, _⟩
  · exact absurd (List.eq_nil_of_length_eq_zero h2) hne
  · injection h1 with h4 h5 h6
    subst h4
    subst h6
    have hlt := (Array.getElem?_eq_some_iff.1 h3).1
    refine ⟨g, 0, rfl, ⟨h2, hlt⟩, fun j => by simp [World.frozen?, h3], fun i hi => ⟨(xs.drop (i * nn)).take nn, ?_, ?_, hrow.2 i hi⟩⟩
    · rw [List.length_take, List.length_drop, hrow.1]
      have := Nat.mul_le_mul_right nn (show i + 1 ≤ l.length from hi)
      rw [Nat.add_mul, Nat.one_mul] at this
      omega
    · intro j hj
      have h8 := List.getElem?_eq_getElem hj
      rw [h8]
      rw [List.getElem?_take_of_lt (by rw [List.length_take] at hj; omega), List.getElem?_drop] at h8
      have h9 := how.cells (g := g) rfl (i * nn + j) _ h8
      have e : (⟨g, 0, none⟩ : Addr).add (i * nn + j) = ⟨g, 0 + i * nn + j, none⟩ := by unfold Addr.add; split <;> simp_all
      rw [← e]; exact h9
theorem Tq.fails (hpi : PI ok ok enc) {m : Nat} {l : List α} {rc : List UInt8} (hl : l.length + (m + 1) = n) (hn : n ≤ 262144) (hr : r = le8 n ++ (l.flatMap enc ++ rc)) (hx : ∀ x ∈ l, ok x) (hno : No ok enc rc) : No (OkL ok) (encL enc) r :=
  no_list hpi l (by omega) hr (by omega) hx hno
end
theorem info_Wd : (Try.prog.info? 2).map (fun i => (i.zero, i.size, i.bytes)) = some (some (.int .i64 0), 1, 8) := by kernel_rfl
theorem info_Im : (Try.prog.info? 51).map (fun i => (i.zero, i.size, i.bytes)) = some (some (.agg #[.string ⟨#[]⟩, .int .i64 0]), 2, 24) := by kernel_rfl
theorem info_Sy : (Try.prog.info? 44).map (fun i => (i.zero, i.size, i.bytes)) = some (some (.agg #[.string ⟨#[]⟩, .int .i64 0, .bool false, .int .i64 0, .int .i64 0, .int .i64 0]), 6, 56) := by kernel_rfl
theorem info_Re : (Try.prog.info? 64).map (fun i => (i.zero, i.size, i.bytes)) = some (some (.agg #[.bool false, .int .i64 0, .string ⟨#[]⟩]), 3, 32) := by kernel_rfl
set_option maxRecDepth 100000 in
set_option maxHeartbeats 1000000 in
theorem twords {B : Nat} {W : World} {q : Nat} {k : Int} (w : World) (r : List UInt8) (h : RdAt B W w q r k) :
    Calls Try.prog 68 #[.pointer (some ⟨q, 0, none⟩)] w (Rp B W q r k (OkL I64) (encL le8) (VL 1 WdT) w) := by
  have HC := Lib.hid (rcount h)
  have hq := Lib.hid h.lt
  have hB := Lib.hid h.2.1
  obtain ⟨i0, hi, hz0, hz1, hz2⟩ := info_parts info_Wd
  clear h
  go_enter Try.func68, Try.ntmps68
  go_wp2_with fail
  refine (HC.out).mono ?_
  rintro e1 w1 (⟨n, r1, rfl, hr, hn, hrd, hk⟩ | ⟨rfl, hno, hk⟩)
  rotate_left
  · unfold PAN
    go_wp2_with fail
    exact ⟨rfl, .inr ⟨rfl, hno.no (E := I64) pos_Wd, hk⟩⟩
  · have I0 := Lib.hid (Tk.start (ok := I64) (enc := le8) (nn := 1) (ty := 2) (E := WdT) hn hr hrd hk)
    clear HC hn hr hrd hk
    go_wp2_with fail
    go_loopw [3, 4] (fun v i wr => ∃ m0 : Nat, m0 ≤ n ∧ i = .int .i64 m0 ∧ Tk B W q r k I64 le8 1 2 WdT w n v m0 wr) (fun _ i _ => (intOf i).toNat)
    case atStart => exact ⟨n, Nat.le_refl _, rfl, I0.out⟩
    case round =>
      obtain ⟨m0, hm0, rfl, hI⟩ := hrel
      by_cases hlt : 0 < m0
      · obtain ⟨m1, rfl⟩ : ∃ m1, m0 = m1 + 1 := ⟨m0 - 1, by omega⟩
        obtain ⟨l, rc, xs, hl, hn, ⟨x, c, rfl⟩, hr, hx, hrd, hk, how, hrow⟩ := hI
        obtain ⟨ll, hll⟩ : ∃ ll, ll = l.length := ⟨_, rfl⟩
        have HL := Lib.hid hl
        have HN := Lib.hid hn
        have HR := Lib.hid hr
        have HX := Lib.hid hx
        have HK := Lib.hid hk
        have HOW := Lib.hid how
        have HROW := Lib.hid hrow
        have HRD := Lib.hid hrd
        have LL := Lib.hid hll
        rw [← hll]
        clear hl hr hx hk how hrow hrd hll I0
        have hm1 : (m1 : Int) ≤ 262144 := by omega
        have hw0 : IntKind.i64.wrap ((m1 : Int) + 1 - 1) = m1 := by rw [IntWalk.i64_in _ (by omega)]; omega
        have hw1 : (0 : Int) < (m1 : Int) + 1 := by omega
        go_wp2_with fail
        refine (rnum HRD.out).mono ?_
        rintro e2 w2 (⟨y, rc', _, rfl, hy, hre, rfl, hrd2, hk2⟩ | ⟨rfl, hno, hk2⟩)
        · have ST := Lib.hid (fun (x' : Option Addr) (c' : Nat) (w3 : World) (ho : w3.ownsRow w.heap.size 2 1 (.slice x' (l.length + 1) c') (l.length + 1) (xs ++ [.int .i64 y])) (hg : (w2.alloc (.cells #[.int .i64 y] 2)).grownBy w3 (Value.slice x l.length c).ownBlock) hloc =>
            Tk.step carry_Wd (ob := .cells #[.int .i64 y] 2) hq.out hB.out HL.out HN.out HR.out HX.out HK.out HOW.out HROW.out hy hre ⟨rfl, hy⟩ rfl hrd2 hk2 ho hg hloc)
          have HO2 := Lib.hid ((own_kp HOW.out hk2 (fun g hg e => by have := own_lt HOW.out hg; have := hq.out; omega)).alloc (.cells #[.int .i64 y] 2))
          have HN1 := Lib.hid (cells_new w2 [.int .i64 y] 2)
          have HN2 := Lib.hid (show ∀ u ∈ [(.int .i64 y : Value)], u.oneCell' = true from by
            intro u hu
            simp only [List.mem_cons, List.not_mem_nil, or_false] at hu
            subst hu; rfl)
          have H63 := Lib.hid (show l.length + 1 ≤ maxLen by have := HL.out; have := HN.out; unfold maxLen; omega)
          have HBY := Lib.hid (show (l.length + 1) * 8 ≤ 140737488355328 by have := HL.out; have := HN.out; omega)
          have HBS := Lib.hid (show w.heap.size ≤ (w2.alloc (.cells #[.int .i64 y] 2)).heap.size by have := HK.out.size; have := hk2.size; simp; omega)
          clear hy hre hrd2 hk2
          rw [← LL.out] at ST HO2 H63 HBY
          go_wp2_with (at_builtin; refine wpList_app _ rfl (.tmp 11) (.tmp 14) 25 rfl w.heap.size 2 i0 (.int .i64 0) 1 8 Try.underlying25 hi hz0 hz1 hz2 rfl (by decide) _ _ _ rfl HO2.out ⟨w2.heap.size, 0, none⟩ 1 1 [.int .i64 y] rfl rfl HN1.out HN2.out H63.out HBY.out HBS.out ?_; intro x' c' w3 ho hg hl'; have S3 := Lib.hid (ST.out x' c' w3 ho hg hl'); clear ho hg hl')
          go_wp2_with fail
          go_roundw
          case rel => exact ⟨m1, by omega, by first | rfl | go_num, S3.out⟩
          case measure => simp [intOf] <;> omega
        · have FAIL := Lib.hid (Tk.fails (B := B) (W := W) (k := k) (nn := 1) (E := WdT) pi_I64 HL.out HN.out HR.out HX.out HK.out hno hk2)
          clear hno hk2
          unfold PAN
          go_wp2_with fail
          exact ⟨rfl, FAIL.out⟩
      · obtain rfl : m0 = 0 := by omega
        have FIN := Lib.hid (Tk.done carry_Wd hI)
        clear hI I0
        go_wp2_with fail
        go_returns
        exact FIN.out
end Go.Proofs.Ytfdjlicegfgodaa
