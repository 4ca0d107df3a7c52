/- Words used by the walks of seats other than chapter 8's: new blocks alone; the truth of a proposition. -/
import Derived.Test.YtfdjlicegfgodaaCore
import Derived.Deep.QuietTactic
import Derived.BigQuiet
import Derived.Deep.RegionHeld3
import Derived.Deep.DeepCutAuto
import Derived.Handy
namespace Go.Proofs.Ytfdjlicegfgodaa
open Go.RowKit
set_option linter.unusedVariables false

/-- what came in lies as it did in W, below B -/
structure In (B : Nat) (W w : World) : Prop where
  bel : Below B W w
  le : B ≤ w.heap.size
/-- new blocks alone -/
def Nw (w w' : World) : Prop := Kp (fun _ => False) w w'
theorem Nw.refl (w : World) : Nw w w := Kp.refl _ w
theorem Nw.trans {a b c : World} (h : Nw a b) (k : Nw b c) : Nw a c := Kp.trans h k (fun _ _ x => x)
theorem Nw.alloc {a w : World} (h : Nw a w) (o : Obj) : Nw a (w.alloc o) := Kp.alloc h o
theorem Nw.drew {a w : World} (h : Nw a w) : Nw a w.drew := Kp.drew h
theorem Nw.drewN {a w : World} (h : Nw a w) (n : Nat) : Nw a (w.drewN n) := Kp.drewN h n
theorem Nw.new (w : World) (o : Obj) : Nw w (w.alloc o) := (Nw.refl w).alloc o
theorem Nw.keeps {w w' : World} (h : Nw w w') {p : Addr} {v : Value} (hv : w.cell? p = some v) : w'.cell? p = some v := Kp.keeps h hv (fun x => x)
theorem In.nw {B : Nat} {W w w' : World} (h : In B W w) (k : Nw w w') : In B W w' :=
  ⟨h.bel.trans (Kp.below k h.le (fun _ _ x => x)), Nat.le_trans h.le k.size⟩
theorem In.alloc {B : Nat} {W w : World} (h : In B W w) (o : Obj) : In B W (w.alloc o) := h.nw (Nw.new w o)
theorem In.self (w : World) : In w.heap.size w w := ⟨Below.refl _ w, Nat.le_refl _⟩
theorem Blk.nw {w w' : World} {b : Nat} {cs : List Value} {t : TypeId} (h : Blk w b cs t) (k : Nw w w') : Blk w' b cs t := h.kp k (fun x => x)
/-- a truth is handed back, with new blocks alone -/
def BoolPost (w : World) (b : Bool) (e : Ending) (w' : World) : Prop := e = .returned (.bool b) ∧ Nw w w'
theorem BoolPost.fin {w w' : World} {b : Bool} {e : Ending} (h : BoolPost w b e w') : e = .returned (.bool b) ∧ Below w.heap.size w w' :=
  ⟨h.1, Kp.below h.2 (Nat.le_refl _) (fun _ _ x => x)⟩
noncomputable def dc (p : Prop) : Bool := @decide p (Classical.propDecidable p)
theorem dc_true {p : Prop} (h : p) : dc p = true := by simp [dc, h]
theorem dc_false {p : Prop} (h : ¬ p) : dc p = false := by simp [dc, h]
theorem int_ne {a b : Int} (h : ¬ a = b) : (a == b) = false ∧ (a != b) = true ∧ decide (a = b) = false ∧ decide (¬ a = b) = true := by
  refine ⟨beq_eq_false_iff_ne.2 h, ?_, decide_eq_false h, decide_eq_true h⟩
  simp [h]
/-- cells laid one behind the other -/
def lays (w : World) (b o : Nat) : List Value → World
  | [] => w
  | v :: r => lays (w.setCell ⟨b, o, none⟩ v) b (o + 1) r
def laysL (cs : List Value) (o : Nat) : List Value → List Value
  | [] => cs
  | v :: r => laysL (cs.set o v) (o + 1) r
theorem size_sets (w : World) (b o : Nat) (vs : List Value) : (lays w b o vs).heap.size = w.heap.size := by
  induction vs generalizing w o with
  | nil => rfl
  | cons v r ih => rw [lays, ih]; simp [World.setCell]
theorem size_alloc (w : World) (o : Obj) : (w.alloc o).heap.size = w.heap.size + 1 := by simp
theorem Kp.sets {S : Nat → Prop} {a w : World} (h : Kp S a w) {b : Nat} (hb : b < a.heap.size → S b) (o : Nat) (vs : List Value) : Kp S a (lays w b o vs) := by
  induction vs generalizing w o with
  | nil => exact h
  | cons v r ih => exact ih (h.setCell (p := ⟨b, o, none⟩) hb v) (o + 1)
theorem Blk.sets {w : World} {b : Nat} {cs : List Value} {t : TypeId} (h : Blk w b cs t) (o : Nat) (vs : List Value) : Blk (lays w b o vs) b (laysL cs o vs) t := by
  induction vs generalizing w o cs with
  | nil => exact h
  | cons v r ih => exact ih (h.set o v) (o + 1)
theorem Blk.setsO {w : World} {b b' : Nat} {cs : List Value} {t : TypeId} (h : Blk w b cs t) (hne : b ≠ b') (o : Nat) (vs : List Value) : Blk (lays w b' o vs) b cs t := by
  induction vs generalizing w o with
  | nil => exact h
  | cons v r ih => exact ih (h.setOther (a := ⟨b', o, none⟩) hne v) (o + 1)
end Go.Proofs.Ytfdjlicegfgodaa
