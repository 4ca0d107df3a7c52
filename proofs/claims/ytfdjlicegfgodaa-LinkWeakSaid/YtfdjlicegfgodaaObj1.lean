/- Objects as Lean's own data, and where they lie; names and symbols: the program's functions and the document's. -/
import Derived.Test.YtfdjlicegfgodaaIsa7
import Derived.Test.YtfdjlicegfgodaaData
namespace Go.Proofs.Ytfdjlicegfgodaa
open Go.RowKit
set_option linter.unusedSimpArgs false
set_option linter.unusedVariables false

structure Sy where
  name : ByteArray
  kind : Int
  weak : Bool
  at_ : Int
  size : Int
  frame : Int
structure Re where
  data : Bool
  at_ : Int
  name : ByteArray
structure Ob where
  pkg : ByteArray
  hash : Int
  imports : List Im
  syms : List Sy
  relocs : List Re
  code : List Int
  data : List Int
def SyAt (s : Sy) (cs : List Value) : Prop := cs = [.string s.name, .int .i64 s.kind, .bool s.weak, .int .i64 s.at_, .int .i64 s.size, .int .i64 s.frame] ∧ Fits s.name ∧ I64 s.kind ∧ I64 s.at_ ∧ I64 s.size ∧ I64 s.frame
def ReAt (r : Re) (cs : List Value) : Prop := cs = [.bool r.data, .int .i64 r.at_, .string r.name] ∧ I64 r.at_ ∧ Fits r.name
def WdAt (n : Int) (cs : List Value) : Prop := cs = [.int .i64 n] ∧ I64 n
def ObAt (B : Nat) (W : World) (o : Ob) (cs : List Value) : Prop := ∃ vi vs vr vc vd, cs = [.string o.pkg, .int .i64 o.hash, vi, vs, vr, vc, vd] ∧ Fits o.pkg ∧ I64 o.hash ∧
  SlB B W 2 ImAt o.imports vi ∧ SlB B W 6 SyAt o.syms vs ∧ SlB B W 3 ReAt o.relocs vr ∧ SlB B W 1 WdAt o.code vc ∧ SlB B W 1 WdAt o.data vd

def nameB (s : ByteArray) : Bool := decide (1 ≤ s.size ∧ s.size ≤ 60)
def LiesP (nc nd : Nat) (kind at_ size frame : Int) : Prop :=
  (kind = 1 ∧ 0 ≤ at_ ∧ 0 ≤ size ∧ at_ + size ≤ nc ∧ 1 ≤ size ∧ 0 ≤ frame ∧ frame ≤ 262144) ∨ (kind = 2 ∧ frame = 0 ∧ 0 ≤ at_ ∧ 0 ≤ size ∧ at_ + size ≤ nd)
instance (nc nd : Nat) (kind at_ size frame : Int) : Decidable (LiesP nc nd kind at_ size frame) := by unfold LiesP; infer_instance
def liesB (nc nd : Nat) (kind at_ size frame : Int) : Bool := decide (LiesP nc nd kind at_ size frame)

set_option maxRecDepth 100000 in
theorem name_is (w : World) (s : ByteArray) : Calls Try.prog 27 #[.string s] w fun e w' => e = .returned (.bool (nameB s)) ∧ w = w' := by
  by_cases h1 : (1 : Int) ≤ (s.size : Int)
  · by_cases h2 : (s.size : Int) ≤ 60
    · have HR := Lib.hid (show nameB s = true from decide_eq_true (by omega))
      rw [HR.out]
      go_enter Try.func27, Try.ntmps27
      go_wp2_with fail
      go_returns
      exact ⟨rfl, rfl⟩
    · have HR := Lib.hid (show nameB s = false from decide_eq_false (by omega))
      rw [HR.out]
      go_enter Try.func27, Try.ntmps27
      go_wp2_with fail
      go_returns
      exact ⟨rfl, rfl⟩
  · have HR := Lib.hid (show nameB s = false from decide_eq_false (by omega))
    rw [HR.out]
    go_enter Try.func27, Try.ntmps27
    go_wp2_with fail
    go_returns
    exact ⟨rfl, rfl⟩
set_option maxRecDepth 100000 in
theorem rname_is (w : World) (s : ByteArray) : Calls Try.prog 30 #[.string s] w fun e w' => e = .returned (.bool (nameB s)) ∧ w = w' := by
  by_cases h1 : (1 : Int) ≤ (s.size : Int)
  · by_cases h2 : (s.size : Int) ≤ 60
    · have HR := Lib.hid (show nameB s = true from decide_eq_true (by omega))
      rw [HR.out]
      go_enter Try.func30, Try.ntmps30
      go_wp2_with fail
      go_returns
      exact ⟨rfl, rfl⟩
    · have HR := Lib.hid (show nameB s = false from decide_eq_false (by omega))
      rw [HR.out]
      go_enter Try.func30, Try.ntmps30
      go_wp2_with fail
      go_returns
      exact ⟨rfl, rfl⟩
  · have HR := Lib.hid (show nameB s = false from decide_eq_false (by omega))
    rw [HR.out]
    go_enter Try.func30, Try.ntmps30
    go_wp2_with fail
    go_returns
    exact ⟨rfl, rfl⟩
set_option maxRecDepth 100000 in
set_option maxHeartbeats 2000000 in
theorem lies_any (w : World) (nm : ByteArray) (kind : Int) (wk : Bool) (at_ size frame : Int) (a0 a1 a2 a3 a4 : Value) (x5 : Option Addr) (nc c5 : Nat) (x6 : Option Addr) (nd c6 : Nat)
    (hc : nc ≤ 140737488355328) (hd : nd ≤ 140737488355328) :
    Calls Try.prog 28 #[.agg #[.string nm, .int .i64 kind, .bool wk, .int .i64 at_, .int .i64 size, .int .i64 frame], .agg #[a0, a1, a2, a3, a4, .slice x5 nc c5, .slice x6 nd c6]] w (BoolPost w (liesB nc nd kind at_ size frame)) := by
  have N0 := Lib.hid (show Nw w ((w.alloc (.cells #[.string nm, .int .i64 kind, .bool wk, .int .i64 at_, .int .i64 size, .int .i64 frame] 44)).alloc (.cells #[a0, a1, a2, a3, a4, .slice x5 nc c5, .slice x6 nd c6] 27)) from ((Nw.refl w).alloc _).alloc _)
  have cA := ((Blk.new w [.string nm, .int .i64 kind, .bool wk, .int .i64 at_, .int .i64 size, .int .i64 frame] 44).alloc (.cells #[a0, a1, a2, a3, a4, .slice x5 nc c5, .slice x6 nd c6] 27)).cell
  have cB := (show Blk ((w.alloc (.cells #[.string nm, .int .i64 kind, .bool wk, .int .i64 at_, .int .i64 size, .int .i64 frame] 44)).alloc (.cells #[a0, a1, a2, a3, a4, .slice x5 nc c5, .slice x6 nd c6] 27)) (w.heap.size + 1) [a0, a1, a2, a3, a4, .slice x5 nc c5, .slice x6 nd c6] 27 from by
    have := Blk.new (w.alloc (.cells #[.string nm, .int .i64 kind, .bool wk, .int .i64 at_, .int .i64 size, .int .i64 frame] 44)) [a0, a1, a2, a3, a4, .slice x5 nc c5, .slice x6 nd c6] 27
    rw [size_alloc] at this; exact this).cell
  by_cases hk : kind = 1
  · subst hk
    by_cases h1 : at_ < 0
    · have HR := Lib.hid (show liesB nc nd 1 at_ size frame = false from decide_eq_false (by unfold LiesP; omega))
      rw [HR.out]
      go_enter Try.func28, Try.ntmps28
      go_wp2_with fail
      go_returns
      exact ⟨rfl, N0.out⟩
    by_cases h2 : (nc : Int) < at_
    · have HR := Lib.hid (show liesB nc nd 1 at_ size frame = false from decide_eq_false (by unfold LiesP; omega))
      rw [HR.out]
      go_enter Try.func28, Try.ntmps28
      go_wp2_with fail
      go_returns
      exact ⟨rfl, N0.out⟩
    have hw : wrap64 (((nc : Nat) : Int) - at_) = ((nc : Nat) : Int) - at_ := w64_in (by omega)
    by_cases h3 : size < 0
    · have HR := Lib.hid (show liesB nc nd 1 at_ size frame = false from decide_eq_false (by unfold LiesP; omega))
      rw [HR.out]
      go_enter Try.func28, Try.ntmps28
      go_wp2_with fail
      go_returns
      exact ⟨rfl, N0.out⟩
    by_cases h4 : (nc : Int) - at_ < size
    · have HR := Lib.hid (show liesB nc nd 1 at_ size frame = false from decide_eq_false (by unfold LiesP; omega))
      rw [HR.out]
      go_enter Try.func28, Try.ntmps28
      go_wp2_with fail
      go_returns
      exact ⟨rfl, N0.out⟩
    by_cases h5 : ¬ 1 ≤ size
    · have HR := Lib.hid (show liesB nc nd 1 at_ size frame = false from decide_eq_false (by unfold LiesP; omega))
      rw [HR.out]
      go_enter Try.func28, Try.ntmps28
      go_wp2_with fail
      go_returns
      exact ⟨rfl, N0.out⟩
    by_cases h6 : ¬ 0 ≤ frame
    · have HR := Lib.hid (show liesB nc nd 1 at_ size frame = false from decide_eq_false (by unfold LiesP; omega))
      rw [HR.out]
      go_enter Try.func28, Try.ntmps28
      go_wp2_with fail
      go_returns
      exact ⟨rfl, N0.out⟩
    by_cases h7 : ¬ frame ≤ 262144
    · have HR := Lib.hid (show liesB nc nd 1 at_ size frame = false from decide_eq_false (by unfold LiesP; omega))
      rw [HR.out]
      go_enter Try.func28, Try.ntmps28
      go_wp2_with fail
      go_returns
      exact ⟨rfl, N0.out⟩
    have HR := Lib.hid (show liesB nc nd 1 at_ size frame = true from decide_eq_true (by unfold LiesP; omega))
    rw [HR.out]
    go_enter Try.func28, Try.ntmps28
    go_wp2_with fail
    go_returns
    exact ⟨rfl, N0.out⟩
  · obtain ⟨kn1, kn2, kn3, kn4⟩ := int_ne hk
    by_cases h1 : at_ < 0
    · have HR := Lib.hid (show liesB nc nd kind at_ size frame = false from decide_eq_false (by unfold LiesP; omega))
      rw [HR.out]
      go_enter Try.func28, Try.ntmps28
      go_wp2_with fail
      go_returns
      exact ⟨rfl, N0.out⟩
    by_cases h2 : (nd : Int) < at_
    · have HR := Lib.hid (show liesB nc nd kind at_ size frame = false from decide_eq_false (by unfold LiesP; omega))
      rw [HR.out]
      go_enter Try.func28, Try.ntmps28
      go_wp2_with fail
      go_returns
      exact ⟨rfl, N0.out⟩
    have hw : wrap64 (((nd : Nat) : Int) - at_) = ((nd : Nat) : Int) - at_ := w64_in (by omega)
    by_cases h3 : size < 0
    · have HR := Lib.hid (show liesB nc nd kind at_ size frame = false from decide_eq_false (by unfold LiesP; omega))
      rw [HR.out]
      go_enter Try.func28, Try.ntmps28
      go_wp2_with fail
      go_returns
      exact ⟨rfl, N0.out⟩
    by_cases h4 : (nd : Int) - at_ < size
    · have HR := Lib.hid (show liesB nc nd kind at_ size frame = false from decide_eq_false (by unfold LiesP; omega))
      rw [HR.out]
      go_enter Try.func28, Try.ntmps28
      go_wp2_with fail
      go_returns
      exact ⟨rfl, N0.out⟩
    by_cases hk2 : kind = 2
    · subst hk2
      by_cases hf : frame = 0
      · subst hf
        have HR := Lib.hid (show liesB nc nd 2 at_ size 0 = true from decide_eq_true (by unfold LiesP; omega))
        rw [HR.out]
        go_enter Try.func28, Try.ntmps28
        go_wp2_with fail
        go_returns
        exact ⟨rfl, N0.out⟩
      · obtain ⟨fn1, fn2, fn3, fn4⟩ := int_ne hf
        have HR := Lib.hid (show liesB nc nd 2 at_ size frame = false from decide_eq_false (by unfold LiesP; omega))
        rw [HR.out]
        go_enter Try.func28, Try.ntmps28
        go_wp2_with fail
        go_returns
        exact ⟨rfl, N0.out⟩
    · obtain ⟨ln1, ln2, ln3, ln4⟩ := int_ne hk2
      have HR := Lib.hid (show liesB nc nd kind at_ size frame = false from decide_eq_false (by unfold LiesP; omega))
      rw [HR.out]
      go_enter Try.func28, Try.ntmps28
      go_wp2_with fail
      go_returns
      exact ⟨rfl, N0.out⟩
end Go.Proofs.Ytfdjlicegfgodaa
