/- MachNil: a machine that there is not answers nothing. -/
import Derived.Test.YthlcoocboidnlaaMach22
namespace Go.Proofs.Ythlcoocboidnlaa
open Go.RowKit
set_option linter.unusedSimpArgs false
set_option linter.unusedVariables false

set_option maxRecDepth 100000 in
set_option maxHeartbeats 1000000 in
theorem step_nil (w : World) : Calls Try.prog 24 #[.pointer none] w (BoolPost w false) := by
  have N0 := Lib.hid (Nw.new w (.cells #[.pointer none] 30))
  have B0 := Lib.hid (Blk.new w [.pointer none] 30)
  go_enter_defers Try.func24, Try.ntmps24
  go_upto_region 1 with fail
  generalize (w.alloc (.cells #[.pointer none] 30)) = w0 at *
  generalize w.heap.size = bx at *
  have cb := B0.out.cell 0
  simp only [List.getElem?_cons_zero] at cb
  go_wp2_with fail
  exact ⟨_, step_res rfl, rfl, N0.out⟩
set_option maxRecDepth 100000 in
set_option maxHeartbeats 1000000 in
theorem pc_nil (w : World) : Calls Try.prog 26 #[.pointer none] w (NumP 0 w) := by
  go_enter Try.func26, Try.ntmps26
  go_wp2_with fail
  go_returns
  exact ⟨rfl, rfl⟩
set_option maxRecDepth 100000 in
set_option maxHeartbeats 1000000 in
theorem reg_nil (w : World) (i : Int) : Calls Try.prog 16 #[.pointer none, .int .i64 i] w (NumP 0 w) := by
  go_enter Try.func16, Try.ntmps16
  go_wp2_with fail
  go_returns
  exact ⟨rfl, rfl⟩
set_option maxRecDepth 100000 in
set_option maxHeartbeats 1000000 in
theorem mem_nil (w : World) (i : Int) : Calls Try.prog 28 #[.pointer none, .int .i64 i] w (NumP 0 w) := by
  go_enter Try.func28, Try.ntmps28
  go_wp2_with fail
  go_returns
  exact ⟨rfl, rfl⟩
def NilOut (w : World) (e : Ending) (w' : World) : Prop := e = .returned (.agg #[.int .i64 0, .int .i64 0, .slice none 0 0, .int .i64 0]) ∧ Nw w w'
set_option maxRecDepth 100000 in
set_option maxHeartbeats 1000000 in
theorem mrun_nil (w : World) (n : Int) : Calls Try.prog 15 #[.pointer none, .int .i64 n] w (NilOut w) := by
  have N0 := Lib.hid (Nw.new w (.cells #[.int .i64 0, .int .i64 0, .slice none 0 0, .int .i64 0] 37))
  have B0 := Lib.hid (Blk.new w [.int .i64 0, .int .i64 0, .slice none 0 0, .int .i64 0] 37)
  go_enter Try.func15, Try.ntmps15
  go_upto_region 1 with fail
  generalize w.alloc (.cells #[.int .i64 0, .int .i64 0, .slice none 0 0, .int .i64 0] 37) = w0 at *
  obtain ⟨q, hqq⟩ : ∃ q, q = w.heap.size := ⟨_, rfl⟩
  rw [← hqq] at B0 ⊢
  have HQ := Lib.hid hqq
  clear hqq
  have FX := Lib.hid (fun (wx : World) (hx : Nw w wx) => Kp.sets (S := fun _ => False) (b := q) hx (fun h => by have := HQ.out; omega) 0 [.int .i64 0, .int .i64 0, .slice none 0 0, .int .i64 0])
  go_loopw [1] (fun i wr => i = .int .i64 n ∧ Nw w0 wr) (fun i _ => 0)
  case atStart => exact ⟨rfl, Nw.refl _⟩
  case round =>
    obtain ⟨rfl, hkr⟩ := hrel
    have KR := Lib.hid hkr
    clear hkr
    by_cases hn : 0 < n
    · go_wp2_with fail
      refine (step_nil _).mono ?_
      rintro e1 w1 ⟨rfl, k1⟩
      have K1 := Lib.hid (KR.out.trans k1)
      clear k1
      go_wp2_with fail
      refine (outcome_nil _).mono ?_
      rintro e2 w2 ⟨rfl, k2⟩
      have K2 := Lib.hid (K1.out.trans k2)
      have B2 := Lib.hid (B0.out.nw K2.out)
      have cR := B2.out.cell
      have zR := B2.out.frozen
      have FIN := Lib.hid (FX.out w2 (N0.out.trans K2.out))
      have FB := Lib.hid (Blk.sets B2.out 0 [.int .i64 0, .int .i64 0, .slice none 0 0, .int .i64 0])
      clear k2
      go_wp2_with fail
      refine bodyPost_ret (v := .agg #[.int .i64 0, .int .i64 0, .slice none 0 0, .int .i64 0]) (mrun_res rfl FB.out) rfl ⟨rfl, FIN.out⟩
    · go_wp2_with fail
      refine (outcome_nil _).mono ?_
      rintro e2 w2 ⟨rfl, k2⟩
      have K2 := Lib.hid (KR.out.trans k2)
      have B2 := Lib.hid (B0.out.nw K2.out)
      have cR := B2.out.cell
      have zR := B2.out.frozen
      have FIN := Lib.hid (FX.out w2 (N0.out.trans K2.out))
      have FB := Lib.hid (Blk.sets B2.out 0 [.int .i64 0, .int .i64 0, .slice none 0 0, .int .i64 0])
      clear k2
      go_wp2_with fail
      refine bodyPost_ret (v := .agg #[.int .i64 0, .int .i64 0, .slice none 0 0, .int .i64 0]) (mrun_res rfl FB.out) rfl ⟨rfl, FIN.out⟩
theorem same_zero (w : World) : Calls Try.prog 20 #[.agg #[.int .i64 0, .int .i64 0, .slice none 0 0, .int .i64 0], .agg #[.int .i64 0, .int .i64 0, .slice none 0 0, .int .i64 0]] w (BoolPost w true) :=
  same_true w ⟨0, 0, [], 0⟩ none none 0 0 (BytesAt.nil w) (BytesAt.nil w)
set_option maxRecDepth 100000 in
set_option maxHeartbeats 1000000 in
theorem machNil_walk (w : World) (i : Int) : Calls Try.prog 11 #[.int .i64 i] w (BoolPost w true) := by
  go_enter Try.func11, Try.ntmps11
  go_wp2_with fail
  refine (step_nil _).mono ?_
  rintro e1 w1 ⟨rfl, k1⟩
  have K1 := Lib.hid k1
  clear k1
  go_wp2_with fail
  refine (mrun_nil _ _).mono ?_
  rintro e2 w2 ⟨rfl, k2⟩
  have K2 := Lib.hid (K1.out.trans k2)
  clear k2
  go_wp2_with fail
  refine (same_zero _).mono ?_
  rintro e3 w3 ⟨rfl, k3⟩
  have K3 := Lib.hid (K2.out.trans k3)
  clear k3
  go_wp2_with fail
  refine (outcome_nil _).mono ?_
  rintro e4 w4 ⟨rfl, k4⟩
  have K4 := Lib.hid (K3.out.trans k4)
  clear k4
  go_wp2_with fail
  refine (same_zero _).mono ?_
  rintro e5 w5 ⟨rfl, k5⟩
  have K5 := Lib.hid (K4.out.trans k5)
  clear k5
  go_wp2_with fail
  refine (pc_nil _).mono ?_
  rintro e6 w6 ⟨rfl, rfl⟩
  go_wp2_with fail
  refine (reg_nil _ _).mono ?_
  rintro e7 w7 ⟨rfl, rfl⟩
  go_wp2_with fail
  refine (mem_nil _ _).mono ?_
  rintro e8 w8 ⟨rfl, rfl⟩
  go_wp2_with fail
  refine (awake_any _).mono ?_
  rintro e9 w9 ⟨rfl, k9⟩
  go_wp2_with fail
  go_returns
  exact ⟨rfl, K5.out.trans k9⟩
end Go.Proofs.Ythlcoocboidnlaa
