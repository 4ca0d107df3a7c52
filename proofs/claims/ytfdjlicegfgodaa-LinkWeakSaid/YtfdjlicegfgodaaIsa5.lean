/- The document's instructions: names, uses, registers. -/
import Derived.Test.YtfdjlicegfgodaaIsa4
namespace Go.Proofs.Ytfdjlicegfgodaa
open Go.RowKit
set_option linter.unusedSimpArgs false
set_option linter.unusedVariables false

theorem str_ne {a b : ByteArray} (h : ¬ a = b) : (a.toList == b.toList) = false ∧ (a.toList != b.toList) = true ∧ decide (a.toList = b.toList) = false ∧ decide (¬ a.toList = b.toList) = true := by
  have hn : ¬ a.toList = b.toList := fun e => h (by
    rw [ByteArray.toList_eq, ByteArray.toList_eq] at e
    cases a; cases b
    simp at e
    rw [e])
  refine ⟨beq_eq_false_iff_ne.2 hn, ?_, decide_eq_false hn, decide_eq_true hn⟩
  simp [hn]
theorem str_full {nm : ByteArray} (h : ¬ nm = ⟨#[]⟩) : nm.toList.isEmpty = false := by
  cases hh : nm.toList.isEmpty with
  | false => rfl
  | true =>
    refine absurd ?_ h
    have h1 := List.isEmpty_iff.1 hh
    rw [ByteArray.toList_eq] at h1
    cases nm with
    | mk d => simp at h1; rw [h1]
/-- a name is handed back: empty where there is no such operation -/
def NamePost (w : World) (is : Bool) (e : Ending) (w' : World) : Prop := ∃ nm, e = .returned (.string nm) ∧ w = w' ∧ (if is = true then ¬ nm = ⟨#[]⟩ else nm = ⟨#[]⟩)
set_option maxRecDepth 100000 in
set_option maxHeartbeats 8000000 in
theorem sumName_is (w : World) (op : Int) (h : op = 17 ∨ op = 18 ∨ op = 19 ∨ op = 20 ∨ op = 21 ∨ op = 22 ∨ op = 23 ∨ op = 24 ∨ op = 25 ∨ op = 26 ∨ op = 27 ∨ op = 28 ∨ op = 29 ∨ op = 30 ∨ op = 31 ∨ op = 32 ∨ op = 41 ∨ op = 42 ∨ op = 43) : Calls Try.prog 81 #[.int .i64 op] w (NamePost w true) := by
  rcases h with rfl | rfl | rfl | rfl | rfl | rfl | rfl | rfl | rfl | rfl | rfl | rfl | rfl | rfl | rfl | rfl | rfl | rfl | rfl <;>
  · go_enter Try.func81, Try.ntmps81
    go_wp2_with fail
    go_returns
    exact ⟨_, rfl, rfl, by simp⟩
set_option maxRecDepth 100000 in
set_option maxHeartbeats 8000000 in
theorem sumName_no (w : World) (op : Int) (h : ¬ (17 ≤ op ∧ op ≤ 32) ∧ ¬ (41 ≤ op ∧ op ≤ 43)) : Calls Try.prog 81 #[.int .i64 op] w (NamePost w false) := by
  have z17 : (op == 17) = false := beq_eq_false_iff_ne.2 (by omega)
  have z18 : (op == 18) = false := beq_eq_false_iff_ne.2 (by omega)
  have z19 : (op == 19) = false := beq_eq_false_iff_ne.2 (by omega)
  have z20 : (op == 20) = false := beq_eq_false_iff_ne.2 (by omega)
  have z21 : (op == 21) = false := beq_eq_false_iff_ne.2 (by omega)
  have z22 : (op == 22) = false := beq_eq_false_iff_ne.2 (by omega)
  have z23 : (op == 23) = false := beq_eq_false_iff_ne.2 (by omega)
  have z24 : (op == 24) = false := beq_eq_false_iff_ne.2 (by omega)
  have z25 : (op == 25) = false := beq_eq_false_iff_ne.2 (by omega)
  have z26 : (op == 26) = false := beq_eq_false_iff_ne.2 (by omega)
  have z27 : (op == 27) = false := beq_eq_false_iff_ne.2 (by omega)
  have z28 : (op == 28) = false := beq_eq_false_iff_ne.2 (by omega)
  have z29 : (op == 29) = false := beq_eq_false_iff_ne.2 (by omega)
  have z30 : (op == 30) = false := beq_eq_false_iff_ne.2 (by omega)
  have z31 : (op == 31) = false := beq_eq_false_iff_ne.2 (by omega)
  have z32 : (op == 32) = false := beq_eq_false_iff_ne.2 (by omega)
  have z41 : (op == 41) = false := beq_eq_false_iff_ne.2 (by omega)
  have z42 : (op == 42) = false := beq_eq_false_iff_ne.2 (by omega)
  have z43 : (op == 43) = false := beq_eq_false_iff_ne.2 (by omega)
  clear h
  go_enter Try.func81, Try.ntmps81
  go_wp2_with fail
  go_returns
  exact ⟨_, rfl, rfl, by simp⟩
set_option maxRecDepth 100000 in
set_option maxHeartbeats 8000000 in
theorem name_lo (w : World) (op : Int) (h : op = 0 ∨ op = 1 ∨ op = 2 ∨ op = 3 ∨ op = 4 ∨ op = 5 ∨ op = 6 ∨ op = 7 ∨ op = 8 ∨ op = 9 ∨ op = 10 ∨ op = 11 ∨ op = 12 ∨ op = 13 ∨ op = 14 ∨ op = 15) : Calls Try.prog 77 #[.int .i64 op] w (NamePost w true) := by
  rcases h with rfl | rfl | rfl | rfl | rfl | rfl | rfl | rfl | rfl | rfl | rfl | rfl | rfl | rfl | rfl | rfl <;>
  · go_enter Try.func77, Try.ntmps77
    go_wp2_with fail
    go_returns
    exact ⟨_, rfl, rfl, by simp⟩
set_option maxRecDepth 100000 in
set_option maxHeartbeats 8000000 in
theorem name_hi (w : World) (op : Int) (h : ¬ (0 ≤ op ∧ op ≤ 15)) (is : Bool) (hs : Calls Try.prog 81 #[.int .i64 op] w (NamePost w is)) : Calls Try.prog 77 #[.int .i64 op] w (NamePost w is) := by
  have z0 : (op == 0) = false := beq_eq_false_iff_ne.2 (by omega)
  have z1 : (op == 1) = false := beq_eq_false_iff_ne.2 (by omega)
  have z2 : (op == 2) = false := beq_eq_false_iff_ne.2 (by omega)
  have z3 : (op == 3) = false := beq_eq_false_iff_ne.2 (by omega)
  have z4 : (op == 4) = false := beq_eq_false_iff_ne.2 (by omega)
  have z5 : (op == 5) = false := beq_eq_false_iff_ne.2 (by omega)
  have z6 : (op == 6) = false := beq_eq_false_iff_ne.2 (by omega)
  have z7 : (op == 7) = false := beq_eq_false_iff_ne.2 (by omega)
  have z8 : (op == 8) = false := beq_eq_false_iff_ne.2 (by omega)
  have z9 : (op == 9) = false := beq_eq_false_iff_ne.2 (by omega)
  have z10 : (op == 10) = false := beq_eq_false_iff_ne.2 (by omega)
  have z11 : (op == 11) = false := beq_eq_false_iff_ne.2 (by omega)
  have z12 : (op == 12) = false := beq_eq_false_iff_ne.2 (by omega)
  have z13 : (op == 13) = false := beq_eq_false_iff_ne.2 (by omega)
  have z14 : (op == 14) = false := beq_eq_false_iff_ne.2 (by omega)
  have z15 : (op == 15) = false := beq_eq_false_iff_ne.2 (by omega)
  have HS := Lib.hid hs
  clear h hs
  go_enter Try.func77, Try.ntmps77
  go_wp2_with fail
  refine (HS.out).mono ?_
  rintro e1 w1 ⟨nm, rfl, rfl, hnm⟩
  go_wp2_with fail
  go_returns
  exact ⟨_, rfl, rfl, hnm⟩
theorem isOp_cases (op : Int) (h : isOp op = true) : (op = 0 ∨ op = 1 ∨ op = 2 ∨ op = 3 ∨ op = 4 ∨ op = 5 ∨ op = 6 ∨ op = 7 ∨ op = 8 ∨ op = 9 ∨ op = 10 ∨ op = 11 ∨ op = 12 ∨ op = 13 ∨ op = 14 ∨ op = 15) ∨ (op = 17 ∨ op = 18 ∨ op = 19 ∨ op = 20 ∨ op = 21 ∨ op = 22 ∨ op = 23 ∨ op = 24 ∨ op = 25 ∨ op = 26 ∨ op = 27 ∨ op = 28 ∨ op = 29 ∨ op = 30 ∨ op = 31 ∨ op = 32 ∨ op = 41 ∨ op = 42 ∨ op = 43) := by
  unfold isOp at h
  simp only [decide_eq_true_eq] at h
  omega
theorem name_any (w : World) (op : Int) : Calls Try.prog 77 #[.int .i64 op] w (NamePost w (isOp op)) := by
  cases h : isOp op with
  | true =>
    rcases isOp_cases op h with h1 | h1
    · exact name_lo w op h1
    · exact name_hi w op (by omega) true (sumName_is w op h1)
  | false =>
    unfold isOp at h
    simp only [decide_eq_false_iff_not] at h
    exact name_hi w op (by omega) false (sumName_no w op (by omega))
set_option maxRecDepth 100000 in
set_option maxHeartbeats 16000000 in
theorem ruses_is (w : World) (op : Int) (h : op = 0 ∨ op = 1 ∨ op = 2 ∨ op = 3 ∨ op = 4 ∨ op = 5 ∨ op = 6 ∨ op = 7 ∨ op = 8 ∨ op = 9 ∨ op = 10 ∨ op = 11 ∨ op = 12 ∨ op = 13 ∨ op = 14 ∨ op = 15 ∨ op = 17 ∨ op = 18 ∨ op = 19 ∨ op = 20 ∨ op = 21 ∨ op = 22 ∨ op = 23 ∨ op = 24 ∨ op = 25 ∨ op = 26 ∨ op = 27 ∨ op = 28 ∨ op = 29 ∨ op = 30 ∨ op = 31 ∨ op = 32 ∨ op = 41 ∨ op = 42 ∨ op = 43) : Calls Try.prog 59 #[.int .i64 op] w fun e w' => e = .returned (.tuple #[.int .i64 (regsOf op), .bool (immOf op), .bool true]) ∧ w = w' := by
  have hop : isOp op = true := by unfold isOp; simp only [decide_eq_true_eq]; omega
  have NM := Lib.hid (name_any w op)
  rw [hop] at NM
  clear hop
  rcases h with rfl | rfl | rfl | rfl | rfl | rfl | rfl | rfl | rfl | rfl | rfl | rfl | rfl | rfl | rfl | rfl | rfl | rfl | rfl | rfl | rfl | rfl | rfl | rfl | rfl | rfl | rfl | rfl | rfl | rfl | rfl | rfl | rfl | rfl | rfl <;>
  · go_enter Try.func59, Try.ntmps59
    go_wp2_with fail
    refine (NM.out).mono ?_
    rintro e1 w1 ⟨nm, rfl, rfl, hnm⟩
    simp only [if_true] at hnm
    have hE := str_full hnm
    clear hnm
    go_wp2_with fail
    go_returns
    exact ⟨rfl, rfl⟩
set_option maxRecDepth 100000 in
set_option maxHeartbeats 4000000 in
theorem ruses_no (w : World) (op : Int) (h : isOp op = false) : Calls Try.prog 59 #[.int .i64 op] w fun e w' => e = .returned (.tuple #[.int .i64 (regsOf op), .bool (immOf op), .bool false]) ∧ w = w' := by
  have NM := Lib.hid (name_any w op)
  rw [h] at NM
  have HR := Lib.hid (show regsOf op = 0 ∧ immOf op = false by
    unfold isOp at h
    simp only [decide_eq_false_iff_not] at h
    refine ⟨?_, ?_⟩
    · unfold regsOf; rw [if_neg (by omega), if_neg (by omega), if_neg (by omega)]
    · unfold immOf; simp; omega)
  clear h
  go_enter Try.func59, Try.ntmps59
  go_wp2_with fail
  refine (NM.out).mono ?_
  rintro e1 w1 ⟨nm, rfl, rfl, hnm⟩
  simp only [Bool.false_eq_true, if_false] at hnm
  subst hnm
  go_wp2_with fail
  go_returns
  exact ⟨by rw [HR.out.1, HR.out.2]; rfl, rfl⟩
theorem ruses_any (w : World) (op : Int) : Calls Try.prog 59 #[.int .i64 op] w fun e w' => e = .returned (.tuple #[.int .i64 (regsOf op), .bool (immOf op), .bool (isOp op)]) ∧ w = w' := by
  cases h : isOp op with
  | true => exact ruses_is w op (by have := isOp_cases op h; omega)
  | false => exact ruses_no w op h
set_option maxRecDepth 100000 in
theorem rreg_any (w : World) (has : Bool) (r : Int) : Calls Try.prog 80 #[.bool has, .int .i64 r] w fun e w' => e = .returned (.bool (regB has r)) ∧ w = w' := by
  cases has with
  | false =>
    by_cases h0 : r = 0
    · subst h0
      go_enter Try.func80, Try.ntmps80
      go_wp2_with fail
      go_returns
      exact ⟨rfl, rfl⟩
    · have HR := Lib.hid (show regB false r = false by unfold regB; simp; exact h0)
      rw [HR.out]
      obtain ⟨ne1, ne2, ne3, ne4⟩ := int_ne h0
      clear h0
      go_enter Try.func80, Try.ntmps80
      go_wp2_with fail
      go_returns
      exact ⟨rfl, rfl⟩
  | true =>
    by_cases h1 : 0 ≤ r
    · by_cases h2 : r ≤ 15
      · have HR := Lib.hid (show regB true r = true by unfold regB; simp; omega)
        rw [HR.out]
        go_enter Try.func80, Try.ntmps80
        go_wp2_with fail
        go_returns
        exact ⟨rfl, rfl⟩
      · have HR := Lib.hid (show regB true r = false by unfold regB; simp; omega)
        rw [HR.out]
        go_enter Try.func80, Try.ntmps80
        go_wp2_with fail
        go_returns
        exact ⟨rfl, rfl⟩
    · have HR := Lib.hid (show regB true r = false by unfold regB; simp; omega)
      rw [HR.out]
      go_enter Try.func80, Try.ntmps80
      go_wp2_with fail
      go_returns
      exact ⟨rfl, rfl⟩
end Go.Proofs.Ytfdjlicegfgodaa
