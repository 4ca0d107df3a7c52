/- MachCalls. -/
import Derived.Test.YthlcoocboidnlaaMach18
namespace Go.Proofs.Ythlcoocboidnlaa
open Go.RowKit
set_option linter.unusedSimpArgs false
set_option linter.unusedVariables false

/-- what MachCalls asks of the machine behind its run -/
def callsB (n m : Nat) (sf : Ms) : Bool := if m ≤ n then decide (sf.kind = 5) else decide (sf.kind = 1 ∧ sf.regAt 15 = (m : Int) ∧ sf.regAt 1 = 0 ∧ sf.steps = 4 * (n : Int) + 6)
theorem calls_true (n m : Nat) (hn : n ≤ 255) (hm : m ≤ 255) : callsB n m ((Ms.new (wordsOf (callIns n)) [] 0 m []).runN 3000) = true := by
  have h := calls_all n m hn hm
  unfold callsB
  by_cases hle : m ≤ n
  · rw [if_pos hle] at h ⊢
    exact decide_eq_true h
  · rw [if_neg hle] at h ⊢
    obtain ⟨mem', h⟩ := h
    rw [h]
    exact decide_eq_true ⟨rfl, by kernel_rfl, by kernel_rfl, rfl⟩
set_option maxRecDepth 100000 in
set_option maxHeartbeats 4000000 in
theorem machCalls_walk (n m : Nat) (hn : n ≤ 255) (hm : m ≤ 255) (w : World) : Calls Try.prog 4 #[.int .u8 (n : Int), .int .u8 (m : Int)] w (BoolPost w true) := by
  have CT := Lib.hid (calls_true n m hn hm)
  have N0 := Lib.hid (Nw.new w (.cells #[.int .i64 3, .int .i64 1, .int .i64 0, .int .i64 0, .int .i64 (n : Int), .int .i64 3, .int .i64 2, .int .i64 0, .int .i64 0, .int .i64 1, .int .i64 10, .int .i64 0, .int .i64 0, .int .i64 0, .int .i64 4, .int .i64 0, .int .i64 0, .int .i64 0, .int .i64 0, .int .i64 0, .int .i64 8, .int .i64 1, .int .i64 0, .int .i64 0, .int .i64 3, .int .i64 18, .int .i64 1, .int .i64 1, .int .i64 2, .int .i64 0, .int .i64 10, .int .i64 0, .int .i64 0, .int .i64 0, .int .i64 4, .int .i64 12, .int .i64 0, .int .i64 0, .int .i64 0, .int .i64 0, .int .i64 12, .int .i64 0, .int .i64 0, .int .i64 0, .int .i64 0] 26))
  have IA := Lib.hid (insAt_of (callIns n) (Blk.new w [.int .i64 3, .int .i64 1, .int .i64 0, .int .i64 0, .int .i64 (n : Int), .int .i64 3, .int .i64 2, .int .i64 0, .int .i64 0, .int .i64 1, .int .i64 10, .int .i64 0, .int .i64 0, .int .i64 0, .int .i64 4, .int .i64 0, .int .i64 0, .int .i64 0, .int .i64 0, .int .i64 0, .int .i64 8, .int .i64 1, .int .i64 0, .int .i64 0, .int .i64 3, .int .i64 18, .int .i64 1, .int .i64 1, .int .i64 2, .int .i64 0, .int .i64 10, .int .i64 0, .int .i64 0, .int .i64 0, .int .i64 4, .int .i64 12, .int .i64 0, .int .i64 0, .int .i64 0, .int .i64 0, .int .i64 12, .int .i64 0, .int .i64 0, .int .i64 0, .int .i64 0] 26) rfl)
  have CD := Lib.hid (code_any _ _ (callIns n) 9 IA.out (by show 9 ≤ 2000; decide) (Nat.le_refl 9))
  have ERR := Lib.hid (show (⟨wordsOf (callIns n), [], 0⟩ : Img).err m [] = 0 by
    unfold Img.err newErr
    rw [if_neg (by show ¬ (9 < 1 ∨ 65536 < 9 ∨ 16384 < 0 ∨ (0 : Int) < 0 ∨ ((9 : Nat) : Int) ≤ 0); omega), if_neg (by show ¬ ((m : Int) < ((0 : Nat) : Int) ∨ 262144 < (m : Int) ∨ 4096 < 0); omega)])
  obtain ⟨ni, hni⟩ : ∃ ni, ni = callIns n := ⟨_, rfl⟩
  have HNI := Lib.hid (show ni.length = 9 by rw [hni]; rfl)
  rw [← hni] at CD CT ERR
  rw [HNI.out] at CD
  clear hni IA
  have hn0 : (0 : Int) ≤ (n : Int) := by omega
  have hn1 : (n : Int) ≤ 255 := by omega
  have hm0 : (0 : Int) ≤ (m : Int) := by omega
  have hm1 : (m : Int) ≤ 255 := by omega
  have hwn : IntKind.i64.wrap (n : Int) = (n : Int) := IntWalk.i64_in _ (by omega)
  have hwm : IntKind.i64.wrap (m : Int) = (m : Int) := IntWalk.i64_in _ (by omega)
  go_enter Try.func4, Try.ntmps4
  go_wp2_with fail
  refine CD.out.mono ?_
  rintro e1 w1 ⟨x, c, rfl, ho, hk⟩
  have IM := Lib.hid (img_of_code ho (by have := HNI.out; omega))
  have N1 := Lib.hid (N0.out.trans hk)
  clear ho hk CD N0
  have N2 := Lib.hid (N1.out.alloc (.cells #[.slice x 9 c, .slice none 0 0, .int .i64 0] 29))
  have IM2 := Lib.hid (IM.out.nw (Nw.new w1 (.cells #[.slice x 9 c, .slice none 0 0, .int .i64 0] 29)))
  have B2 := Lib.hid (Blk.new w1 [.slice x 9 c, .slice none 0 0, .int .i64 0] 29)
  simp only [HNI.out] at IM2 ⊢
  clear IM
  go_upto_region 3 with fail
  generalize w1.alloc (.cells #[.slice x 9 c, .slice none 0 0, .int .i64 0] 29) = w2 at *
  generalize w1.heap.size = bi at *
  have i0 := B2.out.cell 0
  have i1 := B2.out.cell 1
  have i2 := B2.out.cell 2
  simp only [List.getElem?_cons_zero, List.getElem?_cons_succ] at i0 i1 i2
  have NE := Lib.hid (new_any IM2.out (bytes_nil (fun _ => False) w2) (fun _ h => h.elim) (by simp) m)
  clear IM2
  go_wp2_with fail
  refine NE.out.mono ?_
  rintro e3 w3 (⟨he, p, R2, L, rfl, hm, hk⟩ | ⟨he, _⟩)
  rotate_left
  · exact absurd ERR.out he
  have M3 := Lib.hid hm
  have K3 := Lib.hid hk
  clear he hm hk NE i0 i1 i2
  go_wp2_with fail
  refine (num_any _ 0).mono ?_
  rintro e4 w4 ⟨rfl, rfl⟩
  have MR := Lib.hid (mrun_any M3.out 3000 (by omega))
  rw [show ((⟨wordsOf ni, [], 0⟩ : Img).ms m []).runN (3000 : Int).toNat = (Ms.new (wordsOf ni) [] 0 m []).runN 3000 from rfl] at MR
  obtain ⟨sf, hsf⟩ : ∃ sf, sf = (Ms.new (wordsOf ni) [] 0 m []).runN 3000 := ⟨_, rfl⟩
  rw [← hsf] at MR CT
  clear hsf
  go_wp2_with fail
  refine MR.out.mono ?_
  rintro e5 w5 ⟨vr, rfl, ho, L5, hm5, hk5, _⟩
  obtain ⟨xo, co, rfl⟩ := own_slice ho
  have N5 := Lib.hid (N2.out.trans (ft_new M3.out K3.out hk5))
  have M5 := Lib.hid hm5
  clear ho hm5 hk5 MR M3 K3
  go_upto_region 7 with fail
  have N6 := Lib.hid (N5.out.alloc (.cells #[.int .i64 sf.kind, .int .i64 sf.panics, .slice xo sf.out.length co, .int .i64 sf.steps] 37))
  have M6 := Lib.hid (M5.out.nw (Nw.new w5 (.cells #[.int .i64 sf.kind, .int .i64 sf.panics, .slice xo sf.out.length co, .int .i64 sf.steps] 37)))
  have B6 := Lib.hid (Blk.new w5 [.int .i64 sf.kind, .int .i64 sf.panics, .slice xo sf.out.length co, .int .i64 sf.steps] 37)
  generalize w5.alloc (.cells #[.int .i64 sf.kind, .int .i64 sf.panics, .slice xo sf.out.length co, .int .i64 sf.steps] 37) = w6 at *
  generalize w5.heap.size = bo at *
  clear M5 N5
  have j0 := B6.out.cell 0
  have j1 := B6.out.cell 1
  have j2 := B6.out.cell 2
  have j3 := B6.out.cell 3
  simp only [List.getElem?_cons_zero, List.getElem?_cons_succ] at j0 j1 j2 j3
  have R15 := Lib.hid (reg_any M6.out 15)
  have R1 := Lib.hid (reg_any M6.out 1)
  have ct := CT.out
  unfold callsB at ct
  by_cases hle : m ≤ n
  · rw [if_pos hle] at ct
    have h5 := of_decide_eq_true ct
    rw [h5] at j0
    have hle2 : (m : Int) ≤ (n : Int) := by omega
    clear ct hle h5
    go_wp2_with fail
    go_returns
    exact ⟨rfl, N6.out⟩
  · rw [if_neg hle] at ct
    obtain ⟨h1, h2, h3, h4⟩ := of_decide_eq_true ct
    rw [h1] at j0
    rw [h2] at R15
    rw [h3] at R1
    rw [h4] at j3
    have hle2 : (n : Int) < (m : Int) := by omega
    have hw6 : IntKind.i64.wrap (4 * (n : Int)) = 4 * (n : Int) := IntWalk.i64_in _ (by omega)
    have hw7 : IntKind.i64.wrap (4 * (n : Int) + 6) = 4 * (n : Int) + 6 := IntWalk.i64_in _ (by omega)
    clear ct hle h1 h2 h3 h4
    go_wp2_with fail
    refine R15.out.mono ?_
    rintro e7 w7 ⟨rfl, rfl⟩
    go_wp2_with fail
    refine R1.out.mono ?_
    rintro e8 w8 ⟨rfl, rfl⟩
    go_wp2_with fail
    go_returns
    exact ⟨rfl, N6.out⟩
end Go.Proofs.Ythlcoocboidnlaa
