/- MachNumbers. -/
import Derived.Test.YthlcoocboidnlaaMach16
namespace Go.Proofs.Ythlcoocboidnlaa
open Go.RowKit
set_option linter.unusedSimpArgs false
set_option linter.unusedVariables false

theorem and_low (v : Int) : bits .and .i64 v 4294967295 = v % 4294967296 := by
  have h0 : 0 ≤ v % 18446744073709551616 := Int.emod_nonneg _ (by decide)
  have h1 : v % 18446744073709551616 < 18446744073709551616 := Int.emod_lt_of_pos _ (by decide)
  have key : (BitVec.ofInt 64 v &&& BitVec.ofInt 64 4294967295).toNat = (v % 4294967296).toNat := by
    rw [BitVec.toNat_and]
    have e1 : (BitVec.ofInt 64 v).toNat = (v % 18446744073709551616).toNat := by simp [BitVec.toNat_ofInt]
    have e2 : (BitVec.ofInt 64 4294967295).toNat = 4294967295 := by decide
    rw [e1, e2, show (4294967295 : Nat) = 2 ^ 32 - 1 from rfl, Nat.and_two_pow_sub_one_eq_mod]
    omega
  have hb : bits .and .i64 v 4294967295 = IntKind.i64.wrap (((BitVec.ofInt 64 v &&& BitVec.ofInt 64 4294967295).toNat : Nat) : Int) := rfl
  rw [hb, key, IntKind.wrap_i64]
  omega
def numIns (hi low : Int) : List In5 := [⟨3, 5, 0, 0, hi⟩, ⟨4, 5, 0, 0, low⟩, ⟨0, 0, 0, 0, 0⟩]
theorem num_ok3 {hi : Int} (h : -2147483648 ≤ hi ∧ hi ≤ 2147483647) : okIns 3 5 0 0 hi = true := by
  have e : okIns 3 5 0 0 hi = decide (-2147483648 ≤ hi ∧ hi ≤ 2147483647) := rfl
  rw [e]; exact decide_eq_true h
theorem num_ok4 {hi : Int} (h : -2147483648 ≤ hi ∧ hi ≤ 2147483647) : okIns 4 5 0 0 hi = true := by
  have e : okIns 4 5 0 0 hi = decide (-2147483648 ≤ hi ∧ hi ≤ 2147483647) := rfl
  rw [e]; exact decide_eq_true h
/-- the machine behind the three steps -/
theorem num_run {v hi low : Int} (hv : -9223372036854775808 ≤ v ∧ v ≤ 9223372036854775807) (hh : hi = v / 4294967296) (hl : -2147483648 ≤ low ∧ low ≤ 2147483647) (hm : low % 4294967296 = v % 4294967296) :
    (Ms.new (wordsOf (numIns hi low)) [] 0 0 []).runN 3 = { (Ms.new (wordsOf (numIns hi low)) [] 0 0 []) with reg := [0, 0, 0, 0, 0, v, 0, 0, 0, 0, 0, 0, 0, 0, 0, 0], pc := 3, kind := 1, panics := 0, steps := 3 } := by
  have hhi : -2147483648 ≤ hi ∧ hi ≤ 2147483647 := by omega
  have hH : highV hi low = v := by unfold highV wrap64; omega
  obtain ⟨cd, hcd⟩ : ∃ cd, cd = wordsOf (numIns hi low) := ⟨_, rfl⟩
  have c0 : cd[0]? = some (In5.word ⟨3, 5, 0, 0, hi⟩) := by rw [hcd]; rfl
  have c1 : cd[1]? = some (In5.word ⟨4, 5, 0, 0, low⟩) := by rw [hcd]; rfl
  have c2 : cd[2]? = some (In5.word ⟨0, 0, 0, 0, 0⟩) := by rw [hcd]; rfl
  rw [← hcd]
  have s1 : (Ms.new cd [] 0 0 []).step = { (Ms.new cd [] 0 0 []) with reg := [0, 0, 0, 0, 0, hi, 0, 0, 0, 0, 0, 0, 0, 0, 0, 0], pc := 1, steps := 1 } := by
    rw [step_ins ⟨3, 5, 0, 0, hi⟩ 0 rfl rfl c0 (num_ok3 hhi)]; kernel_rfl
  have s2 : Ms.step { (Ms.new cd [] 0 0 []) with reg := [0, 0, 0, 0, 0, hi, 0, 0, 0, 0, 0, 0, 0, 0, 0, 0], pc := 1, steps := 1 } = { (Ms.new cd [] 0 0 []) with reg := [0, 0, 0, 0, 0, highV hi low, 0, 0, 0, 0, 0, 0, 0, 0, 0, 0], pc := 2, steps := 2 } := by
    rw [step_ins ⟨4, 5, 0, 0, low⟩ 1 rfl rfl c1 (num_ok4 hl)]; kernel_rfl
  have s3 : Ms.step { (Ms.new cd [] 0 0 []) with reg := [0, 0, 0, 0, 0, highV hi low, 0, 0, 0, 0, 0, 0, 0, 0, 0, 0], pc := 2, steps := 2 } = { (Ms.new cd [] 0 0 []) with reg := [0, 0, 0, 0, 0, highV hi low, 0, 0, 0, 0, 0, 0, 0, 0, 0, 0], pc := 3, kind := 1, panics := 0, steps := 3 } := by
    rw [step_ins ⟨0, 0, 0, 0, 0⟩ 2 rfl rfl c2 (by decide)]; kernel_rfl
  show Ms.step (Ms.step (Ms.step (Ms.new cd [] 0 0 []))) = _
  rw [s1, s2, s3, hH]

set_option maxRecDepth 100000 in
set_option maxHeartbeats 2000000 in
theorem machNumbers_walk (v : Int) (hv : -9223372036854775808 ≤ v ∧ v ≤ 9223372036854775807) (w : World) : Calls Try.prog 3 #[.int .i64 v] w (BoolPost w true) := by
  have hand := and_low v
  obtain ⟨lo, hlo⟩ : ∃ lo, lo = v % 4294967296 := ⟨_, rfl⟩
  rw [← hlo] at hand
  have hlo0 : 0 ≤ lo := by omega
  have hlo1 : lo < 4294967296 := by omega
  have HLO := Lib.hid hlo
  by_cases hbig : 2147483647 < lo
  · have hlr : -2147483648 ≤ lo - 4294967296 ∧ lo - 4294967296 ≤ 2147483647 := by omega
    have hlm : (lo - 4294967296) % 4294967296 = v % 4294967296 := by omega
    clear hlo
    have N0 := Lib.hid (Nw.new w (.cells #[.int .i64 3, .int .i64 5, .int .i64 0, .int .i64 0, .int .i64 (v / 4294967296), .int .i64 4, .int .i64 5, .int .i64 0, .int .i64 0, .int .i64 (lo - 4294967296), .int .i64 0, .int .i64 0, .int .i64 0, .int .i64 0, .int .i64 0] 26))
    have IA := Lib.hid (insAt_of (numIns (v / 4294967296) (lo - 4294967296)) (Blk.new w [.int .i64 3, .int .i64 5, .int .i64 0, .int .i64 0, .int .i64 (v / 4294967296), .int .i64 4, .int .i64 5, .int .i64 0, .int .i64 0, .int .i64 (lo - 4294967296), .int .i64 0, .int .i64 0, .int .i64 0, .int .i64 0, .int .i64 0] 26) rfl)
    have CD := Lib.hid (code_any _ _ (numIns (v / 4294967296) (lo - 4294967296)) 3 IA.out (by show 3 ≤ 2000; decide) (Nat.le_refl 3))
    have RUN := Lib.hid (num_run hv rfl hlr hlm)
    have ERR := Lib.hid (show (⟨wordsOf (numIns (v / 4294967296) (lo - 4294967296)), [], 0⟩ : Img).err 0 [] = 0 by kernel_rfl)
    obtain ⟨ni, hni⟩ : ∃ ni, ni = (numIns (v / 4294967296) (lo - 4294967296)) := ⟨_, rfl⟩
    have HNI := Lib.hid (show ni.length = 3 by rw [hni]; rfl)
    rw [← hni] at CD RUN ERR
    rw [HNI.out] at CD
    clear hni hlr hlm hv IA
    go_enter Try.func3, Try.ntmps3
    go_wp2_with fail
    refine CD.out.mono ?_
    rintro e1 w1 ⟨x, c, rfl, ho, hk⟩
    have IM := Lib.hid (img_of_code ho (by have := HNI.out; omega))
    have N1 := Lib.hid (N0.out.trans hk)
    clear ho hk CD N0
    have N2 := Lib.hid (N1.out.alloc (.cells #[.slice x 3 c, .slice none 0 0, .int .i64 0] 29))
    have IM2 := Lib.hid (IM.out.nw (Nw.new w1 (.cells #[.slice x 3 c, .slice none 0 0, .int .i64 0] 29)))
    have B2 := Lib.hid (Blk.new w1 [.slice x 3 c, .slice none 0 0, .int .i64 0] 29)
    simp only [HNI.out] at IM2 ⊢
    clear IM
    go_upto_region 5 with fail
    generalize w1.alloc (.cells #[.slice x 3 c, .slice none 0 0, .int .i64 0] 29) = w2 at *
    generalize w1.heap.size = bi at *
    have i0 := B2.out.cell 0
    have i1 := B2.out.cell 1
    have i2 := B2.out.cell 2
    simp only [List.getElem?_cons_zero, List.getElem?_cons_succ] at i0 i1 i2
    have NE := Lib.hid (new_any IM2.out (bytes_nil (fun _ => False) w2) (fun _ h => h.elim) (by simp) 0)
    clear IM2
    go_wp2_with fail
    refine NE.out.mono ?_
    rintro e3 w3 (⟨he, p, R2, L, rfl, hm, hk⟩ | ⟨he, _⟩)
    rotate_left
    · exact absurd ERR.out he
    have M3 := Lib.hid hm
    have K3 := Lib.hid hk
    clear he hm hk NE i0 i1 i2
    go_wp2_with fail
    refine (num_any _ 0).mono ?_
    rintro e4 w4 ⟨rfl, rfl⟩
    have MR := Lib.hid (mrun_any M3.out 3 (by omega))
    rw [show ((⟨wordsOf ni, [], 0⟩ : Img).ms 0 []).runN (3 : Int).toNat = _ from RUN.out] at MR
    obtain ⟨sf, hsf⟩ : ∃ sf, sf = (⟨(Ms.new (wordsOf ni) [] 0 0 []).code, (Ms.new (wordsOf ni) [] 0 0 []).mem, [0, 0, 0, 0, 0, v, 0, 0, 0, 0, 0, 0, 0, 0, 0, 0], 3, (Ms.new (wordsOf ni) [] 0 0 []).inp, (Ms.new (wordsOf ni) [] 0 0 []).out, 1, 0, 3⟩ : Ms) := ⟨_, rfl⟩
    rw [← hsf] at MR
    have H1 := Lib.hid (show sf.kind = 1 by rw [hsf])
    have H2 := Lib.hid (show sf.steps = 3 by rw [hsf])
    have H5 := Lib.hid (show sf.regAt 5 = v by rw [hsf]; kernel_rfl)
    have H6 := Lib.hid (show sf.regAt 6 = 0 by rw [hsf]; kernel_rfl)
    clear hsf RUN
    go_wp2_with fail
    refine MR.out.mono ?_
    rintro e5 w5 ⟨vr, rfl, ho, L5, hm5, hk5, _⟩
    obtain ⟨xo, co, rfl⟩ := own_slice ho
    have N5 := Lib.hid (N2.out.trans (ft_new M3.out K3.out hk5))
    have M5 := Lib.hid hm5
    clear ho hm5 hk5 MR M3 K3
    rw [H1.out, H2.out]
    go_upto_region 9 with fail
    have N6 := Lib.hid (N5.out.alloc (.cells #[.int .i64 1, .int .i64 sf.panics, .slice xo sf.out.length co, .int .i64 3] 37))
    have M6 := Lib.hid (M5.out.nw (Nw.new w5 (.cells #[.int .i64 1, .int .i64 sf.panics, .slice xo sf.out.length co, .int .i64 3] 37)))
    have B6 := Lib.hid (Blk.new w5 [.int .i64 1, .int .i64 sf.panics, .slice xo sf.out.length co, .int .i64 3] 37)
    generalize w5.alloc (.cells #[.int .i64 1, .int .i64 sf.panics, .slice xo sf.out.length co, .int .i64 3] 37) = w6 at *
    generalize w5.heap.size = bo at *
    clear M5 N5
    have j0 := B6.out.cell 0
    have j1 := B6.out.cell 1
    have j2 := B6.out.cell 2
    have j3 := B6.out.cell 3
    simp only [List.getElem?_cons_zero, List.getElem?_cons_succ] at j0 j1 j2 j3
    go_wp2_with fail
    refine (reg_any M6.out 5).mono ?_
    rintro e7 w7 ⟨rfl, rfl⟩
    rw [H5.out]
    go_wp2_with fail
    refine (reg_any M6.out 6).mono ?_
    rintro e8 w8 ⟨rfl, rfl⟩
    rw [H6.out]
    go_wp2_with fail
    go_returns
    exact ⟨rfl, N6.out⟩
  · have hlr : -2147483648 ≤ lo ∧ lo ≤ 2147483647 := by omega
    have hlm : lo % 4294967296 = v % 4294967296 := by omega
    clear hlo
    have N0 := Lib.hid (Nw.new w (.cells #[.int .i64 3, .int .i64 5, .int .i64 0, .int .i64 0, .int .i64 (v / 4294967296), .int .i64 4, .int .i64 5, .int .i64 0, .int .i64 0, .int .i64 lo, .int .i64 0, .int .i64 0, .int .i64 0, .int .i64 0, .int .i64 0] 26))
    have IA := Lib.hid (insAt_of (numIns (v / 4294967296) lo) (Blk.new w [.int .i64 3, .int .i64 5, .int .i64 0, .int .i64 0, .int .i64 (v / 4294967296), .int .i64 4, .int .i64 5, .int .i64 0, .int .i64 0, .int .i64 lo, .int .i64 0, .int .i64 0, .int .i64 0, .int .i64 0, .int .i64 0] 26) rfl)
    have CD := Lib.hid (code_any _ _ (numIns (v / 4294967296) lo) 3 IA.out (by show 3 ≤ 2000; decide) (Nat.le_refl 3))
    have RUN := Lib.hid (num_run hv rfl hlr hlm)
    have ERR := Lib.hid (show (⟨wordsOf (numIns (v / 4294967296) lo), [], 0⟩ : Img).err 0 [] = 0 by kernel_rfl)
    obtain ⟨ni, hni⟩ : ∃ ni, ni = (numIns (v / 4294967296) lo) := ⟨_, rfl⟩
    have HNI := Lib.hid (show ni.length = 3 by rw [hni]; rfl)
    rw [← hni] at CD RUN ERR
    rw [HNI.out] at CD
    clear hni hlr hlm hv IA
    go_enter Try.func3, Try.ntmps3
    go_wp2_with fail
    refine CD.out.mono ?_
    rintro e1 w1 ⟨x, c, rfl, ho, hk⟩
    have IM := Lib.hid (img_of_code ho (by have := HNI.out; omega))
    have N1 := Lib.hid (N0.out.trans hk)
    clear ho hk CD N0
    have N2 := Lib.hid (N1.out.alloc (.cells #[.slice x 3 c, .slice none 0 0, .int .i64 0] 29))
    have IM2 := Lib.hid (IM.out.nw (Nw.new w1 (.cells #[.slice x 3 c, .slice none 0 0, .int .i64 0] 29)))
    have B2 := Lib.hid (Blk.new w1 [.slice x 3 c, .slice none 0 0, .int .i64 0] 29)
    simp only [HNI.out] at IM2 ⊢
    clear IM
    go_upto_region 5 with fail
    generalize w1.alloc (.cells #[.slice x 3 c, .slice none 0 0, .int .i64 0] 29) = w2 at *
    generalize w1.heap.size = bi at *
    have i0 := B2.out.cell 0
    have i1 := B2.out.cell 1
    have i2 := B2.out.cell 2
    simp only [List.getElem?_cons_zero, List.getElem?_cons_succ] at i0 i1 i2
    have NE := Lib.hid (new_any IM2.out (bytes_nil (fun _ => False) w2) (fun _ h => h.elim) (by simp) 0)
    clear IM2
    go_wp2_with fail
    refine NE.out.mono ?_
    rintro e3 w3 (⟨he, p, R2, L, rfl, hm, hk⟩ | ⟨he, _⟩)
    rotate_left
    · exact absurd ERR.out he
    have M3 := Lib.hid hm
    have K3 := Lib.hid hk
    clear he hm hk NE i0 i1 i2
    go_wp2_with fail
    refine (num_any _ 0).mono ?_
    rintro e4 w4 ⟨rfl, rfl⟩
    have MR := Lib.hid (mrun_any M3.out 3 (by omega))
    rw [show ((⟨wordsOf ni, [], 0⟩ : Img).ms 0 []).runN (3 : Int).toNat = _ from RUN.out] at MR
    obtain ⟨sf, hsf⟩ : ∃ sf, sf = (⟨(Ms.new (wordsOf ni) [] 0 0 []).code, (Ms.new (wordsOf ni) [] 0 0 []).mem, [0, 0, 0, 0, 0, v, 0, 0, 0, 0, 0, 0, 0, 0, 0, 0], 3, (Ms.new (wordsOf ni) [] 0 0 []).inp, (Ms.new (wordsOf ni) [] 0 0 []).out, 1, 0, 3⟩ : Ms) := ⟨_, rfl⟩
    rw [← hsf] at MR
    have H1 := Lib.hid (show sf.kind = 1 by rw [hsf])
    have H2 := Lib.hid (show sf.steps = 3 by rw [hsf])
    have H5 := Lib.hid (show sf.regAt 5 = v by rw [hsf]; kernel_rfl)
    have H6 := Lib.hid (show sf.regAt 6 = 0 by rw [hsf]; kernel_rfl)
    clear hsf RUN
    go_wp2_with fail
    refine MR.out.mono ?_
    rintro e5 w5 ⟨vr, rfl, ho, L5, hm5, hk5, _⟩
    obtain ⟨xo, co, rfl⟩ := own_slice ho
    have N5 := Lib.hid (N2.out.trans (ft_new M3.out K3.out hk5))
    have M5 := Lib.hid hm5
    clear ho hm5 hk5 MR M3 K3
    rw [H1.out, H2.out]
    go_upto_region 9 with fail
    have N6 := Lib.hid (N5.out.alloc (.cells #[.int .i64 1, .int .i64 sf.panics, .slice xo sf.out.length co, .int .i64 3] 37))
    have M6 := Lib.hid (M5.out.nw (Nw.new w5 (.cells #[.int .i64 1, .int .i64 sf.panics, .slice xo sf.out.length co, .int .i64 3] 37)))
    have B6 := Lib.hid (Blk.new w5 [.int .i64 1, .int .i64 sf.panics, .slice xo sf.out.length co, .int .i64 3] 37)
    generalize w5.alloc (.cells #[.int .i64 1, .int .i64 sf.panics, .slice xo sf.out.length co, .int .i64 3] 37) = w6 at *
    generalize w5.heap.size = bo at *
    clear M5 N5
    have j0 := B6.out.cell 0
    have j1 := B6.out.cell 1
    have j2 := B6.out.cell 2
    have j3 := B6.out.cell 3
    simp only [List.getElem?_cons_zero, List.getElem?_cons_succ] at j0 j1 j2 j3
    go_wp2_with fail
    refine (reg_any M6.out 5).mono ?_
    rintro e7 w7 ⟨rfl, rfl⟩
    rw [H5.out]
    go_wp2_with fail
    refine (reg_any M6.out 6).mono ?_
    rintro e8 w8 ⟨rfl, rfl⟩
    rw [H6.out]
    go_wp2_with fail
    go_returns
    exact ⟨rfl, N6.out⟩
end Go.Proofs.Ythlcoocboidnlaa
