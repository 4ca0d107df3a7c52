/- The document's words: Encode. -/
import Derived.Test.YtfdjlicegfgodaaIsa5
namespace Go.Proofs.Ytfdjlicegfgodaa
open Go.RowKit
set_option linter.unusedSimpArgs false
set_option linter.unusedVariables false

def RFace (rg : Int) (ha hb hc : Bool) : Prop := (rg = 0 ∧ ha = false ∧ hb = false ∧ hc = false) ∨ (rg = 1 ∧ ha = true ∧ hb = false ∧ hc = false) ∨ (rg = 3 ∧ ha = true ∧ hb = true ∧ hc = false) ∨ (rg = 7 ∧ ha = true ∧ hb = true ∧ hc = true)
theorem rface (op : Int) : RFace (regsOf op) (hasA op) (hasB op) (hasC op) := by
  unfold RFace hasA hasB hasC
  rcases regsOf_cases op with h | h | h | h <;> rw [h] <;> simp
set_option maxRecDepth 100000 in
set_option maxHeartbeats 8000000 in
theorem rEncode_any (w : World) (op a b c n : Int) :
    Calls Try.prog 76 #[.agg #[.int .i64 op, .int .i64 a, .int .i64 b, .int .i64 c, .int .i64 n]] w (EncP w op a b c n) := by
  have US := Lib.hid (ruses_any (w.alloc (.cells #[.int .i64 op, .int .i64 a, .int .i64 b, .int .i64 c, .int .i64 n] 100)) op)
  have BI := Lib.hid (Blk.new w [.int .i64 op, .int .i64 a, .int .i64 b, .int .i64 c, .int .i64 n] 100)
  have NS := Lib.hid (Nw.new w (.cells #[.int .i64 op, .int .i64 a, .int .i64 b, .int .i64 c, .int .i64 n] 100))
  obtain ⟨rg, hrg⟩ : ∃ rg, rg = regsOf op := ⟨_, rfl⟩
  obtain ⟨im, him⟩ : ∃ im, im = immOf op := ⟨_, rfl⟩
  obtain ⟨io, hio⟩ : ∃ io, io = isOp op := ⟨_, rfl⟩
  obtain ⟨ha, hha⟩ : ∃ ha, ha = hasA op := ⟨_, rfl⟩
  obtain ⟨hb, hhb⟩ : ∃ hb, hb = hasB op := ⟨_, rfl⟩
  obtain ⟨hc, hhc⟩ : ∃ hc, hc = hasC op := ⟨_, rfl⟩
  have RF := rface op
  rw [← hrg, ← hha, ← hhb, ← hhc] at RF
  rw [← hrg, ← him, ← hio] at US
  have HIM := Lib.hid him.symm
  have HO := Lib.hid hio.symm
  have EA := Lib.hid hha.symm
  have EB := Lib.hid hhb.symm
  have EC := Lib.hid hhc.symm
  clear hrg him hio hha hhb hhc
  have cI := BI.out.cell
  have OKX := Lib.hid (show okIns op a b c n = (io && (regB ha a && (regB hb b && (regB hc c && immB im n)))) by unfold okIns; rw [HO.out, EA.out, EB.out, EC.out, HIM.out])
  have RNG := Lib.hid (show io = true → 0 ≤ op ∧ op ≤ 43 by intro h; have h1 := HO.out; rw [h] at h1; unfold isOp at h1; simp only [decide_eq_true_eq] at h1; omega)
  clear HIM HO EA EB EC
  rcases RF with ⟨rfl, rfl, rfl, rfl⟩ | ⟨rfl, rfl, rfl, rfl⟩ | ⟨rfl, rfl, rfl, rfl⟩ | ⟨rfl, rfl, rfl, rfl⟩
  · go_enter Try.func76, Try.ntmps76
    go_wp2_with fail
    refine (US.out).mono ?_
    rintro e1 w1 ⟨rfl, rfl⟩
    cases io with
    | false =>
      have HOK := Lib.hid (show okIns op a b c n = false by rw [OKX.out]; rfl)
      go_wp2_with fail
      go_returns
      exact ⟨by rw [HOK.out]; rfl, NS.out⟩
    | true =>
      obtain ⟨ra, hra⟩ : ∃ x, x = regB false a := ⟨_, rfl⟩
      have RA := Lib.hid hra.symm
      obtain ⟨rb, hrb⟩ : ∃ x, x = regB false b := ⟨_, rfl⟩
      have RB := Lib.hid hrb.symm
      obtain ⟨rc, hrc⟩ : ∃ x, x = regB false c := ⟨_, rfl⟩
      have RC := Lib.hid hrc.symm
      clear hra hrb hrc
      go_wp2_with fail
      refine (rreg_any _ _ _).mono ?_
      rintro _ _ ⟨rfl, rfl⟩
      rw [RA.out]
      cases ra with
      | false =>
        have HOK := Lib.hid (show okIns op a b c n = false by rw [OKX.out, RA.out]; rfl)
        go_wp2_with fail
        go_returns
        exact ⟨by rw [HOK.out]; rfl, NS.out⟩
      | true =>
        go_wp2_with fail
        refine (rreg_any _ _ _).mono ?_
        rintro _ _ ⟨rfl, rfl⟩
        rw [RB.out]
        cases rb with
        | false =>
          have HOK := Lib.hid (show okIns op a b c n = false by rw [OKX.out, RA.out, RB.out]; rfl)
          go_wp2_with fail
          go_returns
          exact ⟨by rw [HOK.out]; rfl, NS.out⟩
        | true =>
          go_wp2_with fail
          refine (rreg_any _ _ _).mono ?_
          rintro _ _ ⟨rfl, rfl⟩
          rw [RC.out]
          cases rc with
          | false =>
            have HOK := Lib.hid (show okIns op a b c n = false by rw [OKX.out, RA.out, RB.out, RC.out]; rfl)
            go_wp2_with fail
            go_returns
            exact ⟨by rw [HOK.out]; rfl, NS.out⟩
          | true =>
            obtain ⟨ho1, ho2⟩ := RNG.out (by first | rfl | trivial)
            have hra := RA.out
            have hrb := RB.out
            have hrc := RC.out
            unfold regB at hra hrb hrc
            simp only [decide_eq_true_eq] at hra hrb hrc
            have ha1 : 0 ≤ a := by omega
            have ha2 : a < 16 := by omega
            have hb1 : 0 ≤ b := by omega
            have hb2 : b < 16 := by omega
            have hc1 : 0 ≤ c := by omega
            have hc2 : c < 16 := by omega
            clear hra hrb hrc
            cases hI : immB im n with
            | false =>
              have HOK := Lib.hid (show okIns op a b c n = false by rw [OKX.out, RA.out, RB.out, RC.out, hI]; rfl)
              cases im with
              | false =>
                have hn0 : ¬ n = 0 := by unfold immB at hI; simpa using hI
                obtain ⟨ne1, ne2, ne3, ne4⟩ := int_ne hn0
                clear hI hn0
                go_wp2_with fail
                go_returns
                exact ⟨by rw [HOK.out]; rfl, NS.out⟩
              | true =>
                have hn0 : ¬ (-2147483648 ≤ n ∧ n ≤ 2147483647) := by unfold immB at hI; simpa using hI
                clear hI
                by_cases hlo : n < -2147483648
                · clear hn0
                  go_wp2_with fail
                  go_returns
                  exact ⟨by rw [HOK.out]; rfl, NS.out⟩
                · have hhi : 2147483647 < n := by omega
                  clear hn0
                  go_wp2_with fail
                  go_returns
                  exact ⟨by rw [HOK.out]; rfl, NS.out⟩
            | true =>
              have HOK := Lib.hid (show okIns op a b c n = true by rw [OKX.out, RA.out, RB.out, RC.out, hI]; rfl)
              have hnr : -2147483648 ≤ n ∧ n ≤ 2147483647 := by
                unfold immB at hI
                split at hI <;> simp only [decide_eq_true_eq] at hI <;> omega
              have hlo : ¬ n < -2147483648 := by omega
              have hhi : ¬ 2147483647 < n := by omega
              obtain ⟨hn1, hn2⟩ := hnr
              have VE := Lib.hid (show ∀ y, y = encIns op a b c n → EncP w op a b c n (.returned (.tuple #[.int .i64 y, .int .i64 0])) (w.alloc (.cells #[.int .i64 op, .int .i64 a, .int .i64 b, .int .i64 c, .int .i64 n] 100)) from fun y hy => ⟨by rw [HOK.out, hy]; rfl, NS.out⟩)
              cases im with
              | false =>
                have hn0 : n = 0 := by unfold immB at hI; simpa using hI
                have hnz : (n != 0) = false := by simp [hn0]
                have hnn : ¬ n < 0 := by omega
                clear hI hn0
                go_wp2_with fail
                go_returns
                exact VE.out _ (by unfold encIns; omega)
              | true =>
                clear hI
                by_cases hnn : n < 0
                · go_wp2_with fail
                  go_returns
                  exact VE.out _ (by unfold encIns; omega)
                · go_wp2_with fail
                  go_returns
                  exact VE.out _ (by unfold encIns; omega)
  · go_enter Try.func76, Try.ntmps76
    go_wp2_with fail
    refine (US.out).mono ?_
    rintro e1 w1 ⟨rfl, rfl⟩
    cases io with
    | false =>
      have HOK := Lib.hid (show okIns op a b c n = false by rw [OKX.out]; rfl)
      go_wp2_with fail
      go_returns
      exact ⟨by rw [HOK.out]; rfl, NS.out⟩
    | true =>
      obtain ⟨ra, hra⟩ : ∃ x, x = regB true a := ⟨_, rfl⟩
      have RA := Lib.hid hra.symm
      obtain ⟨rb, hrb⟩ : ∃ x, x = regB false b := ⟨_, rfl⟩
      have RB := Lib.hid hrb.symm
      obtain ⟨rc, hrc⟩ : ∃ x, x = regB false c := ⟨_, rfl⟩
      have RC := Lib.hid hrc.symm
      clear hra hrb hrc
      go_wp2_with fail
      refine (rreg_any _ _ _).mono ?_
      rintro _ _ ⟨rfl, rfl⟩
      rw [RA.out]
      cases ra with
      | false =>
        have HOK := Lib.hid (show okIns op a b c n = false by rw [OKX.out, RA.out]; rfl)
        go_wp2_with fail
        go_returns
        exact ⟨by rw [HOK.out]; rfl, NS.out⟩
      | true =>
        go_wp2_with fail
        refine (rreg_any _ _ _).mono ?_
        rintro _ _ ⟨rfl, rfl⟩
        rw [RB.out]
        cases rb with
        | false =>
          have HOK := Lib.hid (show okIns op a b c n = false by rw [OKX.out, RA.out, RB.out]; rfl)
          go_wp2_with fail
          go_returns
          exact ⟨by rw [HOK.out]; rfl, NS.out⟩
        | true =>
          go_wp2_with fail
          refine (rreg_any _ _ _).mono ?_
          rintro _ _ ⟨rfl, rfl⟩
          rw [RC.out]
          cases rc with
          | false =>
            have HOK := Lib.hid (show okIns op a b c n = false by rw [OKX.out, RA.out, RB.out, RC.out]; rfl)
            go_wp2_with fail
            go_returns
            exact ⟨by rw [HOK.out]; rfl, NS.out⟩
          | true =>
            obtain ⟨ho1, ho2⟩ := RNG.out (by first | rfl | trivial)
            have hra := RA.out
            have hrb := RB.out
            have hrc := RC.out
            unfold regB at hra hrb hrc
            simp only [decide_eq_true_eq] at hra hrb hrc
            have ha1 : 0 ≤ a := by omega
            have ha2 : a < 16 := by omega
            have hb1 : 0 ≤ b := by omega
            have hb2 : b < 16 := by omega
            have hc1 : 0 ≤ c := by omega
            have hc2 : c < 16 := by omega
            clear hra hrb hrc
            cases hI : immB im n with
            | false =>
              have HOK := Lib.hid (show okIns op a b c n = false by rw [OKX.out, RA.out, RB.out, RC.out, hI]; rfl)
              cases im with
              | false =>
                have hn0 : ¬ n = 0 := by unfold immB at hI; simpa using hI
                obtain ⟨ne1, ne2, ne3, ne4⟩ := int_ne hn0
                clear hI hn0
                go_wp2_with fail
                go_returns
                exact ⟨by rw [HOK.out]; rfl, NS.out⟩
              | true =>
                have hn0 : ¬ (-2147483648 ≤ n ∧ n ≤ 2147483647) := by unfold immB at hI; simpa using hI
                clear hI
                by_cases hlo : n < -2147483648
                · clear hn0
                  go_wp2_with fail
                  go_returns
                  exact ⟨by rw [HOK.out]; rfl, NS.out⟩
                · have hhi : 2147483647 < n := by omega
                  clear hn0
                  go_wp2_with fail
                  go_returns
                  exact ⟨by rw [HOK.out]; rfl, NS.out⟩
            | true =>
              have HOK := Lib.hid (show okIns op a b c n = true by rw [OKX.out, RA.out, RB.out, RC.out, hI]; rfl)
              have hnr : -2147483648 ≤ n ∧ n ≤ 2147483647 := by
                unfold immB at hI
                split at hI <;> simp only [decide_eq_true_eq] at hI <;> omega
              have hlo : ¬ n < -2147483648 := by omega
              have hhi : ¬ 2147483647 < n := by omega
              obtain ⟨hn1, hn2⟩ := hnr
              have VE := Lib.hid (show ∀ y, y = encIns op a b c n → EncP w op a b c n (.returned (.tuple #[.int .i64 y, .int .i64 0])) (w.alloc (.cells #[.int .i64 op, .int .i64 a, .int .i64 b, .int .i64 c, .int .i64 n] 100)) from fun y hy => ⟨by rw [HOK.out, hy]; rfl, NS.out⟩)
              cases im with
              | false =>
                have hn0 : n = 0 := by unfold immB at hI; simpa using hI
                have hnz : (n != 0) = false := by simp [hn0]
                have hnn : ¬ n < 0 := by omega
                clear hI hn0
                go_wp2_with fail
                go_returns
                exact VE.out _ (by unfold encIns; omega)
              | true =>
                clear hI
                by_cases hnn : n < 0
                · go_wp2_with fail
                  go_returns
                  exact VE.out _ (by unfold encIns; omega)
                · go_wp2_with fail
                  go_returns
                  exact VE.out _ (by unfold encIns; omega)
  · go_enter Try.func76, Try.ntmps76
    go_wp2_with fail
    refine (US.out).mono ?_
    rintro e1 w1 ⟨rfl, rfl⟩
    cases io with
    | false =>
      have HOK := Lib.hid (show okIns op a b c n = false by rw [OKX.out]; rfl)
      go_wp2_with fail
      go_returns
      exact ⟨by rw [HOK.out]; rfl, NS.out⟩
    | true =>
      obtain ⟨ra, hra⟩ : ∃ x, x = regB true a := ⟨_, rfl⟩
      have RA := Lib.hid hra.symm
      obtain ⟨rb, hrb⟩ : ∃ x, x = regB true b := ⟨_, rfl⟩
      have RB := Lib.hid hrb.symm
      obtain ⟨rc, hrc⟩ : ∃ x, x = regB false c := ⟨_, rfl⟩
      have RC := Lib.hid hrc.symm
      clear hra hrb hrc
      go_wp2_with fail
      refine (rreg_any _ _ _).mono ?_
      rintro _ _ ⟨rfl, rfl⟩
      rw [RA.out]
      cases ra with
      | false =>
        have HOK := Lib.hid (show okIns op a b c n = false by rw [OKX.out, RA.out]; rfl)
        go_wp2_with fail
        go_returns
        exact ⟨by rw [HOK.out]; rfl, NS.out⟩
      | true =>
        go_wp2_with fail
        refine (rreg_any _ _ _).mono ?_
        rintro _ _ ⟨rfl, rfl⟩
        rw [RB.out]
        cases rb with
        | false =>
          have HOK := Lib.hid (show okIns op a b c n = false by rw [OKX.out, RA.out, RB.out]; rfl)
          go_wp2_with fail
          go_returns
          exact ⟨by rw [HOK.out]; rfl, NS.out⟩
        | true =>
          go_wp2_with fail
          refine (rreg_any _ _ _).mono ?_
          rintro _ _ ⟨rfl, rfl⟩
          rw [RC.out]
          cases rc with
          | false =>
            have HOK := Lib.hid (show okIns op a b c n = false by rw [OKX.out, RA.out, RB.out, RC.out]; rfl)
            go_wp2_with fail
            go_returns
            exact ⟨by rw [HOK.out]; rfl, NS.out⟩
          | true =>
            obtain ⟨ho1, ho2⟩ := RNG.out (by first | rfl | trivial)
            have hra := RA.out
            have hrb := RB.out
            have hrc := RC.out
            unfold regB at hra hrb hrc
            simp only [decide_eq_true_eq] at hra hrb hrc
            have ha1 : 0 ≤ a := by omega
            have ha2 : a < 16 := by omega
            have hb1 : 0 ≤ b := by omega
            have hb2 : b < 16 := by omega
            have hc1 : 0 ≤ c := by omega
            have hc2 : c < 16 := by omega
            clear hra hrb hrc
            cases hI : immB im n with
            | false =>
              have HOK := Lib.hid (show okIns op a b c n = false by rw [OKX.out, RA.out, RB.out, RC.out, hI]; rfl)
              cases im with
              | false =>
                have hn0 : ¬ n = 0 := by unfold immB at hI; simpa using hI
                obtain ⟨ne1, ne2, ne3, ne4⟩ := int_ne hn0
                clear hI hn0
                go_wp2_with fail
                go_returns
                exact ⟨by rw [HOK.out]; rfl, NS.out⟩
              | true =>
                have hn0 : ¬ (-2147483648 ≤ n ∧ n ≤ 2147483647) := by unfold immB at hI; simpa using hI
                clear hI
                by_cases hlo : n < -2147483648
                · clear hn0
                  go_wp2_with fail
                  go_returns
                  exact ⟨by rw [HOK.out]; rfl, NS.out⟩
                · have hhi : 2147483647 < n := by omega
                  clear hn0
                  go_wp2_with fail
                  go_returns
                  exact ⟨by rw [HOK.out]; rfl, NS.out⟩
            | true =>
              have HOK := Lib.hid (show okIns op a b c n = true by rw [OKX.out, RA.out, RB.out, RC.out, hI]; rfl)
              have hnr : -2147483648 ≤ n ∧ n ≤ 2147483647 := by
                unfold immB at hI
                split at hI <;> simp only [decide_eq_true_eq] at hI <;> omega
              have hlo : ¬ n < -2147483648 := by omega
              have hhi : ¬ 2147483647 < n := by omega
              obtain ⟨hn1, hn2⟩ := hnr
              have VE := Lib.hid (show ∀ y, y = encIns op a b c n → EncP w op a b c n (.returned (.tuple #[.int .i64 y, .int .i64 0])) (w.alloc (.cells #[.int .i64 op, .int .i64 a, .int .i64 b, .int .i64 c, .int .i64 n] 100)) from fun y hy => ⟨by rw [HOK.out, hy]; rfl, NS.out⟩)
              cases im with
              | false =>
                have hn0 : n = 0 := by unfold immB at hI; simpa using hI
                have hnz : (n != 0) = false := by simp [hn0]
                have hnn : ¬ n < 0 := by omega
                clear hI hn0
                go_wp2_with fail
                go_returns
                exact VE.out _ (by unfold encIns; omega)
              | true =>
                clear hI
                by_cases hnn : n < 0
                · go_wp2_with fail
                  go_returns
                  exact VE.out _ (by unfold encIns; omega)
                · go_wp2_with fail
                  go_returns
                  exact VE.out _ (by unfold encIns; omega)
  · go_enter Try.func76, Try.ntmps76
    go_wp2_with fail
    refine (US.out).mono ?_
    rintro e1 w1 ⟨rfl, rfl⟩
    cases io with
    | false =>
      have HOK := Lib.hid (show okIns op a b c n = false by rw [OKX.out]; rfl)
      go_wp2_with fail
      go_returns
      exact ⟨by rw [HOK.out]; rfl, NS.out⟩
    | true =>
      obtain ⟨ra, hra⟩ : ∃ x, x = regB true a := ⟨_, rfl⟩
      have RA := Lib.hid hra.symm
      obtain ⟨rb, hrb⟩ : ∃ x, x = regB true b := ⟨_, rfl⟩
      have RB := Lib.hid hrb.symm
      obtain ⟨rc, hrc⟩ : ∃ x, x = regB true c := ⟨_, rfl⟩
      have RC := Lib.hid hrc.symm
      clear hra hrb hrc
      go_wp2_with fail
      refine (rreg_any _ _ _).mono ?_
      rintro _ _ ⟨rfl, rfl⟩
      rw [RA.out]
      cases ra with
      | false =>
        have HOK := Lib.hid (show okIns op a b c n = false by rw [OKX.out, RA.out]; rfl)
        go_wp2_with fail
        go_returns
        exact ⟨by rw [HOK.out]; rfl, NS.out⟩
      | true =>
        go_wp2_with fail
        refine (rreg_any _ _ _).mono ?_
        rintro _ _ ⟨rfl, rfl⟩
        rw [RB.out]
        cases rb with
        | false =>
          have HOK := Lib.hid (show okIns op a b c n = false by rw [OKX.out, RA.out, RB.out]; rfl)
          go_wp2_with fail
          go_returns
          exact ⟨by rw [HOK.out]; rfl, NS.out⟩
        | true =>
          go_wp2_with fail
          refine (rreg_any _ _ _).mono ?_
          rintro _ _ ⟨rfl, rfl⟩
          rw [RC.out]
          cases rc with
          | false =>
            have HOK := Lib.hid (show okIns op a b c n = false by rw [OKX.out, RA.out, RB.out, RC.out]; rfl)
            go_wp2_with fail
            go_returns
            exact ⟨by rw [HOK.out]; rfl, NS.out⟩
          | true =>
            obtain ⟨ho1, ho2⟩ := RNG.out (by first | rfl | trivial)
            have hra := RA.out
            have hrb := RB.out
            have hrc := RC.out
            unfold regB at hra hrb hrc
            simp only [decide_eq_true_eq] at hra hrb hrc
            have ha1 : 0 ≤ a := by omega
            have ha2 : a < 16 := by omega
            have hb1 : 0 ≤ b := by omega
            have hb2 : b < 16 := by omega
            have hc1 : 0 ≤ c := by omega
            have hc2 : c < 16 := by omega
            clear hra hrb hrc
            cases hI : immB im n with
            | false =>
              have HOK := Lib.hid (show okIns op a b c n = false by rw [OKX.out, RA.out, RB.out, RC.out, hI]; rfl)
              cases im with
              | false =>
                have hn0 : ¬ n = 0 := by unfold immB at hI; simpa using hI
                obtain ⟨ne1, ne2, ne3, ne4⟩ := int_ne hn0
                clear hI hn0
                go_wp2_with fail
                go_returns
                exact ⟨by rw [HOK.out]; rfl, NS.out⟩
              | true =>
                have hn0 : ¬ (-2147483648 ≤ n ∧ n ≤ 2147483647) := by unfold immB at hI; simpa using hI
                clear hI
                by_cases hlo : n < -2147483648
                · clear hn0
                  go_wp2_with fail
                  go_returns
                  exact ⟨by rw [HOK.out]; rfl, NS.out⟩
                · have hhi : 2147483647 < n := by omega
                  clear hn0
                  go_wp2_with fail
                  go_returns
                  exact ⟨by rw [HOK.out]; rfl, NS.out⟩
            | true =>
              have HOK := Lib.hid (show okIns op a b c n = true by rw [OKX.out, RA.out, RB.out, RC.out, hI]; rfl)
              have hnr : -2147483648 ≤ n ∧ n ≤ 2147483647 := by
                unfold immB at hI
                split at hI <;> simp only [decide_eq_true_eq] at hI <;> omega
              have hlo : ¬ n < -2147483648 := by omega
              have hhi : ¬ 2147483647 < n := by omega
              obtain ⟨hn1, hn2⟩ := hnr
              have VE := Lib.hid (show ∀ y, y = encIns op a b c n → EncP w op a b c n (.returned (.tuple #[.int .i64 y, .int .i64 0])) (w.alloc (.cells #[.int .i64 op, .int .i64 a, .int .i64 b, .int .i64 c, .int .i64 n] 100)) from fun y hy => ⟨by rw [HOK.out, hy]; rfl, NS.out⟩)
              cases im with
              | false =>
                have hn0 : n = 0 := by unfold immB at hI; simpa using hI
                have hnz : (n != 0) = false := by simp [hn0]
                have hnn : ¬ n < 0 := by omega
                clear hI hn0
                go_wp2_with fail
                go_returns
                exact VE.out _ (by unfold encIns; omega)
              | true =>
                clear hI
                by_cases hnn : n < 0
                · go_wp2_with fail
                  go_returns
                  exact VE.out _ (by unfold encIns; omega)
                · go_wp2_with fail
                  go_returns
                  exact VE.out _ (by unfold encIns; omega)
end Go.Proofs.Ytfdjlicegfgodaa
