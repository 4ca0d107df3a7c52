/- The instructions' words: isa.Encode. -/
import Derived.Test.YtfdjlicegfgodaaIsa2
namespace Go.Proofs.Ytfdjlicegfgodaa
open Go.RowKit
set_option linter.unusedSimpArgs false
set_option linter.unusedVariables false

def EncP (w : World) (op a b c n : Int) (e : Ending) (w' : World) : Prop :=
  e = .returned (.tuple #[.int .i64 (if okIns op a b c n = true then encIns op a b c n else 0), .int .i64 (if okIns op a b c n = true then 0 else 4)]) ∧ Nw w w'
theorem bits_or_i64_nat (a b : Nat) (ha : a < 9223372036854775808) (hb : b < 9223372036854775808) :
    bits .or .i64 (a : Int) (b : Int) = ((a ||| b : Nat) : Int) := by
  have hx : a ||| b < 2 ^ 63 := Nat.or_lt_two_pow (by omega) (by omega)
  have h1 : (BitVec.ofInt 64 (a : Int)).toNat = a := by
    rw [BitVec.ofInt_natCast, BitVec.toNat_ofNat]; exact Nat.mod_eq_of_lt (by omega)
  have h2 : (BitVec.ofInt 64 (b : Int)).toNat = b := by
    rw [BitVec.ofInt_natCast, BitVec.toNat_ofNat]; exact Nat.mod_eq_of_lt (by omega)
  show IntKind.i64.wrap ((BitVec.ofInt 64 (a : Int) ||| BitVec.ofInt 64 (b : Int)).toNat : Int) = _
  rw [BitVec.toNat_or, h1, h2]
  exact IntWalk.i64_in _ (by omega)
theorem or_low (x y k : Nat) (hy : y < 2 ^ k) : (x * 2 ^ k) ||| y = x * 2 ^ k + y := by
  rw [← Nat.shiftLeft_eq, ← Nat.shiftLeft_add_eq_or_of_lt hy]

theorem or_enc {op a b c : Int} (h1 : 0 ≤ op ∧ op ≤ 43) (h2 : 0 ≤ a ∧ a < 16) (h3 : 0 ≤ b ∧ b < 16) (h4 : 0 ≤ c ∧ c < 16) (n : Int) :
    bits .or .i64 (bits .or .i64 (bits .or .i64 (bits .or .i64 (op * 72057594037927936) (a * 4503599627370496)) (b * 281474976710656)) (c * 17592186044416)) (n % 4294967296) = encIns op a b c n := by
  obtain ⟨o, rfl⟩ : ∃ k : Nat, op = k := ⟨op.toNat, by omega⟩
  obtain ⟨x, rfl⟩ : ∃ k : Nat, a = k := ⟨a.toNat, by omega⟩
  obtain ⟨y, rfl⟩ : ∃ k : Nat, b = k := ⟨b.toNat, by omega⟩
  obtain ⟨z, rfl⟩ : ∃ k : Nat, c = k := ⟨c.toNat, by omega⟩
  obtain ⟨m, hm⟩ : ∃ m : Nat, n % 4294967296 = m := ⟨(n % 4294967296).toNat, by omega⟩
  have hm2 : m < 4294967296 := by omega
  unfold encIns
  rw [hm]
  have e1 : bits .or .i64 ((o : Int) * 72057594037927936) ((x : Int) * 4503599627370496) = (((o * 16 + x) * 4503599627370496 : Nat) : Int) := by
    have h := bits_or_i64_nat (o * 72057594037927936) (x * 4503599627370496) (by omega) (by omega)
    have h' := or_low o (x * 4503599627370496) 56 (by omega)
    simp only [Nat.reducePow] at h'
    rw [h'] at h
    rw [show ((o : Int) * 72057594037927936) = ((o * 72057594037927936 : Nat) : Int) by omega, show ((x : Int) * 4503599627370496) = ((x * 4503599627370496 : Nat) : Int) by omega, h]
    omega
  have e2 : bits .or .i64 (((o * 16 + x) * 4503599627370496 : Nat) : Int) ((y : Int) * 281474976710656) = ((((o * 16 + x) * 16 + y) * 281474976710656 : Nat) : Int) := by
    have h := bits_or_i64_nat ((o * 16 + x) * 4503599627370496) (y * 281474976710656) (by omega) (by omega)
    have h' := or_low (o * 16 + x) (y * 281474976710656) 52 (by omega)
    simp only [Nat.reducePow] at h'
    rw [h'] at h
    rw [show ((y : Int) * 281474976710656) = ((y * 281474976710656 : Nat) : Int) by omega, h]
    omega
  have e3 : bits .or .i64 ((((o * 16 + x) * 16 + y) * 281474976710656 : Nat) : Int) ((z : Int) * 17592186044416) = (((((o * 16 + x) * 16 + y) * 16 + z) * 17592186044416 : Nat) : Int) := by
    have h := bits_or_i64_nat (((o * 16 + x) * 16 + y) * 281474976710656) (z * 17592186044416) (by omega) (by omega)
    have h' := or_low ((o * 16 + x) * 16 + y) (z * 17592186044416) 48 (by omega)
    simp only [Nat.reducePow] at h'
    rw [h'] at h
    rw [show ((z : Int) * 17592186044416) = ((z * 17592186044416 : Nat) : Int) by omega, h]
    omega
  have e4 : bits .or .i64 (((((o * 16 + x) * 16 + y) * 16 + z) * 17592186044416 : Nat) : Int) (m : Int) = (((((o * 16 + x) * 16 + y) * 16 + z) * 17592186044416 + m : Nat) : Int) := by
    have h := bits_or_i64_nat ((((o * 16 + x) * 16 + y) * 16 + z) * 17592186044416) m (by omega) (by omega)
    have h' := or_low (((o * 16 + x) * 16 + y) * 16 + z) m 44 (by omega)
    simp only [Nat.reducePow] at h'
    rw [h'] at h
    exact h
  rw [e1, e2, e3, e4]
  omega

set_option maxRecDepth 100000 in
set_option maxHeartbeats 8000000 in
theorem isaEncode_any (w : World) (op a b c n : Int) (hop : -9223372036854775808 ≤ op ∧ op ≤ 9223372036854775807) :
    Calls Try.prog 74 #[.agg #[.int .i64 op, .int .i64 a, .int .i64 b, .int .i64 c, .int .i64 n]] w (EncP w op a b c n) := by
  have OFC := Lib.hid (of_any (w.alloc (.cells #[.int .i64 op, .int .i64 a, .int .i64 b, .int .i64 c, .int .i64 n] 100)) op hop)
  have BI := Lib.hid (Blk.new w [.int .i64 op, .int .i64 a, .int .i64 b, .int .i64 c, .int .i64 n] 100)
  have N0 := Lib.hid (Nw.new w (.cells #[.int .i64 op, .int .i64 a, .int .i64 b, .int .i64 c, .int .i64 n] 100))
  obtain ⟨hA, hB, hC⟩ := has_bits op
  have HBA := Lib.hid hA
  have HBB := Lib.hid hB
  have HBC := Lib.hid hC
  clear hA hB hC
  have cI := BI.out.cell
  go_enter Try.func74, Try.ntmps74
  go_wp2_with fail
  refine (OFC.out).mono ?_
  rintro e1 w1 ⟨nm, rfl, k1⟩
  obtain ⟨rg, hrg⟩ : ∃ rg, rg = regsOf op := ⟨_, rfl⟩
  obtain ⟨im, him⟩ : ∃ im, im = immOf op := ⟨_, rfl⟩
  obtain ⟨io, hio⟩ : ∃ io, io = isOp op := ⟨_, rfl⟩
  rw [← hrg] at HBA HBB HBC
  rw [← hrg, ← him, ← hio]
  have HIM := Lib.hid him.symm
  have HO := Lib.hid hio.symm
  have hbA := HBA.out
  have hbB := HBB.out
  have hbC := HBC.out
  obtain ⟨ha, hha⟩ : ∃ ha, ha = hasA op := ⟨_, rfl⟩
  obtain ⟨hb, hhb⟩ : ∃ hb, hb = hasB op := ⟨_, rfl⟩
  obtain ⟨hc, hhc⟩ : ∃ hc, hc = hasC op := ⟨_, rfl⟩
  rw [← hha] at hbA
  rw [← hhb] at hbB
  rw [← hhc] at hbC
  have EA := Lib.hid hha.symm
  have EB := Lib.hid hhb.symm
  have EC := Lib.hid hhc.symm
  have NS := Lib.hid (show Nw w (w1.alloc (.cells #[.string nm, .int .i64 rg, .bool im] 127)) from (N0.out.trans k1).alloc _)
  have BS := Lib.hid (Blk.new w1 [.string nm, .int .i64 rg, .bool im] 127)
  have BI2 := Lib.hid ((BI.out.nw k1).alloc (.cells #[.string nm, .int .i64 rg, .bool im] 127))
  clear hrg him hio hha hhb hhc k1 cI HBA HBB HBC OFC
  go_upto_region 2 with fail
  generalize w1.alloc (.cells #[.string nm, .int .i64 rg, .bool im] 127) = wS at *
  have cI := BI2.out.cell
  have cS := BS.out.cell
  cases io with
  | false =>
    have HOK := Lib.hid (show okIns op a b c n = false by unfold okIns; rw [HO.out]; rfl)
    go_wp2_with fail
    go_returns
    exact ⟨by rw [HOK.out]; rfl, NS.out⟩
  | true =>
    obtain ⟨ra, hra⟩ : ∃ ra, ra = regB ha a := ⟨_, rfl⟩
    have RA := Lib.hid hra.symm
    obtain ⟨rb, hrb⟩ : ∃ rb, rb = regB hb b := ⟨_, rfl⟩
    have RB := Lib.hid hrb.symm
    obtain ⟨rc, hrc⟩ : ∃ rc, rc = regB hc c := ⟨_, rfl⟩
    have RC := Lib.hid hrc.symm
    clear hra hrb hrc
    go_wp2_with fail
    refine (may_any _ _ _).mono ?_
    rintro _ _ ⟨rfl, rfl⟩
    rw [RA.out]
    cases ra with
    | false =>
      have HOK := Lib.hid (show okIns op a b c n = false by unfold okIns; rw [HO.out, EA.out, RA.out]; rfl)
      go_wp2_with fail
      go_returns
      exact ⟨by rw [HOK.out]; rfl, NS.out⟩
    | true =>
      go_wp2_with fail
      refine (may_any _ _ _).mono ?_
      rintro _ _ ⟨rfl, rfl⟩
      rw [RB.out]
      cases rb with
      | false =>
        have HOK := Lib.hid (show okIns op a b c n = false by unfold okIns; rw [HO.out, EA.out, RA.out, EB.out, RB.out]; rfl)
        go_wp2_with fail
        go_returns
        exact ⟨by rw [HOK.out]; rfl, NS.out⟩
      | true =>
        go_wp2_with fail
        refine (may_any _ _ _).mono ?_
        rintro _ _ ⟨rfl, rfl⟩
        rw [RC.out]
        cases rc with
        | false =>
          have HOK := Lib.hid (show okIns op a b c n = false by unfold okIns; rw [HO.out, EA.out, RA.out, EB.out, RB.out, EC.out, RC.out]; rfl)
          go_wp2_with fail
          go_returns
          exact ⟨by rw [HOK.out]; rfl, NS.out⟩
        | true =>
          by_cases hI : immB im n = true
          rotate_left
          · have hIf : immB im n = false := by simpa using hI
            have HOK := Lib.hid (show okIns op a b c n = false by unfold okIns; rw [HO.out, EA.out, RA.out, EB.out, RB.out, EC.out, RC.out, HIM.out, hIf]; rfl)
            cases im with
            | false =>
              have hn0 : ¬ n = 0 := by unfold immB at hIf; simpa using hIf
              obtain ⟨ne1, ne2, ne3, ne4⟩ := int_ne hn0
              clear hI hIf hn0
              go_wp2_with fail
              go_returns
              exact ⟨by rw [HOK.out]; rfl, NS.out⟩
            | true =>
              have hn0 : ¬ (-2147483648 ≤ n ∧ n ≤ 2147483647) := by unfold immB at hIf; simpa using hIf
              clear hI hIf
              by_cases hlo : n < -2147483648
              · clear hn0
                go_wp2_with fail
                go_returns
                exact ⟨by rw [HOK.out]; rfl, NS.out⟩
              · have hhi : 2147483647 < n := by omega
                clear hn0
                go_wp2_with fail
                go_returns
                exact ⟨by rw [HOK.out]; rfl, NS.out⟩
          · have HOK := Lib.hid (show okIns op a b c n = true by unfold okIns; rw [HO.out, EA.out, RA.out, EB.out, RB.out, EC.out, RC.out, HIM.out, hI]; rfl)
            have hab : (0 ≤ op ∧ op ≤ 43) ∧ (0 ≤ a ∧ a < 16) ∧ (0 ≤ b ∧ b < 16) ∧ (0 ≤ c ∧ c < 16) ∧ (-2147483648 ≤ n ∧ n ≤ 2147483647) := by
              have h1 := HO.out
              have h2 := RA.out
              have h3 := RB.out
              have h4 := RC.out
              unfold isOp at h1
              unfold regB at h2 h3 h4
              simp only [decide_eq_true_eq] at h1 h2 h3 h4
              refine ⟨by omega, by omega, by omega, by omega, ?_⟩
              unfold immB at hI
              split at hI <;> simp only [decide_eq_true_eq] at hI <;> omega
            have HI := Lib.hid hI
            have hlo : ¬ n < -2147483648 := by omega
            have hhi : ¬ 2147483647 < n := by omega
            have VAL := Lib.hid (or_enc hab.1 hab.2.1 hab.2.2.1 hab.2.2.2.1 n)
            have FIN := Lib.hid (show EncP w op a b c n (.returned (.tuple #[.int .i64 (encIns op a b c n), .int .i64 0])) wS from ⟨by rw [HOK.out]; rfl, NS.out⟩)
            cases im with
            | false =>
              have hnz : (n != 0) = false := by unfold immB at hI; simpa using hI
              clear hI
              go_wp2_with fail
              go_returns
              show EncP w op a b c n (.returned (.tuple #[.int .i64 (bits .or .i64 (bits .or .i64 (bits .or .i64 (bits .or .i64 (op * 72057594037927936) (a * 4503599627370496)) (b * 281474976710656)) (c * 17592186044416)) (n % 4294967296)), .int .i64 0])) wS
              rw [VAL.out]
              exact FIN.out
            | true =>
              clear hI
              go_wp2_with fail
              go_returns
              show EncP w op a b c n (.returned (.tuple #[.int .i64 (bits .or .i64 (bits .or .i64 (bits .or .i64 (bits .or .i64 (op * 72057594037927936) (a * 4503599627370496)) (b * 281474976710656)) (c * 17592186044416)) (n % 4294967296)), .int .i64 0])) wS
              rw [VAL.out]
              exact FIN.out
end Go.Proofs.Ytfdjlicegfgodaa
