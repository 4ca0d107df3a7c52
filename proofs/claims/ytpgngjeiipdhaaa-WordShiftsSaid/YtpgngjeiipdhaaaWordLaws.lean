/- The walks of the six statements on words: each returns true, whatever the input. -/
import Derived.Test.YtpgngjeiipdhaaaWord
namespace Go.Proofs.Ytpgngjeiipdhaaa
open Go.RowKit

theorem awake1_any (w : World) : Calls Try.prog 11 #[] w fun e w' => e = .returned (.bool true) ∧ w = w' := by
  have e1 : wbin 4 (-7) 2 = (-3, 0) := by kernel_rfl
  have e2 : wbin 4 5 0 = (0, 3) := by kernel_rfl
  go_enter Try.func11, Try.ntmps11
  go_wp2_with (go_at_call 9; refine (bin_any _ _ _ _).mono ?_; rintro e w' ⟨rfl, rfl⟩)
  go_ret
  exact ⟨rfl, rfl⟩

theorem wordBins_walk (op a b : Int) (w : World) : Calls Try.prog 3 #[.int .i64 op, .int .i64 a, .int .i64 b] w fun e w' => e = .returned (.bool true) ∧ Grown w w' := by
  go_enter Try.func3, Try.ntmps3
  go_wp2_with (first | (go_at_call 9; refine (bin_any _ _ _ _).mono ?_; rintro e w' ⟨rfl, rfl⟩) | (go_at_call 10; refine (rbin_any _ _ _ _).mono ?_; rintro e w' ⟨rfl, rfl⟩) | (go_at_call 11; refine (awake1_any _).mono ?_; rintro e w' ⟨rfl, rfl⟩))
  go_ret
  exact ⟨rfl, Grown.refl _⟩

theorem wordUns_walk (op a : Int) (w : World) : Calls Try.prog 7 #[.int .i64 op, .int .i64 a] w fun e w' => e = .returned (.bool true) ∧ Grown w w' := by
  go_enter Try.func7, Try.ntmps7
  go_wp2_with (first | (go_at_call 12; refine (un_any _ _ _).mono ?_; rintro e w' ⟨rfl, rfl⟩) | (go_at_call 13; refine (run_any _ _ _).mono ?_; rintro e w' ⟨rfl, rfl⟩) | (go_at_call 11; refine (awake1_any _).mono ?_; rintro e w' ⟨rfl, rfl⟩))
  go_ret
  exact ⟨rfl, Grown.refl _⟩

theorem tdiv_big (a b : Int) (ha : -9223372036854775808 ≤ a ∧ a ≤ 9223372036854775807) (h0 : b ≠ 0) (h1 : b ≠ -1) :
    -9223372036854775808 ≤ a.tdiv b ∧ a.tdiv b ≤ 9223372036854775807 := by
  have h := Int.natAbs_tdiv a b
  by_cases g : b = 1
  · subst g; simpa using ha
  · have hb : 2 ≤ b.natAbs := by omega
    have hq : a.natAbs / b.natAbs ≤ a.natAbs / 2 := Nat.div_le_div_left hb (by decide)
    have ha2 : a.natAbs ≤ 9223372036854775808 := by omega
    have hq3 : (a.tdiv b).natAbs ≤ 4611686018427387904 := by rw [h]; exact Nat.le_trans hq (by omega)
    omega

theorem wordDivides_walk (a b : Int) (ha : -9223372036854775808 ≤ a ∧ a ≤ 9223372036854775807) (hb : -9223372036854775808 ≤ b ∧ b ≤ 9223372036854775807) (w : World) :
    Calls Try.prog 4 #[.int .i64 a, .int .i64 b] w fun e w' => e = .returned (.bool true) ∧ Grown w w' := by
  by_cases h0 : b = 0
  · subst h0
    have e1 : wbin 4 a 0 = (0, 3) := rfl
    have e2 : wbin 5 a 0 = (0, 3) := rfl
    go_enter Try.func4, Try.ntmps4
    go_wp2_with (go_at_call 9; refine (bin_any _ _ _ _).mono ?_; rintro e w' ⟨rfl, rfl⟩)
    go_ret
    exact ⟨rfl, Grown.refl _⟩
  · have hqr : ∃ q r : Int, wbin 4 a b = (q, 0) ∧ wbin 5 a b = (r, 0) ∧ wrap64 (wrap64 (q * b) + r) = a ∧ (0 ≤ a → 0 ≤ r) ∧ (a ≤ 0 → r ≤ 0) ∧ (b < 0 → b < r ∧ r < -b) ∧ (0 ≤ b → -b < r ∧ r < b) := by
      by_cases h1 : b = -1
      · subst h1
        refine ⟨wrap64 (-a), 0, rfl, rfl, ?_, fun _ => Int.le_refl _, fun _ => Int.le_refl _, fun _ => ⟨by decide, by decide⟩, fun h => absurd h (by decide)⟩
        unfold wrap64; omega
      · have hb2 := tdiv_big a b ha h0 h1
        refine ⟨wrap64 (a.tdiv b), a.tmod b, by simp [wbin, h0, h1], by simp [wbin, h0, h1], ?_, ?_, ?_, ?_, ?_⟩
        · rw [IntWalk.wrap64_in _ hb2]
          have hm := Int.tdiv_mul_add_tmod a b
          generalize a.tdiv b * b = x at hm ⊢
          generalize a.tmod b = y at hm ⊢
          unfold wrap64; omega
        · intro h; exact Int.tmod_nonneg b h
        · intro h
          have := Int.tmod_nonneg b (show 0 ≤ -a by omega)
          rw [Int.neg_tmod] at this; omega
        · intro h
          have h3 := Int.tmod_lt_of_pos a (show 0 < -b by omega)
          have h4 := Int.tmod_lt_of_pos (-a) (show 0 < -b by omega)
          rw [Int.tmod_neg] at h3 h4; rw [Int.neg_tmod] at h4
          omega
        · intro h
          have h3 := Int.tmod_lt_of_pos a (show 0 < b by omega)
          have h4 := Int.tmod_lt_of_pos (-a) (show 0 < b by omega)
          rw [Int.neg_tmod] at h4
          omega
    obtain ⟨q, r, e1, e2, e3, e4, e5, e6, e7⟩ := hqr
    have g0 : (b == 0) = false := beq_eq_false_iff_ne.2 h0
    have g3 : (wrap64 (wrap64 (q * b) + r) != a) = false := by simp [e3]
    clear e3
    have fin : ∀ (s : Int), (r < 0 ∧ a ≤ 0) ∨ (0 < r ∧ 0 ≤ a) ∨ (0 ≤ r ∧ r ≤ 0) := by
      intro _
      by_cases p : 0 ≤ a
      · have := e4 p
        by_cases z : r = 0
        · exact .inr (.inr ⟨by omega, by omega⟩)
        · exact .inr (.inl ⟨by omega, p⟩)
      · have := e5 (by omega)
        by_cases z : r = 0
        · exact .inr (.inr ⟨by omega, by omega⟩)
        · exact .inl ⟨by omega, by omega⟩
    have fin := fin 0
    have bs : b = -9223372036854775808 ∨ (-9223372036854775808 < b ∧ b < 0 ∧ b < r ∧ r < -b) ∨ (0 < b ∧ -b < r ∧ r < b) := by
      by_cases p : b = -9223372036854775808
      · exact .inl p
      by_cases p2 : b < 0
      · have := e6 p2; exact .inr (.inl ⟨by omega, by omega, this.1, this.2⟩)
      · have := e7 (by omega); exact .inr (.inr ⟨by omega, this.1, this.2⟩)
    clear e4 e5 e6 e7
    rcases bs with rfl | ⟨b1, b2, b3, b4⟩ | ⟨b2, b3, b4⟩ <;> rcases fin with ⟨f1, f2⟩ | ⟨f1, f2⟩ | ⟨f1, f2⟩
    all_goals
      (go_enter Try.func4, Try.ntmps4
       go_wp2_with (go_at_call 9; refine (bin_any _ _ _ _).mono ?_; rintro e w' ⟨rfl, rfl⟩)
       all_goals go_ret
       all_goals exact ⟨rfl, Grown.refl _⟩)

theorem wordOrders_walk (a b : Int) (w : World) : Calls Try.prog 5 #[.int .i64 a, .int .i64 b] w fun e w' => e = .returned (.bool true) ∧ Grown w w' := by
  have hc : a < b ∨ a = b ∨ b < a := by omega
  rcases hc with h | rfl | h
  · have e1 : wbin 13 a b = (1, 0) := by simp [wbin, h]
    have e2 : wbin 11 a b = (0, 0) := by simp [wbin]; omega
    have e3 : wbin 15 a b = (0, 0) := by simp [wbin]; omega
    have e4 : wbin 16 a b = (0, 0) := by simp [wbin, h]
    have e5 : wbin 12 a b = (1, 0) := by simp [wbin]; omega
    have e6 : wbin 14 a b = (1, 0) := by simp [wbin]; omega
    have e7 : wbin 13 b a = (0, 0) := by simp [wbin]; omega
    have e8 : (a == b) = false := by simp; omega
    go_enter Try.func5, Try.ntmps5
    go_wp2_with (go_at_call 9; refine (bin_any _ _ _ _).mono ?_; rintro e w' ⟨rfl, rfl⟩)
    go_ret
    exact ⟨rfl, Grown.refl _⟩
  · have e1 : wbin 13 a a = (0, 0) := by simp [wbin]
    have e2 : wbin 11 a a = (1, 0) := by simp [wbin]
    have e3 : wbin 15 a a = (0, 0) := by simp [wbin]
    have e4 : wbin 16 a a = (1, 0) := by simp [wbin]
    have e5 : wbin 12 a a = (0, 0) := by simp [wbin]
    have e6 : wbin 14 a a = (1, 0) := by simp [wbin]
    go_enter Try.func5, Try.ntmps5
    go_wp2_with (go_at_call 9; refine (bin_any _ _ _ _).mono ?_; rintro e w' ⟨rfl, rfl⟩)
    go_ret
    exact ⟨rfl, Grown.refl _⟩
  · have e1 : wbin 13 a b = (0, 0) := by simp [wbin]; omega
    have e2 : wbin 11 a b = (0, 0) := by simp [wbin]; omega
    have e3 : wbin 15 a b = (1, 0) := by simp [wbin, h]
    have e4 : wbin 16 a b = (1, 0) := by simp [wbin]; omega
    have e5 : wbin 12 a b = (1, 0) := by simp [wbin]; omega
    have e6 : wbin 14 a b = (0, 0) := by simp [wbin, h]
    have e7 : wbin 13 b a = (1, 0) := by simp [wbin, h]
    have e8 : (a == b) = false := by simp; omega
    go_enter Try.func5, Try.ntmps5
    go_wp2_with (go_at_call 9; refine (bin_any _ _ _ _).mono ?_; rintro e w' ⟨rfl, rfl⟩)
    go_ret
    exact ⟨rfl, Grown.refl _⟩

theorem wrap64_toInt (x : BitVec 64) : wrap64 x.toInt = x.toInt := by
  have := x.isLt
  rw [BitVec.toInt_eq_toNat_bmod]; unfold wrap64
  rw [Int.bmod]; split <;> omega
theorem toInt_ofInt64 (a : Int) (ha : -9223372036854775808 ≤ a ∧ a ≤ 9223372036854775807) : (BitVec.ofInt 64 a).toInt = a := by
  rw [BitVec.toInt_ofInt, Int.bmod]; split <;> omega
theorem ofInt_toInt64 (x : BitVec 64) : BitVec.ofInt 64 x.toInt = x := BitVec.ofInt_toInt
theorem twice_sum (a b : Int) : wrap64 (bits .and .i64 a b + bits .xor .i64 a b) = bits .or .i64 a b := by
  rw [i64_and, i64_or, i64_xor]
  generalize BitVec.ofInt 64 a = x
  generalize BitVec.ofInt 64 b = y
  have h0 : (x &&& y) &&& (x ^^^ y) = 0#64 := by
    ext i hi
    simp
    cases x[i] <;> cases y[i] <;> simp
  have h1 : (x &&& y) + (x ^^^ y) = (x &&& y) ||| (x ^^^ y) := BitVec.add_eq_or_of_and_eq_zero _ _ h0
  have h2 : (x &&& y) ||| (x ^^^ y) = x ||| y := by
    ext i hi
    simp
    cases x[i] <;> cases y[i] <;> simp
  have h3 := BitVec.toInt_add (x &&& y) (x ^^^ y)
  rw [h1, h2] at h3
  rw [h3, Int.bmod]
  unfold wrap64
  split <;> omega
theorem twice_xor (a b : Int) (ha : -9223372036854775808 ≤ a ∧ a ≤ 9223372036854775807) : bits .xor .i64 (bits .xor .i64 a b) b = a := by
  rw [i64_xor, i64_xor, ofInt_toInt64, BitVec.xor_assoc, BitVec.xor_self, BitVec.xor_zero, toInt_ofInt64 a ha]
theorem twice_flip (a : Int) (ha : -9223372036854775808 ≤ a ∧ a ≤ 9223372036854775807) : bits .xor .i64 (-1) (bits .xor .i64 (-1) a) = a := by
  rw [i64_xor, i64_xor, ofInt_toInt64, ← BitVec.xor_assoc, BitVec.xor_self, BitVec.zero_xor, toInt_ofInt64 a ha]

theorem wordTwice_walk (a b : Int) (ha : -9223372036854775808 ≤ a ∧ a ≤ 9223372036854775807) (w : World) :
    Calls Try.prog 8 #[.int .i64 a, .int .i64 b] w fun e w' => e = .returned (.bool true) ∧ Grown w w' := by
  have e1 : wun 1 (wrap64 (-a)) = (a, 0) := by
    have : wrap64 (-wrap64 (-a)) = a := by unfold wrap64; omega
    simp [wun, this]
  have e0 : wun 1 a = (wrap64 (-a), 0) := rfl
  obtain ⟨f, hf⟩ : ∃ f, f = bits .xor .i64 (-1) a := ⟨_, rfl⟩
  have e2 : wun 2 f = (a, 0) := by
    have := twice_flip a ha
    rw [← hf] at this
    simp [wun, this]
  have e3 : wun 2 a = (f, 0) := by rw [hf]; rfl
  obtain ⟨x, hx⟩ : ∃ x, x = bits .xor .i64 a b := ⟨_, rfl⟩
  obtain ⟨y, hy⟩ : ∃ y, y = bits .and .i64 a b := ⟨_, rfl⟩
  obtain ⟨z, hz⟩ : ∃ z, z = bits .or .i64 a b := ⟨_, rfl⟩
  have e4 : wbin 8 a b = (x, 0) := by rw [hx]; rfl
  have e5 : wbin 8 x b = (a, 0) := by
    have := twice_xor a b ha
    rw [← hx] at this
    simp [wbin, this]
  have e6 : wbin 6 a b = (y, 0) := by rw [hy]; rfl
  have e7 : wbin 7 a b = (z, 0) := by rw [hz]; rfl
  have e8 : wbin 1 y x = (z, 0) := by
    have := twice_sum a b
    rw [← hx, ← hy, ← hz] at this
    simp [wbin, this]
  have e9 : wbin 2 a a = (0, 0) := by
    simp [wbin]; unfold wrap64; omega
  clear hf hx hy hz
  go_enter Try.func8, Try.ntmps8
  go_wp2_with (first | (go_at_call 9; refine (bin_any _ _ _ _).mono ?_; rintro e w' ⟨rfl, rfl⟩) | (go_at_call 12; refine (un_any _ _ _).mono ?_; rintro e w' ⟨rfl, rfl⟩) | (go_at_call 11; refine (awake1_any _).mono ?_; rintro e w' ⟨rfl, rfl⟩))
  go_ret
  exact ⟨rfl, Grown.refl _⟩

/-- shifted so many times to the left by one -/
def ups (a : Int) : Nat → Int
  | 0 => a
  | k + 1 => wrap64 (ups a k * 2)
/-- to the right -/
def downs (a : Int) : Nat → Int
  | 0 => a
  | k + 1 => downs a k / 2
theorem ups_eq (a : Int) (ha : -9223372036854775808 ≤ a ∧ a ≤ 9223372036854775807) (k : Nat) : ups a k = wrap64 (a * 2 ^ k) := by
  induction k with
  | zero => simp [ups]; unfold wrap64; omega
  | succ k ih =>
    rw [ups, ih, Int.pow_succ, ← Int.mul_assoc]
    generalize a * 2 ^ k = x
    unfold wrap64; omega
theorem downs_eq (a : Int) (k : Nat) : downs a k = a / 2 ^ k := by
  induction k with
  | zero => simp [downs]
  | succ k ih =>
    rw [downs, ih, Int.pow_succ, Int.ediv_ediv_of_nonneg (Int.pow_nonneg (by decide))]

set_option maxHeartbeats 400000 in
theorem wordShifts_walk (a k : Int) (ha : -9223372036854775808 ≤ a ∧ a ≤ 9223372036854775807) (hk : 0 ≤ k ∧ k ≤ 255) (w : World) :
    Calls Try.prog 6 #[.int .i64 a, .int .u8 k] w fun e w' => e = .returned (.bool true) ∧ Grown w w' := by
  obtain ⟨m, hm, hm2⟩ : ∃ m : Nat, (m : Int) = k % 64 ∧ m < 64 := ⟨(k % 64).toNat, by omega, by omega⟩
  have e1 : wbin 9 a k = (ups a m, 0) := by rw [ups_eq a ha]; simp [wbin]; rw [← hm]; rfl
  have e2 : wbin 10 a k = (downs a m, 0) := by rw [downs_eq]; simp [wbin]; rw [← hm]; rfl
  have e3 : wbin 9 a (k + 64) = (ups a m, 0) := by
    have : (k + 64) % 64 = (m : Int) := by omega
    rw [ups_eq a ha]; simp only [wbin]; rw [this]; simp
  have e4 : wbin 10 a (k - 256) = (downs a m, 0) := by
    have : (k - 256) % 64 = (m : Int) := by omega
    rw [downs_eq]; simp only [wbin]; rw [this]; simp
  have u1 : ∀ i, wbin 3 (ups a i) 2 = (ups a (i + 1), 0) := fun i => rfl
  have u2 : ∀ i, wbin 10 (downs a i) 1 = (downs a (i + 1), 0) := fun i => rfl
  have hk1 := hk.1
  have hk2 := hk.2
  have hmk : k % 64 = (m : Int) := hm.symm
  clear hk hm
  go_enter Try.func6, Try.ntmps6
  go_wp2_with (go_at_call 9; refine (bin_any _ _ _ _).mono ?_; rintro e w' ⟨rfl, rfl⟩)
  go_loop [10, 11, 12] (fun u v i => ∃ j : Nat, j ≤ m ∧ i = .int .i64 j ∧ u = .int .i64 (ups a j) ∧ v = .int .i64 (downs a j)) (fun _ _ i => m - (intOf i).toNat)
  case atStart => exact ⟨0, Nat.zero_le _, rfl, rfl, rfl⟩
  case round =>
    obtain ⟨j, hj, rfl, rfl, rfl⟩ := hrel
    by_cases hlt : j < m
    · go_wp2_with (go_at_call 9; refine (bin_any _ _ _ _).mono ?_; rintro e w' ⟨rfl, rfl⟩)
      go_round
      case rel => exact ⟨j + 1, by omega, by go_num, rfl, rfl⟩
      case measure => simp [intOf]; omega
    · obtain rfl : j = m := by omega
      go_wp2_with (first | (go_at_call 9; refine (bin_any _ _ _ _).mono ?_; rintro e w' ⟨rfl, rfl⟩) | (go_at_call 11; refine (awake1_any _).mono ?_; rintro e w' ⟨rfl, rfl⟩))
      go_ret
      exact ⟨rfl, Grown.refl _⟩
end Go.Proofs.Ytpgngjeiipdhaaa
