/- The operations of one and of two words: what the program's and the document's functions return, for every input. -/
import Derived.Test.YthlcoocboidnlaaRows
import Derived.WalkKit
import Derived.WalkSpells
import Derived.WalkLawsBesides
import Derived.Handy
namespace Go.Proofs.Ythlcoocboidnlaa
open Go.RowKit

theorem ofInt64_toNat (a : Int) : ((BitVec.ofInt 64 a).toNat : Int) = a % 18446744073709551616 := by
  rw [BitVec.toNat_ofInt]
  have : (0:Int) ≤ a % 18446744073709551616 := Int.emod_nonneg _ (by decide)
  show (((a % ((2 ^ 64 : Nat) : Int)).toNat : Nat) : Int) = _
  rw [Int.toNat_of_nonneg (by exact this)]
  rfl
theorem i64_wrap_toNat (x : BitVec 64) : IntKind.i64.wrap (x.toNat : Int) = x.toInt := by
  have h := x.isLt
  rw [IntKind.wrap_i64, BitVec.toInt_eq_toNat_bmod, Int.bmod]
  split <;> omega
theorem i64_and (a b : Int) : bits .and .i64 a b = (BitVec.ofInt 64 a &&& BitVec.ofInt 64 b).toInt := i64_wrap_toNat _
theorem i64_or (a b : Int) : bits .or .i64 a b = (BitVec.ofInt 64 a ||| BitVec.ofInt 64 b).toInt := i64_wrap_toNat _
theorem i64_xor (a b : Int) : bits .xor .i64 a b = (BitVec.ofInt 64 a ^^^ BitVec.ofInt 64 b).toInt := i64_wrap_toNat _
theorem i64_and63 (b : Int) : bits .and .i64 b 63 = b % 64 := by
  have h : BitVec.ofInt 64 b &&& BitVec.ofInt 64 63 = BitVec.ofNat 64 (b % 64).toNat := by
    apply BitVec.eq_of_toNat_eq
    rw [BitVec.toNat_and]
    have e1 : (BitVec.ofInt 64 63).toNat = 63 := by decide
    rw [e1, nat_mask6]
    have := ofInt64_toNat b
    have h1 : (0:Int) ≤ b % 64 := Int.emod_nonneg _ (by decide)
    have h2 : (b % 64).toNat < 64 := by omega
    have h5 : (b % 18446744073709551616) % 64 = b % 64 := Int.emod_emod_of_dvd b (by decide)
    rw [BitVec.toNat_ofNat, Nat.mod_eq_of_lt (Nat.lt_of_lt_of_le h2 (by decide))]
    rw [← this] at h5
    omega
  rw [i64_and, h]
  have h1 : (0:Int) ≤ b % 64 := Int.emod_nonneg _ (by decide)
  have h2 : (b % 64).toNat < 64 := by omega
  rw [BitVec.toInt_eq_toNat_of_lt (by rw [BitVec.toNat_ofNat, Nat.mod_eq_of_lt (by omega)]; omega), BitVec.toNat_ofNat, Nat.mod_eq_of_lt (by omega)]
  omega
theorem u64_and63 (b : Int) : bits .and .u64 (IntKind.u64.wrap b) 63 = b % 64 := by
  rw [IntKind.wrap_u64, u64_and _ _ (Int.emod_nonneg _ (by decide)) (Int.emod_lt_of_pos _ (by decide)) (by decide) (by decide)]
  rw [show (63 : Int).toNat = 63 from rfl, nat_mask6]
  have h1 : (0:Int) ≤ b % 18446744073709551616 := Int.emod_nonneg _ (by decide)
  omega

/-- an operation of two words: what it gives, and the panic's number -/
def wbin (op a b : Int) : Int × Int :=
  if op = 1 then (wrap64 (a + b), 0) else
  if op = 2 then (wrap64 (a - b), 0) else
  if op = 3 then (wrap64 (a * b), 0) else
  if op = 4 then (if b = 0 then (0, 3) else if b = -1 then (wrap64 (-a), 0) else (wrap64 (a.tdiv b), 0)) else
  if op = 5 then (if b = 0 then (0, 3) else if b = -1 then (0, 0) else (a.tmod b, 0)) else
  if op = 6 then (bits .and .i64 a b, 0) else
  if op = 7 then (bits .or .i64 a b, 0) else
  if op = 8 then (bits .xor .i64 a b, 0) else
  if op = 9 then (wrap64 (a * 2 ^ (b % 64).toNat), 0) else
  if op = 10 then (a / 2 ^ (b % 64).toNat, 0) else
  if op = 11 then ((if a = b then 1 else 0), 0) else
  if op = 12 then ((if a = b then 0 else 1), 0) else
  if op = 13 then ((if a < b then 1 else 0), 0) else
  if op = 14 then ((if b < a then 0 else 1), 0) else
  if op = 15 then ((if b < a then 1 else 0), 0) else
  if op = 16 then ((if a < b then 0 else 1), 0) else
  (0, -1)
/-- an operation of one word -/
def wun (op a : Int) : Int × Int :=
  if op = 1 then (wrap64 (-a), 0) else if op = 2 then (bits .xor .i64 (-1) a, 0) else if op = 3 then ((if a = 0 then 1 else 0), 0) else (0, -1)

theorem ret2 {a b c d : Int} (h : a = c) (h' : b = d) : Ending.returned (.tuple #[.int .i64 a, .int .i64 b]) = .returned (.tuple #[.int .i64 c, .int .i64 d]) := by rw [h, h']
theorem ret1 {k : IntKind} {a c : Int} (h : a = c) : Ending.returned (.int k a) = .returned (.int k c) := by rw [h]

theorem truth_t (w : World) : Calls Try.prog 72 #[.bool true] w fun e w' => e = .returned (.int .i64 1) ∧ w = w' := by
  go_enter Try.func72, Try.ntmps72
  go_wp2
  go_ret
  exact ⟨rfl, rfl⟩
theorem truth_f (w : World) : Calls Try.prog 72 #[.bool false] w fun e w' => e = .returned (.int .i64 0) ∧ w = w' := by
  go_enter Try.func72, Try.ntmps72
  go_wp2
  go_ret
  exact ⟨rfl, rfl⟩
theorem truth_any (b : Bool) (w : World) : Calls Try.prog 72 #[.bool b] w fun e w' => e = .returned (.int .i64 (if b = true then 1 else 0)) ∧ w = w' := by
  cases b
  · exact truth_f w
  · exact truth_t w
theorem one_t (w : World) : Calls Try.prog 65 #[.bool true] w fun e w' => e = .returned (.int .i64 1) ∧ w = w' := by
  go_enter Try.func65, Try.ntmps65
  go_wp2
  go_ret
  exact ⟨rfl, rfl⟩
theorem one_f (w : World) : Calls Try.prog 65 #[.bool false] w fun e w' => e = .returned (.int .i64 0) ∧ w = w' := by
  go_enter Try.func65, Try.ntmps65
  go_wp2
  go_ret
  exact ⟨rfl, rfl⟩
theorem one_any (b : Bool) (w : World) : Calls Try.prog 65 #[.bool b] w fun e w' => e = .returned (.int .i64 (if b = true then 1 else 0)) ∧ w = w' := by
  cases b
  · exact one_f w
  · exact one_t w
theorem shift_any (b : Int) (w : World) : Calls Try.prog 74 #[.int .i64 b] w fun e w' => e = .returned (.int .u64 (b % 64)) ∧ w = w' := by
  go_enter Try.func74, Try.ntmps74
  go_wp2
  go_ret
  exact ⟨ret1 (u64_and63 b), rfl⟩
theorem quotient_any (op a b : Int) (w : World) (ho : op = 4 ∨ op = 5) : Calls Try.prog 73 #[.int .i64 op, .int .i64 a, .int .i64 b] w fun e w' => e = .returned (.tuple #[.int .i64 (wbin op a b).1, .int .i64 (wbin op a b).2]) ∧ w = w' := by
  by_cases h0 : b = 0
  · subst h0
    rcases ho with rfl | rfl <;>
    (go_enter Try.func73, Try.ntmps73
     go_wp2
     go_ret2
     exact ⟨rfl, rfl⟩)
  · have g0 : (b == 0) = false := beq_eq_false_iff_ne.2 h0
    by_cases h1 : b = -1
    · subst h1
      rcases ho with rfl | rfl <;>
      (go_enter Try.func73, Try.ntmps73
       go_wp2
       go_ret2
       exact ⟨rfl, rfl⟩)
    · have g1 : (b == -1) = false := beq_eq_false_iff_ne.2 h1
      rcases ho with rfl | rfl <;>
      (go_enter Try.func73, Try.ntmps73
       go_wp2
       go_ret2
       refine ⟨ret2 ?_ ?_, rfl⟩ <;> simp [wbin, h0, h1]
       )

set_option maxHeartbeats 400000 in
theorem bin_1 (a b : Int) (w : World) : Calls Try.prog 64 #[.int .i64 1, .int .i64 a, .int .i64 b] w fun e w' => e = .returned (.tuple #[.int .i64 (wbin 1 a b).1, .int .i64 (wbin 1 a b).2]) ∧ w = w' := by
  go_enter Try.func64, Try.ntmps64
  go_wp2
  go_ret2
  exact ⟨rfl, rfl⟩
set_option maxHeartbeats 400000 in
theorem bin_2 (a b : Int) (w : World) : Calls Try.prog 64 #[.int .i64 2, .int .i64 a, .int .i64 b] w fun e w' => e = .returned (.tuple #[.int .i64 (wbin 2 a b).1, .int .i64 (wbin 2 a b).2]) ∧ w = w' := by
  go_enter Try.func64, Try.ntmps64
  go_wp2
  go_ret2
  exact ⟨rfl, rfl⟩
set_option maxHeartbeats 400000 in
theorem bin_3 (a b : Int) (w : World) : Calls Try.prog 64 #[.int .i64 3, .int .i64 a, .int .i64 b] w fun e w' => e = .returned (.tuple #[.int .i64 (wbin 3 a b).1, .int .i64 (wbin 3 a b).2]) ∧ w = w' := by
  go_enter Try.func64, Try.ntmps64
  go_wp2
  go_ret2
  exact ⟨rfl, rfl⟩
set_option maxHeartbeats 400000 in
theorem bin_4 (a b : Int) (w : World) : Calls Try.prog 64 #[.int .i64 4, .int .i64 a, .int .i64 b] w fun e w' => e = .returned (.tuple #[.int .i64 (wbin 4 a b).1, .int .i64 (wbin 4 a b).2]) ∧ w = w' := by
  go_enter Try.func64, Try.ntmps64
  go_wp2_with (go_at_call 73; refine (quotient_any _ _ _ _ (by first | exact .inl rfl | exact .inr rfl)).mono ?_; rintro e w' ⟨rfl, rfl⟩)
  go_ret2
  exact ⟨rfl, rfl⟩
set_option maxHeartbeats 400000 in
theorem bin_5 (a b : Int) (w : World) : Calls Try.prog 64 #[.int .i64 5, .int .i64 a, .int .i64 b] w fun e w' => e = .returned (.tuple #[.int .i64 (wbin 5 a b).1, .int .i64 (wbin 5 a b).2]) ∧ w = w' := by
  go_enter Try.func64, Try.ntmps64
  go_wp2_with (go_at_call 73; refine (quotient_any _ _ _ _ (by first | exact .inl rfl | exact .inr rfl)).mono ?_; rintro e w' ⟨rfl, rfl⟩)
  go_ret2
  exact ⟨rfl, rfl⟩
set_option maxHeartbeats 400000 in
theorem bin_6 (a b : Int) (w : World) : Calls Try.prog 64 #[.int .i64 6, .int .i64 a, .int .i64 b] w fun e w' => e = .returned (.tuple #[.int .i64 (wbin 6 a b).1, .int .i64 (wbin 6 a b).2]) ∧ w = w' := by
  go_enter Try.func64, Try.ntmps64
  go_wp2
  go_ret2
  exact ⟨rfl, rfl⟩
set_option maxHeartbeats 400000 in
theorem bin_7 (a b : Int) (w : World) : Calls Try.prog 64 #[.int .i64 7, .int .i64 a, .int .i64 b] w fun e w' => e = .returned (.tuple #[.int .i64 (wbin 7 a b).1, .int .i64 (wbin 7 a b).2]) ∧ w = w' := by
  go_enter Try.func64, Try.ntmps64
  go_wp2
  go_ret2
  exact ⟨rfl, rfl⟩
set_option maxHeartbeats 400000 in
theorem bin_8 (a b : Int) (w : World) : Calls Try.prog 64 #[.int .i64 8, .int .i64 a, .int .i64 b] w fun e w' => e = .returned (.tuple #[.int .i64 (wbin 8 a b).1, .int .i64 (wbin 8 a b).2]) ∧ w = w' := by
  go_enter Try.func64, Try.ntmps64
  go_wp2
  go_ret2
  exact ⟨rfl, rfl⟩
set_option maxHeartbeats 400000 in
theorem bin_9 (a b : Int) (w : World) : Calls Try.prog 64 #[.int .i64 9, .int .i64 a, .int .i64 b] w fun e w' => e = .returned (.tuple #[.int .i64 (wbin 9 a b).1, .int .i64 (wbin 9 a b).2]) ∧ w = w' := by
  have q1 : 0 ≤ b % 64 := Int.emod_nonneg _ (by decide)
  have q2 : b % 64 < 64 := Int.emod_lt_of_pos _ (by decide)
  go_enter Try.func64, Try.ntmps64
  go_wp2_with (go_at_call 74; refine (shift_any _ _).mono ?_; rintro e w' ⟨rfl, rfl⟩)
  go_ret2
  exact ⟨rfl, rfl⟩
set_option maxHeartbeats 400000 in
theorem bin_10 (a b : Int) (w : World) : Calls Try.prog 64 #[.int .i64 10, .int .i64 a, .int .i64 b] w fun e w' => e = .returned (.tuple #[.int .i64 (wbin 10 a b).1, .int .i64 (wbin 10 a b).2]) ∧ w = w' := by
  have q1 : 0 ≤ b % 64 := Int.emod_nonneg _ (by decide)
  have q2 : b % 64 < 64 := Int.emod_lt_of_pos _ (by decide)
  go_enter Try.func64, Try.ntmps64
  go_wp2_with (go_at_call 74; refine (shift_any _ _).mono ?_; rintro e w' ⟨rfl, rfl⟩)
  go_ret2
  exact ⟨rfl, rfl⟩
set_option maxHeartbeats 400000 in
theorem bin_11 (a b : Int) (w : World) : Calls Try.prog 64 #[.int .i64 11, .int .i64 a, .int .i64 b] w fun e w' => e = .returned (.tuple #[.int .i64 (wbin 11 a b).1, .int .i64 (wbin 11 a b).2]) ∧ w = w' := by
  by_cases h : a = b
  · have hx : (a == b) = true := by simp [h]
    have hy : (a != b) = false := by simp [h]
    go_enter Try.func64, Try.ntmps64
    go_wp2_with (go_at_call 72; refine (truth_t _).mono ?_; rintro e w' ⟨rfl, rfl⟩)
    go_ret2
    exact ⟨ret2 (by simp [wbin, h]) rfl, rfl⟩
  · have hx : (a == b) = false := by simp [h]
    have hy : (a != b) = true := by simp [h]
    go_enter Try.func64, Try.ntmps64
    go_wp2_with (go_at_call 72; refine (truth_f _).mono ?_; rintro e w' ⟨rfl, rfl⟩)
    go_ret2
    exact ⟨ret2 (by simp [wbin, h]) rfl, rfl⟩
set_option maxHeartbeats 400000 in
theorem bin_12 (a b : Int) (w : World) : Calls Try.prog 64 #[.int .i64 12, .int .i64 a, .int .i64 b] w fun e w' => e = .returned (.tuple #[.int .i64 (wbin 12 a b).1, .int .i64 (wbin 12 a b).2]) ∧ w = w' := by
  by_cases h : a = b
  · have hx : (a == b) = true := by simp [h]
    have hy : (a != b) = false := by simp [h]
    go_enter Try.func64, Try.ntmps64
    go_wp2_with (go_at_call 72; refine (truth_f _).mono ?_; rintro e w' ⟨rfl, rfl⟩)
    go_ret2
    exact ⟨ret2 (by simp [wbin, h]) rfl, rfl⟩
  · have hx : (a == b) = false := by simp [h]
    have hy : (a != b) = true := by simp [h]
    go_enter Try.func64, Try.ntmps64
    go_wp2_with (go_at_call 72; refine (truth_t _).mono ?_; rintro e w' ⟨rfl, rfl⟩)
    go_ret2
    exact ⟨ret2 (by simp [wbin, h]) rfl, rfl⟩
set_option maxHeartbeats 400000 in
theorem bin_13 (a b : Int) (w : World) : Calls Try.prog 64 #[.int .i64 13, .int .i64 a, .int .i64 b] w fun e w' => e = .returned (.tuple #[.int .i64 (wbin 13 a b).1, .int .i64 (wbin 13 a b).2]) ∧ w = w' := by
  by_cases h : a < b
  · have hx : (decide (a < b)) = true := by simp [h]
    have hy : (decide (b ≤ a)) = false := by simp; omega
    go_enter Try.func64, Try.ntmps64
    go_wp2_with (go_at_call 72; refine (truth_t _).mono ?_; rintro e w' ⟨rfl, rfl⟩)
    go_ret2
    exact ⟨ret2 (by simp [wbin, h]) rfl, rfl⟩
  · have hx : (decide (a < b)) = false := by simp [h] <;> omega
    have hy : (decide (b ≤ a)) = true := by simp; omega
    go_enter Try.func64, Try.ntmps64
    go_wp2_with (go_at_call 72; refine (truth_f _).mono ?_; rintro e w' ⟨rfl, rfl⟩)
    go_ret2
    exact ⟨ret2 (by simp [wbin, h]) rfl, rfl⟩
set_option maxHeartbeats 400000 in
theorem bin_14 (a b : Int) (w : World) : Calls Try.prog 64 #[.int .i64 14, .int .i64 a, .int .i64 b] w fun e w' => e = .returned (.tuple #[.int .i64 (wbin 14 a b).1, .int .i64 (wbin 14 a b).2]) ∧ w = w' := by
  by_cases h : b < a
  · have hx : (decide (b < a)) = true := by simp [h]
    have hy : (decide (a ≤ b)) = false := by simp; omega
    go_enter Try.func64, Try.ntmps64
    go_wp2_with (go_at_call 72; refine (truth_f _).mono ?_; rintro e w' ⟨rfl, rfl⟩)
    go_ret2
    exact ⟨ret2 (by simp [wbin, h]) rfl, rfl⟩
  · have hx : (decide (b < a)) = false := by simp [h] <;> omega
    have hy : (decide (a ≤ b)) = true := by simp; omega
    go_enter Try.func64, Try.ntmps64
    go_wp2_with (go_at_call 72; refine (truth_t _).mono ?_; rintro e w' ⟨rfl, rfl⟩)
    go_ret2
    exact ⟨ret2 (by simp [wbin, h]) rfl, rfl⟩
set_option maxHeartbeats 400000 in
theorem bin_15 (a b : Int) (w : World) : Calls Try.prog 64 #[.int .i64 15, .int .i64 a, .int .i64 b] w fun e w' => e = .returned (.tuple #[.int .i64 (wbin 15 a b).1, .int .i64 (wbin 15 a b).2]) ∧ w = w' := by
  by_cases h : b < a
  · have hx : (decide (b < a)) = true := by simp [h]
    have hy : (decide (a ≤ b)) = false := by simp; omega
    go_enter Try.func64, Try.ntmps64
    go_wp2_with (go_at_call 72; refine (truth_t _).mono ?_; rintro e w' ⟨rfl, rfl⟩)
    go_ret2
    exact ⟨ret2 (by simp [wbin, h]) rfl, rfl⟩
  · have hx : (decide (b < a)) = false := by simp [h] <;> omega
    have hy : (decide (a ≤ b)) = true := by simp; omega
    go_enter Try.func64, Try.ntmps64
    go_wp2_with (go_at_call 72; refine (truth_f _).mono ?_; rintro e w' ⟨rfl, rfl⟩)
    go_ret2
    exact ⟨ret2 (by simp [wbin, h]) rfl, rfl⟩
set_option maxHeartbeats 400000 in
theorem bin_16 (a b : Int) (w : World) : Calls Try.prog 64 #[.int .i64 16, .int .i64 a, .int .i64 b] w fun e w' => e = .returned (.tuple #[.int .i64 (wbin 16 a b).1, .int .i64 (wbin 16 a b).2]) ∧ w = w' := by
  by_cases h : a < b
  · have hx : (decide (a < b)) = true := by simp [h]
    have hy : (decide (b ≤ a)) = false := by simp; omega
    go_enter Try.func64, Try.ntmps64
    go_wp2_with (go_at_call 72; refine (truth_f _).mono ?_; rintro e w' ⟨rfl, rfl⟩)
    go_ret2
    exact ⟨ret2 (by simp [wbin, h]) rfl, rfl⟩
  · have hx : (decide (a < b)) = false := by simp [h] <;> omega
    have hy : (decide (b ≤ a)) = true := by simp; omega
    go_enter Try.func64, Try.ntmps64
    go_wp2_with (go_at_call 72; refine (truth_t _).mono ?_; rintro e w' ⟨rfl, rfl⟩)
    go_ret2
    exact ⟨ret2 (by simp [wbin, h]) rfl, rfl⟩
set_option maxHeartbeats 400000 in
theorem bin_o (op a b : Int) (w : World) (h1 : (op == 1) = false) (h2 : (op == 2) = false) (h3 : (op == 3) = false) (h4 : (op == 4) = false) (h5 : (op == 5) = false) (h6 : (op == 6) = false) (h7 : (op == 7) = false) (h8 : (op == 8) = false) (h9 : (op == 9) = false) (h10 : (op == 10) = false) (h11 : (op == 11) = false) (h12 : (op == 12) = false) (h13 : (op == 13) = false) (h14 : (op == 14) = false) (h15 : (op == 15) = false) (h16 : (op == 16) = false) : Calls Try.prog 64 #[.int .i64 op, .int .i64 a, .int .i64 b] w fun e w' => e = .returned (.tuple #[.int .i64 (wbin op a b).1, .int .i64 (wbin op a b).2]) ∧ w = w' := by
  go_enter Try.func64, Try.ntmps64
  go_wp2
  go_ret2
  refine ⟨ret2 ?_ ?_, rfl⟩ <;> (simp at h1 h2 h3 h4 h5 h6 h7 h8 h9 h10 h11 h12 h13 h14 h15 h16; simp [wbin, h1, h2, h3, h4, h5, h6, h7, h8, h9, h10, h11, h12, h13, h14, h15, h16])
theorem bin_any (op a b : Int) (w : World) : Calls Try.prog 64 #[.int .i64 op, .int .i64 a, .int .i64 b] w fun e w' => e = .returned (.tuple #[.int .i64 (wbin op a b).1, .int .i64 (wbin op a b).2]) ∧ w = w' := by
  by_cases h1 : op = 1
  · subst h1; exact bin_1 a b w
  by_cases h2 : op = 2
  · subst h2; exact bin_2 a b w
  by_cases h3 : op = 3
  · subst h3; exact bin_3 a b w
  by_cases h4 : op = 4
  · subst h4; exact bin_4 a b w
  by_cases h5 : op = 5
  · subst h5; exact bin_5 a b w
  by_cases h6 : op = 6
  · subst h6; exact bin_6 a b w
  by_cases h7 : op = 7
  · subst h7; exact bin_7 a b w
  by_cases h8 : op = 8
  · subst h8; exact bin_8 a b w
  by_cases h9 : op = 9
  · subst h9; exact bin_9 a b w
  by_cases h10 : op = 10
  · subst h10; exact bin_10 a b w
  by_cases h11 : op = 11
  · subst h11; exact bin_11 a b w
  by_cases h12 : op = 12
  · subst h12; exact bin_12 a b w
  by_cases h13 : op = 13
  · subst h13; exact bin_13 a b w
  by_cases h14 : op = 14
  · subst h14; exact bin_14 a b w
  by_cases h15 : op = 15
  · subst h15; exact bin_15 a b w
  by_cases h16 : op = 16
  · subst h16; exact bin_16 a b w
  exact bin_o op a b w (beq_eq_false_iff_ne.2 h1) (beq_eq_false_iff_ne.2 h2) (beq_eq_false_iff_ne.2 h3) (beq_eq_false_iff_ne.2 h4) (beq_eq_false_iff_ne.2 h5) (beq_eq_false_iff_ne.2 h6) (beq_eq_false_iff_ne.2 h7) (beq_eq_false_iff_ne.2 h8) (beq_eq_false_iff_ne.2 h9) (beq_eq_false_iff_ne.2 h10) (beq_eq_false_iff_ne.2 h11) (beq_eq_false_iff_ne.2 h12) (beq_eq_false_iff_ne.2 h13) (beq_eq_false_iff_ne.2 h14) (beq_eq_false_iff_ne.2 h15) (beq_eq_false_iff_ne.2 h16)
set_option maxHeartbeats 400000 in
theorem rbin_1 (a b : Int) (w : World) : Calls Try.prog 56 #[.int .i64 1, .int .i64 a, .int .i64 b] w fun e w' => e = .returned (.tuple #[.int .i64 (wbin 1 a b).1, .int .i64 (wbin 1 a b).2]) ∧ w = w' := by
  go_enter Try.func56, Try.ntmps56
  go_wp2
  go_ret2
  exact ⟨rfl, rfl⟩
set_option maxHeartbeats 400000 in
theorem rbin_2 (a b : Int) (w : World) : Calls Try.prog 56 #[.int .i64 2, .int .i64 a, .int .i64 b] w fun e w' => e = .returned (.tuple #[.int .i64 (wbin 2 a b).1, .int .i64 (wbin 2 a b).2]) ∧ w = w' := by
  go_enter Try.func56, Try.ntmps56
  go_wp2
  go_ret2
  exact ⟨rfl, rfl⟩
set_option maxHeartbeats 400000 in
theorem rbin_3 (a b : Int) (w : World) : Calls Try.prog 56 #[.int .i64 3, .int .i64 a, .int .i64 b] w fun e w' => e = .returned (.tuple #[.int .i64 (wbin 3 a b).1, .int .i64 (wbin 3 a b).2]) ∧ w = w' := by
  go_enter Try.func56, Try.ntmps56
  go_wp2
  go_ret2
  exact ⟨rfl, rfl⟩
set_option maxHeartbeats 400000 in
theorem rbin_4 (a b : Int) (w : World) : Calls Try.prog 56 #[.int .i64 4, .int .i64 a, .int .i64 b] w fun e w' => e = .returned (.tuple #[.int .i64 (wbin 4 a b).1, .int .i64 (wbin 4 a b).2]) ∧ w = w' := by
  by_cases h0 : b = 0
  · subst h0
    go_enter Try.func56, Try.ntmps56
    go_wp2
    go_ret2
    exact ⟨rfl, rfl⟩
  · have g0 : (b == 0) = false := beq_eq_false_iff_ne.2 h0
    by_cases h1 : b = -1
    · subst h1
      go_enter Try.func56, Try.ntmps56
      go_wp2
      go_ret2
      exact ⟨rfl, rfl⟩
    · have g1 : (b == -1) = false := beq_eq_false_iff_ne.2 h1
      go_enter Try.func56, Try.ntmps56
      go_wp2
      go_ret2
      refine ⟨ret2 ?_ ?_, rfl⟩ <;> simp [wbin, h0, h1]
set_option maxHeartbeats 400000 in
theorem rbin_5 (a b : Int) (w : World) : Calls Try.prog 56 #[.int .i64 5, .int .i64 a, .int .i64 b] w fun e w' => e = .returned (.tuple #[.int .i64 (wbin 5 a b).1, .int .i64 (wbin 5 a b).2]) ∧ w = w' := by
  by_cases h0 : b = 0
  · subst h0
    go_enter Try.func56, Try.ntmps56
    go_wp2
    go_ret2
    exact ⟨rfl, rfl⟩
  · have g0 : (b == 0) = false := beq_eq_false_iff_ne.2 h0
    by_cases h1 : b = -1
    · subst h1
      go_enter Try.func56, Try.ntmps56
      go_wp2
      go_ret2
      exact ⟨rfl, rfl⟩
    · have g1 : (b == -1) = false := beq_eq_false_iff_ne.2 h1
      go_enter Try.func56, Try.ntmps56
      go_wp2
      go_ret2
      refine ⟨ret2 ?_ ?_, rfl⟩ <;> simp [wbin, h0, h1]
set_option maxHeartbeats 400000 in
theorem rbin_6 (a b : Int) (w : World) : Calls Try.prog 56 #[.int .i64 6, .int .i64 a, .int .i64 b] w fun e w' => e = .returned (.tuple #[.int .i64 (wbin 6 a b).1, .int .i64 (wbin 6 a b).2]) ∧ w = w' := by
  go_enter Try.func56, Try.ntmps56
  go_wp2
  go_ret2
  exact ⟨rfl, rfl⟩
set_option maxHeartbeats 400000 in
theorem rbin_7 (a b : Int) (w : World) : Calls Try.prog 56 #[.int .i64 7, .int .i64 a, .int .i64 b] w fun e w' => e = .returned (.tuple #[.int .i64 (wbin 7 a b).1, .int .i64 (wbin 7 a b).2]) ∧ w = w' := by
  go_enter Try.func56, Try.ntmps56
  go_wp2
  go_ret2
  exact ⟨rfl, rfl⟩
set_option maxHeartbeats 400000 in
theorem rbin_8 (a b : Int) (w : World) : Calls Try.prog 56 #[.int .i64 8, .int .i64 a, .int .i64 b] w fun e w' => e = .returned (.tuple #[.int .i64 (wbin 8 a b).1, .int .i64 (wbin 8 a b).2]) ∧ w = w' := by
  go_enter Try.func56, Try.ntmps56
  go_wp2
  go_ret2
  exact ⟨rfl, rfl⟩
set_option maxHeartbeats 400000 in
theorem rbin_9 (a b : Int) (w : World) : Calls Try.prog 56 #[.int .i64 9, .int .i64 a, .int .i64 b] w fun e w' => e = .returned (.tuple #[.int .i64 (wbin 9 a b).1, .int .i64 (wbin 9 a b).2]) ∧ w = w' := by
  have q1 : 0 ≤ b % 64 := Int.emod_nonneg _ (by decide)
  have q2 : b % 64 < 64 := Int.emod_lt_of_pos _ (by decide)
  have q3 := i64_and63 b
  have q4 : IntKind.u64.wrap (b % 64) = b % 64 := by rw [IntKind.wrap_u64]; omega
  go_enter Try.func56, Try.ntmps56
  go_wp2
  go_ret2
  exact ⟨rfl, rfl⟩
set_option maxHeartbeats 400000 in
theorem rbin_10 (a b : Int) (w : World) : Calls Try.prog 56 #[.int .i64 10, .int .i64 a, .int .i64 b] w fun e w' => e = .returned (.tuple #[.int .i64 (wbin 10 a b).1, .int .i64 (wbin 10 a b).2]) ∧ w = w' := by
  have q1 : 0 ≤ b % 64 := Int.emod_nonneg _ (by decide)
  have q2 : b % 64 < 64 := Int.emod_lt_of_pos _ (by decide)
  have q3 := i64_and63 b
  have q4 : IntKind.u64.wrap (b % 64) = b % 64 := by rw [IntKind.wrap_u64]; omega
  go_enter Try.func56, Try.ntmps56
  go_wp2
  go_ret2
  exact ⟨rfl, rfl⟩
set_option maxHeartbeats 400000 in
theorem rbin_11 (a b : Int) (w : World) : Calls Try.prog 56 #[.int .i64 11, .int .i64 a, .int .i64 b] w fun e w' => e = .returned (.tuple #[.int .i64 (wbin 11 a b).1, .int .i64 (wbin 11 a b).2]) ∧ w = w' := by
  by_cases h : a = b
  · have hx : (a == b) = true := by simp [h]
    have hy : (a != b) = false := by simp [h]
    go_enter Try.func56, Try.ntmps56
    go_wp2_with (go_at_call 65; refine (one_t _).mono ?_; rintro e w' ⟨rfl, rfl⟩)
    go_ret2
    exact ⟨ret2 (by simp [wbin, h]) rfl, rfl⟩
  · have hx : (a == b) = false := by simp [h]
    have hy : (a != b) = true := by simp [h]
    go_enter Try.func56, Try.ntmps56
    go_wp2_with (go_at_call 65; refine (one_f _).mono ?_; rintro e w' ⟨rfl, rfl⟩)
    go_ret2
    exact ⟨ret2 (by simp [wbin, h]) rfl, rfl⟩
set_option maxHeartbeats 400000 in
theorem rbin_12 (a b : Int) (w : World) : Calls Try.prog 56 #[.int .i64 12, .int .i64 a, .int .i64 b] w fun e w' => e = .returned (.tuple #[.int .i64 (wbin 12 a b).1, .int .i64 (wbin 12 a b).2]) ∧ w = w' := by
  by_cases h : a = b
  · have hx : (a == b) = true := by simp [h]
    have hy : (a != b) = false := by simp [h]
    go_enter Try.func56, Try.ntmps56
    go_wp2_with (go_at_call 65; refine (one_f _).mono ?_; rintro e w' ⟨rfl, rfl⟩)
    go_ret2
    exact ⟨ret2 (by simp [wbin, h]) rfl, rfl⟩
  · have hx : (a == b) = false := by simp [h]
    have hy : (a != b) = true := by simp [h]
    go_enter Try.func56, Try.ntmps56
    go_wp2_with (go_at_call 65; refine (one_t _).mono ?_; rintro e w' ⟨rfl, rfl⟩)
    go_ret2
    exact ⟨ret2 (by simp [wbin, h]) rfl, rfl⟩
set_option maxHeartbeats 400000 in
theorem rbin_13 (a b : Int) (w : World) : Calls Try.prog 56 #[.int .i64 13, .int .i64 a, .int .i64 b] w fun e w' => e = .returned (.tuple #[.int .i64 (wbin 13 a b).1, .int .i64 (wbin 13 a b).2]) ∧ w = w' := by
  by_cases h : a < b
  · have hx : (decide (a < b)) = true := by simp [h]
    have hy : (decide (b ≤ a)) = false := by simp; omega
    go_enter Try.func56, Try.ntmps56
    go_wp2_with (go_at_call 65; refine (one_t _).mono ?_; rintro e w' ⟨rfl, rfl⟩)
    go_ret2
    exact ⟨ret2 (by simp [wbin, h]) rfl, rfl⟩
  · have hx : (decide (a < b)) = false := by simp [h] <;> omega
    have hy : (decide (b ≤ a)) = true := by simp; omega
    go_enter Try.func56, Try.ntmps56
    go_wp2_with (go_at_call 65; refine (one_f _).mono ?_; rintro e w' ⟨rfl, rfl⟩)
    go_ret2
    exact ⟨ret2 (by simp [wbin, h]) rfl, rfl⟩
set_option maxHeartbeats 400000 in
theorem rbin_14 (a b : Int) (w : World) : Calls Try.prog 56 #[.int .i64 14, .int .i64 a, .int .i64 b] w fun e w' => e = .returned (.tuple #[.int .i64 (wbin 14 a b).1, .int .i64 (wbin 14 a b).2]) ∧ w = w' := by
  by_cases h : b < a
  · have hx : (decide (b < a)) = true := by simp [h]
    have hy : (decide (a ≤ b)) = false := by simp; omega
    go_enter Try.func56, Try.ntmps56
    go_wp2_with (go_at_call 65; refine (one_f _).mono ?_; rintro e w' ⟨rfl, rfl⟩)
    go_ret2
    exact ⟨ret2 (by simp [wbin, h]) rfl, rfl⟩
  · have hx : (decide (b < a)) = false := by simp [h] <;> omega
    have hy : (decide (a ≤ b)) = true := by simp; omega
    go_enter Try.func56, Try.ntmps56
    go_wp2_with (go_at_call 65; refine (one_t _).mono ?_; rintro e w' ⟨rfl, rfl⟩)
    go_ret2
    exact ⟨ret2 (by simp [wbin, h]) rfl, rfl⟩
set_option maxHeartbeats 400000 in
theorem rbin_15 (a b : Int) (w : World) : Calls Try.prog 56 #[.int .i64 15, .int .i64 a, .int .i64 b] w fun e w' => e = .returned (.tuple #[.int .i64 (wbin 15 a b).1, .int .i64 (wbin 15 a b).2]) ∧ w = w' := by
  by_cases h : b < a
  · have hx : (decide (b < a)) = true := by simp [h]
    have hy : (decide (a ≤ b)) = false := by simp; omega
    go_enter Try.func56, Try.ntmps56
    go_wp2_with (go_at_call 65; refine (one_t _).mono ?_; rintro e w' ⟨rfl, rfl⟩)
    go_ret2
    exact ⟨ret2 (by simp [wbin, h]) rfl, rfl⟩
  · have hx : (decide (b < a)) = false := by simp [h] <;> omega
    have hy : (decide (a ≤ b)) = true := by simp; omega
    go_enter Try.func56, Try.ntmps56
    go_wp2_with (go_at_call 65; refine (one_f _).mono ?_; rintro e w' ⟨rfl, rfl⟩)
    go_ret2
    exact ⟨ret2 (by simp [wbin, h]) rfl, rfl⟩
set_option maxHeartbeats 400000 in
theorem rbin_16 (a b : Int) (w : World) : Calls Try.prog 56 #[.int .i64 16, .int .i64 a, .int .i64 b] w fun e w' => e = .returned (.tuple #[.int .i64 (wbin 16 a b).1, .int .i64 (wbin 16 a b).2]) ∧ w = w' := by
  by_cases h : a < b
  · have hx : (decide (a < b)) = true := by simp [h]
    have hy : (decide (b ≤ a)) = false := by simp; omega
    go_enter Try.func56, Try.ntmps56
    go_wp2_with (go_at_call 65; refine (one_f _).mono ?_; rintro e w' ⟨rfl, rfl⟩)
    go_ret2
    exact ⟨ret2 (by simp [wbin, h]) rfl, rfl⟩
  · have hx : (decide (a < b)) = false := by simp [h] <;> omega
    have hy : (decide (b ≤ a)) = true := by simp; omega
    go_enter Try.func56, Try.ntmps56
    go_wp2_with (go_at_call 65; refine (one_t _).mono ?_; rintro e w' ⟨rfl, rfl⟩)
    go_ret2
    exact ⟨ret2 (by simp [wbin, h]) rfl, rfl⟩
set_option maxHeartbeats 400000 in
theorem rbin_o (op a b : Int) (w : World) (h1 : (op == 1) = false) (h2 : (op == 2) = false) (h3 : (op == 3) = false) (h4 : (op == 4) = false) (h5 : (op == 5) = false) (h6 : (op == 6) = false) (h7 : (op == 7) = false) (h8 : (op == 8) = false) (h9 : (op == 9) = false) (h10 : (op == 10) = false) (h11 : (op == 11) = false) (h12 : (op == 12) = false) (h13 : (op == 13) = false) (h14 : (op == 14) = false) (h15 : (op == 15) = false) (h16 : (op == 16) = false) : Calls Try.prog 56 #[.int .i64 op, .int .i64 a, .int .i64 b] w fun e w' => e = .returned (.tuple #[.int .i64 (wbin op a b).1, .int .i64 (wbin op a b).2]) ∧ w = w' := by
  go_enter Try.func56, Try.ntmps56
  go_wp2
  go_ret2
  refine ⟨ret2 ?_ ?_, rfl⟩ <;> (simp at h1 h2 h3 h4 h5 h6 h7 h8 h9 h10 h11 h12 h13 h14 h15 h16; simp [wbin, h1, h2, h3, h4, h5, h6, h7, h8, h9, h10, h11, h12, h13, h14, h15, h16])
theorem rbin_any (op a b : Int) (w : World) : Calls Try.prog 56 #[.int .i64 op, .int .i64 a, .int .i64 b] w fun e w' => e = .returned (.tuple #[.int .i64 (wbin op a b).1, .int .i64 (wbin op a b).2]) ∧ w = w' := by
  by_cases h1 : op = 1
  · subst h1; exact rbin_1 a b w
  by_cases h2 : op = 2
  · subst h2; exact rbin_2 a b w
  by_cases h3 : op = 3
  · subst h3; exact rbin_3 a b w
  by_cases h4 : op = 4
  · subst h4; exact rbin_4 a b w
  by_cases h5 : op = 5
  · subst h5; exact rbin_5 a b w
  by_cases h6 : op = 6
  · subst h6; exact rbin_6 a b w
  by_cases h7 : op = 7
  · subst h7; exact rbin_7 a b w
  by_cases h8 : op = 8
  · subst h8; exact rbin_8 a b w
  by_cases h9 : op = 9
  · subst h9; exact rbin_9 a b w
  by_cases h10 : op = 10
  · subst h10; exact rbin_10 a b w
  by_cases h11 : op = 11
  · subst h11; exact rbin_11 a b w
  by_cases h12 : op = 12
  · subst h12; exact rbin_12 a b w
  by_cases h13 : op = 13
  · subst h13; exact rbin_13 a b w
  by_cases h14 : op = 14
  · subst h14; exact rbin_14 a b w
  by_cases h15 : op = 15
  · subst h15; exact rbin_15 a b w
  by_cases h16 : op = 16
  · subst h16; exact rbin_16 a b w
  exact rbin_o op a b w (beq_eq_false_iff_ne.2 h1) (beq_eq_false_iff_ne.2 h2) (beq_eq_false_iff_ne.2 h3) (beq_eq_false_iff_ne.2 h4) (beq_eq_false_iff_ne.2 h5) (beq_eq_false_iff_ne.2 h6) (beq_eq_false_iff_ne.2 h7) (beq_eq_false_iff_ne.2 h8) (beq_eq_false_iff_ne.2 h9) (beq_eq_false_iff_ne.2 h10) (beq_eq_false_iff_ne.2 h11) (beq_eq_false_iff_ne.2 h12) (beq_eq_false_iff_ne.2 h13) (beq_eq_false_iff_ne.2 h14) (beq_eq_false_iff_ne.2 h15) (beq_eq_false_iff_ne.2 h16)
theorem un_any (op a : Int) (w : World) : Calls Try.prog 63 #[.int .i64 op, .int .i64 a] w fun e w' => e = .returned (.tuple #[.int .i64 (wun op a).1, .int .i64 (wun op a).2]) ∧ w = w' := by
  by_cases h1 : op = 1
  · subst h1
    go_enter Try.func63, Try.ntmps63
    go_wp2
    go_ret2
    exact ⟨rfl, rfl⟩
  by_cases h2 : op = 2
  · subst h2
    go_enter Try.func63, Try.ntmps63
    go_wp2
    go_ret2
    exact ⟨rfl, rfl⟩
  by_cases h3 : op = 3
  · subst h3
    by_cases h : a = 0
    · have hx : (a == 0) = true := by simp [h]
      go_enter Try.func63, Try.ntmps63
      go_wp2_with (go_at_call 72; refine (truth_t _).mono ?_; rintro e w' ⟨rfl, rfl⟩)
      go_ret2
      exact ⟨ret2 (by simp [wun, h]) rfl, rfl⟩
    · have hx : (a == 0) = false := by simp [h]
      go_enter Try.func63, Try.ntmps63
      go_wp2_with (go_at_call 72; refine (truth_f _).mono ?_; rintro e w' ⟨rfl, rfl⟩)
      go_ret2
      exact ⟨ret2 (by simp [wun, h]) rfl, rfl⟩
  have g1 : (op == 1) = false := beq_eq_false_iff_ne.2 h1
  have g2 : (op == 2) = false := beq_eq_false_iff_ne.2 h2
  have g3 : (op == 3) = false := beq_eq_false_iff_ne.2 h3
  go_enter Try.func63, Try.ntmps63
  go_wp2
  go_ret2
  refine ⟨ret2 ?_ ?_, rfl⟩ <;> simp [wun, h1, h2, h3]
theorem run_any (op a : Int) (w : World) : Calls Try.prog 55 #[.int .i64 op, .int .i64 a] w fun e w' => e = .returned (.tuple #[.int .i64 (wun op a).1, .int .i64 (wun op a).2]) ∧ w = w' := by
  by_cases h1 : op = 1
  · subst h1
    go_enter Try.func55, Try.ntmps55
    go_wp2
    go_ret2
    exact ⟨rfl, rfl⟩
  by_cases h2 : op = 2
  · subst h2
    go_enter Try.func55, Try.ntmps55
    go_wp2
    go_ret2
    exact ⟨rfl, rfl⟩
  by_cases h3 : op = 3
  · subst h3
    by_cases h : a = 0
    · have hx : (a == 0) = true := by simp [h]
      go_enter Try.func55, Try.ntmps55
      go_wp2_with (go_at_call 65; refine (one_t _).mono ?_; rintro e w' ⟨rfl, rfl⟩)
      go_ret2
      exact ⟨ret2 (by simp [wun, h]) rfl, rfl⟩
    · have hx : (a == 0) = false := by simp [h]
      go_enter Try.func55, Try.ntmps55
      go_wp2_with (go_at_call 65; refine (one_f _).mono ?_; rintro e w' ⟨rfl, rfl⟩)
      go_ret2
      exact ⟨ret2 (by simp [wun, h]) rfl, rfl⟩
  have g1 : (op == 1) = false := beq_eq_false_iff_ne.2 h1
  have g2 : (op == 2) = false := beq_eq_false_iff_ne.2 h2
  have g3 : (op == 3) = false := beq_eq_false_iff_ne.2 h3
  go_enter Try.func55, Try.ntmps55
  go_wp2
  go_ret2
  refine ⟨ret2 ?_ ?_, rfl⟩ <;> simp [wun, h1, h2, h3]
end Go.Proofs.Ythlcoocboidnlaa
