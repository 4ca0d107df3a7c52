/- The sum over bytes: the program's and the document's functions return the same number. -/
import Derived.Test.YtfdjlicegfgodaaCore
namespace Go.Proofs.Ytfdjlicegfgodaa
open Go.RowKit

def fnvStep (s : Nat) (c : UInt8) : Nat := (s ^^^ c.toNat) * 1099511628211 % 18446744073709551616
def fnvFrom (s : Nat) (l : List UInt8) : Nat := l.foldl fnvStep s
def fnvN (l : List UInt8) : Nat := fnvFrom 14695981039346656037 l
def fnv (l : List UInt8) : Int := wrap64 (fnvN l : Int)
theorem fnvStep_lt (s : Nat) (c : UInt8) : fnvStep s c < 18446744073709551616 := by unfold fnvStep; exact Nat.mod_lt _ (by decide)
theorem fnvFrom_snoc (s : Nat) (l : List UInt8) (c : UInt8) : fnvFrom s (l ++ [c]) = fnvStep (fnvFrom s l) c := by
  unfold fnvFrom; rw [List.foldl_append, List.foldl_cons, List.foldl_nil]
theorem fnvFrom_append (s : Nat) (l m : List UInt8) : fnvFrom s (l ++ m) = fnvFrom (fnvFrom s l) m := by
  unfold fnvFrom; rw [List.foldl_append]
theorem fnvFrom_lt (s : Nat) (hs : s < 18446744073709551616) (l : List UInt8) : fnvFrom s l < 18446744073709551616 := by
  induction l generalizing s with
  | nil => exact hs
  | cons c l ih => exact ih _ (fnvStep_lt s c)
theorem fnvN_lt (l : List UInt8) : fnvN l < 18446744073709551616 := fnvFrom_lt _ (by decide) l
theorem fnvN_snoc (l : List UInt8) (c : UInt8) : fnvN (l ++ [c]) = fnvStep (fnvN l) c := fnvFrom_snoc _ l c
theorem fnv_xor (s c : Nat) (hs : s < 18446744073709551616) (hc : c < 256) : bits .xor .u64 (s : Int) (c : Int) = ((s ^^^ c : Nat) : Int) :=
  bits_xor_u64_nat s c hs (by omega)
theorem fnv_step (s : Nat) (c : UInt8) (hs : s < 18446744073709551616) :
    IntKind.u64.wrap (bits .xor .u64 (s : Int) (c.toNat : Int) * 1099511628211) = ((fnvStep s c : Nat) : Int) := by
  have hc := c.toNat_lt
  rw [fnv_xor s c.toNat hs hc, IntKind.wrap_u64, fnvStep, Int.natCast_emod, Int.natCast_mul]
  rfl
theorem take_snoc' {l : List UInt8} {k : Nat} (h : k < l.length) : l.take (k + 1) = l.take k ++ [l[k]] := by
  rw [List.take_succ_eq_append_getElem h]
theorem fnv_round {l : List UInt8} {k : Nat} (h : k < l.length) : IntKind.u64.wrap (bits .xor .u64 ((fnvN (l.take k) : Nat) : Int) (l[k].toNat : Int) * 1099511628211) = ((fnvN (l.take (k + 1)) : Nat) : Int) := by
  rw [take_snoc' h, fnvN_snoc]; exact fnv_step _ _ (fnvN_lt _)
theorem fnv_all {l : List UInt8} {k : Nat} (h : k = l.length) : fnvN (l.take k) = fnvN l := by rw [List.take_of_length_le (by omega)]
theorem fnv_wrap (l : List UInt8) : IntKind.i64.wrap (fnvN l : Int) = fnv l := by simp [fnv, wrap64, IntKind.wrap_i64]
theorem fnv_wrap' (l : List UInt8) : wrap64 (fnvN l : Int) = fnv l := rfl

set_option maxHeartbeats 400000 in
theorem sum_any (w : World) (v : Value) (l : List UInt8) (h : BytesAt w v l) :
    Calls Try.prog 36 #[v] w fun e w' => e = .returned (.int .i64 (fnv l)) ∧ w = w' := by
  obtain ⟨x, cap, rfl, hl, hm, hc⟩ := h
  have hmm : l.length ≤ 9223372036854775807 := by unfold maxLen at hm; omega
  obtain ⟨n, hn⟩ : ∃ n, n = l.length := ⟨_, rfl⟩
  rw [← hn] at hl hmm ⊢
  have Hn := Lib.hid hn; clear hn
  have Hc := Lib.hid hc; clear hc
  go_enter Try.func36, Try.ntmps36
  go_wp2
  go_loop [3, 5, 8] (fun s _ i => ∃ k : Nat, k ≤ n ∧ i = .int .i64 k ∧ s = .int .u64 ((fnvN (l.take k) : Nat) : Int)) (fun _ _ i => n - (intOf i).toNat)
  case atStart => exact ⟨0, Nat.zero_le _, rfl, rfl⟩
  case round =>
    obtain ⟨k, hk, rfl, rfl⟩ := hrel
    by_cases hlt : k < n
    · have hk' : k < l.length := by rw [← Hn.out]; exact hlt
      obtain ⟨b, o, rfl, hcc⟩ := Hc.out (by intro e; rw [e] at hk'; simp at hk')
      have hcell := hcc k hk'
      have hb := (l[k]).toNat_lt
      have H := Lib.hid (fnv_round hk')
      clear hcc
      generalize fnvN (l.take k) = s at *
      generalize l[k] = c at *
      go_wp2
      go_round
      case rel => exact ⟨k + 1, by omega, by go_num, by rw [← H.out]⟩
      case measure => simp [intOf]; omega
    · have H := Lib.hid (fnv_all (l := l) (k := k) (by rw [← Hn.out]; omega))
      go_wp2
      go_ret
      refine ⟨retI ?_, rfl⟩
      simp only [H.out]
      first | exact fnv_wrap _ | exact fnv_wrap' _

set_option maxHeartbeats 400000 in
theorem rsum_any (w : World) (v : Value) (l : List UInt8) (h : BytesAt w v l) :
    Calls Try.prog 42 #[v] w fun e w' => e = .returned (.int .i64 (fnv l)) ∧ w = w' := by
  obtain ⟨x, cap, rfl, hl, hm, hc⟩ := h
  have hmm : l.length ≤ 9223372036854775807 := by unfold maxLen at hm; omega
  obtain ⟨n, hn⟩ : ∃ n, n = l.length := ⟨_, rfl⟩
  rw [← hn] at hl hmm ⊢
  have Hn := Lib.hid hn; clear hn
  have Hc := Lib.hid hc; clear hc
  go_enter Try.func42, Try.ntmps42
  go_wp2
  go_loop [3, 4] (fun s i => ∃ k : Nat, k ≤ n ∧ i = .int .i64 k ∧ s = .int .u64 ((fnvN (l.take k) : Nat) : Int)) (fun _ i => n - (intOf i).toNat)
  case atStart => exact ⟨0, Nat.zero_le _, rfl, rfl⟩
  case round =>
    obtain ⟨k, hk, rfl, rfl⟩ := hrel
    by_cases hlt : k < n
    · have hk' : k < l.length := by rw [← Hn.out]; exact hlt
      obtain ⟨b, o, rfl, hcc⟩ := Hc.out (by intro e; rw [e] at hk'; simp at hk')
      have hcell := hcc k hk'
      have hb := (l[k]).toNat_lt
      have H := Lib.hid (fnv_round hk')
      clear hcc
      generalize fnvN (l.take k) = s at *
      generalize l[k] = c at *
      go_wp2
      go_round
      case rel => exact ⟨k + 1, by omega, by go_num, by rw [← H.out]⟩
      case measure => simp [intOf]; omega
    · have H := Lib.hid (fnv_all (l := l) (k := k) (by rw [← Hn.out]; omega))
      go_wp2
      go_ret
      refine ⟨retI ?_, rfl⟩
      simp only [H.out]
      first | exact fnv_wrap _ | exact fnv_wrap' _
end Go.Proofs.Ytfdjlicegfgodaa
