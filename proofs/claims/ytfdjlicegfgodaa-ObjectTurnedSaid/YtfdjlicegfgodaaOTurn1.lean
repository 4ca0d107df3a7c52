/- Bytes of which one is turned, that are cut short or have more behind them are no object's: the plain law. -/
import Derived.Test.YtfdjlicegfgodaaOBack
import Derived.Laws.BitsAllLaws
namespace Go.Proofs.Ytfdjlicegfgodaa
open Go.RowKit
set_option linter.unusedSimpArgs false
set_option linter.unusedVariables false

theorem mul_inj {a b : Nat} (ha : a < 18446744073709551616) (hb : b < 18446744073709551616) (h : a * 1099511628211 % 18446744073709551616 = b * 1099511628211 % 18446744073709551616) : a = b := by
  have key : ∀ x, x < 18446744073709551616 → (x * 1099511628211 % 18446744073709551616) * 14886173955864302971 % 18446744073709551616 = x := by
    intro x hx
    rw [Nat.mul_mod, Nat.mod_mod, ← Nat.mul_mod, Nat.mul_assoc]
    have e : x * (1099511628211 * 14886173955864302971) = x + 18446744073709551616 * (x * 887285111055) := by omega
    rw [e, Nat.add_mul_mod_self_left, Nat.mod_eq_of_lt hx]
  rw [← key a ha, ← key b hb, h]
theorem xor_lt (s : Nat) (c : UInt8) (hs : s < 18446744073709551616) : s ^^^ c.toNat < 18446744073709551616 := by
  have hc := c.toNat_lt
  exact Nat.xor_lt_two_pow (n := 64) hs (by omega)
theorem xor_back (a b : Nat) : (a ^^^ b) ^^^ b = a := by rw [Nat.xor_assoc, Nat.xor_self, Nat.xor_zero]
theorem fnvStep_s {s s' : Nat} {c : UInt8} (hs : s < 18446744073709551616) (hs' : s' < 18446744073709551616) (h : fnvStep s c = fnvStep s' c) : s = s' := by
  have h1 := mul_inj (xor_lt s c hs) (xor_lt s' c hs') h
  rw [← xor_back s c.toNat, h1, xor_back]
theorem fnvStep_c {s : Nat} {c d : UInt8} (hs : s < 18446744073709551616) (h : fnvStep s c = fnvStep s d) : c = d := by
  have h1 := mul_inj (xor_lt s c hs) (xor_lt s d hs) h
  have h2 : c.toNat = d.toNat := by
    rw [← xor_back c.toNat s, Nat.xor_comm c.toNat, h1, Nat.xor_comm s, xor_back]
  exact UInt8.toNat_inj.1 h2
theorem fnvFrom_s : ∀ (l : List UInt8) {s s' : Nat}, s < 18446744073709551616 → s' < 18446744073709551616 → fnvFrom s l = fnvFrom s' l → s = s'
  | [], _, _, _, _, h => h
  | c :: l, s, s', hs, hs', h => fnvStep_s hs hs' (fnvFrom_s l (fnvStep_lt s c) (fnvStep_lt s' c) h)
theorem fnvN_turn {a r : List UInt8} {x y : UInt8} (h : fnvN (a ++ x :: r) = fnvN (a ++ y :: r)) : x = y := by
  unfold fnvN at h
  rw [fnvFrom_append, fnvFrom_append] at h
  exact fnvStep_c (fnvN_lt a) (fnvFrom_s r (fnvStep_lt _ x) (fnvStep_lt _ y) h)
theorem fnv_N {l m : List UInt8} (h : fnv l = fnv m) : fnvN l = fnvN m := by
  rw [← fnv_wrap, ← fnv_wrap] at h
  have h1 := fnvN_lt l
  have h2 := fnvN_lt m
  generalize fnvN l = a at *
  generalize fnvN m = b at *
  simp only [IntKind.wrap, IntKind.bits, IntKind.signed] at h
  simp at h
  omega
theorem no_turned {u : Ob} {l : List UInt8} (hl : objB u = l) {k : Nat} (hk : k < l.length) {x : UInt8} (hx : x ≠ l[k]) : NoDec (l.set k x) := by
  intro v hv _ _ e
  subst hl
  have hb : objB u = mkO u ++ le8 (fnv (mkO u)) := rfl
  by_cases hkt : k < (mkO u).length
  · have h1 : (objB u).set k x = (mkO u).set k x ++ le8 (fnv (mkO u)) := by rw [hb, List.set_append_left _ _ hkt]
    obtain ⟨_, h2⟩ := dec_parts h1 (fnv_I64 _) e
    have h3 := fnv_N h2
    have h4 : (mkO u) = (mkO u).take k ++ (mkO u)[k] :: (mkO u).drop (k + 1) := by rw [List.getElem_cons_drop, List.take_append_drop]
    have h5 : (mkO u).set k x = (mkO u).take k ++ x :: (mkO u).drop (k + 1) := List.set_eq_take_append_cons_drop.trans (if_pos hkt)
    rw [h5] at h3
    have h6 : fnvN (mkO u) = fnvN ((mkO u).take k ++ (mkO u)[k] :: (mkO u).drop (k + 1)) := congrArg fnvN h4
    rw [h6] at h3
    refine hx ((fnvN_turn h3).trans ?_)
    simp only [hb, List.getElem_append_left hkt]
  · have h1 : (objB u).set k x = mkO u ++ (le8 (fnv (mkO u))).set (k - (mkO u).length) x := by rw [hb, List.set_append_right _ _ (by omega)]
    have h0 : mkO v ++ le8 (fnv (mkO v)) = mkO u ++ (le8 (fnv (mkO u))).set (k - (mkO u).length) x := by rw [← h1]; exact e
    obtain ⟨h2, h3⟩ := List.append_inj' h0 (by rw [List.length_set, le8_length, le8_length])
    rw [h2] at h3
    have hj : k - (mkO u).length < (le8 (fnv (mkO u))).length := by
      rw [le8_length]
      rw [hb, List.length_append, le8_length] at hk
      omega
    refine hx ?_
    have h4 : (le8 (fnv (mkO u)))[k - (mkO u).length] = x := by
      have h5 := congrArg (fun l => l[k - (mkO u).length]?) h3
      simp only [List.getElem?_eq_getElem hj, List.getElem?_set, hj, if_true] at h5
      simpa using h5
    rw [← h4]
    simp only [hb]
    rw [List.getElem_append_right (by omega)]
theorem no_prefix {u : Ob} (hu : OkOb u) {l : List UInt8} (hl : objB u = l) {k : Nat} (hk : k < l.length) : NoDec (l.take k) := by
  intro v hv _ _ e
  subst hl
  obtain ⟨_, h⟩ := objB_pi (r := (objB u).drop k) (r' := []) hv hu (by rw [e, List.take_append_drop, List.append_nil])
  have := congrArg List.length h
  rw [List.length_drop] at this
  simp at this
  omega
theorem no_behind {u : Ob} (hu : OkOb u) {l : List UInt8} (hl : objB u = l) {y : UInt8} {more : List UInt8} : NoDec (l ++ y :: more) := by
  intro v hv _ _ e
  subst hl
  obtain ⟨_, h⟩ := objB_pi (r := []) (r' := y :: more) hv hu (by rw [e, List.append_nil])
  cases h
/-- a byte is turned -/
theorem byte_turn (c : UInt8) {b : Int} (hb : 0 ≤ b ∧ b < 256) : ∃ x : UInt8, x ≠ c ∧ bits .xor .u8 (c.toNat : Int) (1 + b % 255) = (x.toNat : Int) := by
  have hc := c.toNat_lt
  have hbn : 1 + b % 255 = (((1 + b % 255).toNat : Nat) : Int) := by omega
  have hlt : (1 + b % 255).toNat < 256 := by omega
  have hpos : 0 < (1 + b % 255).toNat := by omega
  rw [hbn]
  generalize (1 + b % 255).toNat = d at *
  refine ⟨c ^^^ UInt8.ofNat d, ?_, ?_⟩
  · intro h
    have h1 := congrArg UInt8.toNat h
    rw [UInt8.toNat_xor, UInt8.toNat_ofNat', Nat.mod_eq_of_lt hlt] at h1
    have h2 := xor_back d c.toNat
    rw [Nat.xor_comm d, h1, Nat.xor_self] at h2
    omega
  · rw [u8_xor_nat _ _ (by omega) (by omega), UInt8.toNat_xor, UInt8.toNat_ofNat', Nat.mod_eq_of_lt hlt]
end Go.Proofs.Ytfdjlicegfgodaa
