/- num, Hash, awake of layer 8; the statement on sums. -/
import Derived.Test.YtpopgnengimieaaEncode
namespace Go.Proofs.Ytpopgnengimieaa
open Go.RowKit

theorem num8_any (e : Int) (w : World) : Calls Try.prog 14 #[.int .i64 e] w fun r w' => r = .returned (.int .i64 e) ∧ w = w' := by
  go_enter Try.func14, Try.ntmps14
  go_wp2
  go_ret
  exact ⟨rfl, rfl⟩

theorem BytesNew.at {w w' : World} {a : Option Addr} {n c : Nat} {l : List UInt8} (h : BytesNew w w' a n c l) : BytesAt w' (.slice a n c) l := by
  obtain ⟨rfl, h2, _⟩ := h
  exact own_bytesAt h2

/-- the program's Hash: the sum of a unit's bytes, or 0 -/
def hashU (u : Un) : Int := if codeU u = 0 then fnv (encB u) else 0
theorem codeU_cases (u : Un) : codeU u = 0 ∨ codeU u = 2 ∨ codeU u = 3 := by
  unfold codeU; split
  · split
    · exact .inl rfl
    · exact .inr (.inl rfl)
  · exact .inr (.inr rfl)
set_option maxRecDepth 100000 in
set_option maxHeartbeats 400000 in
theorem hash_any {B : Nat} {W : World} (d : Nat) (u : Un) (cs : List Value) (w : World) (hx : UnAt B W d u cs) (h : In B W w) :
    Calls Try.prog 18 #[.agg cs.toArray] w (fun e w' => e = .returned (.int .i64 (hashU u)) ∧ Nw w w') := by
  have E := Lib.hid (fun o => encode_any d u cs (w.alloc o) hx (h.alloc o))
  obtain ⟨vi, vd, vb, rfl, hp, hi, hd, hb⟩ := hx
  obtain ⟨x1, m1, c1, rfl⟩ := hi.slice
  obtain ⟨x2, m2, c2, rfl⟩ := hd.slice
  obtain ⟨x3, m3, c3, rfl⟩ := hb.slice
  clear hp hi hd hb h
  go_enter Try.func18, Try.ntmps18
  go_wp2_with fail
  refine (E.out _).mono ?_
  rintro e1 w1 ⟨a, n, c, rfl, k, hb⟩
  have K := Lib.hid ((Nw.new w _).trans k)
  have HB := Lib.hid hb
  clear k hb
  by_cases hc : codeU u = 0
  · have HC := Lib.hid hc
    rw [hc]
    have S := Lib.hid (sum_any w1 (.slice a n c) (encB u) (by have := HB.out.at; rw [if_pos hc] at this; exact this))
    clear hc
    go_wp2_with fail
    refine S.out.mono ?_
    rintro e2 w2 ⟨rfl, rfl⟩
    go_wp2_with fail
    go_returns
    exact ⟨by rw [hashU, if_pos HC.out]; rfl, K.out⟩
  · have HC := Lib.hid hc
    have g0 : (codeU u == 0) = false := beq_eq_false_iff_ne.2 hc
    have g1 : (codeU u != 0) = true := by simp [hc]
    clear hc
    go_wp2_with fail
    go_returns
    exact ⟨by rw [hashU, if_neg HC.out]; rfl, K.out⟩

def unitA : Un := ⟨⟨#[97]⟩, [], [], []⟩
theorem SlB.nil {α : Type} (B : Nat) (W : World) (n : Nat) (E : α → List Value → Prop) : SlB B W n E [] (.slice none 0 0) := ⟨none, 0, rfl, Nat.zero_le _, fun h => absurd rfl h⟩
theorem unitA_at (w : World) : UnAt w.heap.size w 1 unitA [.string ⟨#[97]⟩, .slice none 0 0, .slice none 0 0, .slice none 0 0] :=
  ⟨_, _, _, rfl, (by unfold Fits unitA; decide), SlB.nil _ _ _ _, SlB.nil _ _ _ _, SlB.nil _ _ _ _⟩
theorem In.self (w : World) : In w.heap.size w w := ⟨Below.refl _ _, Nat.le_refl _⟩
theorem unitA_len : (encB unitA).length = 45 := by
  simp [encB, encUn, encL, encS, unitA, le8_length]
theorem unitA_code : codeU unitA = 0 := by
  have h : fitUn unitA = true := by simp [fitUn, unitA]
  rw [codeU, if_pos h, if_pos (by rw [unitA_len]; decide)]
theorem fnv_nil : fnv [] = -3750763034362895579 := by
  unfold fnv fnvN fnvFrom; rw [List.foldl_nil]; unfold wrap64; omega

set_option maxRecDepth 100000 in
set_option maxHeartbeats 400000 in
theorem awake8_any (w : World) : Calls Try.prog 9 #[] w (BoolPost w true) := by
  have E := Lib.hid (encode_any 1 unitA _ w (unitA_at w) (In.self w))
  have S := Lib.hid (fun wx => sum_any wx (.slice none 0 0) [] (BytesAt.nil wx))
  have FN := Lib.hid fnv_nil
  go_enter Try.func9, Try.ntmps9
  go_wp2_with fail
  refine E.out.mono ?_
  rintro e1 w1 ⟨a, n, c, rfl, k, hb⟩
  rw [if_pos unitA_code] at hb
  rw [unitA_code]
  obtain ⟨hn, _, _⟩ := hb
  rw [unitA_len] at hn
  subst hn
  have K := Lib.hid k
  clear k
  go_wp2_with fail
  refine (num8_any _ _).mono ?_
  rintro e2 w2 ⟨rfl, rfl⟩
  go_wp2_with fail
  refine (S.out _).mono ?_
  rintro e3 w3 ⟨rfl, rfl⟩
  rw [FN.out]
  go_wp2_with fail
  go_returns
  exact ⟨rfl, K.out⟩

set_option maxRecDepth 100000 in
set_option maxHeartbeats 400000 in
theorem exportSums_walk (w : World) (v : Value) (l : List UInt8) (h : BytesAt w v l) :
    Calls Try.prog 3 #[v] w (BoolPost w true) := by
  have S := Lib.hid (sum_any w v l h)
  have R := Lib.hid (rsum_any w v l h)
  obtain ⟨x, c, rfl, h1, h2, h3⟩ := h
  clear h1 h2 h3
  generalize l.length = n at *
  by_cases hn : 10000 < n
  · go_enter Try.func3, Try.ntmps3
    go_wp2_with fail
    refine (awake8_any w).mono ?_
    rintro e1 w1 ⟨rfl, k⟩
    have K := Lib.hid k
    clear k
    go_wp2_with fail
    go_returns
    exact ⟨rfl, K.out⟩
  · go_enter Try.func3, Try.ntmps3
    go_wp2_with fail
    refine S.out.mono ?_
    rintro e1 w1 ⟨rfl, rfl⟩
    go_wp2_with fail
    refine R.out.mono ?_
    rintro e2 w2 ⟨rfl, rfl⟩
    go_wp2_with fail
    refine (awake8_any w).mono ?_
    rintro e3 w3 ⟨rfl, k⟩
    have K := Lib.hid k
    clear k
    go_wp2_with fail
    go_returns
    exact ⟨rfl, K.out⟩

theorem nw_below {w w' : World} (h : Nw w w') : Below w.heap.size w w' := Kp.below h (Nat.le_refl _) (fun _ _ x => x)
theorem BoolPost.fin {w : World} {e : Ending} {w' : World} (h : BoolPost w true e w') : e = .returned (.bool true) ∧ Below w.heap.size w w' := ⟨h.1, nw_below h.2⟩
end Go.Proofs.Ytpopgnengimieaa
