/- The instructions' words: isa.may, isa.Encode. -/
import Derived.Test.YtfdjlicegfgodaaIsa1
import Derived.Laws.Bits64b
namespace Go.Proofs.Ytfdjlicegfgodaa
open Go.RowKit
set_option linter.unusedSimpArgs false
set_option linter.unusedVariables false

def regB (has : Bool) (r : Int) : Bool := decide (r = 0 ∨ (has = true ∧ 0 < r ∧ r < 16))
def hasA (op : Int) : Bool := decide (regsOf op = 1 ∨ regsOf op = 3 ∨ regsOf op = 7)
def hasB (op : Int) : Bool := decide (regsOf op = 3 ∨ regsOf op = 7)
def hasC (op : Int) : Bool := decide (regsOf op = 7)
def immB (im : Bool) (n : Int) : Bool := if im = true then decide (-2147483648 ≤ n ∧ n ≤ 2147483647) else decide (n = 0)
/-- may there be such an instruction? -/
def okIns (op a b c n : Int) : Bool := isOp op && (regB (hasA op) a && (regB (hasB op) b && (regB (hasC op) c && immB (immOf op) n)))
/-- its word -/
def encIns (op a b c n : Int) : Int := op * 72057594037927936 + a * 4503599627370496 + b * 281474976710656 + c * 17592186044416 + n % 4294967296
theorem regsOf_cases (op : Int) : regsOf op = 0 ∨ regsOf op = 1 ∨ regsOf op = 3 ∨ regsOf op = 7 := by
  unfold regsOf; split
  · exact .inr (.inr (.inl rfl))
  · split
    · exact .inr (.inl rfl)
    · split
      · exact .inr (.inr (.inr rfl))
      · exact .inl rfl
theorem has_bits (op : Int) : (bits .and .i64 (regsOf op) 1 != 0) = hasA op ∧ (bits .and .i64 (regsOf op) 2 != 0) = hasB op ∧ (bits .and .i64 (regsOf op) 4 != 0) = hasC op := by
  unfold hasA hasB hasC
  rcases regsOf_cases op with h | h | h | h <;> rw [h] <;> exact ⟨by decide, by decide, by decide⟩
set_option maxRecDepth 100000 in
theorem may_any (w : World) (r : Int) (has : Bool) : Calls Try.prog 79 #[.int .i64 r, .bool has] w fun e w' => e = .returned (.bool (regB has r)) ∧ w = w' := by
  by_cases h0 : r = 0
  · subst h0
    have HR := Lib.hid (show regB has 0 = true by unfold regB; simp)
    rw [HR.out]
    go_enter Try.func79, Try.ntmps79
    go_wp2_with fail
    go_returns
    exact ⟨rfl, rfl⟩
  · obtain ⟨ne1, ne2, ne3, ne4⟩ := int_ne h0
    cases has with
    | false =>
      have HR := Lib.hid (show regB false r = false by unfold regB; simp; exact h0)
      rw [HR.out]
      clear h0
      go_enter Try.func79, Try.ntmps79
      go_wp2_with fail
      go_returns
      exact ⟨rfl, rfl⟩
    | true =>
      by_cases h1 : 0 < r
      · by_cases h2 : r < 16
        · have HR := Lib.hid (show regB true r = true by unfold regB; simp; omega)
          rw [HR.out]
          clear h0
          go_enter Try.func79, Try.ntmps79
          go_wp2_with fail
          go_returns
          exact ⟨rfl, rfl⟩
        · have HR := Lib.hid (show regB true r = false by unfold regB; simp; omega)
          rw [HR.out]
          clear h0
          go_enter Try.func79, Try.ntmps79
          go_wp2_with fail
          go_returns
          exact ⟨rfl, rfl⟩
      · have HR := Lib.hid (show regB true r = false by unfold regB; simp; omega)
        rw [HR.out]
        clear h0
        go_enter Try.func79, Try.ntmps79
        go_wp2_with fail
        go_returns
        exact ⟨rfl, rfl⟩
end Go.Proofs.Ytfdjlicegfgodaa
