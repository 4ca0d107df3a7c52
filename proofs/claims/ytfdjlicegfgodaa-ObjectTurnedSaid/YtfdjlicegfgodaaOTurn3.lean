/- ObjectTurned's arguments, read out of memory: the bytes behind. -/
import Derived.Test.YtfdjlicegfgodaaOTurn2
import Derived.Test.YtfdjlicegfgodaaOpenBytes
namespace Go.Proofs.Ytfdjlicegfgodaa
open Go.ChangeShapes Go.WideShapes Go.ChangeAt Go.RowKit

theorem open_form {H : Type} {enc : TypeId × Value → H} {W : World} {v : Value} {d : DataW H} {p : List MemPlace}
    (h : DataW.Trod enc Try.prog W 0 (fun _ => true) true 34 v d p) (hv : ∃ a n c, v = .slice a n c) : v = .slice none 0 0 ∨ ∃ ad n c, v = .slice (some ad) n c := by
  obtain ⟨a, n, c, rfl⟩ := hv
  obtain ⟨fuel, hf⟩ := h
  rcases open_ints Try.underlying34 Try.underlying5 (by kernel_rfl) hf with ⟨hcs, _⟩ | ⟨x, l, c', zs, hcs, _⟩
  · simp [Value.cells] at hcs
    obtain ⟨rfl, rfl, rfl⟩ := hcs
    exact .inl rfl
  · simp [Value.cells] at hcs
    obtain ⟨rfl, rfl, rfl⟩ := hcs
    exact .inr ⟨_, _, _, rfl⟩
theorem u8_range {z : Int} (h : (Lit.int .u8 z).wf = true) : 0 ≤ z ∧ z < 256 := by
  have hb : 0 ≤ z ∧ z ≤ 255 := by simpa [Lit.wf, IntKind.min, IntKind.max, IntKind.signed, IntKind.bits] using h
  omega
end Go.Proofs.Ytfdjlicegfgodaa
