/- An argument that is a slice of bytes, read out of memory. -/
import Derived.Test.YtfdjlicegfgodaaCore
import Derived.ProofKit
import Derived.OpenShut
import Derived.SizedLaws
namespace Go.Proofs.Ytfdjlicegfgodaa
open Go.ChangeShapes Go.WideShapes Go.ChangeAt Go.RowKit

theorem u8_of {z : Int} (h : (Lit.int .u8 z).wf = true) : ((UInt8.ofNat z.toNat).toNat : Int) = z := by
  have hb : 0 ≤ z ∧ z ≤ 255 := by simpa [Lit.wf, IntKind.min, IntKind.max, IntKind.signed, IntKind.bits] using h
  rw [UInt8.toNat_ofNat']
  omega
theorem open_bytesAt {H : Type} {enc : TypeId × Value → H} {W : World} {v : Value} {d : DataW H} {p : List MemPlace}
    (h : DataW.Trod enc Try.prog W 0 (fun _ => true) true 34 v d p) (hv : ∃ a n c, v = .slice a n c) :
    ∃ l, BytesAt W v l ∧ (∀ b, v.ownBlock = some b → l ≠ [] → b < W.heap.size) := by
  obtain ⟨a, n, c, rfl⟩ := hv
  obtain ⟨fuel, hf⟩ := h
  rcases open_ints Try.underlying34 Try.underlying5 (by kernel_rfl) hf with ⟨hcs, _⟩ | ⟨x, l, c', zs, hcs, _, hl, hm, hz, _, hcell, hwz⟩
  · simp [Value.cells] at hcs
    obtain ⟨rfl, rfl, rfl⟩ := hcs
    exact ⟨[], BytesAt.nil W, fun _ _ h => absurd rfl h⟩
  · simp [Value.cells] at hcs
    obtain ⟨rfl, rfl, rfl⟩ := hcs
    simp only [if_true] at hz
    have hlen : ((zs.take n).map fun z => UInt8.ofNat z.toNat).length = n := by simp; omega
    obtain ⟨b, o, s⟩ := x
    refine ⟨(zs.take n).map fun z => UInt8.ofNat z.toNat, ⟨some ⟨b, o, s⟩, c, by rw [hlen], by rw [hlen]; exact hl, hm, fun hne => ?_⟩, fun g hg hne => ?_⟩
    · have hn : 0 < n := by rw [← hlen]; exact List.length_pos_iff.2 hne
      have h0 := hcell 0 (by omega)
      have hs : s = none := by simpa [Addr.add] using World.cell?_spot h0
      subst hs
      refine ⟨b, o, rfl, fun i hi => ?_⟩
      rw [hlen] at hi
      have h1 := hcell i (by omega)
      have e : (⟨b, o, none⟩ : Addr).add i = ⟨b, o + i, none⟩ := by unfold Addr.add; split <;> simp_all
      rw [e] at h1
      rw [h1]
      have hi' : i < zs.length := by omega
      simp only [List.getD_eq_getElem?_getD, List.getElem?_eq_getElem hi', Option.getD_some, List.getElem_map, List.getElem_take]
      rw [u8_of (hwz _ (List.getElem_mem hi'))]
    · have hn : 0 < n := by rw [← hlen]; exact List.length_pos_iff.2 hne
      have h0 := World.block_lt_of_cell? W _ (hcell 0 (by omega))
      have e : ((⟨b, o, s⟩ : Addr).add 0).block = b := by unfold Addr.add; split <;> rfl
      rw [e] at h0
      simp [Value.ownBlock] at hg
      omega
end Go.Proofs.Ytfdjlicegfgodaa
