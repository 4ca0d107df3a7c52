/- Linking: of each name just one symbol counts, and it lies in the image: plain laws. -/
import Derived.Test.YtfdjlicegfgodaaLk16
namespace Go.Proofs.Ytfdjlicegfgodaa
open Go.RowKit
set_option linter.unusedSimpArgs false
set_option linter.unusedVariables false

theorem bad_parts {os : List Ob} {bg : List ByteArray} (h : badV os bg = 0) : packV os = 0 ∧ symsOK os bg ∧ ¬ limP os bg.length := by
  unfold badV at h
  by_cases hp : packV os = 0
  · rw [if_pos hp] at h
    by_cases hs : symsOK os bg
    · rw [dc_true hs, if_pos rfl] at h
      by_cases hl : limP os bg.length
      · rw [dc_true hl] at h; cases h
      · exact ⟨hp, hs, hl⟩
    · rw [dc_false hs] at h; cases h
  · rw [if_neg hp] at h; exact absurd h hp
theorem imgC_len (os : List Ob) (bg : List ByteArray) : (imgC os bg).length = bg.length + 1 + sumC os := by
  unfold imgC; rw [List.length_append, codeH_len, codeF_len]
theorem imgD0_len (os : List Ob) (bg : List ByteArray) : (imgD0 os bg).length = 2 + sumD os := by
  unfold imgD0; rw [List.length_append, dataF_len]; rfl
theorem imgD_len (os : List Ob) (bg : List ByteArray) : (imgD os bg).length = 2 + sumD os := by
  unfold imgD; rw [List.length_set, imgD0_len]
theorem imgD_one (os : List Ob) (bg : List ByteArray) : (imgD os bg)[1]? = some ((imgD os bg).length : Int) := by
  unfold imgD
  rw [List.getElem?_set_self (by rw [imgD0_len]; omega), List.length_set]
/-- what counts, laid open -/
theorem counted_mem {os : List Ob} {nb : Nat} {s : Sy} (h : s ∈ countedL os nb) : ∃ c, cnF s.name (occs os) = some c ∧ s = { c.sym with at_ := placeC os nb c } := by
  unfold countedL cntP at h
  obtain ⟨x, hx, hf⟩ := List.mem_filterMap.1 h
  unfold cntOf at hf
  cases hc : cnF x.s.name (occs os) with
  | none => rw [hc] at hf; cases hf
  | some c =>
    rw [hc] at hf
    simp only at hf
    split at hf
    · injection hf with hf
      have hn := (cnF_ok hc).name
      refine ⟨c, ?_, hf.symm⟩
      rw [← hf]
      show cnF c.sym.name _ = _
      rw [hn]
      exact hc
    · cases hf
theorem counted_nodup (os : List Ob) (nb : Nat) : (countedL os nb).Pairwise (fun a b => a.name ≠ b.name) := by
  unfold countedL cntP
  rw [List.pairwise_filterMap]
  refine (occ_pos_apart os).imp ?_
  intro x y hxy a ha b hb e
  unfold cntOf at ha hb
  cases hc : cnF x.s.name (occs os) with
  | none => rw [hc] at ha; cases ha
  | some c =>
    cases hd : cnF y.s.name (occs os) with
    | none => rw [hd] at hb; cases hb
    | some d =>
      rw [hc] at ha
      rw [hd] at hb
      simp only at ha hb
      split at ha
      · split at hb
        · rename_i h1 h2
          injection ha with ha
          injection hb with hb
          have n1 := (cnF_ok hc).name
          have n2 := (cnF_ok hd).name
          have e1 : c.sym.name = d.sym.name := by
            have ea : a.name = c.sym.name := by rw [← ha]
            have eb : b.name = d.sym.name := by rw [← hb]
            rw [← ea, ← eb]; exact e
          rw [← n1, e1, n2] at hc
          rw [hd] at hc
          injection hc with hc
          subst hc
          exact hxy ⟨h1.1.symm.trans h2.1, h1.2.symm.trans h2.2⟩
        · cases hb
      · cases ha
theorem counted_has {os : List Ob} {nb : Nat} {x : Occ} (hx : x ∈ occs os) : ∃ s ∈ countedL os nb, s.name = x.s.name := by
  obtain ⟨c, hc⟩ := cn_some hx
  have q := cnF_ok hc
  refine ⟨{ c.sym with at_ := placeC os nb c }, ?_, q.name⟩
  unfold countedL cntP
  refine List.mem_filterMap.2 ⟨⟨c.obj, c.pos, c.sym⟩, q.mem, ?_⟩
  unfold cntOf
  simp only [q.name, hc, and_self, if_true]
/-- how often a name stands in a list of symbols -/
noncomputable def cntN (n : ByteArray) (l : List Sy) : Nat := (l.filter (fun s => dc (s.name = n))).length
theorem cntN_nil (n : ByteArray) : cntN n [] = 0 := rfl
theorem cntN_snoc (n : ByteArray) (l : List Sy) (s : Sy) : cntN n (l ++ [s]) = cntN n l + (if dc (s.name = n) then 1 else 0) := by
  unfold cntN
  rw [List.filter_append, List.length_append]
  cases h : dc (s.name = n) <;> simp [List.filter_cons, h]
theorem cntN_one {n : ByteArray} : ∀ {l : List Sy}, l.Pairwise (fun a b => a.name ≠ b.name) → (∃ s ∈ l, s.name = n) → cntN n l = 1
  | [], _, ⟨s, hs, _⟩ => by cases hs
  | a :: r, hp, ⟨s, hs, hn⟩ => by
    obtain ⟨h1, h2⟩ := List.pairwise_cons.1 hp
    by_cases ha : a.name = n
    · have : r.filter (fun s => dc (s.name = n)) = [] := by
        rw [List.filter_eq_nil_iff]
        intro y hy hd
        by_cases hyn : y.name = n
        · exact h1 y hy (ha.trans hyn.symm)
        · rw [dc_false hyn] at hd; cases hd
      unfold cntN
      rw [List.filter_cons, dc_true ha, if_pos rfl, this]
      rfl
    · unfold cntN
      rw [List.filter_cons, dc_false ha]
      rcases List.mem_cons.1 hs with rfl | hs
      · exact absurd hn ha
      · exact cntN_one h2 ⟨s, hs, hn⟩
theorem cntN_le (n : ByteArray) (l : List Sy) : cntN n l ≤ l.length := List.length_filter_le _ _
/-- a symbol that counts lies in the image -/
theorem counted_lies {os : List Ob} {bg : List ByteArray} (hv : ∀ o ∈ os, codeV o = 0) {s : Sy} (h : s ∈ countedL os bg.length) :
    (s.kind = 1 → (bg.length : Int) < s.at_ ∧ s.at_ + s.size ≤ ((imgC os bg).length : Int)) ∧ (s.kind = 2 → 2 ≤ s.at_ ∧ s.at_ + s.size ≤ ((imgD os bg).length : Int)) ∧ 0 ≤ s.size ∧ 0 ≤ s.at_ := by
  obtain ⟨c, hc, hs⟩ := counted_mem h
  obtain ⟨u, hu, h1, h2, h3⟩ := cn_at_all hc
  have hcv := hv u (List.mem_of_getElem? hu)
  have hl := sym_lies hcv h2
  rw [h3] at hl
  have sc := sumC_le hu
  have sd := sumD_le hu
  have ek : s.kind = c.sym.kind := by rw [hs]
  have ez : s.size = c.sym.size := by rw [hs]
  have ea : s.at_ = placeC os bg.length c := by rw [hs]
  rw [ek, ez, ea, imgC_len, imgD_len]
  unfold placeC
  unfold LiesP at hl
  rcases hl with ⟨k1, k2, k3, k4, k5, k6, k7⟩ | ⟨k1, k2, k3, k4, k5⟩
  · rw [if_pos k1]
    refine ⟨fun _ => by omega, fun e => by omega, k3, by omega⟩
  · rw [if_neg (by omega)]
    refine ⟨fun e => by omega, fun _ => by omega, k4, by omega⟩
/-- a symbol's cells in a row of symbols -/
theorem flat_six : ∀ (l : List Sy) (j f : Nat) (hj : j < l.length), f < 6 → (l.flatMap syCs)[j * 6 + f]? = (syCs l[j])[f]?
  | [], j, f, hj, _ => by simp at hj
  | s :: r, 0, f, hj, hf => by
    rw [List.flatMap_cons, List.getElem?_append_left (by simp [syCs]; omega)]
    simp
  | s :: r, j + 1, f, hj, hf => by
    rw [List.flatMap_cons, List.getElem?_append_right (by simp [syCs]; omega)]
    have e : (j + 1) * 6 + f - (syCs s).length = j * 6 + f := by simp [syCs]; omega
    rw [e]
    exact flat_six r j f (by simpa using hj) hf
theorem row_sy {w : World} {base : Nat} {l : List Sy} {g n c : Nat} (h : w.ownsRow base 44 6 (.slice (some ⟨g, 0, none⟩) n c) n (l.flatMap syCs)) (hn : n = l.length) {j : Nat} (hj : j < l.length) :
    w.cell? ⟨g, j * 6, none⟩ = some (.string l[j].name) ∧ w.cell? ⟨g, j * 6 + 1, none⟩ = some (.int .i64 l[j].kind) ∧ w.cell? ⟨g, j * 6 + 2, none⟩ = some (.bool l[j].weak) ∧ w.cell? ⟨g, j * 6 + 3, none⟩ = some (.int .i64 l[j].at_) ∧ w.cell? ⟨g, j * 6 + 4, none⟩ = some (.int .i64 l[j].size) ∧ w.cell? ⟨g, j * 6 + 5, none⟩ = some (.int .i64 l[j].frame) := by
  have hh : ∀ f, f < 6 → w.cell? ⟨g, j * 6 + f, none⟩ = (syCs l[j])[f]? := fun f hf => by
    rw [h.cellAt (j * 6 + f) (by rw [hn]; omega), flat_six l j f hj hf]
  exact ⟨hh 0 (by omega), hh 1 (by omega), hh 2 (by omega), hh 3 (by omega), hh 4 (by omega), hh 5 (by omega)⟩
end Go.Proofs.Ytfdjlicegfgodaa
