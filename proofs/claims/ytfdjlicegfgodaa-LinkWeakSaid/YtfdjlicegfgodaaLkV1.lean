/- LinkWeak: what the walk needs: words of 64 bits, rows of symbols. -/
import Derived.Test.YtfdjlicegfgodaaLkV0
namespace Go.Proofs.Ytfdjlicegfgodaa
open Go.RowKit
set_option linter.unusedSimpArgs false
set_option linter.unusedVariables false

theorem i64_0 : I64 0 := ⟨by decide, by decide⟩
theorem i64_1 : I64 1 := ⟨by decide, by decide⟩
theorem encV_i64 (op a b c n : Int) : I64 (encV op a b c n) := by
  unfold encV
  split
  · rename_i h
    unfold okIns isOp regB at h
    simp only [Bool.and_eq_true, decide_eq_true_eq] at h
    obtain ⟨h1, h2, h3, h4, _⟩ := h
    unfold encIns I64
    omega
  · exact ⟨by decide, by decide⟩
theorem mem_set_i64 {l : List Int} (h : ∀ v ∈ l, I64 v) {i : Nat} {a : Int} (ha : I64 a) : ∀ v ∈ l.set i a, I64 v := by
  intro v hv
  rcases List.mem_or_eq_of_mem_set hv with h1 | h1
  · exact h v h1
  · rw [h1]; exact ha
theorem SlB.every {α : Type} {B : Nat} {W : World} {n : Nat} {E : α → List Value → Prop} {l : List α} {v : Value} (h : SlB B W n E l v) : ∀ x ∈ l, ∃ cs, E x cs := by
  obtain ⟨x, c, rfl, hl, he⟩ := h
  intro y hy
  obtain ⟨i, hi, rfl⟩ := List.getElem_of_mem hy
  obtain ⟨b, o, _, _, hx⟩ := he (ne_nil_of_lt hi)
  obtain ⟨cs, _, _, h3⟩ := hx i hi
  exact ⟨cs, h3⟩
/-- what memory holds of objects -/
def ObOk (o : Ob) : Prop := (∀ v ∈ o.code, I64 v) ∧ (∀ v ∈ o.data, I64 v) ∧ (∀ s ∈ o.syms, SyAt s (syCs s))
theorem ObAt.ok {B : Nat} {W : World} {o : Ob} {cs : List Value} (h : ObAt B W o cs) : ObOk o := by
  obtain ⟨vi, vs, vr, vc, vd, rfl, _, _, h1, h2, h3, h4, h5⟩ := h
  refine ⟨fun v hv => ?_, fun v hv => ?_, fun s hs => ?_⟩
  · obtain ⟨cs, _, h⟩ := h4.every v hv
    exact h
  · obtain ⟨cs, _, h⟩ := h5.every v hv
    exact h
  · obtain ⟨cs, h, hr⟩ := h2.every s hs
    exact ⟨rfl, hr⟩
theorem obs_ok {B : Nat} {W : World} {os : List Ob} {v : Value} (h : SlB B W 7 (ObAt B W) os v) : ∀ o ∈ os, ObOk o := fun o ho => by
  obtain ⟨cs, hc⟩ := h.every o ho
  exact hc.ok
section
variable {os : List Ob} {bg : List ByteArray} {nb : Nat}
theorem fixC_i64 {m : Nat} {code : List Int} (h : ∀ v ∈ code, I64 v) (rs : List Re) : ∀ v ∈ fixC os m code rs, I64 v := by
  induction rs using rev_ind with
  | h0 => exact h
  | h1 l x ih =>
    rw [fixC_snoc]
    unfold fixC1
    split
    · exact ih
    · exact mem_set_i64 ih (encV_i64 _ _ _ _ _)
theorem imgC_i64 (ho : ∀ o ∈ os, ObOk o) : ∀ v ∈ imgC os bg, I64 v := by
  intro v hv
  unfold imgC codeH codeF at hv
  rcases List.mem_append.1 hv with hv | hv
  · rcases List.mem_append.1 hv with hv | hv
    · obtain ⟨b, _, rfl⟩ := List.mem_map.1 hv
      exact encV_i64 _ _ _ _ _
    · simp only [List.mem_cons, List.not_mem_nil, or_false] at hv
      rw [hv]; exact encV_i64 _ _ _ _ _
  · obtain ⟨o, ho2, hv⟩ := List.mem_flatMap.1 hv
    exact fixC_i64 (ho o ho2).1 _ v hv
theorem placeC_rg (hv : ∀ o ∈ os, codeV o = 0) (hl : ¬ limP os nb) {n : ByteArray} {c : Cn} (hc : cnF n (occs os) = some c) : 0 ≤ placeC os nb c ∧ placeC os nb c ≤ 1000000 := by
  obtain ⟨u, hu, h1, h2, h3⟩ := cn_at_all hc
  have hcv := hv u (List.mem_of_getElem? hu)
  have hl2 := sym_lies hcv h2
  rw [h3] at hl2
  have sc := sumC_le hu
  have sd := sumD_le hu
  have hlen := codeV_len hcv
  unfold limP at hl
  unfold placeC
  unfold LiesP at hl2
  rcases hl2 with ⟨k1, k2, k3, k4, k5, k6, k7⟩ | ⟨k1, k2, k3, k4, k5⟩
  · rw [if_pos k1]; omega
  · rw [if_neg (by omega)]; omega
theorem placeN_i64 (hv : ∀ o ∈ os, codeV o = 0) (hl : ¬ limP os nb) (s : ByteArray) : I64 (placeN os nb s) := by
  unfold placeN
  cases hc : cnF s (occs os) with
  | none => exact i64_0
  | some c =>
    have := placeC_rg hv hl hc
    unfold I64
    show _ ≤ placeC os nb c ∧ placeC os nb c ≤ _
    omega
theorem fixD_i64 (hv : ∀ o ∈ os, codeV o = 0) (hl : ¬ limP os nb) {code : List Int} (h : ∀ v ∈ code, I64 v) (rs : List Re) : ∀ v ∈ fixD os nb code rs, I64 v := by
  induction rs using rev_ind with
  | h0 => exact h
  | h1 l x ih =>
    rw [fixD_snoc]
    unfold fixD1
    split
    · exact mem_set_i64 ih (placeN_i64 hv hl _)
    · exact ih
theorem imgD_i64 (hv : ∀ o ∈ os, codeV o = 0) (hl : ¬ limP os bg.length) (ho : ∀ o ∈ os, ObOk o) : ∀ v ∈ imgD os bg, I64 v := by
  unfold imgD
  refine mem_set_i64 ?_ ?_
  · intro v hv2
    unfold imgD0 dataF at hv2
    rcases List.mem_append.1 hv2 with hv2 | hv2
    · simp only [List.mem_cons, List.not_mem_nil, or_false] at hv2
      rcases hv2 with rfl | rfl <;> exact ⟨by decide, by decide⟩
    · obtain ⟨o, ho2, hv2⟩ := List.mem_flatMap.1 hv2
      exact fixD_i64 hv hl (ho o ho2).2.1 _ v hv2
  · rw [imgD0_len]
    unfold limP at hl
    unfold I64
    omega
theorem counted_at (hv : ∀ o ∈ os, codeV o = 0) (hl : ¬ limP os nb) (ho : ∀ o ∈ os, ObOk o) {s : Sy} (h : s ∈ countedL os nb) : SyAt s (syCs s) ∧ SyAt (weakOf s) (syCs (weakOf s)) := by
  obtain ⟨c, hc, hs⟩ := counted_mem h
  obtain ⟨u, hu, h1, h2, h3⟩ := cn_at_all hc
  have hp := placeC_rg hv hl hc
  obtain ⟨_, a1, a2, a3, a4, a5⟩ := (ho u (List.mem_of_getElem? hu)).2.2 c.sym (by rw [← h3]; exact List.getElem_mem h2)
  rw [hs]
  refine ⟨⟨rfl, a1, a2, ?_, a4, a5⟩, ⟨rfl, a1, a2, i64_0, i64_1, a5⟩⟩
  unfold I64
  show _ ≤ placeC os nb c ∧ placeC os nb c ≤ _
  omega
end
theorem own_SlB6 {w : World} {base : Nat} {L : List Sy} {x : Option Addr} {n c : Nat} (h : w.ownsRow base 44 6 (.slice x n c) n (L.flatMap syCs)) (hi : ∀ s ∈ L, SyAt s (syCs s)) (hn : n = L.length) (hl : n ≤ 140737488355328) : SlB w.heap.size w 6 SyAt L (.slice x n c) := by
  subst hn
  refine ⟨x, c, rfl, hl, fun hne => ?_⟩
  obtain ⟨g, rfl⟩ := own_some h (by cases L with | nil => exact absurd rfl hne | cons a r => simp)
  refine ⟨g, 0, rfl, (h.lt g rfl).2, fun i hi2 => ⟨syCs L[i], rfl, fun j hj => ?_, hi _ (List.getElem_mem hi2)⟩⟩
  have hj6 : j < 6 := hj
  rw [Nat.zero_add]
  show w.cell? ⟨g, i * 6 + j, none⟩ = _
  rw [h.cellAt _ (by omega), flat_six _ _ _ hi2 hj6]
theorem SlB.takeN {α : Type} {B : Nat} {W : World} {m : Nat} {E : α → List Value → Prop} {l : List α} {x : Option Addr} {n c c' k : Nat} (h : SlB B W m E l (.slice x n c)) (hk : k ≤ l.length) : SlB B W m E (l.take k) (.slice x k c') := by
  obtain ⟨x', cc, hv, hl, he⟩ := h
  injection hv with h1 h2 h3
  subst h1
  have hkl : (l.take k).length = k := by rw [List.length_take]; omega
  refine ⟨x, c', by rw [hkl], by rw [hkl]; omega, fun hne => ?_⟩
  have hne2 : l ≠ [] := by
    intro e
    rw [e] at hne
    simp at hne
  obtain ⟨b, o, hx, hb, hc⟩ := he hne2
  refine ⟨b, o, hx, hb, fun i hi => ?_⟩
  rw [hkl] at hi
  obtain ⟨cs, h1, h2, h3⟩ := hc i (by omega)
  exact ⟨cs, h1, h2, by rw [List.getElem_take]; exact h3⟩
theorem weakN_fits : Fits weakN := by unfold Fits weakN; decide
/-- the weak object in memory -/
theorem weak_at {B : Nat} {W : World} {L : List Sy} {vs vc vd : Value} (hs : SlB B W 6 SyAt (L.map weakOf) vs) (hc : SlB B W 1 WdAt [0] vc) (hd : SlB B W 1 WdAt [0] vd) : ObAt B W (weakOb L) [.string weakN, .int .i64 0, .slice none 0 0, vs, .slice none 0 0, vc, vd] :=
  ⟨_, _, _, _, _, rfl, weakN_fits, i64_0, SlB.nil _ _ _ _, hs, SlB.nil _ _ _ _, hc, hd⟩
/-- a row of objects, as it lies behind an append -/
theorem rows_all {B : Nat} {W w6 : World} {base g n c : Nat} {os : List Ob} {o : Ob} {news cs' : List Value} (hr : RowOb B W os os.length news) (hn : n = os.length) (hw : In B W w6) (hnl : news.length = n * 7)
    (ho : w6.ownsRow base 27 7 (.slice (some ⟨g, 0, none⟩) (n + 1) c) (n + 1) (news ++ cs')) (hu : ObAt w6.heap.size w6 o cs') (hl : n + 1 ≤ 140737488355328) :
    SlB w6.heap.size w6 7 (ObAt w6.heap.size w6) (os ++ [o]) (.slice (some ⟨g, 0, none⟩) (n + 1) c) := by
  subst hn
  refine ⟨_, c, by rw [List.length_append]; rfl, by rw [List.length_append]; exact hl, fun _ => ⟨g, 0, rfl, (ho.lt g rfl).2, fun i hi => ?_⟩⟩
  rw [List.length_append] at hi
  simp only [List.length_cons, List.length_nil] at hi
  by_cases hik : i < os.length
  · obtain ⟨cs, d1, d2⟩ := hr i hik hik
    refine ⟨cs, d1.len, fun j hj => ?_, ?_⟩
    · rw [d1.len] at hj
      rw [Nat.zero_add]
      show w6.cell? ⟨g, i * 7 + j, none⟩ = cs[j]?
      rw [ho.cellAt _ (by omega), List.getElem?_append_left (by omega), d2 j hj]
    · rw [List.getElem_append_left hik]
      exact d1.up hw
  · have e : i = os.length := by omega
    subst e
    refine ⟨cs', hu.len, fun j hj => ?_, ?_⟩
    · rw [hu.len] at hj
      rw [Nat.zero_add]
      show w6.cell? ⟨g, os.length * 7 + j, none⟩ = cs'[j]?
      rw [ho.cellAt _ (by omega), List.getElem?_append_right (by omega), hnl, Nat.add_sub_cancel_left]
    · rw [List.getElem_append_right (Nat.le_refl _)]
      simp only [Nat.sub_self, List.getElem_cons_zero]
      exact hu
end Go.Proofs.Ytfdjlicegfgodaa
