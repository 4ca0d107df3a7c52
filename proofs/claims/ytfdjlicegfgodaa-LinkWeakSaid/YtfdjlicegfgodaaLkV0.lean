/- LinkWeak: the plain law: weak symbols behind change nothing but the lengths. -/
import Derived.Test.YtfdjlicegfgodaaLkH
namespace Go.Proofs.Ytfdjlicegfgodaa
open Go.RowKit
set_option linter.unusedSimpArgs false
set_option linter.unusedVariables false

def weakN : ByteArray := ⟨#[35, 119, 101, 97, 107]⟩
def weakOf (s : Sy) : Sy := { s with weak := true, at_ := 0, size := 1 }
def weakOb (L : List Sy) : Ob := ⟨weakN, 0, [], L.map weakOf, [], [0], [0]⟩
theorem fromS_mem {i : Nat} {x : Occ} : ∀ {l : List Sy} {k : Nat}, x ∈ fromS i k l → x.i = i ∧ x.s ∈ l
  | [], _, h => by simp [fromS] at h
  | s :: r, k, h => by
    rcases List.mem_cons.1 h with rfl | h
    · exact ⟨rfl, by simp⟩
    · obtain ⟨h1, h2⟩ := fromS_mem h
      exact ⟨h1, List.mem_cons_of_mem _ h2⟩
theorem cnF_more {l : List Occ} : ∀ (ws : List Occ), (∀ x ∈ ws, x.s.weak = true ∧ ∃ c, cnF x.s.name l = some c) → ∀ n, cnF n (l ++ ws) = cnF n l := by
  intro ws
  induction ws using rev_ind with
  | h0 => intro _ n; rw [List.append_nil]
  | h1 r x ih =>
    intro h n
    have ih' := ih (fun y hy => h y (by simp [hy]))
    obtain ⟨hw, c, hc⟩ := h x (by simp)
    rw [← List.append_assoc, cnF_snoc, ih']
    by_cases e : x.s.name = n
    · rw [← e, hc, stepC_old rfl, hw]
      simp
    · exact stepC_other e _
section
variable {os : List Ob} {bg : List ByteArray} {nb : Nat}
theorem weak_occs (o : Ob) : occs (os ++ [o]) = occs os ++ fromS os.length 0 o.syms := by
  unfold occs
  rw [fromO_append]
  simp [fromO]
theorem weak_new {x : Occ} (h : x ∈ fromS os.length 0 (weakOb (countedL os nb)).syms) : x.i = os.length ∧ x.s.weak = true ∧ ∃ c, cnF x.s.name (occs os) = some c := by
  obtain ⟨h1, h2⟩ := fromS_mem h
  obtain ⟨s, hs, e⟩ := List.mem_map.1 h2
  obtain ⟨c, hc, _⟩ := counted_mem hs
  exact ⟨h1, by rw [← e]; rfl, c, by rw [← e]; exact hc⟩
theorem weak_cnF (n : ByteArray) : cnF n (occs (os ++ [weakOb (countedL os nb)])) = cnF n (occs os) := by
  rw [weak_occs]
  exact cnF_more _ (fun x hx => (weak_new hx).2) n
theorem weak_placeC {n : ByteArray} {c : Cn} (h : cnF n (occs os) = some c) (o : Ob) (m : Nat) : placeC (os ++ [o]) m c = placeC os m c := by
  obtain ⟨_, _, hlt, _⟩ := cn_at_all h
  unfold placeC
  rw [List.take_append_of_le_length (Nat.le_of_lt hlt)]
theorem weak_placeN (m : Nat) (s : ByteArray) : placeN (os ++ [weakOb (countedL os nb)]) m s = placeN os m s := by
  unfold placeN
  rw [weak_cnF]
  cases hc : cnF s (occs os) with
  | none => rfl
  | some c => exact weak_placeC hc _ m
theorem weak_counted : countedL (os ++ [weakOb (countedL os nb)]) nb = countedL os nb := by
  have h1 : ∀ x, cntOf (os ++ [weakOb (countedL os nb)]) nb x = cntOf os nb x := by
    intro x
    unfold cntOf
    rw [weak_cnF]
    cases hc : cnF x.s.name (occs os) with
    | none => rfl
    | some c => simp only [weak_placeC hc]
  have h2 : ∀ l, cntP (os ++ [weakOb (countedL os nb)]) nb l = cntP os nb l := by
    intro l
    unfold cntP
    exact congrArg (fun f => l.filterMap f) (funext h1)
  have h3 : ∀ l, (∀ x ∈ l, x ∈ fromS os.length 0 (weakOb (countedL os nb)).syms) → cntP os nb l = [] := by
    intro l hl
    unfold cntP
    rw [List.filterMap_eq_nil_iff]
    intro x hx
    obtain ⟨e1, _, c, hc⟩ := weak_new (hl x hx)
    obtain ⟨_, _, hlt, _⟩ := cn_at_all hc
    unfold cntOf
    rw [hc]
    simp only
    rw [if_neg (by omega)]
  show cntP _ nb (occs _) = _
  rw [h2, weak_occs]
  have e : ∀ a b, cntP os nb (a ++ b) = cntP os nb a ++ cntP os nb b := fun a b => by unfold cntP; rw [List.filterMap_append]
  rw [e, h3 _ (fun _ x => x), List.append_nil]
  rfl
theorem weak_fixC (m : Nat) (code : List Int) (rs : List Re) : fixC (os ++ [weakOb (countedL os nb)]) m code rs = fixC os m code rs := by
  unfold fixC
  have : fixC1 (os ++ [weakOb (countedL os nb)]) m code = fixC1 os m code := by
    funext l r
    unfold fixC1
    rw [weak_placeN]
  rw [this]
theorem weak_fixD (m : Nat) (code : List Int) (rs : List Re) : fixD (os ++ [weakOb (countedL os nb)]) m code rs = fixD os m code rs := by
  unfold fixD
  have : fixD1 (os ++ [weakOb (countedL os nb)]) m = fixD1 os m := by
    funext l r
    unfold fixD1
    rw [weak_placeN]
  rw [this]
theorem weak_imgC : imgC (os ++ [weakOb (countedL os nb)]) bg = imgC os bg ++ [0] := by
  unfold imgC codeH codeF
  rw [List.flatMap_append]
  simp only [weak_placeN, weak_fixC, List.flatMap_cons, List.flatMap_nil, List.append_nil, List.append_assoc]
  rfl
theorem weak_imgD0 : imgD0 (os ++ [weakOb (countedL os nb)]) bg = imgD0 os bg ++ [0] := by
  unfold imgD0 dataF
  rw [List.flatMap_append]
  simp only [weak_fixD, List.flatMap_cons, List.flatMap_nil, List.append_nil, List.append_assoc]
  rfl
theorem weak_imgD : imgD (os ++ [weakOb (countedL os nb)]) bg = (imgD os bg).set 1 ((imgD os bg).length + 1 : Int) ++ [0] := by
  have h := imgD0_len os bg
  unfold imgD
  rw [weak_imgD0, List.set_append_left _ _ (by omega), List.set_set]
  simp
theorem imgD_back : ((imgD os bg).set 1 ((imgD os bg).length + 1 : Int)).set 1 ((imgD os bg).length : Int) = imgD os bg := by
  rw [List.set_set]
  unfold imgD
  rw [List.set_set, List.length_set]
theorem weak_bad (hb : badV os bg = 0) (hn : weakN ∉ pkgs os) (hv : codeV (weakOb (countedL os nb)) = 0) (h1 : (imgC os bg).length ≤ 60000) (h2 : (imgD os bg).length ≤ 16000) : badV (os ++ [weakOb (countedL os nb)]) bg = 0 := by
  obtain ⟨hpk, hso, hlm⟩ := bad_parts hb
  have hvo := packV_zero hpk
  have hnd : (pkgs os).Nodup := by
    by_cases hn : (pkgs os).Nodup
    · exact hn
    · rw [pack7 hvo hn] at hpk; cases hpk
  have hi0 : impV os = 0 := by rw [← packI hvo hnd]; exact hpk
  have hmiss : ¬ missP os (allI os) := by
    rintro ⟨m, h1, h2⟩
    rw [impV6 h1 h2] at hi0; cases hi0
  have hmis : ¬ misP os (allI os) := by
    rintro ⟨m, h1, h2⟩
    rw [impV10 hmiss h1 h2] at hi0; cases hi0
  have hi : allI (os ++ [weakOb (countedL os nb)]) = allI os := by
    unfold allI
    rw [List.flatMap_append]
    simp [weakOb]
  have hH : ∀ m ∈ allI os, hashF (os ++ [weakOb (countedL os nb)]) m.name = hashF os m.name := by
    intro m hm
    rw [hashF_snoc]
    refine upd_other _ _ (fun e => ?_)
    refine hmiss ⟨m, hm, hashF_none.2 ?_⟩
    rw [e]; exact hn
  have hp : pkgs (os ++ [weakOb (countedL os nb)]) = pkgs os ++ [weakN] := by unfold pkgs; rw [List.map_append]; rfl
  have hnd' : (pkgs (os ++ [weakOb (countedL os nb)])).Nodup := by
    rw [hp, List.nodup_append]
    refine ⟨hnd, by simp, fun a ha b hb => ?_⟩
    simp at hb
    subst hb
    intro e
    subst e
    exact hn ha
  have hv' : ∀ o ∈ os ++ [weakOb (countedL os nb)], codeV o = 0 := by
    intro o ho
    rcases List.mem_append.1 ho with ho | ho
    · exact hvo o ho
    · simp at ho
      rw [ho]; exact hv
  have hr : (os ++ [weakOb (countedL os nb)]).flatMap Ob.relocs = os.flatMap Ob.relocs := by
    rw [List.flatMap_append]
    simp [weakOb]
  refine bad0 ?_ ?_ ?_
  · rw [packI hv' hnd']
    refine impV0 ?_ ?_
    · rw [hi]
      rintro ⟨m, h1, h2⟩
      rw [hH m h1] at h2
      exact hmiss ⟨m, h1, h2⟩
    · rw [hi]
      rintro ⟨m, h1, h2⟩
      rw [hH m h1] at h2
      exact hmis ⟨m, h1, h2⟩
  · unfold symsOK at hso ⊢
    rw [hr]
    simp only [weak_cnF]
    exact hso
  · rw [imgC_len] at h1
    rw [imgD_len] at h2
    have e1 : sumC (os ++ [weakOb (countedL os nb)]) = sumC os + 1 := by unfold sumC; rw [List.map_append, List.sum_append]; rfl
    have e2 : sumD (os ++ [weakOb (countedL os nb)]) = sumD os + 1 := by unfold sumD; rw [List.map_append, List.sum_append]; rfl
    unfold limP at hlm ⊢
    rw [e1, e2]
    omega
end
end Go.Proofs.Ytfdjlicegfgodaa
