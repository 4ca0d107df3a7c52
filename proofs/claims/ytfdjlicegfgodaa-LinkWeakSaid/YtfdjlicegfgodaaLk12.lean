/- Linking: the image as plain words; append of words. -/
import Derived.Test.YtfdjlicegfgodaaLk11
namespace Go.Proofs.Ytfdjlicegfgodaa
open Go.RowKit
set_option linter.unusedSimpArgs false
set_option linter.unusedVariables false

def opN (c : Option Cn) (f : Cn → Int) : Int := match c with | some c => f c | none => 0
noncomputable def placeN (os : List Ob) (nb : Nat) (s : ByteArray) : Int := opN (cnF s (occs os)) (placeC os nb)
theorem placeN_some {os : List Ob} {nb : Nat} {s : ByteArray} {c : Cn} (h : cnF s (occs os) = some c) : placeN os nb s = placeC os nb c := by unfold placeN; rw [h]; rfl
def fixW (v n : Int) : Int := encV (opW v) (aW v) (bW v) (cW v) n
noncomputable def fixC1 (os : List Ob) (nb : Nat) (code : List Int) (l : List Int) (r : Re) : List Int := if r.data = true then l else l.set r.at_.toNat (fixW (code.getD r.at_.toNat 0) (placeN os nb r.name))
noncomputable def fixD1 (os : List Ob) (nb : Nat) (l : List Int) (r : Re) : List Int := if r.data = true then l.set r.at_.toNat (placeN os nb r.name) else l
noncomputable def fixC (os : List Ob) (nb : Nat) (code : List Int) (rs : List Re) : List Int := rs.foldl (fixC1 os nb code) code
noncomputable def fixD (os : List Ob) (nb : Nat) (data : List Int) (rs : List Re) : List Int := rs.foldl (fixD1 os nb) data
theorem fixC_nil (os : List Ob) (nb : Nat) (code : List Int) : fixC os nb code [] = code := rfl
theorem fixD_nil (os : List Ob) (nb : Nat) (data : List Int) : fixD os nb data [] = data := rfl
theorem fixC_snoc (os : List Ob) (nb : Nat) (code : List Int) (rs : List Re) (r : Re) : fixC os nb code (rs ++ [r]) = fixC1 os nb code (fixC os nb code rs) r := by simp [fixC]
theorem fixD_snoc (os : List Ob) (nb : Nat) (data : List Int) (rs : List Re) (r : Re) : fixD os nb data (rs ++ [r]) = fixD1 os nb (fixD os nb data rs) r := by simp [fixD]
theorem fixC_len (os : List Ob) (nb : Nat) (code : List Int) (rs : List Re) : (fixC os nb code rs).length = code.length := by
  induction rs using rev_ind with
  | h0 => rfl
  | h1 l x ih => rw [fixC_snoc]; unfold fixC1; split <;> simp [ih]
theorem fixD_len (os : List Ob) (nb : Nat) (data : List Int) (rs : List Re) : (fixD os nb data rs).length = data.length := by
  induction rs using rev_ind with
  | h0 => rfl
  | h1 l x ih => rw [fixD_snoc]; unfold fixD1; split <;> simp [ih]
noncomputable def codeH (os : List Ob) (nb : Nat) (bg : List ByteArray) : List Int := bg.map (fun b => encV 10 0 0 0 (placeN os nb b)) ++ [encV 0 0 0 0 0]
noncomputable def codeF (os : List Ob) (nb : Nat) (l : List Ob) : List Int := l.flatMap (fun o => fixC os nb o.code o.relocs)
noncomputable def dataF (os : List Ob) (nb : Nat) (l : List Ob) : List Int := l.flatMap (fun o => fixD os nb o.data o.relocs)
noncomputable def imgC (os : List Ob) (bg : List ByteArray) : List Int := codeH os bg.length bg ++ codeF os bg.length os
noncomputable def imgD0 (os : List Ob) (bg : List ByteArray) : List Int := [0, 0] ++ dataF os bg.length os
noncomputable def imgD (os : List Ob) (bg : List ByteArray) : List Int := (imgD0 os bg).set 1 ((imgD0 os bg).length : Int)
theorem codeH_len (os : List Ob) (nb : Nat) (bg : List ByteArray) : (codeH os nb bg).length = bg.length + 1 := by simp [codeH]
theorem codeF_len (os : List Ob) (nb : Nat) : ∀ (l : List Ob), (codeF os nb l).length = sumC l
  | [] => rfl
  | o :: r => by
    unfold codeF sumC
    rw [List.flatMap_cons, List.length_append, fixC_len, List.map_cons, List.sum_cons]
    have := codeF_len os nb r
    unfold codeF sumC at this
    rw [this]
theorem dataF_len (os : List Ob) (nb : Nat) : ∀ (l : List Ob), (dataF os nb l).length = sumD l
  | [] => rfl
  | o :: r => by
    unfold dataF sumD
    rw [List.flatMap_cons, List.length_append, fixD_len, List.map_cons, List.sum_cons]
    have := dataF_len os nb r
    unfold dataF sumD at this
    rw [this]
theorem codeF_snoc {os : List Ob} {nb i : Nat} {u : Ob} (hu : os[i]? = some u) : codeF os nb (os.take (i + 1)) = codeF os nb (os.take i) ++ fixC os nb u.code u.relocs := by
  obtain ⟨hi, rfl⟩ := List.getElem?_eq_some_iff.1 hu
  unfold codeF
  rw [List.take_succ_eq_append_getElem hi, List.flatMap_append]
  simp only [List.flatMap_cons, List.flatMap_nil, List.append_nil]
theorem dataF_snoc {os : List Ob} {nb i : Nat} {u : Ob} (hu : os[i]? = some u) : dataF os nb (os.take (i + 1)) = dataF os nb (os.take i) ++ fixD os nb u.data u.relocs := by
  obtain ⟨hi, rfl⟩ := List.getElem?_eq_some_iff.1 hu
  unfold dataF
  rw [List.take_succ_eq_append_getElem hi, List.flatMap_append]
  simp only [List.flatMap_cons, List.flatMap_nil, List.append_nil]
theorem set_app {l m : List Int} {n j : Nat} (hn : n = l.length) (v : Int) : (l ++ m).set (n + j) v = l ++ m.set j v := by
  subst hn
  rw [List.set_append_right _ _ (by omega)]
  congr 2
  omega
/-- a reloc of an object that is right -/
theorem rel_ok {u : Ob} (h : codeV u = 0) {r : Re} (hr : r ∈ u.relocs) : ∃ j : Nat, r.at_ = (j : Int) ∧ (r.data = true → j < u.data.length) ∧ (r.data = false → ∃ (h : j < u.code.length), okW u.code[j] = true) := by
  unfold codeV at h
  split at h
  · cases h
  split at h
  · rename_i hv
    unfold validB at hv
    simp only [Bool.and_eq_true] at hv
    have h1 := hv.2.2.2
    unfold relsB okPre at h1
    rw [Bool.and_eq_true] at h1
    have h2 := List.all_eq_true.1 h1.1 r hr
    rw [Bool.and_eq_true] at h2
    have h3 := h2.2
    unfold mendsB wordAt at h3
    by_cases h0 : 0 ≤ r.at_
    · obtain ⟨j, hj⟩ := Int.eq_ofNat_of_zero_le h0
      refine ⟨j, hj, fun hd => ?_, fun hd => ?_⟩
      · rw [if_pos hd, if_pos h0, hj] at h3
        have h4 := of_decide_eq_true h3
        simp only [Int.toNat_natCast] at h4
        exact (List.getElem?_eq_some_iff.1 h4).1
      · rw [hd] at h3
        simp only [Bool.false_eq_true, if_false] at h3
        rw [if_pos h0, hj] at h3
        simp only [Int.toNat_natCast] at h3
        by_cases hl : j < u.code.length
        · rw [List.getElem?_eq_getElem hl] at h3
          simp only [Option.map_some, Option.getD_some] at h3
          unfold fixB at h3
          rw [Bool.and_eq_true] at h3
          exact ⟨hl, h3.1⟩
        · rw [List.getElem?_eq_none (by omega)] at h3
          cases h3
    · rw [if_neg h0, if_neg h0] at h3
      split at h3
      · cases of_decide_eq_true h3
      · cases h3
  · cases h
theorem app_none64 (w : World) {gd n c cc : Nat} (hn : n ≤ c) : (Builtin.append_ #[25, 25] 25 #[.slice (some ⟨gd, 0, none⟩) n c, .slice none 0 cc]).run Try.prog w = .ok (.slice (some ⟨gd, 0, none⟩) n c) w := by
  obtain ⟨i0, hi0, hz0, hz1, hz2⟩ := info_parts i64info
  simp [Builtin.append_, run_underlying Try.underlying25, sizeOf, typeInfo, hi0, hz1, Builtin.lenOf, Builtin.firstCells, loadCells, loadCellsFrom, storeCells, hn]
/-- append of words that came in -/
theorem wpList_app64 (w : World) {ops : Array Oper} {rest : List Oper} {o : Oper} {a : Act} {Q : Exit → Act → World → Prop} (hgd : o.guard = none) (s x : Operand)
    (ho : o.op = .call { callee := .builtin .append, args := #[s, x], argTypes := #[25, 25] }) (hty : o.type = 25)
    (base g n c : Nat) (xs : List Value) (hs : a.eval s = .slice (some ⟨g, 0, none⟩) n c) (hown : w.ownsRow base 2 1 (.slice (some ⟨g, 0, none⟩) n c) n xs)
    (xo : Option Addr) (m k : Nat) (news : List Int) (hx : a.eval x = .slice xo m k) (hl : news.length = m)
    (hsrc : news ≠ [] → ∃ b o, xo = some ⟨b, o, none⟩ ∧ ∀ j (hj : j < news.length), w.cell? ⟨b, o + j, none⟩ = some (.int .i64 news[j]))
    (h63 : n + m ≤ maxLen) (hbytes : (n + m) * 8 ≤ 140737488355328) (hbase : base ≤ w.heap.size)
    (h : ∀ x' c' w', w'.ownsRow base 2 1 (.slice x' (n + m) c') (n + m) (xs ++ wdV news) → w.grownBy w' (some g) → ((Value.slice x' (n + m) c').ownBlock = some g ∨ (Value.slice x' (n + m) c').ownBlock = some w.heap.size) → wpList Try.prog ops Q rest (a.put o.dst (.slice x' (n + m) c')) w') : wpList Try.prog ops Q (o :: rest) a w := by
  cases xo with
  | none =>
    have hm0 : news = [] := by
      by_cases e : news = []
      · exact e
      · obtain ⟨_, _, e2, _⟩ := hsrc e
        cases e2
    subst hm0
    obtain rfl : m = 0 := hl.symm
    have hnc : n ≤ c := by
      rcases hown.2 with ⟨h1, _⟩ | ⟨g', cap, cur, h1, _, _, h2, _⟩
      · cases h1
      · injection h1 with h3 h4 h5; omega
    refine wpList_plain hgd fun K hK => ?_
    have hr := app_none64 w (gd := g) (cc := k) hnc
    unfold Oper.wp execOp
    simp only [ho, hty, resolve, invoke, builtin, Sem.run_bind, Sem.run_pure, Result.andThen_ok, List.map_toArray, List.map_cons, List.map_nil, hs, hx, hr]
    exact hK _ _ (h _ _ w (by simpa [wdV] using hown) ⟨rfl, rfl, rfl, Nat.le_refl _, fun _ _ _ => rfl⟩ (.inl rfl))
  | some ad =>
    obtain ⟨i0, hi, hz0, hz1, hz2⟩ := info_parts i64info
    refine wpList_app w hgd s x 25 ho base 2 i0 (.int .i64 0) 1 8 Try.underlying25 hi hz0 hz1 hz2 rfl (by decide) _ n xs hs hown ad m k (wdV news) hx (by unfold wdV; rw [List.length_map, hl]; omega) ?_ (wdV_one news) h63 hbytes hbase h
    intro j u hu
    unfold wdV at hu
    rw [List.getElem?_map] at hu
    by_cases hj : j < news.length
    · rw [List.getElem?_eq_getElem hj] at hu
      simp only [Option.map_some, Option.some.injEq] at hu
      obtain ⟨b, o2, e, hc⟩ := hsrc (ne_nil_of_lt hj)
      simp only [Option.some.injEq] at e
      subst e
      have e2 : (⟨b, o2, none⟩ : Addr).add j = ⟨b, o2 + j, none⟩ := by unfold Addr.add; split <;> simp_all
      rw [e2, hc j hj, hu]
    · rw [List.getElem?_eq_none (by omega)] at hu
      simp at hu
theorem words_src {B : Nat} {W w : World} {l : List Int} {x : Option Addr} {n c : Nat} (h : SlB B W 1 WdAt l (.slice x n c)) (hw : In B W w) : l ≠ [] → ∃ b o, x = some ⟨b, o, none⟩ ∧ ∀ j (hj : j < l.length), w.cell? ⟨b, o + j, none⟩ = some (.int .i64 l[j]) := by
  intro hne
  obtain ⟨_, _, b, o, hx⟩ := h.addr
  have e := hx hne
  subst e
  exact ⟨b, o, rfl, fun j hj => (wd_read h hw hj).1⟩
theorem img_res {tmps : Array Value} {w : World} {q : Nat} {a b c : Value} (h2 : tmps[2]?.getD undef = .pointer (some ⟨q, 0, none⟩)) (hb : Blk w q [a, b, c] 53) :
    (results Try.f54 tmps).run Try.prog w = .ok (.agg #[a, b, c]) w := by
  have f0 := hb.cell 0
  have f1 := hb.cell 1
  have f2 := hb.cell 2
  simp only [List.getElem?_cons_zero, List.getElem?_cons_succ] at f0 f1 f2
  simp [results, Try.results54, go_sem, h2, f0, f1, f2]
end Go.Proofs.Ytfdjlicegfgodaa
