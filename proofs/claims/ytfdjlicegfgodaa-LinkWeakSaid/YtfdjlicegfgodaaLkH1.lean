/- LinkHashes: the objects copied into a row of our own, and one of them laid anew. -/
import Derived.Test.YtfdjlicegfgodaaLkH0
namespace Go.Proofs.Ytfdjlicegfgodaa
open Go.RowKit
set_option linter.unusedSimpArgs false
set_option linter.unusedVariables false

theorem obInfo : (Try.prog.info? 27).map (fun i => (i.zero, i.size, i.bytes)) = some (some (.agg #[.string ⟨#[]⟩, .int .i64 0, .slice none 0 0, .slice none 0 0, .slice none 0 0, .slice none 0 0, .slice none 0 0]), 7, 144) := by kernel_rfl
theorem u64_rg (n : Int) : 0 ≤ IntKind.u64.wrap n ∧ IntKind.u64.wrap n < 18446744073709551616 := by
  simp only [IntKind.wrap, IntKind.bits, IntKind.signed]
  simp
  omega
/-- the place that a number points to -/
theorem at_mod (at_ : Int) {n : Nat} (hn : 0 < n) (hn2 : n ≤ 1000000) : ∃ k : Nat, k < n ∧ wrap64 ((IntKind.u64.wrap at_).tmod (n : Int)) = (k : Int) := by
  have h1 := u64_rg at_
  have h2 : (IntKind.u64.wrap at_).tmod (n : Int) = (IntKind.u64.wrap at_) % (n : Int) := Int.tmod_eq_emod_of_nonneg h1.1
  have h3 := Int.emod_nonneg (IntKind.u64.wrap at_) (b := (n : Int)) (by omega)
  have h4 := Int.emod_lt_of_pos (IntKind.u64.wrap at_) (b := (n : Int)) (by omega)
  refine ⟨((IntKind.u64.wrap at_) % (n : Int)).toNat, by omega, ?_⟩
  rw [h2, show wrap64 ((IntKind.u64.wrap at_) % (n : Int)) = IntKind.i64.wrap ((IntKind.u64.wrap at_) % (n : Int)) by simp [wrap64, IntKind.wrap_i64], IntWalk.i64_in _ (by omega)]
  omega
theorem own_emptyO (w : World) : (w.alloc (.cells #[] 27)).ownsRow w.heap.size 27 7 (.slice (some ⟨w.heap.size, 0, none⟩) 0 0) 0 [] :=
  ⟨rfl, .inr ⟨w.heap.size, 0, #[], rfl, Nat.le_refl _, by show (w.heap.push _)[w.heap.size]? = _; simp, Nat.le_refl _, Nat.zero_le _, rfl, rfl⟩⟩
theorem ObAt.len {B : Nat} {W : World} {u : Ob} {cs : List Value} (h : ObAt B W u cs) : cs.length = 7 := by
  obtain ⟨vi, vs, vr, vc, vd, rfl, _⟩ := h
  rfl
theorem ObAt.one {B : Nat} {W : World} {u : Ob} {cs : List Value} (h : ObAt B W u cs) : ∀ v ∈ cs, v.oneCell' = true := by
  obtain ⟨vi, vs, vr, vc, vd, rfl, _, _, h1, h2, h3, h4, h5⟩ := h
  obtain ⟨_, _, _, rfl⟩ := h1.slice
  obtain ⟨_, _, _, rfl⟩ := h2.slice
  obtain ⟨_, _, _, rfl⟩ := h3.slice
  obtain ⟨_, _, _, rfl⟩ := h4.slice
  obtain ⟨_, _, _, rfl⟩ := h5.slice
  intro v hv
  simp only [List.mem_cons, List.not_mem_nil, or_false] at hv
  rcases hv with rfl | rfl | rfl | rfl | rfl | rfl | rfl <;> rfl
theorem ObAt.up {B : Nat} {W w : World} {u : Ob} {cs : List Value} (h : ObAt B W u cs) (hw : In B W w) : ObAt w.heap.size w u cs := by
  obtain ⟨vi, vs, vr, vc, vd, rfl, hp, hh, h1, h2, h3, h4, h5⟩ := h
  have hc : ∀ (b o : Nat) (cs : List Value), b < B → Cells W b o cs → Cells w b o cs := fun b o cs hb h j hj => (hw.bel.cell (p := ⟨b, o + j, none⟩) hb).trans (h j hj)
  exact ⟨vi, vs, vr, vc, vd, rfl, hp, hh, h1.mono hw.2 hc (fun _ _ _ x => x), h2.mono hw.2 hc (fun _ _ _ x => x), h3.mono hw.2 hc (fun _ _ _ x => x), h4.mono hw.2 hc (fun _ _ _ x => x), h5.mono hw.2 hc (fun _ _ _ x => x)⟩
/-- objects, as a row of cells -/
def RowOb (B : Nat) (W : World) (os : List Ob) (t : Nat) (news : List Value) : Prop := ∀ i (hi : i < os.length), i < t → ∃ cs, ObAt B W os[i] cs ∧ ∀ j, j < 7 → news[i * 7 + j]? = cs[j]?
theorem rows_ob {B : Nat} {W w : World} {os : List Ob} {b o n c : Nat} (h : SlB B W 7 (ObAt B W) os (.slice (some ⟨b, o, none⟩) n c)) (hw : In B W w) : ∀ t, t ≤ os.length →
    ∃ news, news.length = t * 7 ∧ (∀ j u, news[j]? = some u → w.cell? ⟨b, o + j, none⟩ = some u) ∧ (∀ u ∈ news, u.oneCell' = true) ∧ RowOb B W os t news
  | 0, _ => ⟨[], rfl, fun j u h => by simp at h, fun u h => by simp at h, fun i _ h => by omega⟩
  | t + 1, ht => by
    obtain ⟨news, h1, h2, h3, h4⟩ := rows_ob h hw t (by omega)
    obtain ⟨cs, c1, c2, c3⟩ := h.read hw (show t < os.length by omega)
    refine ⟨news ++ cs, by rw [List.length_append, h1, c1]; omega, ?_, ?_, ?_⟩
    · intro j u hj
      by_cases hlt : j < news.length
      · rw [List.getElem?_append_left hlt] at hj
        exact h2 j u hj
      · rw [List.getElem?_append_right (by omega), h1] at hj
        have h7 : j - t * 7 < 7 := by
          have := (List.getElem?_eq_some_iff.1 hj).1
          omega
        have := c3 _ h7
        rw [hj, show o + t * 7 + (j - t * 7) = o + j by omega] at this
        exact this
    · intro u hu
      rcases List.mem_append.1 hu with hu | hu
      · exact h3 u hu
      · exact c2.one u hu
    · intro i hi hit
      by_cases he : i < t
      · obtain ⟨ds, d1, d2⟩ := h4 i hi he
        exact ⟨ds, d1, fun j hj => by rw [List.getElem?_append_left (by omega)]; exact d2 j hj⟩
      · obtain rfl : i = t := by omega
        exact ⟨cs, c2, fun j hj => by rw [List.getElem?_append_right (by omega), h1, show i * 7 + j - i * 7 = j by omega]⟩
/-- one of them is laid anew -/
theorem rows_set {B : Nat} {W w5 w6 : World} {base g n c k : Nat} {os : List Ob} {u' : Ob} {news cs' : List Value} (hr : RowOb B W os os.length news) (ho : w5.ownsRow base 27 7 (.slice (some ⟨g, 0, none⟩) n c) n news) (hn : n = os.length) (hw : In B W w6)
    (hu : ObAt B W u' cs') (hg : g < w6.heap.size) (hl : n ≤ 140737488355328)
    (hc : ∀ j, (j < k * 7 ∨ k * 7 + 7 ≤ j) → w6.cell? ⟨g, j, none⟩ = w5.cell? ⟨g, j, none⟩) (hk : ∀ j, j < 7 → w6.cell? ⟨g, k * 7 + j, none⟩ = cs'[j]?) :
    SlB w6.heap.size w6 7 (ObAt w6.heap.size w6) (os.set k u') (.slice (some ⟨g, 0, none⟩) n c) := by
  subst hn
  refine ⟨_, c, by rw [List.length_set], by rw [List.length_set]; exact hl, fun _ => ⟨g, 0, rfl, hg, fun i hi => ?_⟩⟩
  rw [List.length_set] at hi
  by_cases hik : i = k
  · subst hik
    refine ⟨cs', hu.len, fun j hj => ?_, ?_⟩
    · rw [hu.len] at hj
      rw [Nat.zero_add]
      exact hk j hj
    · rw [List.getElem_set_self]
      exact hu.up hw
  · obtain ⟨cs, d1, d2⟩ := hr i hi hi
    refine ⟨cs, d1.len, fun j hj => ?_, ?_⟩
    · rw [d1.len] at hj
      rw [Nat.zero_add]
      show w6.cell? ⟨g, i * 7 + j, none⟩ = cs[j]?
      rw [hc _ (by omega), ho.cellAt _ (by omega), d2 j hj]
    · rw [List.getElem_set_ne (fun e => hik e.symm)]
      exact d1.up hw
/-- seven cells laid one behind the other -/
def set7 (w : World) (g o : Nat) (a0 a1 a2 a3 a4 a5 a6 : Value) : World := ((((((w.setCell ⟨g, o, none⟩ a0).setCell ⟨g, o + 1, none⟩ a1).setCell ⟨g, o + 2, none⟩ a2).setCell ⟨g, o + 3, none⟩ a3).setCell ⟨g, o + 4, none⟩ a4).setCell ⟨g, o + 5, none⟩ a5).setCell ⟨g, o + 6, none⟩ a6
theorem set7_other {w : World} {g o j : Nat} {a0 a1 a2 a3 a4 a5 a6 : Value} (h : j < o ∨ o + 7 ≤ j) : (set7 w g o a0 a1 a2 a3 a4 a5 a6).cell? ⟨g, j, none⟩ = w.cell? ⟨g, j, none⟩ := by
  unfold set7
  iterate 7 rw [World.cell?_setCell_other _ _ _ _ (by intro e; injection e with _ e2; omega)]
theorem set7_kp {S : Nat → Prop} {a w : World} {g o : Nat} {a0 a1 a2 a3 a4 a5 a6 : Value} (h : Kp S a w) (hg : g < a.heap.size → S g) : Kp S a (set7 w g o a0 a1 a2 a3 a4 a5 a6) :=
  ((((((h.setCell (p := ⟨g, o, none⟩) hg a0).setCell (p := ⟨g, o + 1, none⟩) hg a1).setCell (p := ⟨g, o + 2, none⟩) hg a2).setCell (p := ⟨g, o + 3, none⟩) hg a3).setCell (p := ⟨g, o + 4, none⟩) hg a4).setCell (p := ⟨g, o + 5, none⟩) hg a5).setCell (p := ⟨g, o + 6, none⟩) hg a6
theorem cell_set_is {w : World} {base e size n c g : Nat} {xs : List Value} (h : w.ownsRow base e size (.slice (some ⟨g, 0, none⟩) n c) n xs) {j : Nat} (hj : j < n * size) (a : Value) : (w.setCell ⟨g, j, none⟩ a).cell? ⟨g, j, none⟩ = some a := by
  have hx : w.cell? ⟨g, j, none⟩ = some (xs[j]'(by rw [h.1]; exact hj)) := by rw [h.cellAt j hj, List.getElem?_eq_getElem]
  exact World.cell?_setCell_same w _ a hx
theorem set7_own {w : World} {base e n c g o : Nat} {xs : List Value} {a0 a1 a2 a3 a4 a5 a6 : Value} (h : w.ownsRow base e 7 (.slice (some ⟨g, 0, none⟩) n c) n xs) (ho : o + 7 ≤ n * 7) :
    ∀ j, j < 7 → (set7 w g o a0 a1 a2 a3 a4 a5 a6).cell? ⟨g, o + j, none⟩ = [a0, a1, a2, a3, a4, a5, a6][j]? := by
  have h0 := (h.stored o a0).1
  have h1 := (h0.stored (o + 1) a1).1
  have h2 := (h1.stored (o + 2) a2).1
  have h3 := (h2.stored (o + 3) a3).1
  have h4 := (h3.stored (o + 4) a4).1
  have h5 := (h4.stored (o + 5) a5).1
  intro j hj
  unfold set7
  have hne : ∀ x y : Nat, x ≠ y → (⟨g, o + x, none⟩ : Addr) ≠ ⟨g, o + y, none⟩ := fun x y hxy e => by injection e with _ e2; omega
  have hj7 : j = 0 ∨ j = 1 ∨ j = 2 ∨ j = 3 ∨ j = 4 ∨ j = 5 ∨ j = 6 := by omega
  rcases hj7 with rfl | rfl | rfl | rfl | rfl | rfl | rfl
  · iterate 6 rw [World.cell?_setCell_other _ _ _ _ (by intro e; injection e with _ e2; omega)]
    exact cell_set_is h (by omega) a0
  · iterate 5 rw [World.cell?_setCell_other _ _ _ _ (by intro e; injection e with _ e2; omega)]
    exact cell_set_is h0 (by omega) a1
  · iterate 4 rw [World.cell?_setCell_other _ _ _ _ (by intro e; injection e with _ e2; omega)]
    exact cell_set_is h1 (by omega) a2
  · iterate 3 rw [World.cell?_setCell_other _ _ _ _ (by intro e; injection e with _ e2; omega)]
    exact cell_set_is h2 (by omega) a3
  · iterate 2 rw [World.cell?_setCell_other _ _ _ _ (by intro e; injection e with _ e2; omega)]
    exact cell_set_is h3 (by omega) a4
  · iterate 1 rw [World.cell?_setCell_other _ _ _ _ (by intro e; injection e with _ e2; omega)]
    exact cell_set_is h4 (by omega) a5
  · exact cell_set_is h5 (by omega) a6
theorem obs_nw {w w' : World} {l : List Ob} {v : Value} (h : SlB w.heap.size w 7 (ObAt w.heap.size w) l v) (k : Nw w w') : SlB w'.heap.size w' 7 (ObAt w'.heap.size w') l v :=
  (h.self_nw k).mono (Nat.le_refl _) (fun _ _ _ _ x => x) (fun _ _ _ x => x.up ((In.self w).nw k))
/-- an object with another hash -/
def reh (u : Ob) (h' : Int) : Ob := { u with hash := h' }
theorem ObAt.reh {B : Nat} {W : World} {u : Ob} {a : ByteArray} {h h' : Int} {r : List Value} (x : ObAt B W u (.string a :: .int .i64 h :: r)) (hh : I64 h') : ObAt B W (reh u h') (.string a :: .int .i64 h' :: r) := by
  obtain ⟨vi, vs, vr, vc, vd, e, hp, _, h1, h2, h3, h4, h5⟩ := x
  injection e with e1 e2
  injection e2 with e2 e3
  injection e1 with e1
  subst e1
  subst e3
  exact ⟨vi, vs, vr, vc, vd, rfl, hp, hh, h1, h2, h3, h4, h5⟩
theorem reh_law {os : List Ob} {k : Nat} {u : Ob} {h' : Int} {bg : List ByteArray} (hu : os[k]? = some u) (hb : badV os bg = 0) (hh : ¬ h' = u.hash) (hl : Light os bg) :
    (os.set k (reh u h')).length = os.length ∧ ((∃ m ∈ (os.set k (reh u h')).flatMap Ob.imports, m.name = u.pkg) → badV (os.set k (reh u h')) bg = 10) ∧ ((¬ ∃ m ∈ (os.set k (reh u h')).flatMap Ob.imports, m.name = u.pkg) → badV (os.set k (reh u h')) bg = 0) ∧
    (occs (os.set k (reh u h'))).length ≤ 2000 ∧ ∀ o ∈ os.set k (reh u h'), o.imports.length ≤ 50 := by
  obtain ⟨l1, l2⟩ := hashes_law (h' := h') hu hb hh
  have hi : (os.set k (reh u h')).flatMap Ob.imports = allI os := flat_same (f := Ob.imports) hu rfl
  have ho : occs (os.set k (reh u h')) = occs os := fromO_congr _ _ 0 (map_same (f := Ob.syms) hu rfl)
  refine ⟨by rw [List.length_set], fun h => l1 (by rw [hi] at h; exact h), fun h => l2 (by rw [hi] at h; exact h), by rw [ho]; exact hl.occ, fun o h => ?_⟩
  rcases List.mem_or_eq_of_mem_set h with h1 | h1
  · exact (hl.2.2 o h1).2.2
  · rw [h1]
    exact (hl.2.2 u (List.mem_of_getElem? hu)).2.2
/-- one of those seen imports the package -/
def WantP (ol : List Ob) (up : ByteArray) (i j : Nat) : Prop := (∃ m ∈ (ol.take i).flatMap Ob.imports, m.name = up) ∨ ∃ u2, ol[i]? = some u2 ∧ ∃ m ∈ u2.imports.take j, m.name = up
def WantB (ol : List Ob) (up : ByteArray) (i j : Nat) (b : Bool) : Prop := (b = true → WantP ol up i j) ∧ (b = false → ¬ WantP ol up i j)
section
variable {ol : List Ob} {up : ByteArray} {i j : Nat} {u2 : Ob} {b : Bool}
theorem want0 : WantB ol up 0 0 false := by
  refine ⟨fun e => (by cases e), fun _ => ?_⟩
  rintro (⟨m, h, _⟩ | ⟨u2, _, m, h, _⟩)
  · simp at h
  · simp at h
theorem want_next (hu : ol[i]? = some u2) (hj : u2.imports.length ≤ j) : WantP ol up i j ↔ WantP ol up (i + 1) 0 := by
  obtain ⟨hi, rfl⟩ := List.getElem?_eq_some_iff.1 hu
  unfold WantP
  rw [List.take_succ_eq_append_getElem hi, List.flatMap_append]
  constructor
  · rintro (⟨m, h, e⟩ | ⟨u3, hu3, m, h, e⟩)
    · exact .inl ⟨m, List.mem_append_left _ h, e⟩
    · rw [hu] at hu3
      injection hu3 with hu3
      subst hu3
      exact .inl ⟨m, List.mem_append_right _ (by simpa using List.mem_of_mem_take h), e⟩
  · rintro (⟨m, h, e⟩ | ⟨u3, hu3, m, h, e⟩)
    · rcases List.mem_append.1 h with h | h
      · exact .inl ⟨m, h, e⟩
      · refine .inr ⟨_, hu, m, ?_, e⟩
        rw [List.take_of_length_le hj]
        simpa using h
    · simp at h
theorem want_nextB (hu : ol[i]? = some u2) (hj : u2.imports.length ≤ j) (h : WantB ol up i j b) : WantB ol up (i + 1) 0 b :=
  ⟨fun e => (want_next hu hj).1 (h.1 e), fun e hw => h.2 e ((want_next hu hj).2 hw)⟩
theorem want_keep (h : WantB ol up i j true) : WantB ol up i (j + 1) true := by
  refine ⟨fun _ => ?_, fun e => (by cases e)⟩
  rcases h.1 rfl with h | ⟨u3, hu, m, hm, e⟩
  · exact .inl h
  · exact .inr ⟨u3, hu, m, (List.take_subset_take_left _ (Nat.le_succ j)) hm, e⟩
theorem want_hit (hu : ol[i]? = some u2) (hj : j < u2.imports.length) (e : u2.imports[j].name = up) : WantB ol up i (j + 1) true :=
  ⟨fun _ => .inr ⟨u2, hu, u2.imports[j], by rw [List.take_succ_eq_append_getElem hj]; exact List.mem_append_right _ (List.mem_singleton.2 rfl), e⟩, fun e => (by cases e)⟩
theorem want_miss (hu : ol[i]? = some u2) (hj : j < u2.imports.length) (e : ¬ u2.imports[j].name = up) (h : WantB ol up i j false) : WantB ol up i (j + 1) false := by
  refine ⟨fun e => (by cases e), fun _ => ?_⟩
  rintro (hw | ⟨u3, hu3, m, hm, em⟩)
  · exact h.2 rfl (.inl hw)
  · rw [hu] at hu3
    injection hu3 with hu3
    subst hu3
    rw [List.take_succ_eq_append_getElem hj] at hm
    rcases List.mem_append.1 hm with hm | hm
    · exact h.2 rfl (.inr ⟨_, hu, m, hm, em⟩)
    · simp at hm
      subst hm
      exact e em
theorem want_end (hl : ol.length ≤ i) (h : WantB ol up i 0 b) : (b = true → ∃ m ∈ ol.flatMap Ob.imports, m.name = up) ∧ (b = false → ¬ ∃ m ∈ ol.flatMap Ob.imports, m.name = up) := by
  unfold WantB WantP at h
  rw [List.take_of_length_le hl] at h
  refine ⟨fun e => ?_, fun e hw => h.2 e (.inl hw)⟩
  rcases h.1 e with h | ⟨_, _, m, hm, _⟩
  · exact h
  · simp at hm
end
end Go.Proofs.Ytfdjlicegfgodaa
