/- An argument of structs, slices, strings and numbers, read out of memory. -/
import Derived.Test.YtfdjlicegfgodaaObj1
import Derived.Test.YtfdjlicegfgodaaOpenBytes
import Derived.ProofKit
import Derived.OpenShut
import Derived.SizedLaws
namespace Go.Proofs.Ytfdjlicegfgodaa
open Go.ChangeShapes Go.WideShapes Go.ChangeAt Go.RowKit
set_option linter.unusedSimpArgs false
set_option linter.unusedVariables false

section
variable {H : Type} {enc : TypeId × Value → H} {W : World}
def Tr (enc : TypeId × Value → H) (W : World) (fuel : Nat) (t : TypeId) (cs : List Value) (x : DataW H × List MemPlace) : Prop := DataW.trod enc Try.prog W 0 (fun _ => true) true fuel t cs = some x
def Wt (t : TypeId) (d : DataW H) : Prop := ∀ n ∈ d.weights Try.prog t, n ≤ reachBytes
theorem reach_le : reachBytes ≤ 140737488355328 := by decide
theorem op_int {t : TypeId} {fuel : Nat} {cs : List Value} {x : DataW H × List MemPlace} (ht : Try.prog.underlying t = some (.int .i64)) (h : Tr enc W fuel t cs x) : ∃ z, cs = [.int .i64 z] ∧ I64 z := by
  obtain ⟨z, h1, _, h2⟩ := DataW.trod_int ht h
  exact ⟨z, h1, by simpa [Lit.wf, IntKind.min, IntKind.max, IntKind.signed, IntKind.bits, I64] using h2⟩
theorem op_bool {t : TypeId} {fuel : Nat} {cs : List Value} {x : DataW H × List MemPlace} (ht : Try.prog.underlying t = some .bool) (h : Tr enc W fuel t cs x) : ∃ z, cs = [.bool z] := by
  obtain ⟨z, h1, _⟩ := DataW.trod_bool ht h
  exact ⟨z, h1⟩
theorem op_str {t : TypeId} {fuel : Nat} {cs : List Value} {x : DataW H × List MemPlace} (ht : Try.prog.underlying t = some .string) (h : Tr enc W fuel t cs x) (hw : Wt t x.1) : ∃ s, cs = [.string s] ∧ Fits s := by
  obtain ⟨s, h1, rfl, _⟩ := DataW.trod_string ht h
  have := hw s.data.toList.length (by simp [DataW.weights])
  have e : s.data.toList.length = s.size := Array.length_toList
  rw [e] at this
  exact ⟨s, h1, Nat.le_trans this reach_le⟩
theorem mem_weightsAll {P : Program} {e : TypeId} {d : DataW H} {n : Nat} (hn : n ∈ d.weights P e) : ∀ {l : List (DataW H)}, d ∈ l → n ∈ DataW.weightsAll P e l
  | [], h => by cases h
  | a :: r, h => by
    simp only [DataW.weightsAll, List.mem_append]
    rcases List.mem_cons.1 h with rfl | h
    · exact .inl hn
    · exact .inr (mem_weightsAll hn h)
theorem add_at (b o i : Nat) : (⟨b, o, none⟩ : Addr).add i = ⟨b, o + i, none⟩ := by unfold Addr.add; split <;> simp_all
theorem cells_get {w : World} {a : Addr} {n : Nat} {cs : List Value} (h : w.cells? 0 a n = some cs) : cs.length = n ∧ ∀ j, j < n → w.cell? (a.add j) = cs[j]? := by
  unfold World.cells? at h
  rw [if_pos (Nat.zero_le _)] at h
  have hl : cs.length = n := by simpa using mapM_some_length h
  exact ⟨hl, fun j hj => mapM_some_get h j j (by simp [hj])⟩
theorem op_slice {α : Type} {E : α → List Value → Prop} {t e : TypeId} {n : Nat} (ht : Try.prog.underlying t = some (.slice e)) (hc : Try.prog.cellsOf e = n) (hb : 1 ≤ Try.prog.bytesOf e) (hn : 0 < n) {fuel : Nat} {cs : List Value} {x : DataW H × List MemPlace} (h : Tr enc W fuel t cs x) (hw : Wt t x.1)
    (each : ∀ f cs y, f < fuel → Tr enc W f e cs y → Wt e y.1 → ∃ a, E a cs) : ∃ (l : List α) (v : Value), cs = [v] ∧ SlB W.heap.size W n E l v := by
  rcases DataW.trod_slice ht h with ⟨rfl, _⟩ | ⟨a, len, cap, elems, rest, m, rfl, rfl, rfl, _, hl, hm, hlen, hel, _, _⟩
  · exact ⟨[], _, rfl, none, 0, rfl, by simp, fun h => absurd rfl h⟩
  · have hsz : len ≤ 140737488355328 := by
      have h1 := hw (((elems.map (·.1)).length + (rest.map (·.1)).length) * Try.prog.bytesOf e) (by simp [DataW.weights, ht])
      simp only [List.length_map, hlen] at h1
      have h2 : len * 1 ≤ (len + rest.length) * Try.prog.bytesOf e := Nat.mul_le_mul (by omega) hb
      have := reach_le
      omega
    rw [hc] at hel
    have key : ∀ i : Fin len, ∃ (xv : α) (cv : List Value), cv.length = n ∧ (∀ j, j < n → W.cell? ((a.add (i.1 * n)).add j) = cv[j]?) ∧ E xv cv := by
      rintro ⟨i, hi⟩
      have h1 := hel i hi
      have hi' : i < elems.length := by omega
      rw [List.getElem?_eq_getElem hi'] at h1
      obtain ⟨cv, h2, h3⟩ := Option.bind_eq_some_iff.1 h1
      obtain ⟨h4, h5⟩ := cells_get h2
      obtain ⟨xv, hx⟩ := each m cv elems[i] (by omega) h3 (fun q hq => hw q (by
        simp only [DataW.weights, ht, List.mem_cons, List.mem_append]
        exact .inr (.inl (mem_weightsAll hq (List.mem_map.2 ⟨_, List.getElem_mem hi', rfl⟩)))))
      exact ⟨xv, cv, h4, h5, hx⟩
    let f : Fin len → α := fun i => Classical.choose (key i)
    have hf : ∀ i, ∃ (cv : List Value), cv.length = n ∧ (∀ j, j < n → W.cell? ((a.add (i.1 * n)).add j) = cv[j]?) ∧ E (f i) cv := fun i => Classical.choose_spec (key i)
    refine ⟨List.ofFn f, _, rfl, some a, cap, by simp, by simpa using hsz, fun hne => ?_⟩
    have hpos : 0 < len := by
      rcases Nat.eq_zero_or_pos len with h0 | h0
      · exact absurd (List.length_eq_zero_iff.1 (by simpa using h0)) hne
      · exact h0
    obtain ⟨b, o, s⟩ := a
    have hs : s = none ∧ b < W.heap.size := by
      obtain ⟨cv, h1, h2, _⟩ := hf ⟨0, hpos⟩
      have h3 := h2 0 hn
      rw [List.getElem?_eq_getElem (by omega)] at h3
      have h4 := World.cell?_spot h3
      have h5 := World.block_lt_of_cell? W _ h3
      cases s with
      | none => exact ⟨rfl, by simpa [Addr.add] using h5⟩
      | some q => simp [Addr.add] at h4
    obtain ⟨rfl, hbl⟩ := hs
    refine ⟨b, o, rfl, hbl, fun i hi => ?_⟩
    have hi' : i < len := by simpa using hi
    obtain ⟨cv, h1, h2, h3⟩ := hf ⟨i, hi'⟩
    refine ⟨cv, h1, fun j hj => ?_, by simpa using h3⟩
    have := h2 j (by omega)
    rw [add_at, add_at] at this
    exact this

set_option maxRecDepth 100000 in
theorem parts_Im {fuel : Nat} {cs : List Value} {x : DataW H × List MemPlace} (h : Tr enc W fuel 51 cs x) (hw : Wt 51 x.1) :
    ∃ (n : Nat) (c0 c1 : Value) (y0 y1 : DataW H × List MemPlace), fuel = n + 1 ∧ cs = [c0, c1] ∧ Tr enc W n 9 [c0] y0 ∧ Wt 9 y0.1 ∧ Tr enc W n 2 [c1] y1 ∧ Wt 2 y1.1 := by
  obtain ⟨xs, n, rfl, rfl, hl, hxl, hf⟩ := DataW.trod_struct Try.underlying51 h
  have hN : Try.prog.cellsOf 51 = 2 := by kernel_rfl
  rw [hN] at hl
  replace hxl : xs.length = 2 := hxl
  have f0 := hf 0 _ rfl
  have f1 := hf 1 _ rfl
  clear hf
  match cs, hl with
  | [c0, c1], _ =>
  match xs, hxl with
  | [y0, y1], _ =>
  have e_int64 : Try.prog.cellsOf 2 = 1 := by kernel_rfl
  have e_string : Try.prog.cellsOf 9 = 1 := by kernel_rfl
  replace f0 : DataW.trod enc Try.prog W 0 (fun _ => true) true n 9 ((([c0, c1] : List Value).drop 0).take (Try.prog.cellsOf 9)) = some y0 := f0
  rw [e_string] at f0
  replace f1 : DataW.trod enc Try.prog W 0 (fun _ => true) true n 2 ((([c0, c1] : List Value).drop 1).take (Try.prog.cellsOf 2)) = some y1 := f1
  rw [e_int64] at f1
  have w0 : Wt 9 y0.1 := fun q hq => hw q (by
    simp only [DataW.weights, Try.underlying51]
    exact DataW.weights_mem_each (ts := [9, 2]) (j := 0) rfl rfl q hq)
  have w1 : Wt 2 y1.1 := fun q hq => hw q (by
    simp only [DataW.weights, Try.underlying51]
    exact DataW.weights_mem_each (ts := [9, 2]) (j := 1) rfl rfl q hq)
  exact ⟨n, c0, c1, y0, y1, rfl, rfl, f0, w0, f1, w1⟩
set_option maxRecDepth 100000 in
theorem parts_Sy {fuel : Nat} {cs : List Value} {x : DataW H × List MemPlace} (h : Tr enc W fuel 44 cs x) (hw : Wt 44 x.1) :
    ∃ (n : Nat) (c0 c1 c2 c3 c4 c5 : Value) (y0 y1 y2 y3 y4 y5 : DataW H × List MemPlace), fuel = n + 1 ∧ cs = [c0, c1, c2, c3, c4, c5] ∧ Tr enc W n 9 [c0] y0 ∧ Wt 9 y0.1 ∧ Tr enc W n 3 [c1] y1 ∧ Wt 3 y1.1 ∧ Tr enc W n 4 [c2] y2 ∧ Wt 4 y2.1 ∧ Tr enc W n 3 [c3] y3 ∧ Wt 3 y3.1 ∧ Tr enc W n 3 [c4] y4 ∧ Wt 3 y4.1 ∧ Tr enc W n 3 [c5] y5 ∧ Wt 3 y5.1 := by
  obtain ⟨xs, n, rfl, rfl, hl, hxl, hf⟩ := DataW.trod_struct Try.underlying44 h
  have hN : Try.prog.cellsOf 44 = 6 := by kernel_rfl
  rw [hN] at hl
  replace hxl : xs.length = 6 := hxl
  have f0 := hf 0 _ rfl
  have f1 := hf 1 _ rfl
  have f2 := hf 2 _ rfl
  have f3 := hf 3 _ rfl
  have f4 := hf 4 _ rfl
  have f5 := hf 5 _ rfl
  clear hf
  match cs, hl with
  | [c0, c1, c2, c3, c4, c5], _ =>
  match xs, hxl with
  | [y0, y1, y2, y3, y4, y5], _ =>
  have e_bool : Try.prog.cellsOf 4 = 1 := by kernel_rfl
  have e_int : Try.prog.cellsOf 3 = 1 := by kernel_rfl
  have e_string : Try.prog.cellsOf 9 = 1 := by kernel_rfl
  replace f0 : DataW.trod enc Try.prog W 0 (fun _ => true) true n 9 ((([c0, c1, c2, c3, c4, c5] : List Value).drop 0).take (Try.prog.cellsOf 9)) = some y0 := f0
  rw [e_string] at f0
  replace f1 : DataW.trod enc Try.prog W 0 (fun _ => true) true n 3 ((([c0, c1, c2, c3, c4, c5] : List Value).drop 1).take (Try.prog.cellsOf 3)) = some y1 := f1
  rw [e_int] at f1
  replace f2 : DataW.trod enc Try.prog W 0 (fun _ => true) true n 4 ((([c0, c1, c2, c3, c4, c5] : List Value).drop 2).take (Try.prog.cellsOf 4)) = some y2 := f2
  rw [e_bool] at f2
  replace f3 : DataW.trod enc Try.prog W 0 (fun _ => true) true n 3 ((([c0, c1, c2, c3, c4, c5] : List Value).drop 3).take (Try.prog.cellsOf 3)) = some y3 := f3
  rw [e_int] at f3
  replace f4 : DataW.trod enc Try.prog W 0 (fun _ => true) true n 3 ((([c0, c1, c2, c3, c4, c5] : List Value).drop 4).take (Try.prog.cellsOf 3)) = some y4 := f4
  rw [e_int] at f4
  replace f5 : DataW.trod enc Try.prog W 0 (fun _ => true) true n 3 ((([c0, c1, c2, c3, c4, c5] : List Value).drop 5).take (Try.prog.cellsOf 3)) = some y5 := f5
  rw [e_int] at f5
  have w0 : Wt 9 y0.1 := fun q hq => hw q (by
    simp only [DataW.weights, Try.underlying44]
    exact DataW.weights_mem_each (ts := [9, 3, 4, 3, 3, 3]) (j := 0) rfl rfl q hq)
  have w1 : Wt 3 y1.1 := fun q hq => hw q (by
    simp only [DataW.weights, Try.underlying44]
    exact DataW.weights_mem_each (ts := [9, 3, 4, 3, 3, 3]) (j := 1) rfl rfl q hq)
  have w2 : Wt 4 y2.1 := fun q hq => hw q (by
    simp only [DataW.weights, Try.underlying44]
    exact DataW.weights_mem_each (ts := [9, 3, 4, 3, 3, 3]) (j := 2) rfl rfl q hq)
  have w3 : Wt 3 y3.1 := fun q hq => hw q (by
    simp only [DataW.weights, Try.underlying44]
    exact DataW.weights_mem_each (ts := [9, 3, 4, 3, 3, 3]) (j := 3) rfl rfl q hq)
  have w4 : Wt 3 y4.1 := fun q hq => hw q (by
    simp only [DataW.weights, Try.underlying44]
    exact DataW.weights_mem_each (ts := [9, 3, 4, 3, 3, 3]) (j := 4) rfl rfl q hq)
  have w5 : Wt 3 y5.1 := fun q hq => hw q (by
    simp only [DataW.weights, Try.underlying44]
    exact DataW.weights_mem_each (ts := [9, 3, 4, 3, 3, 3]) (j := 5) rfl rfl q hq)
  exact ⟨n, c0, c1, c2, c3, c4, c5, y0, y1, y2, y3, y4, y5, rfl, rfl, f0, w0, f1, w1, f2, w2, f3, w3, f4, w4, f5, w5⟩
set_option maxRecDepth 100000 in
theorem parts_Re {fuel : Nat} {cs : List Value} {x : DataW H × List MemPlace} (h : Tr enc W fuel 64 cs x) (hw : Wt 64 x.1) :
    ∃ (n : Nat) (c0 c1 c2 : Value) (y0 y1 y2 : DataW H × List MemPlace), fuel = n + 1 ∧ cs = [c0, c1, c2] ∧ Tr enc W n 4 [c0] y0 ∧ Wt 4 y0.1 ∧ Tr enc W n 3 [c1] y1 ∧ Wt 3 y1.1 ∧ Tr enc W n 9 [c2] y2 ∧ Wt 9 y2.1 := by
  obtain ⟨xs, n, rfl, rfl, hl, hxl, hf⟩ := DataW.trod_struct Try.underlying64 h
  have hN : Try.prog.cellsOf 64 = 3 := by kernel_rfl
  rw [hN] at hl
  replace hxl : xs.length = 3 := hxl
  have f0 := hf 0 _ rfl
  have f1 := hf 1 _ rfl
  have f2 := hf 2 _ rfl
  clear hf
  match cs, hl with
  | [c0, c1, c2], _ =>
  match xs, hxl with
  | [y0, y1, y2], _ =>
  have e_bool : Try.prog.cellsOf 4 = 1 := by kernel_rfl
  have e_int : Try.prog.cellsOf 3 = 1 := by kernel_rfl
  have e_string : Try.prog.cellsOf 9 = 1 := by kernel_rfl
  replace f0 : DataW.trod enc Try.prog W 0 (fun _ => true) true n 4 ((([c0, c1, c2] : List Value).drop 0).take (Try.prog.cellsOf 4)) = some y0 := f0
  rw [e_bool] at f0
  replace f1 : DataW.trod enc Try.prog W 0 (fun _ => true) true n 3 ((([c0, c1, c2] : List Value).drop 1).take (Try.prog.cellsOf 3)) = some y1 := f1
  rw [e_int] at f1
  replace f2 : DataW.trod enc Try.prog W 0 (fun _ => true) true n 9 ((([c0, c1, c2] : List Value).drop 2).take (Try.prog.cellsOf 9)) = some y2 := f2
  rw [e_string] at f2
  have w0 : Wt 4 y0.1 := fun q hq => hw q (by
    simp only [DataW.weights, Try.underlying64]
    exact DataW.weights_mem_each (ts := [4, 3, 9]) (j := 0) rfl rfl q hq)
  have w1 : Wt 3 y1.1 := fun q hq => hw q (by
    simp only [DataW.weights, Try.underlying64]
    exact DataW.weights_mem_each (ts := [4, 3, 9]) (j := 1) rfl rfl q hq)
  have w2 : Wt 9 y2.1 := fun q hq => hw q (by
    simp only [DataW.weights, Try.underlying64]
    exact DataW.weights_mem_each (ts := [4, 3, 9]) (j := 2) rfl rfl q hq)
  exact ⟨n, c0, c1, c2, y0, y1, y2, rfl, rfl, f0, w0, f1, w1, f2, w2⟩
set_option maxRecDepth 100000 in
theorem parts_Ob {fuel : Nat} {cs : List Value} {x : DataW H × List MemPlace} (h : Tr enc W fuel 27 cs x) (hw : Wt 27 x.1) :
    ∃ (n : Nat) (c0 c1 c2 c3 c4 c5 c6 : Value) (y0 y1 y2 y3 y4 y5 y6 : DataW H × List MemPlace), fuel = n + 1 ∧ cs = [c0, c1, c2, c3, c4, c5, c6] ∧ Tr enc W n 9 [c0] y0 ∧ Wt 9 y0.1 ∧ Tr enc W n 2 [c1] y1 ∧ Wt 2 y1.1 ∧ Tr enc W n 22 [c2] y2 ∧ Wt 22 y2.1 ∧ Tr enc W n 23 [c3] y3 ∧ Wt 23 y3.1 ∧ Tr enc W n 24 [c4] y4 ∧ Wt 24 y4.1 ∧ Tr enc W n 25 [c5] y5 ∧ Wt 25 y5.1 ∧ Tr enc W n 25 [c6] y6 ∧ Wt 25 y6.1 := by
  obtain ⟨xs, n, rfl, rfl, hl, hxl, hf⟩ := DataW.trod_struct Try.underlying27 h
  have hN : Try.prog.cellsOf 27 = 7 := by kernel_rfl
  rw [hN] at hl
  replace hxl : xs.length = 7 := hxl
  have f0 := hf 0 _ rfl
  have f1 := hf 1 _ rfl
  have f2 := hf 2 _ rfl
  have f3 := hf 3 _ rfl
  have f4 := hf 4 _ rfl
  have f5 := hf 5 _ rfl
  have f6 := hf 6 _ rfl
  clear hf
  match cs, hl with
  | [c0, c1, c2, c3, c4, c5, c6], _ =>
  match xs, hxl with
  | [y0, y1, y2, y3, y4, y5, y6], _ =>
  have e_slapiImport : Try.prog.cellsOf 22 = 1 := by kernel_rfl
  have e_slapiReloc : Try.prog.cellsOf 24 = 1 := by kernel_rfl
  have e_slapiSym : Try.prog.cellsOf 23 = 1 := by kernel_rfl
  have e_slint64 : Try.prog.cellsOf 25 = 1 := by kernel_rfl
  have e_int64 : Try.prog.cellsOf 2 = 1 := by kernel_rfl
  have e_string : Try.prog.cellsOf 9 = 1 := by kernel_rfl
  replace f0 : DataW.trod enc Try.prog W 0 (fun _ => true) true n 9 ((([c0, c1, c2, c3, c4, c5, c6] : List Value).drop 0).take (Try.prog.cellsOf 9)) = some y0 := f0
  rw [e_string] at f0
  replace f1 : DataW.trod enc Try.prog W 0 (fun _ => true) true n 2 ((([c0, c1, c2, c3, c4, c5, c6] : List Value).drop 1).take (Try.prog.cellsOf 2)) = some y1 := f1
  rw [e_int64] at f1
  replace f2 : DataW.trod enc Try.prog W 0 (fun _ => true) true n 22 ((([c0, c1, c2, c3, c4, c5, c6] : List Value).drop 2).take (Try.prog.cellsOf 22)) = some y2 := f2
  rw [e_slapiImport] at f2
  replace f3 : DataW.trod enc Try.prog W 0 (fun _ => true) true n 23 ((([c0, c1, c2, c3, c4, c5, c6] : List Value).drop 3).take (Try.prog.cellsOf 23)) = some y3 := f3
  rw [e_slapiSym] at f3
  replace f4 : DataW.trod enc Try.prog W 0 (fun _ => true) true n 24 ((([c0, c1, c2, c3, c4, c5, c6] : List Value).drop 4).take (Try.prog.cellsOf 24)) = some y4 := f4
  rw [e_slapiReloc] at f4
  replace f5 : DataW.trod enc Try.prog W 0 (fun _ => true) true n 25 ((([c0, c1, c2, c3, c4, c5, c6] : List Value).drop 5).take (Try.prog.cellsOf 25)) = some y5 := f5
  rw [e_slint64] at f5
  replace f6 : DataW.trod enc Try.prog W 0 (fun _ => true) true n 25 ((([c0, c1, c2, c3, c4, c5, c6] : List Value).drop 6).take (Try.prog.cellsOf 25)) = some y6 := f6
  rw [e_slint64] at f6
  have w0 : Wt 9 y0.1 := fun q hq => hw q (by
    simp only [DataW.weights, Try.underlying27]
    exact DataW.weights_mem_each (ts := [9, 2, 22, 23, 24, 25, 25]) (j := 0) rfl rfl q hq)
  have w1 : Wt 2 y1.1 := fun q hq => hw q (by
    simp only [DataW.weights, Try.underlying27]
    exact DataW.weights_mem_each (ts := [9, 2, 22, 23, 24, 25, 25]) (j := 1) rfl rfl q hq)
  have w2 : Wt 22 y2.1 := fun q hq => hw q (by
    simp only [DataW.weights, Try.underlying27]
    exact DataW.weights_mem_each (ts := [9, 2, 22, 23, 24, 25, 25]) (j := 2) rfl rfl q hq)
  have w3 : Wt 23 y3.1 := fun q hq => hw q (by
    simp only [DataW.weights, Try.underlying27]
    exact DataW.weights_mem_each (ts := [9, 2, 22, 23, 24, 25, 25]) (j := 3) rfl rfl q hq)
  have w4 : Wt 24 y4.1 := fun q hq => hw q (by
    simp only [DataW.weights, Try.underlying27]
    exact DataW.weights_mem_each (ts := [9, 2, 22, 23, 24, 25, 25]) (j := 4) rfl rfl q hq)
  have w5 : Wt 25 y5.1 := fun q hq => hw q (by
    simp only [DataW.weights, Try.underlying27]
    exact DataW.weights_mem_each (ts := [9, 2, 22, 23, 24, 25, 25]) (j := 5) rfl rfl q hq)
  have w6 : Wt 25 y6.1 := fun q hq => hw q (by
    simp only [DataW.weights, Try.underlying27]
    exact DataW.weights_mem_each (ts := [9, 2, 22, 23, 24, 25, 25]) (j := 6) rfl rfl q hq)
  exact ⟨n, c0, c1, c2, c3, c4, c5, c6, y0, y1, y2, y3, y4, y5, y6, rfl, rfl, f0, w0, f1, w1, f2, w2, f3, w3, f4, w4, f5, w5, f6, w6⟩
def StrAt (s : ByteArray) (cs : List Value) : Prop := cs = [.string s] ∧ Fits s
theorem open_Im (fuel : Nat) (cs : List Value) (x : DataW H × List MemPlace) (h : Tr enc W fuel 51 cs x) (hw : Wt 51 x.1) : ∃ a, ImAt a cs := by
  obtain ⟨n, c0, c1, y0, y1, rfl, rfl, h0, w0, h1, w1⟩ := parts_Im h hw
  obtain ⟨nm, e0, b0⟩ := op_str Try.underlying9 h0 w0
  obtain ⟨k, e1, b1⟩ := op_int Try.underlying2 h1
  cases e0; cases e1
  exact ⟨⟨nm, k⟩, rfl, b0, b1⟩
theorem open_Sy (fuel : Nat) (cs : List Value) (x : DataW H × List MemPlace) (h : Tr enc W fuel 44 cs x) (hw : Wt 44 x.1) : ∃ a, SyAt a cs := by
  obtain ⟨n, c0, c1, c2, c3, c4, c5, y0, y1, y2, y3, y4, y5, rfl, rfl, h0, w0, h1, w1, h2, w2, h3, w3, h4, w4, h5, w5⟩ := parts_Sy h hw
  obtain ⟨nm, e0, b0⟩ := op_str Try.underlying9 h0 w0
  obtain ⟨k1, e1, b1⟩ := op_int Try.underlying3 h1
  obtain ⟨wk, e2⟩ := op_bool Try.underlying4 h2
  obtain ⟨k3, e3, b3⟩ := op_int Try.underlying3 h3
  obtain ⟨k4, e4, b4⟩ := op_int Try.underlying3 h4
  obtain ⟨k5, e5, b5⟩ := op_int Try.underlying3 h5
  cases e0; cases e1; cases e2; cases e3; cases e4; cases e5
  exact ⟨⟨nm, k1, wk, k3, k4, k5⟩, rfl, b0, b1, b3, b4, b5⟩
theorem open_Re (fuel : Nat) (cs : List Value) (x : DataW H × List MemPlace) (h : Tr enc W fuel 64 cs x) (hw : Wt 64 x.1) : ∃ a, ReAt a cs := by
  obtain ⟨n, c0, c1, c2, y0, y1, y2, rfl, rfl, h0, w0, h1, w1, h2, w2⟩ := parts_Re h hw
  obtain ⟨d, e0⟩ := op_bool Try.underlying4 h0
  obtain ⟨k, e1, b1⟩ := op_int Try.underlying3 h1
  obtain ⟨nm, e2, b2⟩ := op_str Try.underlying9 h2 w2
  cases e0; cases e1; cases e2
  exact ⟨⟨d, k, nm⟩, rfl, b1, b2⟩
theorem open_Wd (fuel : Nat) (cs : List Value) (x : DataW H × List MemPlace) (h : Tr enc W fuel 2 cs x) (hw : Wt 2 x.1) : ∃ a, WdAt a cs := by
  obtain ⟨k, e1, b1⟩ := op_int Try.underlying2 h
  exact ⟨k, e1, b1⟩
theorem open_Str (fuel : Nat) (cs : List Value) (x : DataW H × List MemPlace) (h : Tr enc W fuel 9 cs x) (hw : Wt 9 x.1) : ∃ a, StrAt a cs := by
  obtain ⟨k, e1, b1⟩ := op_str Try.underlying9 h hw
  exact ⟨k, e1, b1⟩
theorem open_Ob (fuel : Nat) (cs : List Value) (x : DataW H × List MemPlace) (h : Tr enc W fuel 27 cs x) (hw : Wt 27 x.1) : ∃ a, ObAt W.heap.size W a cs := by
  obtain ⟨n, c0, c1, c2, c3, c4, c5, c6, y0, y1, y2, y3, y4, y5, y6, rfl, rfl, h0, w0, h1, w1, h2, w2, h3, w3, h4, w4, h5, w5, h6, w6⟩ := parts_Ob h hw
  obtain ⟨nm, e0, b0⟩ := op_str Try.underlying9 h0 w0
  obtain ⟨k1, e1, b1⟩ := op_int Try.underlying2 h1
  obtain ⟨l2, v2, e2, s2⟩ := op_slice (E := ImAt) Try.underlying22 (n := 2) (by kernel_rfl) (of_decide_eq_true (by kernel_rfl)) (by omega) h2 w2 (fun f cs y hf hy hwy => open_Im f cs y hy hwy)
  obtain ⟨l3, v3, e3, s3⟩ := op_slice (E := SyAt) Try.underlying23 (n := 6) (by kernel_rfl) (of_decide_eq_true (by kernel_rfl)) (by omega) h3 w3 (fun f cs y hf hy hwy => open_Sy f cs y hy hwy)
  obtain ⟨l4, v4, e4, s4⟩ := op_slice (E := ReAt) Try.underlying24 (n := 3) (by kernel_rfl) (of_decide_eq_true (by kernel_rfl)) (by omega) h4 w4 (fun f cs y hf hy hwy => open_Re f cs y hy hwy)
  obtain ⟨l5, v5, e5, s5⟩ := op_slice (E := WdAt) Try.underlying25 (n := 1) (by kernel_rfl) (of_decide_eq_true (by kernel_rfl)) (by omega) h5 w5 (fun f cs y hf hy hwy => open_Wd f cs y hy hwy)
  obtain ⟨l6, v6, e6, s6⟩ := op_slice (E := WdAt) Try.underlying25 (n := 1) (by kernel_rfl) (of_decide_eq_true (by kernel_rfl)) (by omega) h6 w6 (fun f cs y hf hy hwy => open_Wd f cs y hy hwy)
  cases e0; cases e1; cases e2; cases e3; cases e4; cases e5; cases e6
  exact ⟨⟨nm, k1, l2, l3, l4, l5, l6⟩, _, _, _, _, _, rfl, b0, b1, s2, s3, s4, s5, s6⟩
/-- an object that is an argument -/
theorem open_object {v : Value} {d : DataW H} {q : List MemPlace} (h : DataW.Trod enc Try.prog W 0 (fun _ => true) true 27 v d q) (hv : ∃ cs : Array Value, v = .agg cs) {ts : List TypeId} {ds : List (DataW H)} {j : Nat}
    (ht : ts[j]? = some 27) (hd : ds[j]? = some d) (hw : (DataW.weightsEach Try.prog ts ds).all (· ≤ reachBytes) = true) : ∃ (cs : List Value) (o : Ob), v = .agg cs.toArray ∧ ObAt W.heap.size W o cs := by
  obtain ⟨cs, rfl⟩ := hv
  obtain ⟨fuel, hf⟩ := h
  obtain ⟨u, hu⟩ := open_Ob fuel _ _ hf (fun n hn => by
    have := List.all_eq_true.1 hw _ (DataW.weights_mem_each ht hd n hn)
    simpa using this)
  exact ⟨cs.toList, u, by simp, by simpa [Value.cells] using hu⟩
/-- objects that are an argument -/
theorem open_objects {v : Value} {d : DataW H} {q : List MemPlace} (h : DataW.Trod enc Try.prog W 0 (fun _ => true) true 47 v d q) (hv : ∃ a n c, v = .slice a n c) {ts : List TypeId} {ds : List (DataW H)} {j : Nat}
    (ht : ts[j]? = some 47) (hd : ds[j]? = some d) (hw : (DataW.weightsEach Try.prog ts ds).all (· ≤ reachBytes) = true) : ∃ (l : List Ob), SlB W.heap.size W 7 (ObAt W.heap.size W) l v := by
  obtain ⟨a, n, c, rfl⟩ := hv
  obtain ⟨fuel, hf⟩ := h
  obtain ⟨l, v, e, s⟩ := op_slice (E := ObAt W.heap.size W) Try.underlying47 (n := 7) (by kernel_rfl) (of_decide_eq_true (by kernel_rfl)) (by omega) (show Tr enc W fuel 47 _ _ from hf) (fun n hn => by have := List.all_eq_true.1 hw _ (DataW.weights_mem_each ht hd n hn); simpa using this) (fun f cs y hf hy hwy => open_Ob f cs y hy hwy)
  simp [Value.cells] at e
  rw [e]; exact ⟨l, s⟩
/-- strings that are an argument -/
theorem open_strings {v : Value} {d : DataW H} {q : List MemPlace} (h : DataW.Trod enc Try.prog W 0 (fun _ => true) true 48 v d q) (hv : ∃ a n c, v = .slice a n c) {ts : List TypeId} {ds : List (DataW H)} {j : Nat}
    (ht : ts[j]? = some 48) (hd : ds[j]? = some d) (hw : (DataW.weightsEach Try.prog ts ds).all (· ≤ reachBytes) = true) : ∃ (l : List ByteArray), SlB W.heap.size W 1 StrAt l v := by
  obtain ⟨a, n, c, rfl⟩ := hv
  obtain ⟨fuel, hf⟩ := h
  obtain ⟨l, v, e, s⟩ := op_slice (E := StrAt) Try.underlying48 (n := 1) (by kernel_rfl) (of_decide_eq_true (by kernel_rfl)) (by omega) (show Tr enc W fuel 48 _ _ from hf) (fun n hn => by have := List.all_eq_true.1 hw _ (DataW.weights_mem_each ht hd n hn); simpa using this) (fun f cs y hf hy hwy => open_Str f cs y hy hwy)
  simp [Value.cells] at e
  rw [e]; exact ⟨l, s⟩
end
end Go.Proofs.Ytfdjlicegfgodaa
