/- An argument of structs, slices, strings and numbers, read out of memory. -/
import Derived.Test.YtpopgnengimieaaData
import Derived.Test.YtpopgnengimieaaOpenBytes
import Derived.ProofKit
import Derived.OpenShut
import Derived.SizedLaws
namespace Go.Proofs.Ytpopgnengimieaa
open Go.ChangeShapes Go.WideShapes Go.ChangeAt Go.RowKit
set_option linter.unusedSimpArgs false
set_option linter.unusedVariables false

section
variable {H : Type} {enc : TypeId × Value → H} {W : World}
def Tr (enc : TypeId × Value → H) (W : World) (fuel : Nat) (t : TypeId) (cs : List Value) (x : DataW H × List MemPlace) : Prop := DataW.trod enc Try.prog W 0 (fun _ => true) true fuel t cs = some x
def Wt (t : TypeId) (d : DataW H) : Prop := ∀ n ∈ d.weights Try.prog t, n ≤ reachBytes
theorem reach_le : reachBytes ≤ 140737488355328 := by decide
theorem op_int {t : TypeId} {fuel : Nat} {cs : List Value} {x : DataW H × List MemPlace} (ht : Try.prog.underlying t = some (.int .i64)) (h : Tr enc W fuel t cs x) : ∃ z, cs = [.int .i64 z] ∧ I64 z := by
  obtain ⟨z, h1, _, h2⟩ := DataW.trod_int ht h
  exact ⟨z, h1, by simpa [Lit.wf, IntKind.min, IntKind.max, IntKind.signed, IntKind.bits, I64] using h2⟩
theorem op_bool {t : TypeId} {fuel : Nat} {cs : List Value} {x : DataW H × List MemPlace} (ht : Try.prog.underlying t = some .bool) (h : Tr enc W fuel t cs x) : ∃ z, cs = [.bool z] := by
  obtain ⟨z, h1, _⟩ := DataW.trod_bool ht h
  exact ⟨z, h1⟩
theorem op_str {t : TypeId} {fuel : Nat} {cs : List Value} {x : DataW H × List MemPlace} (ht : Try.prog.underlying t = some .string) (h : Tr enc W fuel t cs x) (hw : Wt t x.1) : ∃ s, cs = [.string s] ∧ Fits s := by
  obtain ⟨s, h1, rfl, _⟩ := DataW.trod_string ht h
  have := hw s.data.toList.length (by simp [DataW.weights])
  have e : s.data.toList.length = s.size := Array.length_toList
  rw [e] at this
  exact ⟨s, h1, Nat.le_trans this reach_le⟩
theorem mem_weightsAll {P : Program} {e : TypeId} {d : DataW H} {n : Nat} (hn : n ∈ d.weights P e) : ∀ {l : List (DataW H)}, d ∈ l → n ∈ DataW.weightsAll P e l
  | [], h => by cases h
  | a :: r, h => by
    simp only [DataW.weightsAll, List.mem_append]
    rcases List.mem_cons.1 h with rfl | h
    · exact .inl hn
    · exact .inr (mem_weightsAll hn h)
theorem add_at (b o i : Nat) : (⟨b, o, none⟩ : Addr).add i = ⟨b, o + i, none⟩ := by unfold Addr.add; split <;> simp_all
theorem cells_get {w : World} {a : Addr} {n : Nat} {cs : List Value} (h : w.cells? 0 a n = some cs) : cs.length = n ∧ ∀ j, j < n → w.cell? (a.add j) = cs[j]? := by
  unfold World.cells? at h
  rw [if_pos (Nat.zero_le _)] at h
  have hl : cs.length = n := by simpa using mapM_some_length h
  exact ⟨hl, fun j hj => mapM_some_get h j j (by simp [hj])⟩
theorem op_slice {α : Type} {E : α → List Value → Prop} {t e : TypeId} {n : Nat} (ht : Try.prog.underlying t = some (.slice e)) (hc : Try.prog.cellsOf e = n) (hb : 1 ≤ Try.prog.bytesOf e) (hn : 0 < n) {fuel : Nat} {cs : List Value} {x : DataW H × List MemPlace} (h : Tr enc W fuel t cs x) (hw : Wt t x.1)
    (each : ∀ f cs y, f < fuel → Tr enc W f e cs y → Wt e y.1 → ∃ a, E a cs) : ∃ (l : List α) (v : Value), cs = [v] ∧ SlB W.heap.size W n E l v := by
  rcases DataW.trod_slice ht h with ⟨rfl, _⟩ | ⟨a, len, cap, elems, rest, m, rfl, rfl, rfl, _, hl, hm, hlen, hel, _, _⟩
  · exact ⟨[], _, rfl, none, 0, rfl, by simp, fun h => absurd rfl h⟩
  · have hsz : len ≤ 140737488355328 := by
      have h1 := hw (((elems.map (·.1)).length + (rest.map (·.1)).length) * Try.prog.bytesOf e) (by simp [DataW.weights, ht])
      simp only [List.length_map, hlen] at h1
      have h2 : len * 1 ≤ (len + rest.length) * Try.prog.bytesOf e := Nat.mul_le_mul (by omega) hb
      have := reach_le
      omega
    rw [hc] at hel
    have key : ∀ i : Fin len, ∃ (xv : α) (cv : List Value), cv.length = n ∧ (∀ j, j < n → W.cell? ((a.add (i.1 * n)).add j) = cv[j]?) ∧ E xv cv := by
      rintro ⟨i, hi⟩
      have h1 := hel i hi
      have hi' : i < elems.length := by omega
      rw [List.getElem?_eq_getElem hi'] at h1
      obtain ⟨cv, h2, h3⟩ := Option.bind_eq_some_iff.1 h1
      obtain ⟨h4, h5⟩ := cells_get h2
      obtain ⟨xv, hx⟩ := each m cv elems[i] (by omega) h3 (fun q hq => hw q (by
        simp only [DataW.weights, ht, List.mem_cons, List.mem_append]
        exact .inr (.inl (mem_weightsAll hq (List.mem_map.2 ⟨_, List.getElem_mem hi', rfl⟩)))))
      exact ⟨xv, cv, h4, h5, hx⟩
    let f : Fin len → α := fun i => Classical.choose (key i)
    have hf : ∀ i, ∃ (cv : List Value), cv.length = n ∧ (∀ j, j < n → W.cell? ((a.add (i.1 * n)).add j) = cv[j]?) ∧ E (f i) cv := fun i => Classical.choose_spec (key i)
    refine ⟨List.ofFn f, _, rfl, some a, cap, by simp, by simpa using hsz, fun hne => ?_⟩
    have hpos : 0 < len := by
      rcases Nat.eq_zero_or_pos len with h0 | h0
      · exact absurd (List.length_eq_zero_iff.1 (by simpa using h0)) hne
      · exact h0
    obtain ⟨b, o, s⟩ := a
    have hs : s = none ∧ b < W.heap.size := by
      obtain ⟨cv, h1, h2, _⟩ := hf ⟨0, hpos⟩
      have h3 := h2 0 hn
      rw [List.getElem?_eq_getElem (by omega)] at h3
      have h4 := World.cell?_spot h3
      have h5 := World.block_lt_of_cell? W _ h3
      cases s with
      | none => exact ⟨rfl, by simpa [Addr.add] using h5⟩
      | some q => simp [Addr.add] at h4
    obtain ⟨rfl, hbl⟩ := hs
    refine ⟨b, o, rfl, hbl, fun i hi => ?_⟩
    have hi' : i < len := by simpa using hi
    obtain ⟨cv, h1, h2, h3⟩ := hf ⟨i, hi'⟩
    refine ⟨cv, h1, fun j hj => ?_, by simpa using h3⟩
    have := h2 j (by omega)
    rw [add_at, add_at] at this
    exact this

set_option maxRecDepth 100000 in
theorem parts_Ty {fuel : Nat} {cs : List Value} {x : DataW H × List MemPlace} (h : Tr enc W fuel 41 cs x) (hw : Wt 41 x.1) :
    ∃ (n : Nat) (c0 c1 c2 c3 c4 : Value) (y0 y1 y2 y3 y4 : DataW H × List MemPlace), fuel = n + 1 ∧ cs = [c0, c1, c2, c3, c4] ∧ Tr enc W n 3 [c0] y0 ∧ Wt 3 y0.1 ∧ Tr enc W n 9 [c1] y1 ∧ Wt 9 y1.1 ∧ Tr enc W n 9 [c2] y2 ∧ Wt 9 y2.1 ∧ Tr enc W n 39 [c3] y3 ∧ Wt 39 y3.1 ∧ Tr enc W n 39 [c4] y4 ∧ Wt 39 y4.1 := by
  obtain ⟨xs, n, rfl, rfl, hl, hxl, hf⟩ := DataW.trod_struct Try.underlying41 h
  have hN : Try.prog.cellsOf 41 = 5 := by kernel_rfl
  rw [hN] at hl
  replace hxl : xs.length = 5 := hxl
  have f0 := hf 0 _ rfl
  have f1 := hf 1 _ rfl
  have f2 := hf 2 _ rfl
  have f3 := hf 3 _ rfl
  have f4 := hf 4 _ rfl
  clear hf
  match cs, hl with
  | [c0, c1, c2, c3, c4], _ =>
  match xs, hxl with
  | [y0, y1, y2, y3, y4], _ =>
  have e_apiType : Try.prog.cellsOf 39 = 1 := by kernel_rfl
  have e_int : Try.prog.cellsOf 3 = 1 := by kernel_rfl
  have e_string : Try.prog.cellsOf 9 = 1 := by kernel_rfl
  replace f0 : DataW.trod enc Try.prog W 0 (fun _ => true) true n 3 ((([c0, c1, c2, c3, c4] : List Value).drop 0).take (Try.prog.cellsOf 3)) = some y0 := f0
  rw [e_int] at f0
  replace f1 : DataW.trod enc Try.prog W 0 (fun _ => true) true n 9 ((([c0, c1, c2, c3, c4] : List Value).drop 1).take (Try.prog.cellsOf 9)) = some y1 := f1
  rw [e_string] at f1
  replace f2 : DataW.trod enc Try.prog W 0 (fun _ => true) true n 9 ((([c0, c1, c2, c3, c4] : List Value).drop 2).take (Try.prog.cellsOf 9)) = some y2 := f2
  rw [e_string] at f2
  replace f3 : DataW.trod enc Try.prog W 0 (fun _ => true) true n 39 ((([c0, c1, c2, c3, c4] : List Value).drop 3).take (Try.prog.cellsOf 39)) = some y3 := f3
  rw [e_apiType] at f3
  replace f4 : DataW.trod enc Try.prog W 0 (fun _ => true) true n 39 ((([c0, c1, c2, c3, c4] : List Value).drop 4).take (Try.prog.cellsOf 39)) = some y4 := f4
  rw [e_apiType] at f4
  have w0 : Wt 3 y0.1 := fun q hq => hw q (by
    simp only [DataW.weights, Try.underlying41]
    exact DataW.weights_mem_each (ts := [3, 9, 9, 39, 39]) (j := 0) rfl rfl q hq)
  have w1 : Wt 9 y1.1 := fun q hq => hw q (by
    simp only [DataW.weights, Try.underlying41]
    exact DataW.weights_mem_each (ts := [3, 9, 9, 39, 39]) (j := 1) rfl rfl q hq)
  have w2 : Wt 9 y2.1 := fun q hq => hw q (by
    simp only [DataW.weights, Try.underlying41]
    exact DataW.weights_mem_each (ts := [3, 9, 9, 39, 39]) (j := 2) rfl rfl q hq)
  have w3 : Wt 39 y3.1 := fun q hq => hw q (by
    simp only [DataW.weights, Try.underlying41]
    exact DataW.weights_mem_each (ts := [3, 9, 9, 39, 39]) (j := 3) rfl rfl q hq)
  have w4 : Wt 39 y4.1 := fun q hq => hw q (by
    simp only [DataW.weights, Try.underlying41]
    exact DataW.weights_mem_each (ts := [3, 9, 9, 39, 39]) (j := 4) rfl rfl q hq)
  exact ⟨n, c0, c1, c2, c3, c4, y0, y1, y2, y3, y4, rfl, rfl, f0, w0, f1, w1, f2, w2, f3, w3, f4, w4⟩
set_option maxRecDepth 100000 in
theorem parts_Ex {fuel : Nat} {cs : List Value} {x : DataW H × List MemPlace} (h : Tr enc W fuel 132 cs x) (hw : Wt 132 x.1) :
    ∃ (n : Nat) (c0 c1 c2 c3 : Value) (y0 y1 y2 y3 : DataW H × List MemPlace), fuel = n + 1 ∧ cs = [c0, c1, c2, c3] ∧ Tr enc W n 3 [c0] y0 ∧ Wt 3 y0.1 ∧ Tr enc W n 2 [c1] y1 ∧ Wt 2 y1.1 ∧ Tr enc W n 9 [c2] y2 ∧ Wt 9 y2.1 ∧ Tr enc W n 99 [c3] y3 ∧ Wt 99 y3.1 := by
  obtain ⟨xs, n, rfl, rfl, hl, hxl, hf⟩ := DataW.trod_struct Try.underlying132 h
  have hN : Try.prog.cellsOf 132 = 4 := by kernel_rfl
  rw [hN] at hl
  replace hxl : xs.length = 4 := hxl
  have f0 := hf 0 _ rfl
  have f1 := hf 1 _ rfl
  have f2 := hf 2 _ rfl
  have f3 := hf 3 _ rfl
  clear hf
  match cs, hl with
  | [c0, c1, c2, c3], _ =>
  match xs, hxl with
  | [y0, y1, y2, y3], _ =>
  have e_apiMExpr : Try.prog.cellsOf 99 = 1 := by kernel_rfl
  have e_int : Try.prog.cellsOf 3 = 1 := by kernel_rfl
  have e_int64 : Try.prog.cellsOf 2 = 1 := by kernel_rfl
  have e_string : Try.prog.cellsOf 9 = 1 := by kernel_rfl
  replace f0 : DataW.trod enc Try.prog W 0 (fun _ => true) true n 3 ((([c0, c1, c2, c3] : List Value).drop 0).take (Try.prog.cellsOf 3)) = some y0 := f0
  rw [e_int] at f0
  replace f1 : DataW.trod enc Try.prog W 0 (fun _ => true) true n 2 ((([c0, c1, c2, c3] : List Value).drop 1).take (Try.prog.cellsOf 2)) = some y1 := f1
  rw [e_int64] at f1
  replace f2 : DataW.trod enc Try.prog W 0 (fun _ => true) true n 9 ((([c0, c1, c2, c3] : List Value).drop 2).take (Try.prog.cellsOf 9)) = some y2 := f2
  rw [e_string] at f2
  replace f3 : DataW.trod enc Try.prog W 0 (fun _ => true) true n 99 ((([c0, c1, c2, c3] : List Value).drop 3).take (Try.prog.cellsOf 99)) = some y3 := f3
  rw [e_apiMExpr] at f3
  have w0 : Wt 3 y0.1 := fun q hq => hw q (by
    simp only [DataW.weights, Try.underlying132]
    exact DataW.weights_mem_each (ts := [3, 2, 9, 99]) (j := 0) rfl rfl q hq)
  have w1 : Wt 2 y1.1 := fun q hq => hw q (by
    simp only [DataW.weights, Try.underlying132]
    exact DataW.weights_mem_each (ts := [3, 2, 9, 99]) (j := 1) rfl rfl q hq)
  have w2 : Wt 9 y2.1 := fun q hq => hw q (by
    simp only [DataW.weights, Try.underlying132]
    exact DataW.weights_mem_each (ts := [3, 2, 9, 99]) (j := 2) rfl rfl q hq)
  have w3 : Wt 99 y3.1 := fun q hq => hw q (by
    simp only [DataW.weights, Try.underlying132]
    exact DataW.weights_mem_each (ts := [3, 2, 9, 99]) (j := 3) rfl rfl q hq)
  exact ⟨n, c0, c1, c2, c3, y0, y1, y2, y3, rfl, rfl, f0, w0, f1, w1, f2, w2, f3, w3⟩
set_option maxRecDepth 100000 in
theorem parts_St {fuel : Nat} {cs : List Value} {x : DataW H × List MemPlace} (h : Tr enc W fuel 101 cs x) (hw : Wt 101 x.1) :
    ∃ (n : Nat) (c0 c1 c2 c3 c4 : Value) (y0 y1 y2 y3 y4 : DataW H × List MemPlace), fuel = n + 1 ∧ cs = [c0, c1, c2, c3, c4] ∧ Tr enc W n 3 [c0] y0 ∧ Wt 3 y0.1 ∧ Tr enc W n 2 [c1] y1 ∧ Wt 2 y1.1 ∧ Tr enc W n 99 [c2] y2 ∧ Wt 99 y2.1 ∧ Tr enc W n 65 [c3] y3 ∧ Wt 65 y3.1 ∧ Tr enc W n 65 [c4] y4 ∧ Wt 65 y4.1 := by
  obtain ⟨xs, n, rfl, rfl, hl, hxl, hf⟩ := DataW.trod_struct Try.underlying101 h
  have hN : Try.prog.cellsOf 101 = 5 := by kernel_rfl
  rw [hN] at hl
  replace hxl : xs.length = 5 := hxl
  have f0 := hf 0 _ rfl
  have f1 := hf 1 _ rfl
  have f2 := hf 2 _ rfl
  have f3 := hf 3 _ rfl
  have f4 := hf 4 _ rfl
  clear hf
  match cs, hl with
  | [c0, c1, c2, c3, c4], _ =>
  match xs, hxl with
  | [y0, y1, y2, y3, y4], _ =>
  have e_apiMExpr : Try.prog.cellsOf 99 = 1 := by kernel_rfl
  have e_apiMStat : Try.prog.cellsOf 65 = 1 := by kernel_rfl
  have e_int : Try.prog.cellsOf 3 = 1 := by kernel_rfl
  have e_int64 : Try.prog.cellsOf 2 = 1 := by kernel_rfl
  replace f0 : DataW.trod enc Try.prog W 0 (fun _ => true) true n 3 ((([c0, c1, c2, c3, c4] : List Value).drop 0).take (Try.prog.cellsOf 3)) = some y0 := f0
  rw [e_int] at f0
  replace f1 : DataW.trod enc Try.prog W 0 (fun _ => true) true n 2 ((([c0, c1, c2, c3, c4] : List Value).drop 1).take (Try.prog.cellsOf 2)) = some y1 := f1
  rw [e_int64] at f1
  replace f2 : DataW.trod enc Try.prog W 0 (fun _ => true) true n 99 ((([c0, c1, c2, c3, c4] : List Value).drop 2).take (Try.prog.cellsOf 99)) = some y2 := f2
  rw [e_apiMExpr] at f2
  replace f3 : DataW.trod enc Try.prog W 0 (fun _ => true) true n 65 ((([c0, c1, c2, c3, c4] : List Value).drop 3).take (Try.prog.cellsOf 65)) = some y3 := f3
  rw [e_apiMStat] at f3
  replace f4 : DataW.trod enc Try.prog W 0 (fun _ => true) true n 65 ((([c0, c1, c2, c3, c4] : List Value).drop 4).take (Try.prog.cellsOf 65)) = some y4 := f4
  rw [e_apiMStat] at f4
  have w0 : Wt 3 y0.1 := fun q hq => hw q (by
    simp only [DataW.weights, Try.underlying101]
    exact DataW.weights_mem_each (ts := [3, 2, 99, 65, 65]) (j := 0) rfl rfl q hq)
  have w1 : Wt 2 y1.1 := fun q hq => hw q (by
    simp only [DataW.weights, Try.underlying101]
    exact DataW.weights_mem_each (ts := [3, 2, 99, 65, 65]) (j := 1) rfl rfl q hq)
  have w2 : Wt 99 y2.1 := fun q hq => hw q (by
    simp only [DataW.weights, Try.underlying101]
    exact DataW.weights_mem_each (ts := [3, 2, 99, 65, 65]) (j := 2) rfl rfl q hq)
  have w3 : Wt 65 y3.1 := fun q hq => hw q (by
    simp only [DataW.weights, Try.underlying101]
    exact DataW.weights_mem_each (ts := [3, 2, 99, 65, 65]) (j := 3) rfl rfl q hq)
  have w4 : Wt 65 y4.1 := fun q hq => hw q (by
    simp only [DataW.weights, Try.underlying101]
    exact DataW.weights_mem_each (ts := [3, 2, 99, 65, 65]) (j := 4) rfl rfl q hq)
  exact ⟨n, c0, c1, c2, c3, c4, y0, y1, y2, y3, y4, rfl, rfl, f0, w0, f1, w1, f2, w2, f3, w3, f4, w4⟩
set_option maxRecDepth 100000 in
theorem parts_Fd {fuel : Nat} {cs : List Value} {x : DataW H × List MemPlace} (h : Tr enc W fuel 93 cs x) (hw : Wt 93 x.1) :
    ∃ (n : Nat) (c0 c1 c2 c3 c4 c5 : Value) (y0 y1 : DataW H × List MemPlace), fuel = n + 1 ∧ cs = [c0, c1, c2, c3, c4, c5] ∧ Tr enc W n 9 [c0] y0 ∧ Wt 9 y0.1 ∧ Tr enc W n 41 [c1, c2, c3, c4, c5] y1 ∧ Wt 41 y1.1 := by
  obtain ⟨xs, n, rfl, rfl, hl, hxl, hf⟩ := DataW.trod_struct Try.underlying93 h
  have hN : Try.prog.cellsOf 93 = 6 := by kernel_rfl
  rw [hN] at hl
  replace hxl : xs.length = 2 := hxl
  have f0 := hf 0 _ rfl
  have f1 := hf 1 _ rfl
  clear hf
  match cs, hl with
  | [c0, c1, c2, c3, c4, c5], _ =>
  match xs, hxl with
  | [y0, y1], _ =>
  have e_apiType : Try.prog.cellsOf 41 = 5 := by kernel_rfl
  have e_string : Try.prog.cellsOf 9 = 1 := by kernel_rfl
  replace f0 : DataW.trod enc Try.prog W 0 (fun _ => true) true n 9 ((([c0, c1, c2, c3, c4, c5] : List Value).drop 0).take (Try.prog.cellsOf 9)) = some y0 := f0
  rw [e_string] at f0
  replace f1 : DataW.trod enc Try.prog W 0 (fun _ => true) true n 41 ((([c0, c1, c2, c3, c4, c5] : List Value).drop 1).take (Try.prog.cellsOf 41)) = some y1 := f1
  rw [e_apiType] at f1
  have w0 : Wt 9 y0.1 := fun q hq => hw q (by
    simp only [DataW.weights, Try.underlying93]
    exact DataW.weights_mem_each (ts := [9, 41]) (j := 0) rfl rfl q hq)
  have w1 : Wt 41 y1.1 := fun q hq => hw q (by
    simp only [DataW.weights, Try.underlying93]
    exact DataW.weights_mem_each (ts := [9, 41]) (j := 1) rfl rfl q hq)
  exact ⟨n, c0, c1, c2, c3, c4, c5, y0, y1, rfl, rfl, f0, w0, f1, w1⟩
set_option maxRecDepth 100000 in
theorem parts_Im {fuel : Nat} {cs : List Value} {x : DataW H × List MemPlace} (h : Tr enc W fuel 58 cs x) (hw : Wt 58 x.1) :
    ∃ (n : Nat) (c0 c1 : Value) (y0 y1 : DataW H × List MemPlace), fuel = n + 1 ∧ cs = [c0, c1] ∧ Tr enc W n 9 [c0] y0 ∧ Wt 9 y0.1 ∧ Tr enc W n 2 [c1] y1 ∧ Wt 2 y1.1 := by
  obtain ⟨xs, n, rfl, rfl, hl, hxl, hf⟩ := DataW.trod_struct Try.underlying58 h
  have hN : Try.prog.cellsOf 58 = 2 := by kernel_rfl
  rw [hN] at hl
  replace hxl : xs.length = 2 := hxl
  have f0 := hf 0 _ rfl
  have f1 := hf 1 _ rfl
  clear hf
  match cs, hl with
  | [c0, c1], _ =>
  match xs, hxl with
  | [y0, y1], _ =>
  have e_int64 : Try.prog.cellsOf 2 = 1 := by kernel_rfl
  have e_string : Try.prog.cellsOf 9 = 1 := by kernel_rfl
  replace f0 : DataW.trod enc Try.prog W 0 (fun _ => true) true n 9 ((([c0, c1] : List Value).drop 0).take (Try.prog.cellsOf 9)) = some y0 := f0
  rw [e_string] at f0
  replace f1 : DataW.trod enc Try.prog W 0 (fun _ => true) true n 2 ((([c0, c1] : List Value).drop 1).take (Try.prog.cellsOf 2)) = some y1 := f1
  rw [e_int64] at f1
  have w0 : Wt 9 y0.1 := fun q hq => hw q (by
    simp only [DataW.weights, Try.underlying58]
    exact DataW.weights_mem_each (ts := [9, 2]) (j := 0) rfl rfl q hq)
  have w1 : Wt 2 y1.1 := fun q hq => hw q (by
    simp only [DataW.weights, Try.underlying58]
    exact DataW.weights_mem_each (ts := [9, 2]) (j := 1) rfl rfl q hq)
  exact ⟨n, c0, c1, y0, y1, rfl, rfl, f0, w0, f1, w1⟩
set_option maxRecDepth 100000 in
theorem parts_De {fuel : Nat} {cs : List Value} {x : DataW H × List MemPlace} (h : Tr enc W fuel 44 cs x) (hw : Wt 44 x.1) :
    ∃ (n : Nat) (c0 c1 c2 c3 c4 c5 c6 c7 c8 c9 : Value) (y0 y1 y2 y3 y4 y5 : DataW H × List MemPlace), fuel = n + 1 ∧ cs = [c0, c1, c2, c3, c4, c5, c6, c7, c8, c9] ∧ Tr enc W n 3 [c0] y0 ∧ Wt 3 y0.1 ∧ Tr enc W n 9 [c1] y1 ∧ Wt 9 y1.1 ∧ Tr enc W n 9 [c2] y2 ∧ Wt 9 y2.1 ∧ Tr enc W n 2 [c3] y3 ∧ Wt 2 y3.1 ∧ Tr enc W n 41 [c4, c5, c6, c7, c8] y4 ∧ Wt 41 y4.1 ∧ Tr enc W n 42 [c9] y5 ∧ Wt 42 y5.1 := by
  obtain ⟨xs, n, rfl, rfl, hl, hxl, hf⟩ := DataW.trod_struct Try.underlying44 h
  have hN : Try.prog.cellsOf 44 = 10 := by kernel_rfl
  rw [hN] at hl
  replace hxl : xs.length = 6 := hxl
  have f0 := hf 0 _ rfl
  have f1 := hf 1 _ rfl
  have f2 := hf 2 _ rfl
  have f3 := hf 3 _ rfl
  have f4 := hf 4 _ rfl
  have f5 := hf 5 _ rfl
  clear hf
  match cs, hl with
  | [c0, c1, c2, c3, c4, c5, c6, c7, c8, c9], _ =>
  match xs, hxl with
  | [y0, y1, y2, y3, y4, y5], _ =>
  have e_apiField : Try.prog.cellsOf 42 = 1 := by kernel_rfl
  have e_apiType : Try.prog.cellsOf 41 = 5 := by kernel_rfl
  have e_int : Try.prog.cellsOf 3 = 1 := by kernel_rfl
  have e_int64 : Try.prog.cellsOf 2 = 1 := by kernel_rfl
  have e_string : Try.prog.cellsOf 9 = 1 := by kernel_rfl
  replace f0 : DataW.trod enc Try.prog W 0 (fun _ => true) true n 3 ((([c0, c1, c2, c3, c4, c5, c6, c7, c8, c9] : List Value).drop 0).take (Try.prog.cellsOf 3)) = some y0 := f0
  rw [e_int] at f0
  replace f1 : DataW.trod enc Try.prog W 0 (fun _ => true) true n 9 ((([c0, c1, c2, c3, c4, c5, c6, c7, c8, c9] : List Value).drop 1).take (Try.prog.cellsOf 9)) = some y1 := f1
  rw [e_string] at f1
  replace f2 : DataW.trod enc Try.prog W 0 (fun _ => true) true n 9 ((([c0, c1, c2, c3, c4, c5, c6, c7, c8, c9] : List Value).drop 2).take (Try.prog.cellsOf 9)) = some y2 := f2
  rw [e_string] at f2
  replace f3 : DataW.trod enc Try.prog W 0 (fun _ => true) true n 2 ((([c0, c1, c2, c3, c4, c5, c6, c7, c8, c9] : List Value).drop 3).take (Try.prog.cellsOf 2)) = some y3 := f3
  rw [e_int64] at f3
  replace f4 : DataW.trod enc Try.prog W 0 (fun _ => true) true n 41 ((([c0, c1, c2, c3, c4, c5, c6, c7, c8, c9] : List Value).drop 4).take (Try.prog.cellsOf 41)) = some y4 := f4
  rw [e_apiType] at f4
  replace f5 : DataW.trod enc Try.prog W 0 (fun _ => true) true n 42 ((([c0, c1, c2, c3, c4, c5, c6, c7, c8, c9] : List Value).drop 9).take (Try.prog.cellsOf 42)) = some y5 := f5
  rw [e_apiField] at f5
  have w0 : Wt 3 y0.1 := fun q hq => hw q (by
    simp only [DataW.weights, Try.underlying44]
    exact DataW.weights_mem_each (ts := [3, 9, 9, 2, 41, 42]) (j := 0) rfl rfl q hq)
  have w1 : Wt 9 y1.1 := fun q hq => hw q (by
    simp only [DataW.weights, Try.underlying44]
    exact DataW.weights_mem_each (ts := [3, 9, 9, 2, 41, 42]) (j := 1) rfl rfl q hq)
  have w2 : Wt 9 y2.1 := fun q hq => hw q (by
    simp only [DataW.weights, Try.underlying44]
    exact DataW.weights_mem_each (ts := [3, 9, 9, 2, 41, 42]) (j := 2) rfl rfl q hq)
  have w3 : Wt 2 y3.1 := fun q hq => hw q (by
    simp only [DataW.weights, Try.underlying44]
    exact DataW.weights_mem_each (ts := [3, 9, 9, 2, 41, 42]) (j := 3) rfl rfl q hq)
  have w4 : Wt 41 y4.1 := fun q hq => hw q (by
    simp only [DataW.weights, Try.underlying44]
    exact DataW.weights_mem_each (ts := [3, 9, 9, 2, 41, 42]) (j := 4) rfl rfl q hq)
  have w5 : Wt 42 y5.1 := fun q hq => hw q (by
    simp only [DataW.weights, Try.underlying44]
    exact DataW.weights_mem_each (ts := [3, 9, 9, 2, 41, 42]) (j := 5) rfl rfl q hq)
  exact ⟨n, c0, c1, c2, c3, c4, c5, c6, c7, c8, c9, y0, y1, y2, y3, y4, y5, rfl, rfl, f0, w0, f1, w1, f2, w2, f3, w3, f4, w4, f5, w5⟩
set_option maxRecDepth 100000 in
theorem parts_Fn {fuel : Nat} {cs : List Value} {x : DataW H × List MemPlace} (h : Tr enc W fuel 67 cs x) (hw : Wt 67 x.1) :
    ∃ (n : Nat) (c0 c1 c2 c3 c4 : Value) (y0 y1 y2 y3 y4 : DataW H × List MemPlace), fuel = n + 1 ∧ cs = [c0, c1, c2, c3, c4] ∧ Tr enc W n 9 [c0] y0 ∧ Wt 9 y0.1 ∧ Tr enc W n 4 [c1] y1 ∧ Wt 4 y1.1 ∧ Tr enc W n 3 [c2] y2 ∧ Wt 3 y2.1 ∧ Tr enc W n 3 [c3] y3 ∧ Wt 3 y3.1 ∧ Tr enc W n 65 [c4] y4 ∧ Wt 65 y4.1 := by
  obtain ⟨xs, n, rfl, rfl, hl, hxl, hf⟩ := DataW.trod_struct Try.underlying67 h
  have hN : Try.prog.cellsOf 67 = 5 := by kernel_rfl
  rw [hN] at hl
  replace hxl : xs.length = 5 := hxl
  have f0 := hf 0 _ rfl
  have f1 := hf 1 _ rfl
  have f2 := hf 2 _ rfl
  have f3 := hf 3 _ rfl
  have f4 := hf 4 _ rfl
  clear hf
  match cs, hl with
  | [c0, c1, c2, c3, c4], _ =>
  match xs, hxl with
  | [y0, y1, y2, y3, y4], _ =>
  have e_apiMStat : Try.prog.cellsOf 65 = 1 := by kernel_rfl
  have e_bool : Try.prog.cellsOf 4 = 1 := by kernel_rfl
  have e_int : Try.prog.cellsOf 3 = 1 := by kernel_rfl
  have e_string : Try.prog.cellsOf 9 = 1 := by kernel_rfl
  replace f0 : DataW.trod enc Try.prog W 0 (fun _ => true) true n 9 ((([c0, c1, c2, c3, c4] : List Value).drop 0).take (Try.prog.cellsOf 9)) = some y0 := f0
  rw [e_string] at f0
  replace f1 : DataW.trod enc Try.prog W 0 (fun _ => true) true n 4 ((([c0, c1, c2, c3, c4] : List Value).drop 1).take (Try.prog.cellsOf 4)) = some y1 := f1
  rw [e_bool] at f1
  replace f2 : DataW.trod enc Try.prog W 0 (fun _ => true) true n 3 ((([c0, c1, c2, c3, c4] : List Value).drop 2).take (Try.prog.cellsOf 3)) = some y2 := f2
  rw [e_int] at f2
  replace f3 : DataW.trod enc Try.prog W 0 (fun _ => true) true n 3 ((([c0, c1, c2, c3, c4] : List Value).drop 3).take (Try.prog.cellsOf 3)) = some y3 := f3
  rw [e_int] at f3
  replace f4 : DataW.trod enc Try.prog W 0 (fun _ => true) true n 65 ((([c0, c1, c2, c3, c4] : List Value).drop 4).take (Try.prog.cellsOf 65)) = some y4 := f4
  rw [e_apiMStat] at f4
  have w0 : Wt 9 y0.1 := fun q hq => hw q (by
    simp only [DataW.weights, Try.underlying67]
    exact DataW.weights_mem_each (ts := [9, 4, 3, 3, 65]) (j := 0) rfl rfl q hq)
  have w1 : Wt 4 y1.1 := fun q hq => hw q (by
    simp only [DataW.weights, Try.underlying67]
    exact DataW.weights_mem_each (ts := [9, 4, 3, 3, 65]) (j := 1) rfl rfl q hq)
  have w2 : Wt 3 y2.1 := fun q hq => hw q (by
    simp only [DataW.weights, Try.underlying67]
    exact DataW.weights_mem_each (ts := [9, 4, 3, 3, 65]) (j := 2) rfl rfl q hq)
  have w3 : Wt 3 y3.1 := fun q hq => hw q (by
    simp only [DataW.weights, Try.underlying67]
    exact DataW.weights_mem_each (ts := [9, 4, 3, 3, 65]) (j := 3) rfl rfl q hq)
  have w4 : Wt 65 y4.1 := fun q hq => hw q (by
    simp only [DataW.weights, Try.underlying67]
    exact DataW.weights_mem_each (ts := [9, 4, 3, 3, 65]) (j := 4) rfl rfl q hq)
  exact ⟨n, c0, c1, c2, c3, c4, y0, y1, y2, y3, y4, rfl, rfl, f0, w0, f1, w1, f2, w2, f3, w3, f4, w4⟩
set_option maxRecDepth 100000 in
theorem parts_Un {fuel : Nat} {cs : List Value} {x : DataW H × List MemPlace} (h : Tr enc W fuel 30 cs x) (hw : Wt 30 x.1) :
    ∃ (n : Nat) (c0 c1 c2 c3 : Value) (y0 y1 y2 y3 : DataW H × List MemPlace), fuel = n + 1 ∧ cs = [c0, c1, c2, c3] ∧ Tr enc W n 9 [c0] y0 ∧ Wt 9 y0.1 ∧ Tr enc W n 26 [c1] y1 ∧ Wt 26 y1.1 ∧ Tr enc W n 27 [c2] y2 ∧ Wt 27 y2.1 ∧ Tr enc W n 28 [c3] y3 ∧ Wt 28 y3.1 := by
  obtain ⟨xs, n, rfl, rfl, hl, hxl, hf⟩ := DataW.trod_struct Try.underlying30 h
  have hN : Try.prog.cellsOf 30 = 4 := by kernel_rfl
  rw [hN] at hl
  replace hxl : xs.length = 4 := hxl
  have f0 := hf 0 _ rfl
  have f1 := hf 1 _ rfl
  have f2 := hf 2 _ rfl
  have f3 := hf 3 _ rfl
  clear hf
  match cs, hl with
  | [c0, c1, c2, c3], _ =>
  match xs, hxl with
  | [y0, y1, y2, y3], _ =>
  have e_apiDecl : Try.prog.cellsOf 27 = 1 := by kernel_rfl
  have e_apiImport : Try.prog.cellsOf 26 = 1 := by kernel_rfl
  have e_apiMFunc : Try.prog.cellsOf 28 = 1 := by kernel_rfl
  have e_string : Try.prog.cellsOf 9 = 1 := by kernel_rfl
  replace f0 : DataW.trod enc Try.prog W 0 (fun _ => true) true n 9 ((([c0, c1, c2, c3] : List Value).drop 0).take (Try.prog.cellsOf 9)) = some y0 := f0
  rw [e_string] at f0
  replace f1 : DataW.trod enc Try.prog W 0 (fun _ => true) true n 26 ((([c0, c1, c2, c3] : List Value).drop 1).take (Try.prog.cellsOf 26)) = some y1 := f1
  rw [e_apiImport] at f1
  replace f2 : DataW.trod enc Try.prog W 0 (fun _ => true) true n 27 ((([c0, c1, c2, c3] : List Value).drop 2).take (Try.prog.cellsOf 27)) = some y2 := f2
  rw [e_apiDecl] at f2
  replace f3 : DataW.trod enc Try.prog W 0 (fun _ => true) true n 28 ((([c0, c1, c2, c3] : List Value).drop 3).take (Try.prog.cellsOf 28)) = some y3 := f3
  rw [e_apiMFunc] at f3
  have w0 : Wt 9 y0.1 := fun q hq => hw q (by
    simp only [DataW.weights, Try.underlying30]
    exact DataW.weights_mem_each (ts := [9, 26, 27, 28]) (j := 0) rfl rfl q hq)
  have w1 : Wt 26 y1.1 := fun q hq => hw q (by
    simp only [DataW.weights, Try.underlying30]
    exact DataW.weights_mem_each (ts := [9, 26, 27, 28]) (j := 1) rfl rfl q hq)
  have w2 : Wt 27 y2.1 := fun q hq => hw q (by
    simp only [DataW.weights, Try.underlying30]
    exact DataW.weights_mem_each (ts := [9, 26, 27, 28]) (j := 2) rfl rfl q hq)
  have w3 : Wt 28 y3.1 := fun q hq => hw q (by
    simp only [DataW.weights, Try.underlying30]
    exact DataW.weights_mem_each (ts := [9, 26, 27, 28]) (j := 3) rfl rfl q hq)
  exact ⟨n, c0, c1, c2, c3, y0, y1, y2, y3, rfl, rfl, f0, w0, f1, w1, f2, w2, f3, w3⟩
theorem open_Ty : ∀ (fuel d : Nat), fuel ≤ d → ∀ (cs : List Value) (x : DataW H × List MemPlace), Tr enc W fuel 41 cs x → Wt 41 x.1 → ∃ a, TyAt W.heap.size W d a cs := by
  intro fuel
  induction fuel using Nat.strongRecOn with
  | _ fuel ih =>
    intro d hd cs x h hw
    obtain ⟨n, c0, c1, c2, c3, c4, y0, y1, y2, y3, y4, rfl, rfl, h0, w0, h1, w1, h2, w2, h3, w3, h4, w4⟩ := parts_Ty h hw
    match d, hd with
    | d + 1, hd =>
    obtain ⟨k, e0, b0⟩ := op_int Try.underlying3 h0
    obtain ⟨pk, e1, b1⟩ := op_str Try.underlying9 h1 w1
    obtain ⟨nm, e2, b2⟩ := op_str Try.underlying9 h2 w2
    obtain ⟨l3, v3, e3, s3⟩ := op_slice (E := TyAt W.heap.size W d) Try.underlying39 (n := 5) (by kernel_rfl) (of_decide_eq_true (by kernel_rfl)) (by omega) h3 w3 (fun f cs y hf hy hwy => ih f (by omega) d (by omega) cs y hy hwy)
    obtain ⟨l4, v4, e4, s4⟩ := op_slice (E := TyAt W.heap.size W d) Try.underlying39 (n := 5) (by kernel_rfl) (of_decide_eq_true (by kernel_rfl)) (by omega) h4 w4 (fun f cs y hf hy hwy => ih f (by omega) d (by omega) cs y hy hwy)
    cases e0; cases e1; cases e2; cases e3; cases e4
    exact ⟨.mk k pk nm l3 l4, _, _, rfl, b0, b1, b2, s3, s4⟩
theorem open_Ex : ∀ (fuel d : Nat), fuel ≤ d → ∀ (cs : List Value) (x : DataW H × List MemPlace), Tr enc W fuel 132 cs x → Wt 132 x.1 → ∃ a, ExAt W.heap.size W d a cs := by
  intro fuel
  induction fuel using Nat.strongRecOn with
  | _ fuel ih =>
    intro d hd cs x h hw
    obtain ⟨n, c0, c1, c2, c3, y0, y1, y2, y3, rfl, rfl, h0, w0, h1, w1, h2, w2, h3, w3⟩ := parts_Ex h hw
    match d, hd with
    | d + 1, hd =>
    obtain ⟨k, e0, b0⟩ := op_int Try.underlying3 h0
    obtain ⟨v, e1, b1⟩ := op_int Try.underlying2 h1
    obtain ⟨nm, e2, b2⟩ := op_str Try.underlying9 h2 w2
    obtain ⟨l3, v3, e3, s3⟩ := op_slice (E := ExAt W.heap.size W d) Try.underlying99 (n := 4) (by kernel_rfl) (of_decide_eq_true (by kernel_rfl)) (by omega) h3 w3 (fun f cs y hf hy hwy => ih f (by omega) d (by omega) cs y hy hwy)
    cases e0; cases e1; cases e2; cases e3
    exact ⟨.mk k v nm l3, _, rfl, b0, b1, b2, s3⟩
theorem open_St : ∀ (fuel d : Nat), fuel ≤ d → ∀ (cs : List Value) (x : DataW H × List MemPlace), Tr enc W fuel 101 cs x → Wt 101 x.1 → ∃ a, StAt W.heap.size W d a cs := by
  intro fuel
  induction fuel using Nat.strongRecOn with
  | _ fuel ih =>
    intro d hd cs x h hw
    obtain ⟨n, c0, c1, c2, c3, c4, y0, y1, y2, y3, y4, rfl, rfl, h0, w0, h1, w1, h2, w2, h3, w3, h4, w4⟩ := parts_St h hw
    match d, hd with
    | d + 1, hd =>
    obtain ⟨k, e0, b0⟩ := op_int Try.underlying3 h0
    obtain ⟨v, e1, b1⟩ := op_int Try.underlying2 h1
    obtain ⟨l2, v2, e2, s2⟩ := op_slice (E := ExAt W.heap.size W d) Try.underlying99 (n := 4) (by kernel_rfl) (of_decide_eq_true (by kernel_rfl)) (by omega) h2 w2 (fun f cs y hf hy hwy => open_Ex f d (by omega) cs y hy hwy)
    obtain ⟨l3, v3, e3, s3⟩ := op_slice (E := StAt W.heap.size W d) Try.underlying65 (n := 5) (by kernel_rfl) (of_decide_eq_true (by kernel_rfl)) (by omega) h3 w3 (fun f cs y hf hy hwy => ih f (by omega) d (by omega) cs y hy hwy)
    obtain ⟨l4, v4, e4, s4⟩ := op_slice (E := StAt W.heap.size W d) Try.underlying65 (n := 5) (by kernel_rfl) (of_decide_eq_true (by kernel_rfl)) (by omega) h4 w4 (fun f cs y hf hy hwy => ih f (by omega) d (by omega) cs y hy hwy)
    cases e0; cases e1; cases e2; cases e3; cases e4
    exact ⟨.mk k v l2 l3 l4, _, _, _, rfl, b0, b1, s2, s3, s4⟩
theorem open_Fd (fuel d : Nat) (hd : fuel ≤ d) (cs : List Value) (x : DataW H × List MemPlace) (h : Tr enc W fuel 93 cs x) (hw : Wt 93 x.1) : ∃ a, FdAt W.heap.size W d a cs := by
  obtain ⟨n, c0, c1, c2, c3, c4, c5, y0, y1, rfl, rfl, h0, w0, h1, w1⟩ := parts_Fd h hw
  obtain ⟨nm, e0, b0⟩ := op_str Try.underlying9 h0 w0
  obtain ⟨t, ht⟩ := open_Ty n d (by omega) _ _ h1 w1
  cases e0
  exact ⟨⟨nm, t⟩, _, rfl, rfl, b0, ht⟩
theorem open_Im (fuel : Nat) (cs : List Value) (x : DataW H × List MemPlace) (h : Tr enc W fuel 58 cs x) (hw : Wt 58 x.1) : ∃ a, ImAt a cs := by
  obtain ⟨n, c0, c1, y0, y1, rfl, rfl, h0, w0, h1, w1⟩ := parts_Im h hw
  obtain ⟨nm, e0, b0⟩ := op_str Try.underlying9 h0 w0
  obtain ⟨k, e1, b1⟩ := op_int Try.underlying2 h1
  cases e0; cases e1
  exact ⟨⟨nm, k⟩, rfl, b0, b1⟩
theorem open_De (fuel d : Nat) (hd : fuel ≤ d) (cs : List Value) (x : DataW H × List MemPlace) (h : Tr enc W fuel 44 cs x) (hw : Wt 44 x.1) : ∃ a, DeAt W.heap.size W d a cs := by
  obtain ⟨n, c0, c1, c2, c3, c4, c5, c6, c7, c8, c9, y0, y1, y2, y3, y4, y5, rfl, rfl, h0, w0, h1, w1, h2, w2, h3, w3, h4, w4, h5, w5⟩ := parts_De h hw
  obtain ⟨k, e0, b0⟩ := op_int Try.underlying3 h0
  obtain ⟨nm, e1, b1⟩ := op_str Try.underlying9 h1 w1
  obtain ⟨of_, e2, b2⟩ := op_str Try.underlying9 h2 w2
  obtain ⟨v, e3, b3⟩ := op_int Try.underlying2 h3
  obtain ⟨t, ht⟩ := open_Ty n d (by omega) _ _ h4 w4
  obtain ⟨l5, v5, e5, s5⟩ := op_slice (E := FdAt W.heap.size W d) Try.underlying42 (n := 6) (by kernel_rfl) (of_decide_eq_true (by kernel_rfl)) (by omega) h5 w5 (fun f cs y hf hy hwy => open_Fd f d (by omega) cs y hy hwy)
  cases e0; cases e1; cases e2; cases e3; cases e5
  exact ⟨⟨k, nm, of_, v, t, l5⟩, _, _, rfl, rfl, b0, b1, b2, b3, ht, s5⟩
theorem open_Fn (fuel d : Nat) (hd : fuel ≤ d) (cs : List Value) (x : DataW H × List MemPlace) (h : Tr enc W fuel 67 cs x) (hw : Wt 67 x.1) : ∃ a, FnAt W.heap.size W d a cs := by
  obtain ⟨n, c0, c1, c2, c3, c4, y0, y1, y2, y3, y4, rfl, rfl, h0, w0, h1, w1, h2, w2, h3, w3, h4, w4⟩ := parts_Fn h hw
  obtain ⟨nm, e0, b0⟩ := op_str Try.underlying9 h0 w0
  obtain ⟨wk, e1⟩ := op_bool Try.underlying4 h1
  obtain ⟨k2, e2, b2⟩ := op_int Try.underlying3 h2
  obtain ⟨k3, e3, b3⟩ := op_int Try.underlying3 h3
  obtain ⟨l4, v4, e4, s4⟩ := op_slice (E := StAt W.heap.size W d) Try.underlying65 (n := 5) (by kernel_rfl) (of_decide_eq_true (by kernel_rfl)) (by omega) h4 w4 (fun f cs y hf hy hwy => open_St f d (by omega) cs y hy hwy)
  cases e0; cases e1; cases e2; cases e3; cases e4
  exact ⟨⟨nm, wk, k2, k3, l4⟩, _, rfl, b0, b2, b3, s4⟩
theorem open_Un (fuel d : Nat) (hd : fuel ≤ d) (cs : List Value) (x : DataW H × List MemPlace) (h : Tr enc W fuel 30 cs x) (hw : Wt 30 x.1) : ∃ a, UnAt W.heap.size W d a cs := by
  obtain ⟨n, c0, c1, c2, c3, y0, y1, y2, y3, rfl, rfl, h0, w0, h1, w1, h2, w2, h3, w3⟩ := parts_Un h hw
  obtain ⟨nm, e0, b0⟩ := op_str Try.underlying9 h0 w0
  obtain ⟨l1, v1, e1, s1⟩ := op_slice (E := ImAt) Try.underlying26 (n := 2) (by kernel_rfl) (of_decide_eq_true (by kernel_rfl)) (by omega) h1 w1 (fun f cs y hf hy hwy => open_Im f cs y hy hwy)
  obtain ⟨l2, v2, e2, s2⟩ := op_slice (E := DeAt W.heap.size W d) Try.underlying27 (n := 10) (by kernel_rfl) (of_decide_eq_true (by kernel_rfl)) (by omega) h2 w2 (fun f cs y hf hy hwy => open_De f d (by omega) cs y hy hwy)
  obtain ⟨l3, v3, e3, s3⟩ := op_slice (E := FnAt W.heap.size W d) Try.underlying28 (n := 5) (by kernel_rfl) (of_decide_eq_true (by kernel_rfl)) (by omega) h3 w3 (fun f cs y hf hy hwy => open_Fn f d (by omega) cs y hy hwy)
  cases e0; cases e1; cases e2; cases e3
  exact ⟨⟨nm, l1, l2, l3⟩, _, _, _, rfl, b0, s1, s2, s3⟩
/-- a unit that is an argument -/
theorem open_unit {v : Value} {d : DataW H} {q : List MemPlace} (h : DataW.Trod enc Try.prog W 0 (fun _ => true) true 30 v d q) (hv : ∃ cs : Array Value, v = .agg cs) {ts : List TypeId} {ds : List (DataW H)} {j : Nat}
    (ht : ts[j]? = some 30) (hd : ds[j]? = some d) (hw : (DataW.weightsEach Try.prog ts ds).all (· ≤ reachBytes) = true) : ∃ (n : Nat) (cs : List Value) (u : Un), v = .agg cs.toArray ∧ UnAt W.heap.size W n u cs := by
  obtain ⟨cs, rfl⟩ := hv
  obtain ⟨fuel, hf⟩ := h
  obtain ⟨u, hu⟩ := open_Un fuel fuel (Nat.le_refl _) _ _ hf (fun n hn => by
    have := List.all_eq_true.1 hw _ (DataW.weights_mem_each ht hd n hn)
    simpa using this)
  exact ⟨fuel, cs.toList, u, by simp, by simpa [Value.cells] using hu⟩
end
end Go.Proofs.Ytpopgnengimieaa
