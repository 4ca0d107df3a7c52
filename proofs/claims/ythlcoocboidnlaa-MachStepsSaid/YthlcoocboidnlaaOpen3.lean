/- An argument that is an image, a slice of bytes, read out of memory. -/
import Derived.Test.YthlcoocboidnlaaMach13
import Derived.Test.YthlcoocboidnlaaOpenBytes
import Derived.ProofKit
import Derived.OpenShut
import Derived.SizedLaws
namespace Go.Proofs.Ythlcoocboidnlaa
open Go.ChangeShapes Go.WideShapes Go.ChangeAt Go.RowKit
set_option linter.unusedSimpArgs false
set_option linter.unusedVariables false

section
variable {H : Type} {enc : TypeId × Value → H} {W : World}
def Tr (enc : TypeId × Value → H) (W : World) (fuel : Nat) (t : TypeId) (cs : List Value) (x : DataW H × List MemPlace) : Prop := DataW.trod enc Try.prog W 0 (fun _ => true) true fuel t cs = some x
def Wt (t : TypeId) (d : DataW H) : Prop := ∀ n ∈ d.weights Try.prog t, n ≤ reachBytes
theorem reach_le : reachBytes ≤ 140737488355328 := by decide
theorem op_int {t : TypeId} {fuel : Nat} {cs : List Value} {x : DataW H × List MemPlace} (ht : Try.prog.underlying t = some (.int .i64)) (h : Tr enc W fuel t cs x) : ∃ z, cs = [.int .i64 z] ∧ I64 z := by
  obtain ⟨z, h1, _, h2⟩ := DataW.trod_int ht h
  exact ⟨z, h1, by simpa [Lit.wf, IntKind.min, IntKind.max, IntKind.signed, IntKind.bits, I64] using h2⟩
theorem op_bool {t : TypeId} {fuel : Nat} {cs : List Value} {x : DataW H × List MemPlace} (ht : Try.prog.underlying t = some .bool) (h : Tr enc W fuel t cs x) : ∃ z, cs = [.bool z] := by
  obtain ⟨z, h1, _⟩ := DataW.trod_bool ht h
  exact ⟨z, h1⟩
theorem op_str {t : TypeId} {fuel : Nat} {cs : List Value} {x : DataW H × List MemPlace} (ht : Try.prog.underlying t = some .string) (h : Tr enc W fuel t cs x) (hw : Wt t x.1) : ∃ s, cs = [.string s] ∧ Fits s := by
  obtain ⟨s, h1, rfl, _⟩ := DataW.trod_string ht h
  have := hw s.data.toList.length (by simp [DataW.weights])
  have e : s.data.toList.length = s.size := Array.length_toList
  rw [e] at this
  exact ⟨s, h1, Nat.le_trans this reach_le⟩
theorem mem_weightsAll {P : Program} {e : TypeId} {d : DataW H} {n : Nat} (hn : n ∈ d.weights P e) : ∀ {l : List (DataW H)}, d ∈ l → n ∈ DataW.weightsAll P e l
  | [], h => by cases h
  | a :: r, h => by
    simp only [DataW.weightsAll, List.mem_append]
    rcases List.mem_cons.1 h with rfl | h
    · exact .inl hn
    · exact .inr (mem_weightsAll hn h)
theorem add_at (b o i : Nat) : (⟨b, o, none⟩ : Addr).add i = ⟨b, o + i, none⟩ := by unfold Addr.add; split <;> simp_all
theorem cells_get {w : World} {a : Addr} {n : Nat} {cs : List Value} (h : w.cells? 0 a n = some cs) : cs.length = n ∧ ∀ j, j < n → w.cell? (a.add j) = cs[j]? := by
  unfold World.cells? at h
  rw [if_pos (Nat.zero_le _)] at h
  have hl : cs.length = n := by simpa using mapM_some_length h
  exact ⟨hl, fun j hj => mapM_some_get h j j (by simp [hj])⟩
theorem op_slice {α : Type} {E : α → List Value → Prop} {t e : TypeId} {n : Nat} (ht : Try.prog.underlying t = some (.slice e)) (hc : Try.prog.cellsOf e = n) (hb : 1 ≤ Try.prog.bytesOf e) (hn : 0 < n) {fuel : Nat} {cs : List Value} {x : DataW H × List MemPlace} (h : Tr enc W fuel t cs x) (hw : Wt t x.1)
    (each : ∀ f cs y, f < fuel → Tr enc W f e cs y → Wt e y.1 → ∃ a, E a cs) : ∃ (l : List α) (v : Value), cs = [v] ∧ SlB W.heap.size W n E l v := by
  rcases DataW.trod_slice ht h with ⟨rfl, _⟩ | ⟨a, len, cap, elems, rest, m, rfl, rfl, rfl, _, hl, hm, hlen, hel, _, _⟩
  · exact ⟨[], _, rfl, none, 0, rfl, by simp, fun h => absurd rfl h⟩
  · have hsz : len ≤ 140737488355328 := by
      have h1 := hw (((elems.map (·.1)).length + (rest.map (·.1)).length) * Try.prog.bytesOf e) (by simp [DataW.weights, ht])
      simp only [List.length_map, hlen] at h1
      have h2 : len * 1 ≤ (len + rest.length) * Try.prog.bytesOf e := Nat.mul_le_mul (by omega) hb
      have := reach_le
      omega
    rw [hc] at hel
    have key : ∀ i : Fin len, ∃ (xv : α) (cv : List Value), cv.length = n ∧ (∀ j, j < n → W.cell? ((a.add (i.1 * n)).add j) = cv[j]?) ∧ E xv cv := by
      rintro ⟨i, hi⟩
      have h1 := hel i hi
      have hi' : i < elems.length := by omega
      rw [List.getElem?_eq_getElem hi'] at h1
      obtain ⟨cv, h2, h3⟩ := Option.bind_eq_some_iff.1 h1
      obtain ⟨h4, h5⟩ := cells_get h2
      obtain ⟨xv, hx⟩ := each m cv elems[i] (by omega) h3 (fun q hq => hw q (by
        simp only [DataW.weights, ht, List.mem_cons, List.mem_append]
        exact .inr (.inl (mem_weightsAll hq (List.mem_map.2 ⟨_, List.getElem_mem hi', rfl⟩)))))
      exact ⟨xv, cv, h4, h5, hx⟩
    let f : Fin len → α := fun i => Classical.choose (key i)
    have hf : ∀ i, ∃ (cv : List Value), cv.length = n ∧ (∀ j, j < n → W.cell? ((a.add (i.1 * n)).add j) = cv[j]?) ∧ E (f i) cv := fun i => Classical.choose_spec (key i)
    refine ⟨List.ofFn f, _, rfl, some a, cap, by simp, by simpa using hsz, fun hne => ?_⟩
    have hpos : 0 < len := by
      rcases Nat.eq_zero_or_pos len with h0 | h0
      · exact absurd (List.length_eq_zero_iff.1 (by simpa using h0)) hne
      · exact h0
    obtain ⟨b, o, s⟩ := a
    have hs : s = none ∧ b < W.heap.size := by
      obtain ⟨cv, h1, h2, _⟩ := hf ⟨0, hpos⟩
      have h3 := h2 0 hn
      rw [List.getElem?_eq_getElem (by omega)] at h3
      have h4 := World.cell?_spot h3
      have h5 := World.block_lt_of_cell? W _ h3
      cases s with
      | none => exact ⟨rfl, by simpa [Addr.add] using h5⟩
      | some q => simp [Addr.add] at h4
    obtain ⟨rfl, hbl⟩ := hs
    refine ⟨b, o, rfl, hbl, fun i hi => ?_⟩
    have hi' : i < len := by simpa using hi
    obtain ⟨cv, h1, h2, h3⟩ := hf ⟨i, hi'⟩
    refine ⟨cv, h1, fun j hj => ?_, by simpa using h3⟩
    have := h2 j (by omega)
    rw [add_at, add_at] at this
    exact this

def WdAt (n : Int) (cs : List Value) : Prop := cs = [.int .i64 n] ∧ I64 n
theorem op_words {fuel : Nat} {cs : List Value} {x : DataW H × List MemPlace} (h : Tr enc W fuel 22 cs x) (hw : Wt 22 x.1) :
    ∃ (l : List Int) (v : Value), cs = [v] ∧ WordsR (fun b => b < W.heap.size) W v l ∧ l.length ≤ 140737488355328 ∧ ∀ n ∈ l, I64 n := by
  obtain ⟨l, v, hv, s⟩ := op_slice (E := WdAt) Try.underlying22 (n := 1) (by kernel_rfl) (of_decide_eq_true (by kernel_rfl)) (by omega) h hw (fun f cs y hf hy hwy => by
    obtain ⟨k, e1, b1⟩ := op_int Try.underlying2 hy
    exact ⟨k, e1, b1⟩)
  obtain ⟨a, cap, hva, hl, hc⟩ := s
  have hcap : l.length ≤ cap ∧ cap ≤ maxLen := by
    rcases DataW.trod_slice Try.underlying22 h with ⟨e, _⟩ | ⟨a', len, cap', elems, rest, m, _, e, _, _, hl', hm', _⟩
    · rw [hv, hva] at e
      injection e with e _
      injection e with e1 e2 e3
      omega
    · rw [hv, hva] at e
      injection e with e _
      injection e with e1 e2 e3
      subst e3
      rw [e2]
      exact ⟨hl', hm'⟩
  have each : ∀ i (hi : i < l.length), ∃ b o, a = some ⟨b, o, none⟩ ∧ b < W.heap.size ∧ W.cell? ⟨b, o + i, none⟩ = some (.int .i64 l[i]) ∧ I64 l[i] := fun i hi => by
    obtain ⟨b, o, h1, h2, h3⟩ := hc (by intro e; rw [e] at hi; simp at hi)
    obtain ⟨cs1, h4, h5, h6, h7⟩ := h3 i hi
    have h8 := h5 0 (by omega)
    subst h6
    rw [Nat.mul_one, Nat.add_zero] at h8
    exact ⟨b, o, h1, h2, h8, h7⟩
  refine ⟨l, v, hv, ⟨a, cap, hva, hcap.1, hcap.2, fun hne => ?_⟩, hl, fun n hn => ?_⟩
  · obtain ⟨b, o, h1, h2, h3⟩ := hc hne
    refine ⟨b, o, h1, h2, fun i hi => ?_⟩
    obtain ⟨b', o', h1', _, h3', _⟩ := each i hi
    rw [h1] at h1'
    injection h1' with e
    injection e with e1 e2
    rw [e1, e2]; exact h3'
  · obtain ⟨i, hi, rfl⟩ := List.getElem_of_mem hn
    obtain ⟨_, _, _, _, _, h⟩ := each i hi
    exact h
set_option maxRecDepth 100000 in
theorem parts_Img {fuel : Nat} {cs : List Value} {x : DataW H × List MemPlace} (h : Tr enc W fuel 29 cs x) (hw : Wt 29 x.1) :
    ∃ (n : Nat) (c0 c1 c2 : Value) (y0 y1 y2 : DataW H × List MemPlace), fuel = n + 1 ∧ cs = [c0, c1, c2] ∧ Tr enc W n 22 [c0] y0 ∧ Wt 22 y0.1 ∧ Tr enc W n 22 [c1] y1 ∧ Wt 22 y1.1 ∧ Tr enc W n 3 [c2] y2 ∧ Wt 3 y2.1 := by
  obtain ⟨xs, n, rfl, rfl, hl, hxl, hf⟩ := DataW.trod_struct Try.underlying29 h
  have hN : Try.prog.cellsOf 29 = 3 := by kernel_rfl
  rw [hN] at hl
  replace hxl : xs.length = 3 := hxl
  have f0 := hf 0 _ rfl
  have f1 := hf 1 _ rfl
  have f2 := hf 2 _ rfl
  clear hf
  match cs, hl with
  | [c0, c1, c2], _ =>
  match xs, hxl with
  | [y0, y1, y2], _ =>
  have e_sl : Try.prog.cellsOf 22 = 1 := by kernel_rfl
  have e_int : Try.prog.cellsOf 3 = 1 := by kernel_rfl
  replace f0 : DataW.trod enc Try.prog W 0 (fun _ => true) true n 22 ((([c0, c1, c2] : List Value).drop 0).take (Try.prog.cellsOf 22)) = some y0 := f0
  rw [e_sl] at f0
  replace f1 : DataW.trod enc Try.prog W 0 (fun _ => true) true n 22 ((([c0, c1, c2] : List Value).drop 1).take (Try.prog.cellsOf 22)) = some y1 := f1
  rw [e_sl] at f1
  replace f2 : DataW.trod enc Try.prog W 0 (fun _ => true) true n 3 ((([c0, c1, c2] : List Value).drop 2).take (Try.prog.cellsOf 3)) = some y2 := f2
  rw [e_int] at f2
  have w0 : Wt 22 y0.1 := fun q hq => hw q (by
    simp only [DataW.weights, Try.underlying29]
    exact DataW.weights_mem_each (ts := [22, 22, 3]) (j := 0) rfl rfl q hq)
  have w1 : Wt 22 y1.1 := fun q hq => hw q (by
    simp only [DataW.weights, Try.underlying29]
    exact DataW.weights_mem_each (ts := [22, 22, 3]) (j := 1) rfl rfl q hq)
  have w2 : Wt 3 y2.1 := fun q hq => hw q (by
    simp only [DataW.weights, Try.underlying29]
    exact DataW.weights_mem_each (ts := [22, 22, 3]) (j := 2) rfl rfl q hq)
  exact ⟨n, c0, c1, c2, y0, y1, y2, rfl, rfl, f0, w0, f1, w1, f2, w2⟩
/-- an image that is an argument -/
theorem open_image {v : Value} {d : DataW H} {q : List MemPlace} (h : DataW.Trod enc Try.prog W 0 (fun _ => true) true 29 v d q) (hv : ∃ cs : Array Value, v = .agg cs) {ts : List TypeId} {ds : List (DataW H)} {j : Nat}
    (ht : ts[j]? = some 29) (hd : ds[j]? = some d) (hw : (DataW.weightsEach Try.prog ts ds).all (· ≤ reachBytes) = true) :
    ∃ (xc xd : Option Addr) (nc cc nd cd : Nat) (entry : Int) (m : Img), v = .agg #[.slice xc nc cc, .slice xd nd cd, .int .i64 entry] ∧ ImgAt (fun b => b < W.heap.size) W xc xd nc cc nd cd entry m ∧ I64 entry := by
  obtain ⟨cs, rfl⟩ := hv
  obtain ⟨fuel, hf⟩ := h
  obtain ⟨n, c0, c1, c2, y0, y1, y2, rfl, hcs, h0, w0, h1, w1, h2, w2⟩ := parts_Img hf (fun n hn => by
    have := List.all_eq_true.1 hw _ (DataW.weights_mem_each ht hd n hn)
    simpa using this)
  obtain ⟨l0, v0, e0, s0, b0, i0⟩ := op_words h0 w0
  obtain ⟨l1, v1, e1, s1, b1, i1⟩ := op_words h1 w1
  obtain ⟨k, e2, b2⟩ := op_int Try.underlying3 h2
  cases e0; cases e1; cases e2
  obtain ⟨xc, cc, rfl, r0⟩ := s0
  obtain ⟨xd, cd, rfl, r1⟩ := s1
  refine ⟨xc, xd, _, cc, _, cd, k, ⟨l0, l1, k⟩, ?_, ⟨⟨xc, cc, rfl, r0⟩, ⟨xd, cd, rfl, r1⟩, fun b hb => hb, fun v hv => i0 v hv, rfl, b0, b1⟩, b2⟩
  have : cs.toList = [.slice xc l0.length cc, .slice xd l1.length cd, .int .i64 k] := by simpa [Value.cells] using hcs
  have h2 : cs = cs.toList.toArray := by simp
  rw [h2, this]
/-- bytes that are an argument -/
theorem open_inp {v : Value} {d : DataW H} {p : List MemPlace} (h : DataW.Trod enc Try.prog W 0 (fun _ => true) true 35 v d p) (hv : ∃ a n c, v = .slice a n c) :
    ∃ (xi : Option Addr) (ci : Nat) (l : List UInt8), v = .slice xi l.length ci ∧ BytesR (fun b => b < W.heap.size) W (.slice xi l.length ci) l ∧ l.length ≤ 9223372036854775807 := by
  obtain ⟨l, hl, _⟩ := open_bytesAt h hv
  obtain ⟨x, cap, rfl, h1, h2, h3⟩ := hl
  refine ⟨x, cap, l, rfl, ⟨x, cap, rfl, h1, h2, fun hne => ?_⟩, by unfold maxLen at h2; omega⟩
  obtain ⟨b, o, hx, hc⟩ := h3 hne
  have hp : 0 < l.length := List.length_pos_iff.2 hne
  exact ⟨b, o, hx, World.block_lt_of_cell? W _ (hc 0 hp), hc⟩
end
end Go.Proofs.Ythlcoocboidnlaa
