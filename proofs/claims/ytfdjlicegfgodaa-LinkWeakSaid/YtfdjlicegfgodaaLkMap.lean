/- A map by strings: block b holds for each string its value, or none. -/
import Derived.Test.YtfdjlicegfgodaaValid3
import Derived.Laws.IdiomRangeMap
namespace Go.Proofs.Ytfdjlicegfgodaa
open Go.RowKit
set_option linter.unusedSimpArgs false
set_option linter.unusedVariables false

noncomputable def upd {α : Type} (f : ByteArray → Option α) (s : ByteArray) (v : α) : ByteArray → Option α := fun x => @ite _ (x = s) (Classical.propDecidable _) (some v) (f x)
theorem upd_self {α : Type} (f : ByteArray → Option α) (s : ByteArray) (v : α) : upd f s v s = some v := by simp [upd]
theorem upd_other {α : Type} (f : ByteArray → Option α) {s x : ByteArray} (v : α) (h : x ≠ s) : upd f s v x = f x := by simp [upd, h]

/-- block b of w is a map by strings that tells f -/
def SMap (w : World) (b : Nat) (f : ByteArray → Option Value) : Prop :=
  ∃ es clock, w.heap[b]? = some (.map es clock) ∧ MapKept.Stamped es clock ∧ (∀ e ∈ es.toList, ∃ s, e.key = .string s ∧ Fits s ∧ f s = some e.val) ∧ (∀ s v, f s = some v → ∃ e ∈ es.toList, e.key = .string s)
theorem SMap.made (w : World) : SMap (w.alloc (.map #[] 0)) w.heap.size (fun _ => none) :=
  ⟨#[], 0, by show (w.heap.push _)[w.heap.size]? = _; simp, MapKept.stamped_empty 0, by simp, by simp⟩
theorem SMap.lt {w : World} {b : Nat} {f : ByteArray → Option Value} (h : SMap w b f) : b < w.heap.size := by
  obtain ⟨es, clock, h1, _⟩ := h
  exact (Array.getElem?_eq_some_iff.1 h1).1
theorem SMap.kp {S : Nat → Prop} {w w' : World} {b : Nat} {f : ByteArray → Option Value} (h : SMap w b f) (q : Kp S w w') (hs : ¬ S b) : SMap w' b f := by
  have hl := h.lt
  obtain ⟨es, clock, h1, h2⟩ := h
  exact ⟨es, clock, (q.block b hl hs).trans h1, h2⟩
theorem SMap.nw {w w' : World} {b : Nat} {f : ByteArray → Option Value} (h : SMap w b f) (q : Nw w w') : SMap w' b f := h.kp q (fun x => x)
section
variable {t e : TypeId} {w : World} {b : Nat} {f : ByteArray → Option Value} {z : Value}
theorem SMap.find (h : SMap w b f) {s : ByteArray} (hs : Fits s) : ∃ es clock, w.heap[b]? = some (.map es clock) ∧ MapKept.Stamped es clock ∧
    ((f s = none ∧ (Instr.findKey 9 (.string s) es.toList).run Try.prog w = .ok none w ∧ ∀ e ∈ es.toList, e.key ≠ .string s) ∨ ∃ j e0, f s = some e0.val ∧ (Instr.findKey 9 (.string s) es.toList).run Try.prog w = .ok (some (j, e0.val)) w ∧ es.toList[j]? = some e0 ∧ e0.key = .string s) := by
  obtain ⟨es, clock, hb, hst, hv, hall⟩ := h
  obtain ⟨lx, hx⟩ := keyOf_str s hs
  have hk : ∀ e ∈ es.toList, ∃ l, keyOf Try.prog 9 e.key = some l := fun e he => by
    obtain ⟨s', h1, h2, _⟩ := hv e he
    rw [h1]; exact keyOf_str s' h2
  refine ⟨es, clock, hb, hst, ?_⟩
  rcases strKeyed.find w hx es.toList hk with ⟨h1, h2⟩ | ⟨j, e0, h1, h2, h3⟩
  · refine .inl ⟨?_, h1, h2⟩
    cases hf : f s with
    | none => rfl
    | some v =>
      obtain ⟨e1, he1, hk1⟩ := hall s v hf
      exact absurd hk1 (h2 e1 he1)
  · obtain ⟨s', q1, q2, q3⟩ := hv e0 (List.mem_of_getElem? h2)
    rw [h3] at q1
    injection q1 with q1
    exact .inr ⟨j, e0, by rw [q1]; exact q3, h1, h2, h3⟩
/-- m[s] -/
theorem SMap.look (h : SMap w b f) (ht : Try.prog.underlying t = some (.map 9 e)) (hz : (zeroValue e).run Try.prog w = .ok z w) {s : ByteArray} (hs : Fits s) :
    (Instr.lookup t (.map (some b)) (.string s) false).run Try.prog w = .ok ((f s).getD z) w := by
  obtain ⟨lx, hx⟩ := keyOf_str s hs
  obtain ⟨es, clock, hb, hst, ⟨h0, h1, h2⟩ | ⟨j, e0, h0, h1, h2, h3⟩⟩ := h.find hs
  · rw [h0]; simp [Instr.lookup, run_underlying ht, MapKept.run_getObj_map hb, strKeyed.check w _ hx, h1, hz, Result.andThen]
  · rw [h0]; simp [Instr.lookup, run_underlying ht, MapKept.run_getObj_map hb, strKeyed.check w _ hx, h1, Result.andThen]
/-- v, ok := m[s] -/
theorem SMap.lookOk (h : SMap w b f) (ht : Try.prog.underlying t = some (.map 9 e)) (hz : (zeroValue e).run Try.prog w = .ok z w) {s : ByteArray} (hs : Fits s) :
    (Instr.lookup t (.map (some b)) (.string s) true).run Try.prog w = .ok (.tuple #[(f s).getD z, .bool (f s).isSome]) w := by
  obtain ⟨lx, hx⟩ := keyOf_str s hs
  obtain ⟨es, clock, hb, hst, ⟨h0, h1, h2⟩ | ⟨j, e0, h0, h1, h2, h3⟩⟩ := h.find hs
  · rw [h0]; simp [Instr.lookup, run_underlying ht, MapKept.run_getObj_map hb, strKeyed.check w _ hx, h1, hz, Result.andThen]
  · rw [h0]; simp [Instr.lookup, run_underlying ht, MapKept.run_getObj_map hb, strKeyed.check w _ hx, h1, Result.andThen]
/-- m[s] = v -/
theorem SMap.store (h : SMap w b f) (ht : Try.prog.underlying t = some (.map 9 e)) {s : ByteArray} (hs : Fits s) (v : Value) :
    ∃ w', (Instr.mapUpdate t (.map (some b)) (.string s) v).run Try.prog w = .ok () w' ∧ SMap w' b (upd f s v) ∧ Kp (fun j => j = b) w w' := by
  have hlt := h.lt
  obtain ⟨lx, hx⟩ := keyOf_str s hs
  have hv : ∀ es clock, w.heap[b]? = some (.map es clock) → (∀ e ∈ es.toList, ∃ s, e.key = .string s ∧ Fits s ∧ f s = some e.val) ∧ (∀ s v, f s = some v → ∃ e ∈ es.toList, e.key = .string s) := by
    intro es clock hb
    obtain ⟨es', clock', hb', _, h1, h2⟩ := h
    rw [hb] at hb'
    injection hb' with hb'
    injection hb' with q1 q2
    subst q1
    exact ⟨h1, h2⟩
  obtain ⟨es, clock, hb, hst, ⟨h0, h1, h2⟩ | ⟨j, e0, h0, h1, h2, h3⟩⟩ := h.find hs
  · obtain ⟨hv1, hv2⟩ := hv es clock hb
    refine ⟨ChangeMaps.setBlock w b (.map (es.push ⟨.string s, v, clock⟩) (clock + 1)), ?_, ⟨_, _, at_setBlock hlt _, MapKept.stamped_push hst h2, ?_, ?_⟩, kp_setBlock _ _ _⟩
    · simp [Instr.mapUpdate, run_underlying ht, MapKept.run_getObj_map hb, strKeyed.check w false hx, h1, MapKept.run_setObj_map _ hb, Result.andThen, ChangeMaps.setBlock]
    · intro e1 he
      simp only [Array.toList_push, List.mem_append, List.mem_singleton] at he
      rcases he with he | rfl
      · obtain ⟨s', q1, q2, q3⟩ := hv1 e1 he
        exact ⟨s', q1, q2, by rw [upd_other]; exact q3; intro e; exact h2 e1 he (by rw [q1, e])⟩
      · exact ⟨s, rfl, hs, upd_self _ _ _⟩
    · intro s' v' hf
      by_cases e : s' = s
      · subst e
        exact ⟨⟨.string s', v, clock⟩, by simp, rfl⟩
      · rw [upd_other _ _ e] at hf
        obtain ⟨e1, he1, hk1⟩ := hv2 s' v' hf
        exact ⟨e1, by simp only [Array.toList_push, List.mem_append]; exact .inl he1, hk1⟩
  · obtain ⟨hv1, hv2⟩ := hv es clock hb
    have hj : es[j]? = some e0 := by simpa using h2
    have hlist : (es.modify j (fun e' => { e' with key := .string s, val := v })).toList = es.toList.set j { e0 with key := .string s, val := v } := by rw [Array.toList_modify, ChangeMaps.modify_eq_set _ _ _ _ h2]
    have spec := set_spec hst.2.2 h2 { e0 with key := .string s, val := v }
    refine ⟨ChangeMaps.setBlock w b (.map (es.modify j (fun e' => { e' with key := .string s, val := v })) clock), ?_, ⟨_, _, at_setBlock hlt _, MapKept.stamped_modify hst _ _ (fun _ _ => rfl) (fun e' _ he' => by rw [hj] at he'; cases he'; exact h3.symm), ?_, ?_⟩, kp_setBlock _ _ _⟩
    · simp [Instr.mapUpdate, run_underlying ht, MapKept.run_getObj_map hb, strKeyed.check w false hx, h1, hj, h3, strKeyed.stays w hx, MapKept.run_setObj_map _ hb, Result.andThen, ChangeMaps.setBlock]
    · intro e1 he
      rw [hlist, spec] at he
      rcases he with rfl | ⟨he, hne⟩
      · exact ⟨s, rfl, hs, upd_self _ _ _⟩
      · obtain ⟨s', q1, q2, q3⟩ := hv1 e1 he
        exact ⟨s', q1, q2, by rw [upd_other]; exact q3; intro e; exact hne (by rw [q1, e, h3])⟩
    · intro s' v' hf
      by_cases e : s' = s
      · subst e
        exact ⟨_, by rw [hlist, spec]; exact .inl rfl, rfl⟩
      · rw [upd_other _ _ e] at hf
        obtain ⟨e1, he1, hk1⟩ := hv2 s' v' hf
        exact ⟨e1, by rw [hlist, spec]; exact .inr ⟨he1, by rw [hk1, h3]; simp only [ne_eq, Value.string.injEq]; exact e⟩, hk1⟩
end
section
variable {P : Program} (w : World) {ops : Array Oper} {rest : List Oper} {o : Oper} {a : Act} {Q : Exit → Act → World → Prop}
theorem wpList_lookOk_run (hg : o.guard = none) (m x : Operand) (t : TypeId) (hop : o.op = Op.lookup t m x true) (mv key v : Value) (hm : a.eval m = mv) (hx : a.eval x = key)
    (hrun : (Instr.lookup t mv key true).run P w = .ok v w) (hK : wpList P ops Q rest (a.put o.dst v) w) : wpList P ops Q (o :: rest) a w := by
  refine wpList_plain hg fun K' hK' => ?_
  unfold Oper.wp
  simp [execOp, hop, hm, hx, hrun, Result.andThen]
  exact hK' _ _ hK
end
end Go.Proofs.Ytfdjlicegfgodaa
