/- A map that counts: block b tells how often each key has come. -/
import Derived.Test.YtfdjlicegfgodaaObj2
import Derived.Maps.Own
import Derived.WideKeyEntry
import Derived.DeepKeys4
namespace Go.Proofs.Ytfdjlicegfgodaa
open Go.RowKit
set_option linter.unusedSimpArgs false
set_option linter.unusedVariables false

noncomputable def cntV (x : Value) (ks : List Value) : Nat := (ks.filter (fun y => dc (y = x))).length
theorem cntV_self (x : Value) (ks : List Value) : cntV x (x :: ks) = cntV x ks + 1 := by simp [cntV, dc]
theorem cntV_other {x y : Value} (h : y ≠ x) (ks : List Value) : cntV y (x :: ks) = cntV y ks := by
  have : dc (x = y) = false := dc_false (fun e => h e.symm)
  simp [cntV, this]
theorem cntV_zero {x : Value} {ks : List Value} : cntV x ks = 0 ↔ x ∉ ks := by
  simp only [cntV, List.length_eq_zero_iff, List.filter_eq_nil_iff]
  constructor
  · intro h hx
    exact h x hx (dc_true rfl)
  · intro h y hy e
    have : y = x := by
      by_cases hyx : y = x
      · exact hyx
      · rw [dc_false hyx] at e; cases e
    exact h (this ▸ hy)
theorem cntV_le (x : Value) (ks : List Value) : cntV x ks ≤ ks.length := List.length_filter_le _ _

def CntAt (k : TypeId) (w : World) (b : Nat) (ks : List Value) : Prop :=
  ∃ es clock, w.heap[b]? = some (.map es clock) ∧ MapKept.Stamped es clock ∧ (∀ e ∈ es.toList, e.val = .int .i64 (cntV e.key ks)) ∧ (∀ x ∈ ks, ∃ e ∈ es.toList, e.key = x) ∧ (∀ e ∈ es.toList, ∃ l, keyOf Try.prog k e.key = some l)
theorem CntAt.made (k : TypeId) (w : World) : CntAt k (w.alloc (.map #[] 0)) w.heap.size [] :=
  ⟨#[], 0, by show (w.heap.push _)[w.heap.size]? = _; simp, MapKept.stamped_empty 0, by simp, by simp, by simp⟩
theorem CntAt.lt {k : TypeId} {w : World} {b : Nat} {ks : List Value} (h : CntAt k w b ks) : b < w.heap.size := by
  obtain ⟨es, clock, h1, _⟩ := h
  exact (Array.getElem?_eq_some_iff.1 h1).1
theorem CntAt.kp {S : Nat → Prop} {k : TypeId} {w w' : World} {b : Nat} {ks : List Value} (h : CntAt k w b ks) (q : Kp S w w') (hs : ¬ S b) : CntAt k w' b ks := by
  have hl := h.lt
  obtain ⟨es, clock, h1, h2⟩ := h
  exact ⟨es, clock, (q.block b hl hs).trans h1, h2⟩
theorem CntAt.nw {k : TypeId} {w w' : World} {b : Nat} {ks : List Value} (h : CntAt k w b ks) (q : Nw w w') : CntAt k w' b ks := h.kp q (fun x => x)
theorem kp_setBlock (w : World) (b : Nat) (o : Obj) : Kp (fun j => j = b) w (ChangeMaps.setBlock w b o) :=
  ⟨rfl, rfl, rfl, by simp [ChangeMaps.setBlock], fun k hk hn => by
    have hne : b ≠ k := fun e => hn e.symm
    simp [ChangeMaps.setBlock, Array.getElem?_setIfInBounds, hne]⟩
theorem at_setBlock {w : World} {b : Nat} (h : b < w.heap.size) (o : Obj) : (ChangeMaps.setBlock w b o).heap[b]? = some o := by
  simp [ChangeMaps.setBlock, h]
theorem set_spec {l : List MapEntry} (hn : (l.map (·.key)).Nodup) {j : Nat} {e0 : MapEntry} (h : l[j]? = some e0) (e1 : MapEntry) (e : MapEntry) :
    e ∈ l.set j e1 ↔ (e = e1 ∨ (e ∈ l ∧ e.key ≠ e0.key)) := by
  have hj : j < l.length := (List.getElem?_eq_some_iff.1 h).1
  have hje : l[j] = e0 := (List.getElem?_eq_some_iff.1 h).2
  constructor
  · intro he
    obtain ⟨i, hi, ex⟩ := List.getElem_of_mem he
    have hi' : i < l.length := by simpa using hi
    rw [List.getElem_set] at ex
    split at ex
    · exact .inl ex.symm
    · rename_i hne
      refine .inr ⟨ex ▸ List.getElem_mem hi', fun hk => hne ?_⟩
      have h1 : (l.map (·.key))[j]'(by simpa using hj) = (l.map (·.key))[i]'(by simpa using hi') := by
        simp only [List.getElem_map]
        rw [hje, ← hk, ex]
      exact (List.getElem_inj hn).1 h1
  · rintro (rfl | ⟨he, hk⟩)
    · exact List.mem_iff_getElem.2 ⟨j, by simpa using hj, by simp⟩
    · obtain ⟨i, hi, ex⟩ := List.getElem_of_mem he
      have hne : j ≠ i := fun e2 => hk (by subst e2; rw [← ex, hje])
      exact List.mem_iff_getElem.2 ⟨i, by simpa using hi, by rw [List.getElem_set_ne hne]; exact ex⟩
section
variable {k t e : TypeId} {w : World} {b : Nat} {ks : List Value}
theorem CntAt.look (h : CntAt k w b ks) (K : Maps.Keyed Try.prog k) (ht : Try.prog.underlying t = some (.map k e)) (hz : ∀ u : World, (zeroValue e).run Try.prog u = .ok (.int .i64 0) u) {x : Value} {lx : Lit} (hx : keyOf Try.prog k x = some lx) :
    (Instr.lookup t (.map (some b)) x false).run Try.prog w = .ok (.int .i64 (cntV x ks)) w := by
  obtain ⟨es, clock, hb, hs, hv, hall, hk⟩ := h
  rcases K.find w hx es.toList hk with ⟨h1, h2⟩ | ⟨j, e0, h1, h2, h3⟩
  · have h0 : cntV x ks = 0 := cntV_zero.2 (fun hm => by
      obtain ⟨e1, he1, hk1⟩ := hall x hm
      exact h2 e1 he1 hk1)
    rw [h0]
    simp [Instr.lookup, run_underlying ht, MapKept.run_getObj_map hb, K.check w _ hx, h1, hz, Result.andThen]
  · have hm := List.mem_of_getElem? h2
    have h4 := hv e0 hm
    rw [h3] at h4
    simp [Instr.lookup, run_underlying ht, MapKept.run_getObj_map hb, K.check w _ hx, h1, h4, Result.andThen]
theorem cnt_new {es : Array MapEntry} {clock : Nat} (hs : MapKept.Stamped es clock) (hv : ∀ e ∈ es.toList, e.val = .int .i64 (cntV e.key ks)) (hall : ∀ x ∈ ks, ∃ e ∈ es.toList, e.key = x) (hk : ∀ e ∈ es.toList, ∃ l, keyOf Try.prog k e.key = some l)
    {x : Value} {lx : Lit} (hx : keyOf Try.prog k x = some lx) (h2 : ∀ e ∈ es.toList, e.key ≠ x) (hb : b < w.heap.size) : CntAt k (ChangeMaps.setBlock w b (.map (es.push ⟨x, .int .i64 (cntV x ks + 1), clock⟩) (clock + 1))) b (x :: ks) := by
  refine ⟨_, _, at_setBlock hb _, MapKept.stamped_push hs h2, ?_, ?_, ?_⟩
  · intro e1 he
    simp only [Array.toList_push, List.mem_append, List.mem_singleton] at he
    rcases he with he | rfl
    · rw [hv e1 he, cntV_other (h2 e1 he)]
    · rw [cntV_self]; simp
  · intro y hy
    rcases List.mem_cons.1 hy with rfl | hy
    · exact ⟨⟨y, .int .i64 (cntV y ks + 1), clock⟩, by simp, rfl⟩
    · obtain ⟨e1, he1, hk1⟩ := hall y hy
      exact ⟨e1, by simp only [Array.toList_push, List.mem_append]; exact .inl he1, hk1⟩
  · intro e1 he
    simp only [Array.toList_push, List.mem_append, List.mem_singleton] at he
    rcases he with he | rfl
    · exact hk e1 he
    · exact ⟨lx, hx⟩
theorem cnt_old {es : Array MapEntry} {clock : Nat} (hs : MapKept.Stamped es clock) (hv : ∀ e ∈ es.toList, e.val = .int .i64 (cntV e.key ks)) (hall : ∀ x ∈ ks, ∃ e ∈ es.toList, e.key = x) (hk : ∀ e ∈ es.toList, ∃ l, keyOf Try.prog k e.key = some l)
    {x : Value} {lx : Lit} (hx : keyOf Try.prog k x = some lx) {j : Nat} {e0 : MapEntry} (h2 : es.toList[j]? = some e0) (h3 : e0.key = x) (hb : b < w.heap.size) :
    CntAt k (ChangeMaps.setBlock w b (.map (es.modify j (fun e' => { e' with key := x, val := .int .i64 (cntV x ks + 1) })) clock)) b (x :: ks) := by
  have hj : es[j]? = some e0 := by simpa using h2
  have hlist : (es.modify j (fun e' => { e' with key := x, val := .int .i64 (cntV x ks + 1) })).toList = es.toList.set j { e0 with key := x, val := .int .i64 (cntV x ks + 1) } := by rw [Array.toList_modify, ChangeMaps.modify_eq_set _ _ _ _ h2]
  have spec := set_spec hs.2.2 h2 { e0 with key := x, val := .int .i64 (cntV x ks + 1) }
  refine ⟨_, _, at_setBlock hb _, MapKept.stamped_modify hs _ _ (fun _ _ => rfl) (fun e' _ he' => by rw [hj] at he'; cases he'; exact h3.symm), ?_, ?_, ?_⟩
  · intro e1 he
    rw [hlist, spec] at he
    rcases he with rfl | ⟨he, hne⟩
    · rw [cntV_self]; simp
    · rw [hv e1 he, cntV_other (by rw [← h3]; exact hne)]
  · intro y hy
    by_cases hyx : y = x
    · subst hyx
      exact ⟨_, by rw [hlist, spec]; exact .inl rfl, rfl⟩
    · obtain ⟨e1, he1, hk1⟩ := hall y (by rcases List.mem_cons.1 hy with h | h; exact absurd h hyx; exact h)
      exact ⟨e1, by rw [hlist, spec]; exact .inr ⟨he1, by rw [hk1, h3]; exact hyx⟩, hk1⟩
  · intro e1 he
    rw [hlist, spec] at he
    rcases he with rfl | ⟨he, _⟩
    · exact ⟨lx, hx⟩
    · exact hk e1 he
/-- m[x]++ : the store -/
theorem CntAt.store (h : CntAt k w b ks) (K : Maps.Keyed Try.prog k) (ht : Try.prog.underlying t = some (.map k e)) {x : Value} {lx : Lit} (hx : keyOf Try.prog k x = some lx) :
    ∃ w', (Instr.mapUpdate t (.map (some b)) x (.int .i64 (cntV x ks + 1))).run Try.prog w = .ok () w' ∧ CntAt k w' b (x :: ks) ∧ Kp (fun j => j = b) w w' := by
  have hlt := h.lt
  obtain ⟨es, clock, hb, hs, hv, hall, hk⟩ := h
  rcases K.find w hx es.toList hk with ⟨h1, h2⟩ | ⟨j, e0, h1, h2, h3⟩
  · refine ⟨ChangeMaps.setBlock w b (.map (es.push ⟨x, .int .i64 (cntV x ks + 1), clock⟩) (clock + 1)), ?_, cnt_new hs hv hall hk hx h2 hlt, kp_setBlock _ _ _⟩
    simp [Instr.mapUpdate, run_underlying ht, MapKept.run_getObj_map hb, K.check w false hx, h1, MapKept.run_setObj_map _ hb, Result.andThen, ChangeMaps.setBlock]
  · have hj : es[j]? = some e0 := by simpa using h2
    refine ⟨_, ?_, cnt_old hs hv hall hk hx h2 h3 hlt, kp_setBlock _ _ _⟩
    simp [Instr.mapUpdate, run_underlying ht, MapKept.run_getObj_map hb, K.check w false hx, h1, hj, h3, K.stays w hx, MapKept.run_setObj_map _ hb, Result.andThen, ChangeMaps.setBlock]
/-- m[x]++ by its entry -/
theorem CntAt.entry (h : CntAt k w b ks) (K : Maps.Keyed Try.prog k) (ht : Try.prog.underlying t = some (.map k e)) (hz : ∀ u : World, (zeroValue e).run Try.prog u = .ok (.int .i64 0) u) {x : Value} {lx : Lit} (hx : keyOf Try.prog k x = some lx) :
    ∃ (w1 : World) (st : Nat), (Instr.mapEntry t (.map (some b)) x).run Try.prog w = .ok (.tuple #[.int .i64 (cntV x ks), .int .i64 st]) w1 ∧ CntAt k w1 b ks ∧ Kp (fun j => j = b) w w1 ∧
      ∀ (w2 : World), w2.heap[b]? = w1.heap[b]? → ∃ w3, (Instr.entryStore t (.map (some b)) (.int .i64 st) (.int .i64 (cntV x ks + 1))).run Try.prog w2 = .ok () w3 ∧ CntAt k w3 b (x :: ks) ∧ Kp (fun j => j = b) w2 w3 := by
  have hlt := h.lt
  obtain ⟨es, clock, hb, hs, hv, hall, hk⟩ := h
  have hs' := hs
  obtain ⟨s1, s2, _⟩ := hs'
  rcases K.find w hx es.toList hk with ⟨h1, h2⟩ | ⟨j, e0, h1, h2, h3⟩
  · have h0 : cntV x ks = 0 := cntV_zero.2 (fun hm => by
      obtain ⟨e1, he1, hk1⟩ := hall x hm
      exact h2 e1 he1 hk1)
    refine ⟨ChangeMaps.setBlock w b (.map (es.push ⟨x, .int .i64 0, clock⟩) (clock + 1)), clock, ?_, ?_, kp_setBlock _ _ _, ?_⟩
    · rw [h0]
      simp [Instr.mapEntry, run_underlying ht, MapKept.run_getObj_map hb, K.check w false hx, h1, hz, MapKept.run_setObj_map _ hb, Result.andThen, ChangeMaps.setBlock, goInt]
    · refine ⟨_, _, at_setBlock hlt _, MapKept.stamped_push hs h2, ?_, ?_, ?_⟩
      · intro e1 he
        simp only [Array.toList_push, List.mem_append, List.mem_singleton] at he
        rcases he with he | rfl
        · exact hv e1 he
        · rw [h0]; rfl
      · intro y hy
        obtain ⟨e1, he1, hk1⟩ := hall y hy
        exact ⟨e1, by simp only [Array.toList_push, List.mem_append]; exact .inl he1, hk1⟩
      · intro e1 he
        simp only [Array.toList_push, List.mem_append, List.mem_singleton] at he
        rcases he with he | rfl
        · exact hk e1 he
        · exact ⟨lx, hx⟩
    · intro w2 hw2
      rw [at_setBlock hlt] at hw2
      have hlt2 : b < w2.heap.size := (Array.getElem?_eq_some_iff.1 hw2).1
      have hidx : (es.push ⟨x, .int .i64 0, clock⟩).findIdx? (fun e => ((e.born : Nat) : Int) == ((clock : Nat) : Int)) = some es.size := by
        rw [WideElems.findIdx_arr]
        exact WideElems.findIdx_born (l := (es.push ⟨x, .int .i64 0, clock⟩).toList) (j := es.size) (e0 := ⟨x, .int .i64 0, clock⟩) (by
          simp only [Array.toList_push, List.map_append, List.map_cons, List.map_nil]
          refine List.nodup_append.2 ⟨s2, by simp, fun a ha c hc e1 => ?_⟩
          simp only [List.mem_singleton] at hc
          obtain ⟨y, hy, rfl⟩ := List.mem_map.1 ha
          have := s1 y hy
          omega) (by simp)
      have hmod : (es.push ⟨x, .int .i64 0, clock⟩).modify es.size (fun e => { e with val := .int .i64 (cntV x ks + 1) }) = es.push ⟨x, .int .i64 (cntV x ks + 1), clock⟩ := by
        apply Array.ext'
        rw [Array.toList_modify, Array.toList_push, Array.toList_push, ← Array.length_toList, WideElems.modify_last]
      refine ⟨ChangeMaps.setBlock w2 b (.map (es.push ⟨x, .int .i64 (cntV x ks + 1), clock⟩) (clock + 1)), ?_, cnt_new hs hv hall hk hx h2 hlt2, kp_setBlock _ _ _⟩
      simp [Instr.entryStore, MapKept.run_getObj_map hw2, asInt, asIntOf, hidx, hmod, MapKept.run_setObj_map _ hw2, Result.andThen, ChangeMaps.setBlock]
  · have hj : es[j]? = some e0 := by simpa using h2
    have h4 := hv e0 (List.mem_of_getElem? h2)
    rw [h3] at h4
    have hsame : es.modify j (fun e => { e with key := x }) = es := by
      apply Array.ext'
      rw [Array.toList_modify, ChangeMaps.modify_eq_set _ _ _ _ h2]
      have : ({ e0 with key := x } : MapEntry) = e0 := by rw [← h3]
      rw [this]
      exact WideElems.set_self _ _ _ h2
    refine ⟨ChangeMaps.setBlock w b (.map es clock), e0.born, ?_, ⟨es, clock, at_setBlock hlt _, hs, hv, hall, hk⟩, kp_setBlock _ _ _, ?_⟩
    · simp [Instr.mapEntry, run_underlying ht, MapKept.run_getObj_map hb, K.check w false hx, h1, hj, h3, h4, K.stays w hx, hsame, MapKept.run_setObj_map _ hb, Result.andThen, ChangeMaps.setBlock, goInt]
    · intro w2 hw2
      rw [at_setBlock hlt] at hw2
      have hlt2 : b < w2.heap.size := (Array.getElem?_eq_some_iff.1 hw2).1
      have hidx : es.findIdx? (fun e => ((e.born : Nat) : Int) == ((e0.born : Nat) : Int)) = some j := by
        rw [WideElems.findIdx_arr]
        exact WideElems.findIdx_born s2 h2
      have hmod : es.modify j (fun e => { e with val := .int .i64 (cntV x ks + 1) }) = es.modify j (fun e' => { e' with key := x, val := .int .i64 (cntV x ks + 1) }) := by
        apply Array.ext'
        rw [Array.toList_modify, Array.toList_modify, ChangeMaps.modify_eq_set _ _ _ _ h2, ChangeMaps.modify_eq_set _ _ _ _ h2, ← h3]
      refine ⟨_, ?_, cnt_old hs hv hall hk hx h2 h3 hlt2, kp_setBlock _ _ _⟩
      simp [Instr.entryStore, MapKept.run_getObj_map hw2, asInt, asIntOf, hidx, hmod, MapKept.run_setObj_map _ hw2, Result.andThen, ChangeMaps.setBlock]
/-- clear(m) -/
theorem CntAt.clear (h : CntAt k w b ks) (ht : Try.prog.underlying t = some (.map k e)) {ty : TypeId} :
    ∃ w', (Builtin.clear_ #[t] ty #[.map (some b)]).run Try.prog w = .ok (.tuple #[]) w' ∧ CntAt k w' b [] ∧ Kp (fun j => j = b) w w' := by
  have hlt := h.lt
  obtain ⟨es, clock, hb, hs, hv, hall, hk⟩ := h
  refine ⟨ChangeMaps.setBlock w b (.map #[] clock), ?_, ⟨#[], clock, at_setBlock hlt _, MapKept.stamped_empty clock, by simp, by simp, by simp⟩, kp_setBlock _ _ _⟩
  simp [Builtin.clear_, run_underlying ht, MapKept.run_getObj_map hb, MapKept.run_setObj_map _ hb, Result.andThen, ChangeMaps.setBlock]
end
end Go.Proofs.Ytfdjlicegfgodaa
