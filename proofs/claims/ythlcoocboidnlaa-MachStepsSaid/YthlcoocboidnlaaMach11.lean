/- mach.New. -/
import Derived.Test.YthlcoocboidnlaaMach10
import Derived.Laws.CopyOwn
import Derived.Laws.MakeOwn
import Derived.Laws.EntriesVeiled
namespace Go.Proofs.Ythlcoocboidnlaa
open Go.RowKit
set_option linter.unusedSimpArgs false
set_option linter.unusedVariables false

/-- copy into a row that is known whole: that row alone has changed -/
theorem wpList_copy_kp {P : Program} {w : World} {ops : Array Oper} {rest : List Oper} {o : Oper} {a : Act} {Q : Exit → Act → World → Prop} (hgd : o.guard = none) (d s : Operand) (dT sT : TypeId)
    (ho : o.op = .call { callee := .builtin .copy, args := #[d, s], argTypes := #[dT, sT] }) (elem : TypeId) (hu : P.underlying dT = some (.slice elem)) (hsz : (P.info? elem).map (·.size) = some 1)
    (dp sp : Option Addr) (dLen dCap sLen sCap : Nat) (hd : a.eval d = .slice dp dLen dCap) (hs : a.eval s = .slice sp sLen sCap)
    (g off : Nat) (cur : List Value) (t : TypeId) (hg : w.heap[g]? = some (.cells cur.toArray t (0, 0))) (cs : List Value) (hn : cs.length = Nat.min sLen dLen)
    (hpos : 0 < cs.length → dp = some ⟨g, off, none⟩ ∧ ∃ ad, sp = some ad ∧ ∀ (j : Nat) v, cs[j]? = some v → w.cell? (ad.add j) = some v)
    (hfit : off + cs.length ≤ cur.length) (h1 : ∀ v ∈ cs, v.oneCell' = true)
    (h : ∀ w', Hid (Blk w' g (splice cur off cs) t) → Hid (Kp (fun x => x = g) w w') → wpList P ops Q rest (a.put o.dst (goInt cs.length)) w') :
    wpList P ops Q (o :: rest) a w := by
  by_cases h0 : cs.length = 0
  · obtain rfl : cs = [] := List.eq_nil_of_length_eq_zero h0
    refine wpList_copy_nothing hgd d s dT sT ho elem hu hsz dp sp dLen dCap sLen sCap hd hs (by simpa using hn.symm) ?_
    exact h w (Lib.hid (show _ = _ by simpa [splice] using hg)) (Lib.hid (Kp.refl _ _))
  · obtain ⟨rfl, ad, rfl, hsrc⟩ := hpos (by omega)
    refine wpList_copy_own hgd d s dT sT ho elem hu hsz g off dLen dCap ad sLen sCap hd hs cur.toArray t hg cs hn hsrc (by simpa using hfit) h1 ?_
    exact h _ (Lib.hid (show _ = _ by simpa [splice] using setRow_heap w g _ _ t _ hg)) (Lib.hid ⟨rfl, rfl, rfl, by simp [World.setRow], fun k _ hk => setRow_other w g k _ (fun e => hk e)⟩)

/-- the machine at its beginning -/
def Ms.new (code data : List Int) (entry mem : Int) (inp : List UInt8) : Ms :=
  { code := code, mem := data ++ List.replicate (mem.toNat - data.length) 0, reg := [0, 0, 0, 0, 0, 0, 0, 0, 0, 0, 0, 0, 0, 0, 0, mem], pc := entry, inp := inp, out := [], kind := 0, panics := 0, steps := 0 }
/-- the error's number -/
def newErr (code data : List Int) (entry mem : Int) (inp : List UInt8) : Int :=
  if code.length < 1 ∨ 65536 < code.length ∨ 16384 < data.length ∨ entry < 0 ∨ (code.length : Int) ≤ entry then 4
  else if mem < (data.length : Int) ∨ 262144 < mem ∨ 4096 < inp.length then 1 else 0
theorem bclone_R {R : Nat → Prop} {w : World} {v : Value} {l : List UInt8} (h : BytesR R w v l) (hl : l.length ≤ 262144) :
    Calls Try.prog 32 #[v] w fun e w' => ∃ x c, e = .returned (.slice x l.length c) ∧ w'.ownsRow w.heap.size 5 1 (.slice x l.length c) l.length (byteV l) ∧ Nw w w' := by
  suffices key : Calls Try.prog 32 #[v] w (CloneP 5 (byteV l) w) by
    refine key.mono ?_
    rintro e w' ⟨v', rfl, ho, hk⟩
    rw [byteV_length] at ho
    obtain ⟨x, c, rfl⟩ := own_slice ho
    exact ⟨x, c, rfl, ho, hk⟩
  obtain ⟨x, cap, rfl, h1, h2, h3⟩ := h
  have h8 : ∀ u ∈ byteV l, u.oneCell' = true := by
    intro u hu
    simp only [byteV, List.mem_map] at hu
    obtain ⟨b, _, rfl⟩ := hu
    rfl
  cases x with
  | none =>
    have : l = [] := by
      by_cases e : l = []
      · exact e
      · obtain ⟨b, o, e2, _⟩ := h3 e
        simp at e2
    subst this
    exact bclone_nil w _ _
  | some ad =>
    refine bclone_some w ad l.length cap (byteV l) (byteV_length l) hl ?_ h8
    intro j u hu
    have hj : j < l.length := by
      have := (List.getElem?_eq_some_iff.1 hu).1
      rwa [byteV_length] at this
    obtain ⟨b, o, e, _, hc⟩ := h3 (by intro e; rw [e] at hj; simp at hj)
    injection e with e
    subst e
    have h4 := hc j hj
    have e5 : (⟨b, o, none⟩ : Addr).add j = ⟨b, o + j, none⟩ := by unfold Addr.add; split <;> simp_all
    rw [e5, h4]
    have h6 : (byteV l)[j]? = some (.int .u8 (l[j].toNat : Int)) := by simp [byteV, hj]
    rw [← hu, h6]
theorem wclone_R {R : Nat → Prop} {w : World} {v : Value} {l : List Int} (h : WordsR R w v l) (hl : l.length ≤ 262144) :
    Calls Try.prog 31 #[v] w fun e w' => ∃ x c, e = .returned (.slice x l.length c) ∧ w'.ownsRow w.heap.size 2 1 (.slice x l.length c) l.length (l.map (Value.int .i64)) ∧ Nw w w' := by
  suffices key : Calls Try.prog 31 #[v] w (CloneP 2 (l.map (Value.int .i64)) w) by
    refine key.mono ?_
    rintro e w' ⟨v', rfl, ho, hk⟩
    rw [List.length_map] at ho
    obtain ⟨x, c, rfl⟩ := own_slice ho
    exact ⟨x, c, rfl, ho, hk⟩
  obtain ⟨x, cap, rfl, h1, h2, h3⟩ := h
  have h8 : ∀ u ∈ l.map (Value.int .i64), u.oneCell' = true := by
    intro u hu
    simp only [List.mem_map] at hu
    obtain ⟨b, _, rfl⟩ := hu
    rfl
  cases x with
  | none =>
    have : l = [] := by
      by_cases e : l = []
      · exact e
      · obtain ⟨b, o, e2, _⟩ := h3 e
        simp at e2
    subst this
    exact wclone_nil w _ _
  | some ad =>
    refine wclone_some w ad l.length cap (l.map (Value.int .i64)) (List.length_map _) hl ?_ h8
    intro j u hu
    have hj : j < l.length := by
      have := (List.getElem?_eq_some_iff.1 hu).1
      rwa [List.length_map] at this
    obtain ⟨b, o, e, _, hc⟩ := h3 (by intro e; rw [e] at hj; simp at hj)
    injection e with e
    subst e
    have h4 := hc j hj
    have e5 : (⟨b, o, none⟩ : Addr).add j = ⟨b, o + j, none⟩ := by unfold Addr.add; split <;> simp_all
    rw [e5, h4]
    have h6 : (l.map (Value.int .i64))[j]? = some (.int .i64 l[j]) := by simp [hj]
    rw [← hu, h6]
/-- a row that the call owns reads as those words -/
theorem own_wordsR {R : Nat → Prop} {w : World} {base e : Nat} {v : Value} {l : List Int} (h : w.ownsRow base e 1 v l.length (l.map (Value.int .i64))) (hR : ∀ g, v.ownBlock = some g → R g) : WordsR R w v l := by
  rcases h.2 with ⟨h1, h2⟩ | ⟨g, cap, cur, hv, hb, hg, hn, hm, hc, ht⟩
  · have hl := List.eq_nil_of_length_eq_zero h2
    subst hl
    rw [h1]; exact ⟨none, 0, rfl, Nat.le_refl _, Nat.zero_le _, fun h => absurd rfl h⟩
  · refine ⟨_, cap, hv, hn, hm, fun _ => ⟨g, 0, rfl, hR g (by rw [hv]; rfl), fun i hi => ?_⟩⟩
    have h3 := h.cells (g := g) (by rw [hv]; rfl) i (.int .i64 l[i]) (by simp [hi])
    have e : (⟨g, 0, none⟩ : Addr).add i = ⟨g, 0 + i, none⟩ := by unfold Addr.add; split <;> simp_all
    rw [← e]; exact h3
theorem own_bytesR {R : Nat → Prop} {w : World} {base e : Nat} {v : Value} {l : List UInt8} (h : w.ownsRow base e 1 v l.length (byteV l)) (hR : ∀ g, v.ownBlock = some g → R g) : BytesR R w v l := by
  rcases h.2 with ⟨h1, h2⟩ | ⟨g, cap, cur, hv, hb, hg, hn, hm, hc, ht⟩
  · have hl := List.eq_nil_of_length_eq_zero h2
    subst hl
    rw [h1]; exact ⟨none, 0, rfl, Nat.le_refl _, Nat.zero_le _, fun h => absurd rfl h⟩
  · refine ⟨_, cap, hv, hn, hm, fun _ => ⟨g, 0, rfl, hR g (by rw [hv]; rfl), fun i hi => ?_⟩⟩
    have h3 := h.cells (g := g) (by rw [hv]; rfl) i (.int .u8 (l[i].toNat : Int)) (by simp [byteV, hi])
    have e : (⟨g, 0, none⟩ : Addr).add i = ⟨g, 0 + i, none⟩ := by unfold Addr.add; split <;> simp_all
    rw [← e]; exact h3

set_option maxRecDepth 100000 in
set_option maxHeartbeats 2000000 in
theorem new_bad (w : World) (xc xd xi : Option Addr) (nc cc nd cd ni ci : Nat) (entry mem : Int) (err : Int) (hnc : nc ≤ 140737488355328) (hnd : nd ≤ 140737488355328) (hni : ni ≤ 9223372036854775807)
    (h : ((nc < 1 ∨ 65536 < nc ∨ 16384 < nd ∨ entry < 0 ∨ (nc : Int) ≤ entry) ∧ err = 4) ∨ ((¬ (nc < 1 ∨ 65536 < nc ∨ 16384 < nd ∨ entry < 0 ∨ (nc : Int) ≤ entry)) ∧ (mem < (nd : Int) ∨ 262144 < mem ∨ 4096 < ni) ∧ err = 1)) :
    Calls Try.prog 13 #[.agg #[.slice xc nc cc, .slice xd nd cd, .int .i64 entry], .int .i64 mem, .slice xi ni ci] w fun e w' => e = .returned (.tuple #[.pointer none, .int .i64 err]) ∧ Nw w w' := by
  have N0 := Lib.hid (Nw.new w (.cells #[.slice xc nc cc, .slice xd nd cd, .int .i64 entry] 29))
  have B0 := Lib.hid (Blk.new w [.slice xc nc cc, .slice xd nd cd, .int .i64 entry] 29)
  have hwc : IntKind.i64.wrap ((nc : Nat) : Int) = nc := IntWalk.i64_in _ (by omega)
  have hwd : IntKind.i64.wrap ((nd : Nat) : Int) = nd := IntWalk.i64_in _ (by omega)
  have hwi : IntKind.i64.wrap ((ni : Nat) : Int) = ni := IntWalk.i64_in _ (by omega)
  by_cases hc0 : nc < 1
  · skip
    obtain rfl : err = 4 := by omega
    have hx0 : (nc : Int) < 1 := by omega
    clear h
    go_enter Try.func13, Try.ntmps13
    go_upto_region 1 with fail
    generalize w.alloc (.cells #[.slice xc nc cc, .slice xd nd cd, .int .i64 entry] 29) = w0 at *
    generalize w.heap.size = bi at *
    have i0 := B0.out.cell 0
    have i1 := B0.out.cell 1
    have i2 := B0.out.cell 2
    simp only [List.getElem?_cons_zero, List.getElem?_cons_succ] at i0 i1 i2
    go_wp2_with fail
    go_returns
    exact ⟨rfl, N0.out⟩
  by_cases hc1 : 65536 < nc
  · skip
    obtain rfl : err = 4 := by omega
    have hx0 : (1 : Int) ≤ (nc : Int) := by omega
    have hx1 : (65536 : Int) < (nc : Int) := by omega
    clear h
    go_enter Try.func13, Try.ntmps13
    go_upto_region 1 with fail
    generalize w.alloc (.cells #[.slice xc nc cc, .slice xd nd cd, .int .i64 entry] 29) = w0 at *
    generalize w.heap.size = bi at *
    have i0 := B0.out.cell 0
    have i1 := B0.out.cell 1
    have i2 := B0.out.cell 2
    simp only [List.getElem?_cons_zero, List.getElem?_cons_succ] at i0 i1 i2
    go_wp2_with fail
    go_returns
    exact ⟨rfl, N0.out⟩
  by_cases hc2 : 16384 < nd
  · skip
    obtain rfl : err = 4 := by omega
    have hx0 : (1 : Int) ≤ (nc : Int) := by omega
    have hx1 : (nc : Int) ≤ 65536 := by omega
    have hx2 : (16384 : Int) < (nd : Int) := by omega
    clear h
    go_enter Try.func13, Try.ntmps13
    go_upto_region 1 with fail
    generalize w.alloc (.cells #[.slice xc nc cc, .slice xd nd cd, .int .i64 entry] 29) = w0 at *
    generalize w.heap.size = bi at *
    have i0 := B0.out.cell 0
    have i1 := B0.out.cell 1
    have i2 := B0.out.cell 2
    simp only [List.getElem?_cons_zero, List.getElem?_cons_succ] at i0 i1 i2
    go_wp2_with fail
    go_returns
    exact ⟨rfl, N0.out⟩
  by_cases hc3 : entry < 0
  · skip
    obtain rfl : err = 4 := by omega
    have hx0 : (1 : Int) ≤ (nc : Int) := by omega
    have hx1 : (nc : Int) ≤ 65536 := by omega
    have hx2 : (nd : Int) ≤ 16384 := by omega
    have hx3 : entry < 0 := by omega
    clear h
    go_enter Try.func13, Try.ntmps13
    go_upto_region 1 with fail
    generalize w.alloc (.cells #[.slice xc nc cc, .slice xd nd cd, .int .i64 entry] 29) = w0 at *
    generalize w.heap.size = bi at *
    have i0 := B0.out.cell 0
    have i1 := B0.out.cell 1
    have i2 := B0.out.cell 2
    simp only [List.getElem?_cons_zero, List.getElem?_cons_succ] at i0 i1 i2
    go_wp2_with fail
    go_returns
    exact ⟨rfl, N0.out⟩
  by_cases hc4 : (nc : Int) ≤ entry
  · skip
    obtain rfl : err = 4 := by omega
    have hx0 : (1 : Int) ≤ (nc : Int) := by omega
    have hx1 : (nc : Int) ≤ 65536 := by omega
    have hx2 : (nd : Int) ≤ 16384 := by omega
    have hx3 : 0 ≤ entry := by omega
    have hx4 : (nc : Int) ≤ entry := by omega
    clear h
    go_enter Try.func13, Try.ntmps13
    go_upto_region 1 with fail
    generalize w.alloc (.cells #[.slice xc nc cc, .slice xd nd cd, .int .i64 entry] 29) = w0 at *
    generalize w.heap.size = bi at *
    have i0 := B0.out.cell 0
    have i1 := B0.out.cell 1
    have i2 := B0.out.cell 2
    simp only [List.getElem?_cons_zero, List.getElem?_cons_succ] at i0 i1 i2
    go_wp2_with fail
    go_returns
    exact ⟨rfl, N0.out⟩
  by_cases hc5 : mem < (nd : Int)
  · skip
    obtain rfl : err = 1 := by omega
    have hx0 : (1 : Int) ≤ (nc : Int) := by omega
    have hx1 : (nc : Int) ≤ 65536 := by omega
    have hx2 : (nd : Int) ≤ 16384 := by omega
    have hx3 : 0 ≤ entry := by omega
    have hx4 : entry < (nc : Int) := by omega
    have hx5 : mem < (nd : Int) := by omega
    clear h
    go_enter Try.func13, Try.ntmps13
    go_upto_region 1 with fail
    generalize w.alloc (.cells #[.slice xc nc cc, .slice xd nd cd, .int .i64 entry] 29) = w0 at *
    generalize w.heap.size = bi at *
    have i0 := B0.out.cell 0
    have i1 := B0.out.cell 1
    have i2 := B0.out.cell 2
    simp only [List.getElem?_cons_zero, List.getElem?_cons_succ] at i0 i1 i2
    go_wp2_with fail
    go_returns
    exact ⟨rfl, N0.out⟩
  by_cases hc6 : 262144 < mem
  · skip
    obtain rfl : err = 1 := by omega
    have hx0 : (1 : Int) ≤ (nc : Int) := by omega
    have hx1 : (nc : Int) ≤ 65536 := by omega
    have hx2 : (nd : Int) ≤ 16384 := by omega
    have hx3 : 0 ≤ entry := by omega
    have hx4 : entry < (nc : Int) := by omega
    have hx5 : (nd : Int) ≤ mem := by omega
    have hx6 : 262144 < mem := by omega
    clear h
    go_enter Try.func13, Try.ntmps13
    go_upto_region 1 with fail
    generalize w.alloc (.cells #[.slice xc nc cc, .slice xd nd cd, .int .i64 entry] 29) = w0 at *
    generalize w.heap.size = bi at *
    have i0 := B0.out.cell 0
    have i1 := B0.out.cell 1
    have i2 := B0.out.cell 2
    simp only [List.getElem?_cons_zero, List.getElem?_cons_succ] at i0 i1 i2
    go_wp2_with fail
    go_returns
    exact ⟨rfl, N0.out⟩
  by_cases hc7 : 4096 < ni
  · skip
    obtain rfl : err = 1 := by omega
    have hx0 : (1 : Int) ≤ (nc : Int) := by omega
    have hx1 : (nc : Int) ≤ 65536 := by omega
    have hx2 : (nd : Int) ≤ 16384 := by omega
    have hx3 : 0 ≤ entry := by omega
    have hx4 : entry < (nc : Int) := by omega
    have hx5 : (nd : Int) ≤ mem := by omega
    have hx6 : mem ≤ 262144 := by omega
    have hx7 : (4096 : Int) < (ni : Int) := by omega
    clear h
    go_enter Try.func13, Try.ntmps13
    go_upto_region 1 with fail
    generalize w.alloc (.cells #[.slice xc nc cc, .slice xd nd cd, .int .i64 entry] 29) = w0 at *
    generalize w.heap.size = bi at *
    have i0 := B0.out.cell 0
    have i1 := B0.out.cell 1
    have i2 := B0.out.cell 2
    simp only [List.getElem?_cons_zero, List.getElem?_cons_succ] at i0 i1 i2
    go_wp2_with fail
    go_returns
    exact ⟨rfl, N0.out⟩
  exfalso
  omega
end Go.Proofs.Ythlcoocboidnlaa
