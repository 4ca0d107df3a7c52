/- The law's own functions: num, SameImage, awake, Great, heavy, linked. -/
import Derived.Test.YtfdjlicegfgodaaLkW
namespace Go.Proofs.Ytfdjlicegfgodaa
open Go.RowKit
set_option linter.unusedSimpArgs false
set_option linter.unusedVariables false

theorem SlB.nil {α : Type} (B : Nat) (W : World) (n : Nat) (E : α → List Value → Prop) : SlB B W n E [] (.slice none 0 0) := ⟨none, 0, rfl, Nat.zero_le _, fun h => absurd rfl h⟩
theorem num30_any (e : Int) (w : World) : Calls Try.prog 23 #[.int .i64 e] w fun r w' => r = .returned (.int .i64 e) ∧ w = w' := by
  go_enter Try.func23, Try.ntmps23
  go_wp2_with fail
  go_returns
  exact ⟨rfl, rfl⟩
/-- words in a row of our own -/
theorem own_SlB {w : World} {base : Nat} {l : List Int} {x : Option Addr} {n c : Nat} (h : w.ownsRow base 2 1 (.slice x n c) n (wdV l)) (hi : ∀ v ∈ l, I64 v) (hn : n = l.length) (hl : n ≤ 140737488355328) : SlB w.heap.size w 1 WdAt l (.slice x n c) := by
  subst hn
  refine ⟨x, c, rfl, hl, fun hne => ?_⟩
  obtain ⟨g, rfl⟩ := own_some h (by cases l with | nil => exact absurd rfl hne | cons a r => simp)
  refine ⟨g, 0, rfl, (h.lt g rfl).2, fun i hi2 => ⟨[.int .i64 l[i]], rfl, fun j hj => ?_, rfl, hi _ (List.getElem_mem hi2)⟩⟩
  have : j = 0 := by simp at hj; omega
  subst this
  simp only [Nat.zero_add, Nat.mul_one, Nat.add_zero, List.getElem?_cons_zero]
  exact own_cell h hi2
/-- words in a block of a row -/
theorem blk_SlB {w : World} {b : Nat} {l : List Int} {t : TypeId} (h : Blk w b (wdV l) t) (hi : ∀ v ∈ l, I64 v) {n c : Nat} (hn : n = l.length) (hl : n ≤ 140737488355328) : SlB w.heap.size w 1 WdAt l (.slice (some ⟨b, 0, none⟩) n c) := by
  subst hn
  refine ⟨_, c, rfl, hl, fun hne => ⟨b, 0, rfl, h.lt, fun i hi2 => ⟨[.int .i64 l[i]], rfl, fun j hj => ?_, rfl, hi _ (List.getElem_mem hi2)⟩⟩⟩
  have : j = 0 := by simp at hj; omega
  subst this
  simp only [Nat.zero_add, Nat.mul_one, Nat.add_zero, List.getElem?_cons_zero]
  rw [h.cell i]
  unfold wdV
  rw [List.getElem?_map, List.getElem?_eq_getElem hi2]
  rfl
theorem SlB.self_nw {α : Type} {w w' : World} {m : Nat} {E : α → List Value → Prop} {l : List α} {v : Value} (h : SlB w.heap.size w m E l v) (k : Nw w w') : SlB w'.heap.size w' m E l v :=
  h.mono k.size (fun b o cs hb hc => hc.kp k (fun x => x)) (fun _ _ _ x => x)
set_option maxRecDepth 100000 in
set_option maxHeartbeats 2000000 in
theorem sameImage_any {w : World} {l l' d d' : List Int} {v1 v1' v2 v2' : Value} (h1 : SlB w.heap.size w 1 WdAt l v1) (h1' : SlB w.heap.size w 1 WdAt l' v1') (h2 : SlB w.heap.size w 1 WdAt d v2) (h2' : SlB w.heap.size w 1 WdAt d' v2') (e1 : l = l') (e2 : d = d') :
    Calls Try.prog 49 #[.agg #[v1, v2, .int .i64 0], .agg #[v1', v2', .int .i64 0]] w (BoolPost w true) := by
  have W1 := Lib.hid (fun (wz : World) (k : Nw w wz) => words28 l l' v1 v1' wz h1 h1' ((In.self w).nw k))
  have W2 := Lib.hid (fun (wz : World) (k : Nw w wz) => words28 d d' v2 v2' wz h2 h2' ((In.self w).nw k))
  rw [dc_true e1] at W1
  rw [dc_true e2] at W2
  obtain ⟨x1, n1, c1, rfl⟩ := h1.slice
  obtain ⟨x1', n1', c1', rfl⟩ := h1'.slice
  obtain ⟨x2, n2, c2, rfl⟩ := h2.slice
  obtain ⟨x2', n2', c2', rfl⟩ := h2'.slice
  have N0 := Lib.hid (show Nw w ((w.alloc (.cells #[.slice x1 n1 c1, .slice x2 n2 c2, .int .i64 0] 53)).alloc (.cells #[.slice x1' n1' c1', .slice x2' n2' c2', .int .i64 0] 53)) from ((Nw.refl w).alloc _).alloc _)
  have BA := Lib.hid ((Blk.new w [.slice x1 n1 c1, .slice x2 n2 c2, .int .i64 0] 53).alloc (.cells #[.slice x1' n1' c1', .slice x2' n2' c2', .int .i64 0] 53))
  have BB := Lib.hid (show Blk ((w.alloc (.cells #[.slice x1 n1 c1, .slice x2 n2 c2, .int .i64 0] 53)).alloc (.cells #[.slice x1' n1' c1', .slice x2' n2' c2', .int .i64 0] 53)) (w.heap.size + 1) [.slice x1' n1' c1', .slice x2' n2' c2', .int .i64 0] 53 by
    have := Blk.new (w.alloc (.cells #[.slice x1 n1 c1, .slice x2 n2 c2, .int .i64 0] 53)) [.slice x1' n1' c1', .slice x2' n2' c2', .int .i64 0] 53
    rw [size_alloc] at this; exact this)
  clear h1 h1' h2 h2' e1 e2
  go_enter Try.func49, Try.ntmps49
  go_upto_region 1 with fail
  generalize (w.alloc (.cells #[.slice x1 n1 c1, .slice x2 n2 c2, .int .i64 0] 53)).alloc (.cells #[.slice x1' n1' c1', .slice x2' n2' c2', .int .i64 0] 53) = w0 at *
  have cA := BA.out.cell
  have cB := BB.out.cell
  go_wp2_with fail
  refine (W1.out _ N0.out).mono ?_
  rintro ea wa ⟨rfl, k1⟩
  have K1 := Lib.hid k1
  clear cA cB
  have cA := (BA.out.nw k1).cell
  have cB := (BB.out.nw k1).cell
  clear k1
  go_wp2_with fail
  refine (W2.out _ (N0.out.trans K1.out)).mono ?_
  rintro eb wb ⟨rfl, k2⟩
  have K2 := Lib.hid k2
  clear k2
  go_wp2_with fail
  go_returns
  exact ⟨rfl, N0.out.trans (K1.out.trans K2.out)⟩
theorem badV_nil : badV [] [] = 0 := by
  refine bad0 ?_ ⟨fun n c h => (by cases h), fun r h => (by cases h), fun b h => (by cases h)⟩ (by unfold limP sumC sumD; simp)
  rw [packI (by simp) (by simp [pkgs])]
  exact impV0 (by rintro ⟨m, h, _⟩; cases h) (by rintro ⟨m, h, _⟩; cases h)
theorem imgC_nil : imgC [] [] = [0] := rfl
theorem imgD_nil : imgD [] [] = [0, 2] := rfl
theorem counted_nil : countedL [] 0 = [] := rfl
set_option maxRecDepth 100000 in
set_option maxHeartbeats 2000000 in
theorem awake30_any (w : World) : Calls Try.prog 21 #[] w (BoolPost w true) := by
  have LI := Lib.hid (link_any (os := []) (bg := []) (B := w.heap.size) (W := w) (w := w) (SlB.nil _ _ _ _) (SlB.nil _ _ _ _) (In.self w) (by simp) (by simp) (by simp [occs, fromO]))
  go_enter Try.func21, Try.ntmps21
  go_wp2_with fail
  refine LI.out.mono ?_
  rintro e1 w1 (⟨_, x, c, y, d, s, k, rfl, ho1, ho2, ho3, kk⟩ | ⟨hb, _⟩)
  rotate_left
  · exact absurd badV_nil hb
  rw [imgC_nil] at ho1
  rw [imgD_nil] at ho2
  rw [imgC_nil, imgD_nil, show ([] : List ByteArray).length = 0 from rfl, counted_nil]
  simp only [List.length_cons, List.length_nil, Nat.zero_add, Nat.reduceAdd] at ho1 ho2 ⊢
  have O1 := Lib.hid (own_SlB ho1 (by intro v hv; simp at hv; subst hv; exact ⟨by decide, by decide⟩) rfl (by decide))
  have O2 := Lib.hid (own_SlB ho2 (by intro v hv; simp at hv; rcases hv with rfl | rfl <;> exact ⟨by decide, by decide⟩) rfl (by decide))
  have K1 := Lib.hid kk
  have NX := Lib.hid (Nw.new w1 (.cells #[.slice x 1 c, .slice y 2 d, .int .i64 0] 53))
  have BX := Lib.hid (Blk.new w1 [.slice x 1 c, .slice y 2 d, .int .i64 0] 53)
  have cX := BX.out.cell
  clear ho1 ho2 ho3 kk LI
  have O1X := Lib.hid (O1.out.self_nw NX.out)
  have O2X := Lib.hid (O2.out.self_nw NX.out)
  clear O1 O2
  go_upto_region 2 with fail
  generalize w1.alloc (.cells #[.slice x 1 c, .slice y 2 d, .int .i64 0] 53) = wX at *
  generalize w1.heap.size = bx at *
  have NY := Lib.hid (show Nw wX ((wX.alloc (.cells #[.int .i64 0] 2)).alloc (.cells #[.int .i64 0, .int .i64 2] 2)) from ((Nw.refl wX).alloc _).alloc _)
  have B1 := Lib.hid (show Blk ((wX.alloc (.cells #[.int .i64 0] 2)).alloc (.cells #[.int .i64 0, .int .i64 2] 2)) wX.heap.size (wdV [0]) 2 from (Blk.new wX [.int .i64 0] 2).alloc _)
  have B2 := Lib.hid (show Blk ((wX.alloc (.cells #[.int .i64 0] 2)).alloc (.cells #[.int .i64 0, .int .i64 2] 2)) (wX.heap.size + 1) (wdV [0, 2]) 2 from by
    have := Blk.new (wX.alloc (.cells #[.int .i64 0] 2)) [.int .i64 0, .int .i64 2] 2
    rw [size_alloc] at this; exact this)
  have SI := Lib.hid (sameImage_any (O1X.out.self_nw NY.out) (blk_SlB B1.out (by intro v hv; simp at hv; subst hv; exact ⟨by decide, by decide⟩) (n := 1) (c := 1) rfl (by decide)) (O2X.out.self_nw NY.out) (blk_SlB B2.out (by intro v hv; simp at hv; rcases hv with rfl | rfl <;> exact ⟨by decide, by decide⟩) (n := 2) (c := 2) rfl (by decide)) rfl rfl)
  go_wp2_with fail
  refine (num30_any _ _).mono ?_
  rintro e4 w4 ⟨rfl, rfl⟩
  go_wp2_with fail
  refine SI.out.mono ?_
  rintro e5 w5 ⟨rfl, k5⟩
  have K5 := Lib.hid (K1.out.trans (NX.out.trans (NY.out.trans k5)))
  clear k5 SI
  go_wp2_with fail
  go_returns
  exact ⟨rfl, K5.out⟩
def GreatP (o : Ob) : Prop := 200 < o.syms.length ∨ 400 < o.relocs.length ∨ 50 < o.imports.length ∨ 70000 < o.code.length ∨ 30000 < o.data.length
instance (o : Ob) : Decidable (GreatP o) := by unfold GreatP; infer_instance
def greatB (o : Ob) : Bool := decide (GreatP o)
set_option maxRecDepth 100000 in
set_option maxHeartbeats 400000 in
theorem great28_any {B : Nat} {W w : World} (o : Ob) (cs : List Value) (hx : ObAt B W o cs) : Calls Try.prog 11 #[.agg cs.toArray] w (BoolPost w (greatB o)) := by
  generalize hg : greatB o = g
  obtain ⟨pk, hash, is, ss, rs, code, data⟩ := o
  obtain ⟨vi, vs, vr, vc, vd, rfl, hp, hh, hi, hs, hr, hc, hd⟩ := hx
  obtain ⟨x2, c2, rfl, hil, hie⟩ := hi
  obtain ⟨x3, c3, rfl, hsl, hse⟩ := hs
  obtain ⟨x4, c4, rfl, hrl, hre⟩ := hr
  obtain ⟨x5, c5, rfl, hcl, hce⟩ := hc
  obtain ⟨x6, c6, rfl, hdl, hde⟩ := hd
  clear hie hse hre hce hde
  have GP := Lib.hid (show (GreatP ⟨pk, hash, is, ss, rs, code, data⟩ → g = true) ∧ (¬ GreatP ⟨pk, hash, is, ss, rs, code, data⟩ → g = false) from ⟨fun h => by rw [← hg]; exact decide_eq_true h, fun h => by rw [← hg]; exact decide_eq_false h⟩)
  unfold GreatP at GP
  dsimp only at GP hil hsl hrl hcl hdl ⊢
  clear hg
  generalize is.length = m2 at *
  generalize ss.length = m3 at *
  generalize rs.length = m4 at *
  generalize code.length = m5 at *
  generalize data.length = m6 at *
  have N0 := Lib.hid (Nw.new w (.cells #[.string pk, .int .i64 hash, .slice x2 m2 c2, .slice x3 m3 c3, .slice x4 m4 c4, .slice x5 m5 c5, .slice x6 m6 c6] 27))
  have BX := Lib.hid (Blk.new w [.string pk, .int .i64 hash, .slice x2 m2 c2, .slice x3 m3 c3, .slice x4 m4 c4, .slice x5 m5 c5, .slice x6 m6 c6] 27)
  by_cases hm3 : (200 : Int) < (m3 : Int)
  · skip
    have X := Lib.hid (show g = true from GP.out.1 (by omega))
    rw [X.out]
    go_enter Try.func11, Try.ntmps11
    go_upto_region 1 with fail
    generalize w.alloc (.cells #[.string pk, .int .i64 hash, .slice x2 m2 c2, .slice x3 m3 c3, .slice x4 m4 c4, .slice x5 m5 c5, .slice x6 m6 c6] 27) = w0 at *
    have cO := BX.out.cell
    go_wp2_with fail
    go_returns
    exact ⟨rfl, N0.out⟩
  by_cases hm4 : (400 : Int) < (m4 : Int)
  · skip
    have X := Lib.hid (show g = true from GP.out.1 (by omega))
    rw [X.out]
    go_enter Try.func11, Try.ntmps11
    go_upto_region 1 with fail
    generalize w.alloc (.cells #[.string pk, .int .i64 hash, .slice x2 m2 c2, .slice x3 m3 c3, .slice x4 m4 c4, .slice x5 m5 c5, .slice x6 m6 c6] 27) = w0 at *
    have cO := BX.out.cell
    go_wp2_with fail
    go_returns
    exact ⟨rfl, N0.out⟩
  by_cases hm2 : (50 : Int) < (m2 : Int)
  · skip
    have X := Lib.hid (show g = true from GP.out.1 (by omega))
    rw [X.out]
    go_enter Try.func11, Try.ntmps11
    go_upto_region 1 with fail
    generalize w.alloc (.cells #[.string pk, .int .i64 hash, .slice x2 m2 c2, .slice x3 m3 c3, .slice x4 m4 c4, .slice x5 m5 c5, .slice x6 m6 c6] 27) = w0 at *
    have cO := BX.out.cell
    go_wp2_with fail
    go_returns
    exact ⟨rfl, N0.out⟩
  by_cases hm5 : (70000 : Int) < (m5 : Int)
  · skip
    have X := Lib.hid (show g = true from GP.out.1 (by omega))
    rw [X.out]
    go_enter Try.func11, Try.ntmps11
    go_upto_region 1 with fail
    generalize w.alloc (.cells #[.string pk, .int .i64 hash, .slice x2 m2 c2, .slice x3 m3 c3, .slice x4 m4 c4, .slice x5 m5 c5, .slice x6 m6 c6] 27) = w0 at *
    have cO := BX.out.cell
    go_wp2_with fail
    go_returns
    exact ⟨rfl, N0.out⟩
  by_cases hm6 : (30000 : Int) < (m6 : Int)
  · skip
    have X := Lib.hid (show g = true from GP.out.1 (by omega))
    rw [X.out]
    go_enter Try.func11, Try.ntmps11
    go_upto_region 1 with fail
    generalize w.alloc (.cells #[.string pk, .int .i64 hash, .slice x2 m2 c2, .slice x3 m3 c3, .slice x4 m4 c4, .slice x5 m5 c5, .slice x6 m6 c6] 27) = w0 at *
    have cO := BX.out.cell
    go_wp2_with fail
    go_returns
    exact ⟨rfl, N0.out⟩
  have X := Lib.hid (show g = false from GP.out.2 (by omega))
  rw [X.out]
  go_enter Try.func11, Try.ntmps11
  go_upto_region 1 with fail
  generalize w.alloc (.cells #[.string pk, .int .i64 hash, .slice x2 m2 c2, .slice x3 m3 c3, .slice x4 m4 c4, .slice x5 m5 c5, .slice x6 m6 c6] 27) = w0 at *
  have cO := BX.out.cell
  go_wp2_with fail
  go_returns
  exact ⟨rfl, N0.out⟩
theorem great_no {o : Ob} (h : greatB o = false) : o.syms.length ≤ 200 ∧ o.relocs.length ≤ 400 ∧ o.imports.length ≤ 50 := by
  have := of_decide_eq_false h
  unfold GreatP at this
  omega
end Go.Proofs.Ytfdjlicegfgodaa
