/- The statements' helpers: heavy, Same, Begins; what runs have in common. -/
import Derived.Test.YthlcoocboidnlaaMach16
import Derived.Test.YthlcoocboidnlaaOpen3
namespace Go.Proofs.Ythlcoocboidnlaa
open Go.RowKit
set_option linter.unusedSimpArgs false
set_option linter.unusedVariables false

/-! ### runs -/
theorem op_steps (s : Ms) (op a b n : Int) : (s.op op a b n).steps = s.steps := by
  have h : ∀ (c : Prop) [Decidable c] (x y : Ms), x.steps = s.steps → y.steps = s.steps → (if c then x else y).steps = s.steps := fun c _ x y hx hy => by split <;> assumption
  unfold Ms.op
  repeat' (first | (refine h _ _ _ ?_ ?_) | rfl | (cases s.inp <;> rfl))
theorem words_steps (s : Ms) (a : Int) (v : Int × Int) : (s.words a v).steps = s.steps := by
  unfold Ms.words Ms.put
  split <;> rfl
theorem step_steps (s : Ms) : s.step.steps = if s.kind = 0 then wrap64 (s.steps + 1) else s.steps := by
  unfold Ms.step
  split
  · unfold Ms.step1
    split
    · split
      · unfold Ms.doit
        split
        · rw [op_steps]; rfl
        · rw [words_steps]; rfl
      · rfl
    · rfl
  · rfl
theorem op_out (s : Ms) (op a b n : Int) : ∃ l, (s.op op a b n).out = s.out ++ l := by
  have h : ∀ (c : Prop) [Decidable c] (x y : Ms), (∃ l, x.out = s.out ++ l) → (∃ l, y.out = s.out ++ l) → ∃ l, (if c then x else y).out = s.out ++ l := fun c _ x y hx hy => by split <;> assumption
  unfold Ms.op
  repeat' (first | (refine h _ _ _ ?_ ?_) | exact ⟨[], (List.append_nil _).symm⟩ | exact ⟨_, rfl⟩ | (cases s.inp <;> exact ⟨[], (List.append_nil _).symm⟩))
theorem words_out (s : Ms) (a : Int) (v : Int × Int) : (s.words a v).out = s.out := by
  unfold Ms.words Ms.put
  split <;> rfl
theorem step_out (s : Ms) : ∃ l, s.step.out = s.out ++ l := by
  unfold Ms.step
  split
  · unfold Ms.step1
    split
    · split
      · unfold Ms.doit
        split
        · exact op_out _ _ _ _ _
        · exact ⟨[], by rw [words_out, List.append_nil]; rfl⟩
      · exact ⟨[], (List.append_nil _).symm⟩
    · exact ⟨[], (List.append_nil _).symm⟩
  · exact ⟨[], (List.append_nil _).symm⟩
theorem run_out (k : Nat) : ∀ s : Ms, ∃ l, (s.runN k).out = s.out ++ l := by
  induction k with
  | zero => intro s; exact ⟨[], (List.append_nil _).symm⟩
  | succ k ih =>
    intro s
    obtain ⟨l1, h1⟩ := step_out s
    obtain ⟨l2, h2⟩ := ih s.step
    exact ⟨l1 ++ l2, by rw [Ms.runN, h2, h1, List.append_assoc]⟩
theorem run_steps (k : Nat) : ∀ s : Ms, 0 ≤ s.steps → s.steps + k ≤ 1000000 → s.steps ≤ (s.runN k).steps ∧ (s.runN k).steps ≤ s.steps + k ∧ ((s.runN k).kind = 0 → (s.runN k).steps = s.steps + k) := by
  induction k with
  | zero => intro s h0 _; exact ⟨Int.le_refl _, by show s.steps ≤ _; omega, fun _ => by show s.steps = _; omega⟩
  | succ k ih =>
    intro s h0 h1
    have hs := step_steps s
    by_cases hk : s.kind = 0
    · rw [if_pos hk] at hs
      have e : wrap64 (s.steps + 1) = s.steps + 1 := by unfold wrap64; omega
      rw [e] at hs
      have := ih s.step (by omega) (by omega)
      rw [hs] at this
      rw [Ms.runN]
      exact ⟨by omega, by omega, fun h => by have := this.2.2 h; omega⟩
    · rw [Ms.runN_end hk]
      exact ⟨Int.le_refl _, by omega, fun h => absurd h hk⟩
theorem runN_add (s : Ms) (a b : Nat) : s.runN (a + b) = (s.runN a).runN b := by
  induction a generalizing s with
  | zero => rw [Nat.zero_add]; rfl
  | succ a ih => rw [show a + 1 + b = (a + b) + 1 by omega]; exact ih s.step

/-! ### heavy -/
def heavyB (nc nd ni : Nat) (mem fuel : Int) : Bool := decide (2000 < nc ∨ 2000 < nd ∨ 5000 < mem ∨ 100 < ni ∨ 3000 < fuel)
set_option maxRecDepth 100000 in
set_option maxHeartbeats 1000000 in
theorem heavy_any (w : World) (xc xd xi : Option Addr) (nc cc nd cd ni ci : Nat) (entry mem fuel : Int) (hnc : nc ≤ 140737488355328) (hnd : nd ≤ 140737488355328) (hni : ni ≤ 9223372036854775807) :
    Calls Try.prog 17 #[.agg #[.slice xc nc cc, .slice xd nd cd, .int .i64 entry], .int .i64 mem, .slice xi ni ci, .int .i64 fuel] w (BoolPost w (heavyB nc nd ni mem fuel)) := by
  have N0 := Lib.hid (Nw.new w (.cells #[.slice xc nc cc, .slice xd nd cd, .int .i64 entry] 29))
  have B0 := Lib.hid (Blk.new w [.slice xc nc cc, .slice xd nd cd, .int .i64 entry] 29)
  have hwc : IntKind.i64.wrap ((nc : Nat) : Int) = nc := IntWalk.i64_in _ (by omega)
  have hwd : IntKind.i64.wrap ((nd : Nat) : Int) = nd := IntWalk.i64_in _ (by omega)
  have hwi : IntKind.i64.wrap ((ni : Nat) : Int) = ni := IntWalk.i64_in _ (by omega)
  by_cases hc0 : 2000 < nc
  · skip
    have HB := Lib.hid (show heavyB nc nd ni mem fuel = true from decide_eq_true (by omega))
    rw [HB.out]
    have hx0 : (2000 : Int) < (nc : Int) := by omega
    go_enter Try.func17, Try.ntmps17
    go_upto_region 1 with fail
    generalize w.alloc (.cells #[.slice xc nc cc, .slice xd nd cd, .int .i64 entry] 29) = w0 at *
    generalize w.heap.size = bi at *
    have i0 := B0.out.cell 0
    have i1 := B0.out.cell 1
    simp only [List.getElem?_cons_zero, List.getElem?_cons_succ] at i0 i1
    go_wp2_with fail
    go_returns
    exact ⟨rfl, N0.out⟩
  by_cases hc1 : 2000 < nd
  · skip
    have HB := Lib.hid (show heavyB nc nd ni mem fuel = true from decide_eq_true (by omega))
    rw [HB.out]
    have hx0 : (nc : Int) ≤ 2000 := by omega
    have hx1 : (2000 : Int) < (nd : Int) := by omega
    go_enter Try.func17, Try.ntmps17
    go_upto_region 1 with fail
    generalize w.alloc (.cells #[.slice xc nc cc, .slice xd nd cd, .int .i64 entry] 29) = w0 at *
    generalize w.heap.size = bi at *
    have i0 := B0.out.cell 0
    have i1 := B0.out.cell 1
    simp only [List.getElem?_cons_zero, List.getElem?_cons_succ] at i0 i1
    go_wp2_with fail
    go_returns
    exact ⟨rfl, N0.out⟩
  by_cases hc2 : 5000 < mem
  · skip
    have HB := Lib.hid (show heavyB nc nd ni mem fuel = true from decide_eq_true (by omega))
    rw [HB.out]
    have hx0 : (nc : Int) ≤ 2000 := by omega
    have hx1 : (nd : Int) ≤ 2000 := by omega
    have hx2 : 5000 < mem := by omega
    go_enter Try.func17, Try.ntmps17
    go_upto_region 1 with fail
    generalize w.alloc (.cells #[.slice xc nc cc, .slice xd nd cd, .int .i64 entry] 29) = w0 at *
    generalize w.heap.size = bi at *
    have i0 := B0.out.cell 0
    have i1 := B0.out.cell 1
    simp only [List.getElem?_cons_zero, List.getElem?_cons_succ] at i0 i1
    go_wp2_with fail
    go_returns
    exact ⟨rfl, N0.out⟩
  by_cases hc3 : 100 < ni
  · skip
    have HB := Lib.hid (show heavyB nc nd ni mem fuel = true from decide_eq_true (by omega))
    rw [HB.out]
    have hx0 : (nc : Int) ≤ 2000 := by omega
    have hx1 : (nd : Int) ≤ 2000 := by omega
    have hx2 : mem ≤ 5000 := by omega
    have hx3 : (100 : Int) < (ni : Int) := by omega
    go_enter Try.func17, Try.ntmps17
    go_upto_region 1 with fail
    generalize w.alloc (.cells #[.slice xc nc cc, .slice xd nd cd, .int .i64 entry] 29) = w0 at *
    generalize w.heap.size = bi at *
    have i0 := B0.out.cell 0
    have i1 := B0.out.cell 1
    simp only [List.getElem?_cons_zero, List.getElem?_cons_succ] at i0 i1
    go_wp2_with fail
    go_returns
    exact ⟨rfl, N0.out⟩
  by_cases hc4 : 3000 < fuel
  · skip
    have HB := Lib.hid (show heavyB nc nd ni mem fuel = true from decide_eq_true (by omega))
    rw [HB.out]
    have hx0 : (nc : Int) ≤ 2000 := by omega
    have hx1 : (nd : Int) ≤ 2000 := by omega
    have hx2 : mem ≤ 5000 := by omega
    have hx3 : (ni : Int) ≤ 100 := by omega
    have hx4 : 3000 < fuel := by omega
    go_enter Try.func17, Try.ntmps17
    go_upto_region 1 with fail
    generalize w.alloc (.cells #[.slice xc nc cc, .slice xd nd cd, .int .i64 entry] 29) = w0 at *
    generalize w.heap.size = bi at *
    have i0 := B0.out.cell 0
    have i1 := B0.out.cell 1
    simp only [List.getElem?_cons_zero, List.getElem?_cons_succ] at i0 i1
    go_wp2_with fail
    go_returns
    exact ⟨rfl, N0.out⟩
  have HB := Lib.hid (show heavyB nc nd ni mem fuel = false from decide_eq_false (by omega))
  rw [HB.out]
  have hx0 : (nc : Int) ≤ 2000 := by omega
  have hx1 : (nd : Int) ≤ 2000 := by omega
  have hx2 : mem ≤ 5000 := by omega
  have hx3 : (ni : Int) ≤ 100 := by omega
  have hx4 : fuel ≤ 3000 := by omega
  have hd0 : decide ((2000 : Int) < (nc : Int)) = false := decide_eq_false (by omega)
  have hd1 : decide ((2000 : Int) < (nd : Int)) = false := decide_eq_false (by omega)
  have hd2 : decide (5000 < mem) = false := decide_eq_false (by omega)
  have hd3 : decide ((100 : Int) < (ni : Int)) = false := decide_eq_false (by omega)
  have hd4 : decide (3000 < fuel) = false := decide_eq_false (by omega)
  go_enter Try.func17, Try.ntmps17
  go_upto_region 1 with fail
  generalize w.alloc (.cells #[.slice xc nc cc, .slice xd nd cd, .int .i64 entry] 29) = w0 at *
  generalize w.heap.size = bi at *
  have i0 := B0.out.cell 0
  have i1 := B0.out.cell 1
  simp only [List.getElem?_cons_zero, List.getElem?_cons_succ] at i0 i1
  go_wp2_with fail
  go_returns
  exact ⟨rfl, N0.out⟩

/-! ### Same, Begins -/
set_option maxRecDepth 100000 in
set_option maxHeartbeats 1000000 in
theorem alike_true (w : World) (a : Oc) (x y : Option Addr) (c d : Nat) (hx : BytesAt w (.slice x a.out.length c) a.out) (hy : BytesAt w (.slice y a.out.length d) a.out) :
    Calls Try.prog 49 #[a.val x c, a.val y d] w (BoolPost w true) := by
  have N0 := Lib.hid (((Nw.refl w).alloc (.cells #[.int .i64 a.kind, .int .i64 a.panics, .slice x a.out.length c, .int .i64 a.steps] 37)).alloc (.cells #[.int .i64 a.kind, .int .i64 a.panics, .slice y a.out.length d, .int .i64 a.steps] 37))
  have B0 := Lib.hid ((Blk.new w [.int .i64 a.kind, .int .i64 a.panics, .slice x a.out.length c, .int .i64 a.steps] 37).alloc (.cells #[.int .i64 a.kind, .int .i64 a.panics, .slice y a.out.length d, .int .i64 a.steps] 37))
  have B1 := Lib.hid (show Blk ((w.alloc (.cells #[.int .i64 a.kind, .int .i64 a.panics, .slice x a.out.length c, .int .i64 a.steps] 37)).alloc (.cells #[.int .i64 a.kind, .int .i64 a.panics, .slice y a.out.length d, .int .i64 a.steps] 37)) (w.heap.size + 1) [.int .i64 a.kind, .int .i64 a.panics, .slice y a.out.length d, .int .i64 a.steps] 37 by
    have := Blk.new (w.alloc (.cells #[.int .i64 a.kind, .int .i64 a.panics, .slice x a.out.length c, .int .i64 a.steps] 37)) [.int .i64 a.kind, .int .i64 a.panics, .slice y a.out.length d, .int .i64 a.steps] 37
    rw [size_alloc] at this; exact this)
  have cx := conv_bytes (bytesAt_nw hx N0.out)
  have cy := conv_bytes (bytesAt_nw hy N0.out)
  clear hx hy
  unfold Oc.val
  generalize (⟨a.out.toArray⟩ : ByteArray) = st at *
  generalize a.out.length = no at *
  go_enter Try.func49, Try.ntmps49
  go_upto_region 1 with fail
  generalize (w.alloc (.cells #[.int .i64 a.kind, .int .i64 a.panics, .slice x no c, .int .i64 a.steps] 37)).alloc (.cells #[.int .i64 a.kind, .int .i64 a.panics, .slice y no d, .int .i64 a.steps] 37) = w0 at *
  have i0 := B0.out.cell 0
  have i1 := B0.out.cell 1
  have i2 := B0.out.cell 2
  have i3 := B0.out.cell 3
  have j0 := B1.out.cell 0
  have j1 := B1.out.cell 1
  have j2 := B1.out.cell 2
  have j3 := B1.out.cell 3
  simp only [List.getElem?_cons_zero, List.getElem?_cons_succ] at i0 i1 i2 i3 j0 j1 j2 j3
  go_wp2_with fail
  go_returns
  exact ⟨rfl, N0.out⟩
set_option maxRecDepth 100000 in
set_option maxHeartbeats 1000000 in
theorem same_true (w : World) (a : Oc) (x y : Option Addr) (c d : Nat) (hx : BytesAt w (.slice x a.out.length c) a.out) (hy : BytesAt w (.slice y a.out.length d) a.out) :
    Calls Try.prog 20 #[a.val x c, a.val y d] w (BoolPost w true) := by
  have N0 := Lib.hid (((Nw.refl w).alloc (.cells #[.int .i64 a.kind, .int .i64 a.panics, .slice x a.out.length c, .int .i64 a.steps] 37)).alloc (.cells #[.int .i64 a.kind, .int .i64 a.panics, .slice y a.out.length d, .int .i64 a.steps] 37))
  have B0 := Lib.hid ((Blk.new w [.int .i64 a.kind, .int .i64 a.panics, .slice x a.out.length c, .int .i64 a.steps] 37).alloc (.cells #[.int .i64 a.kind, .int .i64 a.panics, .slice y a.out.length d, .int .i64 a.steps] 37))
  have B1 := Lib.hid (show Blk ((w.alloc (.cells #[.int .i64 a.kind, .int .i64 a.panics, .slice x a.out.length c, .int .i64 a.steps] 37)).alloc (.cells #[.int .i64 a.kind, .int .i64 a.panics, .slice y a.out.length d, .int .i64 a.steps] 37)) (w.heap.size + 1) [.int .i64 a.kind, .int .i64 a.panics, .slice y a.out.length d, .int .i64 a.steps] 37 by
    have := Blk.new (w.alloc (.cells #[.int .i64 a.kind, .int .i64 a.panics, .slice x a.out.length c, .int .i64 a.steps] 37)) [.int .i64 a.kind, .int .i64 a.panics, .slice y a.out.length d, .int .i64 a.steps] 37
    rw [size_alloc] at this; exact this)
  have AL := Lib.hid (alike_true _ a x y c d (bytesAt_nw hx N0.out) (bytesAt_nw hy N0.out))
  clear hx hy
  unfold Oc.val at AL ⊢
  generalize a.out.length = no at *
  go_enter Try.func20, Try.ntmps20
  go_upto_region 1 with fail
  generalize (w.alloc (.cells #[.int .i64 a.kind, .int .i64 a.panics, .slice x no c, .int .i64 a.steps] 37)).alloc (.cells #[.int .i64 a.kind, .int .i64 a.panics, .slice y no d, .int .i64 a.steps] 37) = w0 at *
  have i0 := B0.out.cell 0
  have i1 := B0.out.cell 1
  have i2 := B0.out.cell 2
  have i3 := B0.out.cell 3
  have j0 := B1.out.cell 0
  have j1 := B1.out.cell 1
  have j2 := B1.out.cell 2
  have j3 := B1.out.cell 3
  simp only [List.getElem?_cons_zero, List.getElem?_cons_succ] at i0 i1 i2 i3 j0 j1 j2 j3
  go_wp2_with fail
  refine AL.out.mono ?_
  rintro e1 w1 ⟨rfl, k1⟩
  go_wp2_with fail
  go_returns
  exact ⟨rfl, N0.out.trans k1⟩
set_option maxRecDepth 100000 in
set_option maxHeartbeats 1000000 in
theorem begins_true (w : World) (a b : Oc) (x y : Option Addr) (c d : Nat) (hx : BytesAt w (.slice x a.out.length c) a.out) (hy : BytesAt w (.slice y b.out.length d) b.out) (hp : ∃ l, b.out = a.out ++ l) (hn : y = none → d = 0) (hl : b.out.length ≤ 5000) :
    Calls Try.prog 23 #[a.val x c, b.val y d] w (BoolPost w true) := by
  obtain ⟨l, hp⟩ := hp
  have hle : a.out.length ≤ b.out.length := by rw [hp, List.length_append]; omega
  have htake : BytesAt w (.slice y a.out.length d) a.out := by
    obtain ⟨z, cap, hv, h1, h2, h3⟩ := hy
    injection hv with e1 e2 e3
    subst e1 e3
    refine ⟨y, d, rfl, by omega, h2, fun hne => ?_⟩
    obtain ⟨b0, o0, hz, hc⟩ := h3 (by rw [hp]; simp [hne])
    refine ⟨b0, o0, hz, fun i hi => ?_⟩
    have := hc i (by omega)
    rw [this]
    congr 3
    simp only [hp, List.getElem_append_left hi]
  have hcap : b.out.length ≤ d := by obtain ⟨z, cap, hv, h1, h2, h3⟩ := hy; injection hv with e1 e2 e3; omega
  have N0 := Lib.hid (((Nw.refl w).alloc (.cells #[.int .i64 a.kind, .int .i64 a.panics, .slice x a.out.length c, .int .i64 a.steps] 37)).alloc (.cells #[.int .i64 b.kind, .int .i64 b.panics, .slice y b.out.length d, .int .i64 b.steps] 37))
  have B0 := Lib.hid ((Blk.new w [.int .i64 a.kind, .int .i64 a.panics, .slice x a.out.length c, .int .i64 a.steps] 37).alloc (.cells #[.int .i64 b.kind, .int .i64 b.panics, .slice y b.out.length d, .int .i64 b.steps] 37))
  have B1 := Lib.hid (show Blk ((w.alloc (.cells #[.int .i64 a.kind, .int .i64 a.panics, .slice x a.out.length c, .int .i64 a.steps] 37)).alloc (.cells #[.int .i64 b.kind, .int .i64 b.panics, .slice y b.out.length d, .int .i64 b.steps] 37)) (w.heap.size + 1) [.int .i64 b.kind, .int .i64 b.panics, .slice y b.out.length d, .int .i64 b.steps] 37 by
    have := Blk.new (w.alloc (.cells #[.int .i64 a.kind, .int .i64 a.panics, .slice x a.out.length c, .int .i64 a.steps] 37)) [.int .i64 b.kind, .int .i64 b.panics, .slice y b.out.length d, .int .i64 b.steps] 37
    rw [size_alloc] at this; exact this)
  have CX := Lib.hid (fun (wz : World) (hz : Nw w wz) => conv_bytes (bytesAt_nw hx hz))
  have CY := Lib.hid (fun (wz : World) (hz : Nw w wz) => conv_bytes (bytesAt_nw htake hz))
  clear hx hy htake hp
  unfold Oc.val
  cases y with
  | none =>
    obtain rfl : d = 0 := hn rfl
    have hb0 : b.out.length = 0 := by omega
    have ha0 : a.out.length = 0 := by omega
    simp only [hb0, ha0] at N0 B0 B1 CX CY ⊢
    generalize (⟨a.out.toArray⟩ : ByteArray) = st at *
    go_enter Try.func23, Try.ntmps23
    go_upto_region 1 with fail
    generalize (w.alloc (.cells #[.int .i64 a.kind, .int .i64 a.panics, .slice x 0 c, .int .i64 a.steps] 37)).alloc (.cells #[.int .i64 b.kind, .int .i64 b.panics, .slice none 0 0, .int .i64 b.steps] 37) = w0 at *
    have i0 := B0.out.cell 0
    have i1 := B0.out.cell 1
    have i2 := B0.out.cell 2
    have i3 := B0.out.cell 3
    have j0 := B1.out.cell 0
    have j1 := B1.out.cell 1
    have j2 := B1.out.cell 2
    have j3 := B1.out.cell 3
    simp only [List.getElem?_cons_zero, List.getElem?_cons_succ] at i0 i1 i2 i3 j0 j1 j2 j3
    have cx := fun nn => CX.out (w0.drewN nn) (N0.out.drewN nn)
    have cy := fun nn => CY.out (w0.drewN nn) (N0.out.drewN nn)
    go_quiet (fail)
    go_wp2_with fail
    go_returns
    exact ⟨rfl, N0.out.trans ((Nw.refl _).drewN _)⟩
  | some ya =>
    generalize (⟨a.out.toArray⟩ : ByteArray) = st at *
    generalize a.out.length = na at *
    generalize b.out.length = nb at *
    have q0 : (na : Int) ≤ (nb : Int) := by omega
    have q1 : (0 : Int) ≤ (na : Int) := by omega
    have q2 : (na : Int) ≤ (d : Int) := by omega
    have q3 : decide (na ≤ nb) = true := decide_eq_true hle
    have hwa : IntKind.i64.wrap ((na : Nat) : Int) = na := IntWalk.i64_in _ (by omega)
    have hwb : IntKind.i64.wrap ((nb : Nat) : Int) = nb := IntWalk.i64_in _ (by omega)
    go_enter Try.func23, Try.ntmps23
    go_upto_region 1 with fail
    generalize (w.alloc (.cells #[.int .i64 a.kind, .int .i64 a.panics, .slice x na c, .int .i64 a.steps] 37)).alloc (.cells #[.int .i64 b.kind, .int .i64 b.panics, .slice (some ya) nb d, .int .i64 b.steps] 37) = w0 at *
    have i0 := B0.out.cell 0
    have i1 := B0.out.cell 1
    have i2 := B0.out.cell 2
    have i3 := B0.out.cell 3
    have j0 := B1.out.cell 0
    have j1 := B1.out.cell 1
    have j2 := B1.out.cell 2
    have j3 := B1.out.cell 3
    simp only [List.getElem?_cons_zero, List.getElem?_cons_succ] at i0 i1 i2 i3 j0 j1 j2 j3
    have cx := fun nn => CX.out (w0.drewN nn) (N0.out.drewN nn)
    have cy := fun nn => CY.out (w0.drewN nn) (N0.out.drewN nn)
    go_quiet (fail)
    go_wp2_with fail
    go_returns
    exact ⟨rfl, N0.out.trans ((Nw.refl _).drewN _)⟩
end Go.Proofs.Ythlcoocboidnlaa
