/- The machine's Step. -/
import Derived.Test.YthlcoocboidnlaaMach7
import Derived.Recover
namespace Go.Proofs.Ythlcoocboidnlaa
open Go.RowKit
set_option linter.unusedSimpArgs false
set_option linter.unusedVariables false

/-- Step's closure, where the body has panicked: the run is over -/
theorem undo_step (bx p : Nat) (m : Mc) (t : TypeId) (pv : Value) (older : List PanicEntry) (w : World) (hb : w.cell? ⟨bx, 0, none⟩ = some (.pointer (some ⟨p, 0, none⟩))) (hm : McAt w p m) :
    CallsD Try.prog 50 #[.pointer (some ⟨bx, 0, none⟩)] (.panicking ({ v := .iface t pv, recovered := false } :: older)) w fun e u' w' =>
      u' = .panicking ({ v := .iface t pv, recovered := true } :: older) ∧ OpP w p { m with kind := 5, panics := 0 } e w' := by
  have EN := Lib.hid (ends_any w p m hm 5 0)
  clear hm
  refine callsD_of_wpS Try.func50 rfl fun c₀ cs hu => ?_
  apply wpS_seq
  apply wpS_region
  simp [wpOpsS, go_sem, recoverD, hu, Try.ntmps50, Exit.thenS]
  apply wpS_seq
  apply wpS_region
  simp [wpOpsS, go_sem, recoverD, hu, Try.ntmps50, Exit.thenS]
  refine wpS_cond (t := true) (by simp [Act.eval, Array.replicate]) ?_
  simp only [if_true]
  refine wpS_of_wp ?_
  go_wp2_with fail
  refine EN.out.mono ?_
  rintro e1 w1 ⟨rfl, m1, k1⟩
  have M1 := Lib.hid m1
  have K1 := Lib.hid k1
  clear m1 k1 EN
  go_wp2_with fail
  refine ⟨rfl, _, rfl, .tuple #[], by simp [results, Try.results50], rfl, rfl, M1.out, K1.out⟩
theorem undo_none (bx : Nat) (w : World) :
    CallsD Try.prog 50 #[.pointer (some ⟨bx, 0, none⟩)] .returning w fun e u' w' => e = .returned (.tuple #[]) ∧ u' = .returning ∧ w' = w := by
  refine callsD_of_wpS Try.func50 rfl fun c₀ cs hu => ?_
  apply wpS_seq
  apply wpS_region
  simp [wpOpsS, go_sem, recoverD, hu, Try.ntmps50, Exit.thenS]
  apply wpS_seq
  apply wpS_region
  simp [wpOpsS, go_sem, recoverD, hu, Try.ntmps50, Exit.thenS]
  refine wpS_cond (t := false) (by simp [Act.eval, Array.replicate]) ?_
  simp only [Bool.false_eq_true, if_false]
  refine wpS_of_wp (wp_skip ?_)
  cases c₀
  simp_all [bodyPostS, results, Try.results50]

/-- a step is made -/
def StepR (B : Nat) (R : Nat → Prop) (w : World) (p : Nat) (L : Lc) (s s' : Ms) (e : Ending) (w' : World) : Prop :=
  e = .returned (.bool (decide (s.kind = 0))) ∧ ∃ L', MAtL B R w' p L' s' ∧ Kp (Ft p L) w w' ∧ L'.bm = L.bm ∧ ∀ g, L'.vo.ownBlock = some g → L.vo.ownBlock = some g ∨ w.heap.size ≤ g
theorem MAtL.upd {B : Nat} {R : Nat → Prop} {w w' : World} {p : Nat} {L : Lc} {s : Ms} (h : MAtL B R w p L s) (s' : Ms) (hm : McAt w' p (mcOf L s')) (q : Kp (fun x => x = p) w w') (h1 : s'.mem = s.mem) (h2 : s'.out = s.out) (h3 : s'.code = s.code) (h4 : s'.inp = s.inp) :
    MAtL B R w' p L s' := by
  have k : Kp (Ft p L) w w' := q.mono (fun _ _ x => .inl x)
  refine ⟨hm, by rw [h1]; exact h.mem.kp q h.hp, by rw [h1]; exact h.hm, h.hp, ?_, by rw [h2]; exact h.ho, h.op, h.om,
    fun x hx => ⟨Nat.lt_of_lt_of_le (h.ro x hx).1 k.size, (h.ro x hx).2⟩, ?_, by rw [h3]; exact h.hc, by rw [h3]; exact h.ci, ?_, h.ops.kp q (fun b hb e => (h.ro b hb).2.1 e), h.bp, h.bb⟩
  · rw [h2]; exact own_kp h.own q (fun g hg e => h.op (by rw [hg, e]))
  · rw [h3]; exact h.code.kp q (fun b hb e => (h.ro b hb).2.1 e)
  · rw [h4]; exact h.inp.kp q (fun b hb e => (h.ro b hb).2.1 e)
theorem Ft.of {w w' : World} {p : Nat} (L : Lc) (h : Kp (fun x => x = p) w w') : Kp (Ft p L) w w' := h.mono (fun _ _ x => .inl x)
theorem Ft.nw {w w' : World} (p : Nat) (L : Lc) (h : Nw w w') : Kp (Ft p L) w w' := h.mono (fun _ _ x => x.elim)
/-- an instruction of a word: its parts -/
theorem parts_ok {v : Int} (h : okW v = true) : ∃ a b c : Nat, aW v = (a : Int) ∧ bW v = (b : Int) ∧ cW v = (c : Int) ∧ a < 16 ∧ b < 16 ∧ c < 16 ∧ 0 ≤ opW v ∧ (opW v < 16 ∨ 16 ≤ opW v ∧ opW v ≤ 50) := by
  unfold okW at h
  simp only [Bool.and_eq_true] at h
  have h1 := h.1
  unfold okIns at h1
  simp only [Bool.and_eq_true] at h1
  have h2 := h1.1
  unfold isOp at h2
  have h2 := of_decide_eq_true h2
  have hu := u64_lt v
  refine ⟨(aW v).toNat, (bW v).toNat, (cW v).toNat, ?_, ?_, ?_, ?_, ?_, ?_, ?_, ?_⟩
  all_goals first | (unfold aW; omega) | (unfold bW; omega) | (unfold cW; omega) | omega
/-- on the way of a step -/
def MidP (B : Nat) (R : Nat → Prop) (w : World) (p : Nat) (L : Lc) (s' : Ms) (w' : World) : Prop :=
  ∃ L', MAtL B R w' p L' s' ∧ Kp (Ft p L) w w' ∧ L'.bm = L.bm ∧ ∀ g, L'.vo.ownBlock = some g → L.vo.ownBlock = some g ∨ w.heap.size ≤ g
theorem MidP.op {B : Nat} {R : Nat → Prop} {w w1 w' : World} {p : Nat} {L : Lc} {s1 : Ms} (h : MAtL B R w1 p L s1) (k : Kp (Ft p L) w w1) (s' : Ms) {e : Ending} (q : OpP w1 p (mcOf L s') e w') (h1 : s'.mem = s1.mem) (h2 : s'.out = s1.out) (h3 : s'.code = s1.code) (h4 : s'.inp = s1.inp) :
    MidP B R w p L s' w' :=
  ⟨L, h.upd s' q.2.1 q.2.2 h1 h2 h3 h4, k.trans (Ft.of L q.2.2) (fun _ _ x => x), rfl, fun g hg => .inl hg⟩
theorem MidP.next {B : Nat} {R : Nat → Prop} {w w1 w' : World} {p : Nat} {L : Lc} {s' : Ms} (k : Kp (Ft p L) w w1) (q : MidP B R w1 p L s' w') : MidP B R w p L s' w' := by
  obtain ⟨L', q1, q2, q3, q4⟩ := q
  exact ⟨L', q1, k.trans q2 (fun _ _ x => x), q3, fun g hg => (q4 g hg).imp id (fun x => Nat.le_trans k.size x)⟩
theorem dec_letters (v : Int) (hv : -9223372036854775808 ≤ v ∧ v ≤ 9223372036854775807) : ∃ o1 a1 b1 c1 n1 er : Int,
    (okW v = true → o1 = opW v ∧ a1 = aW v ∧ b1 = bW v ∧ c1 = cW v ∧ n1 = nW v ∧ er = 0) ∧ (okW v = false → er = 4) ∧
    ∀ w : World, Calls Try.prog 52 #[.int .i64 v] w fun e w' => e = .returned (.tuple #[.agg #[.int .i64 o1, .int .i64 a1, .int .i64 b1, .int .i64 c1, .int .i64 n1], .int .i64 er]) ∧ Nw w w' := by
  cases h : okW v with
  | true => exact ⟨_, _, _, _, _, 0, fun _ => ⟨rfl, rfl, rfl, rfl, rfl, rfl⟩, fun e => by simp at e, fun w => (isaDecode_any w v hv).mono fun e w' q => ⟨by rw [q.1, h]; rfl, q.2⟩⟩
  | false => exact ⟨0, 0, 0, 0, 0, 4, fun e => by simp at e, fun _ => rfl, fun w => (isaDecode_any w v hv).mono fun e w' q => ⟨by rw [q.1, h]; rfl, q.2⟩⟩
theorem opF_enter (k : Nat) (hk : k < 16) (args : Array Value) (w : World) : (callFunc (opF k) args).run Try.prog w = .ok (.enter (opF k) args) w := by
  have hcase : k = 0 ∨ k = 1 ∨ k = 2 ∨ k = 3 ∨ k = 4 ∨ k = 5 ∨ k = 6 ∨ k = 7 ∨ k = 8 ∨ k = 9 ∨ k = 10 ∨ k = 11 ∨ k = 12 ∨ k = 13 ∨ k = 14 ∨ k = 15 := by omega
  rcases hcase with rfl | rfl | rfl | rfl | rfl | rfl | rfl | rfl | rfl | rfl | rfl | rfl | rfl | rfl | rfl | rfl
  · exact call_enter Try.func33 (by kernel_rfl) rfl args w
  · exact call_enter Try.func34 (by kernel_rfl) rfl args w
  · exact call_enter Try.func35 (by kernel_rfl) rfl args w
  · exact call_enter Try.func36 (by kernel_rfl) rfl args w
  · exact call_enter Try.func37 (by kernel_rfl) rfl args w
  · exact call_enter Try.func38 (by kernel_rfl) rfl args w
  · exact call_enter Try.func39 (by kernel_rfl) rfl args w
  · exact call_enter Try.func40 (by kernel_rfl) rfl args w
  · exact call_enter Try.func41 (by kernel_rfl) rfl args w
  · exact call_enter Try.func42 (by kernel_rfl) rfl args w
  · exact call_enter Try.func43 (by kernel_rfl) rfl args w
  · exact call_enter Try.func44 (by kernel_rfl) rfl args w
  · exact call_enter Try.func45 (by kernel_rfl) rfl args w
  · exact call_enter Try.func46 (by kernel_rfl) rfl args w
  · exact call_enter Try.func47 (by kernel_rfl) rfl args w
  · exact call_enter Try.func48 (by kernel_rfl) rfl args w
theorem step_res {tmps : Array Value} {w : World} {b : Bool} (h2 : tmps[2]?.getD undef = .bool b) : (results Try.f24 tmps).run Try.prog w = .ok (.bool b) w := by
  simp [results, Try.results24, go_sem, h2]
set_option maxRecDepth 100000 in
set_option maxHeartbeats 4000000 in
theorem step_any {B : Nat} {R : Nat → Prop} {w : World} {p : Nat} {L : Lc} {s : Ms} (h : MAtL B R w p L s) :
    Calls Try.prog 24 #[.pointer (some ⟨p, 0, none⟩)] w (StepR B R w p L s s.step) := by
  have hmf : ∀ (fn : Fn) (first cap : Array Value) (w : World), (Instr.makeFunc fn first cap).run Try.prog w = .ok (.func fn first cap) w := fun _ _ _ _ => rfl
  have N0 := Lib.hid (Nw.new w (.cells #[.pointer (some ⟨p, 0, none⟩)] 30))
  have M0 := Lib.hid (h.nw N0.out)
  have B0 := Lib.hid (Blk.new w [.pointer (some ⟨p, 0, none⟩)] 30)
  have hlt := h.mc.lt
  by_cases hk : s.kind = 0
  rotate_left
  · have FIN := Lib.hid (show ∀ wz, Nw w wz → StepR B R w p L s s.step (.returned (.bool false)) wz from fun wz kz =>
      ⟨by rw [decide_eq_false hk], L, by unfold Ms.step; rw [if_neg hk]; exact h.nw kz, Ft.nw p L kz, rfl, fun g hg => .inl hg⟩)
    obtain ⟨ne1, ne2, ne3, ne4⟩ := int_ne hk
    clear hk h
    go_enter_defers Try.func24, Try.ntmps24
    go_upto_region 1 with fail
    generalize (w.alloc (.cells #[.pointer (some ⟨p, 0, none⟩)] 30)) = w0 at *
    generalize w.heap.size = bx at *
    have cb := B0.out.cell 0
    have c21 : w0.cell? ⟨p, 21, none⟩ = some (.int .i64 s.kind) := M0.out.mc.c21
    simp only [List.getElem?_cons_zero] at cb
    go_wp2_with fail
    exact ⟨_, step_res rfl, FIN.out _ N0.out⟩
  · have ST := Lib.hid (show s.step = s.step1 by unfold Ms.step; rw [if_pos hk])
    rw [ST.out]
    have HBX := Lib.hid (show ¬ Ft p L w.heap.size by
      rintro (e | e | e)
      · omega
      · have := h.mem.lt; omega
      · have := (h.own.lt _ e).2; omega)
    have DK := Lib.hid (decide_eq_true hk)
    have BPL := Lib.hid (show Nw w w → True from fun _ => trivial)
    go_enter_defers Try.func24, Try.ntmps24
    go_upto_region 1 with fail
    generalize (w.alloc (.cells #[.pointer (some ⟨p, 0, none⟩)] 30)) = w0 at *
    generalize hbx : w.heap.size = bx at *
    have HX := Lib.hid hbx
    clear hbx
    have cb := B0.out.cell 0
    simp only [List.getElem?_cons_zero] at cb
    have c21 : w0.cell? ⟨p, 21, none⟩ = some (.int .i64 s.kind) := M0.out.mc.c21
    rw [hk] at c21
    have c23 : w0.cell? ⟨p, 23, none⟩ = some (.int .i64 s.steps) := M0.out.mc.c23
    have z23 : w0.frozen? ⟨p, 23, none⟩ = false := M0.out.mc.frozen 23
    clear hk h
    go_upto_region 6 with fail
    have M1 := Lib.hid (M0.out.upd s.tick (M0.out.mc.setSteps (wrap64 (s.steps + 1))) (set_kp (p := p) (Nw.refl w0) 23 _) rfl rfl rfl rfl)
    have K1 := Lib.hid (Ft.of L (set_kp (p := p) N0.out 23 (.int .i64 (wrap64 (s.steps + 1)))))
    have CB1 := Lib.hid ((set_kp (p := p) (Nw.refl w0) 23 (.int .i64 (wrap64 (s.steps + 1)))).keeps (p := ⟨bx, 0, none⟩) cb (fun e => by have e : bx = p := e; omega))
    clear cb c21 c23 z23
    generalize w0.setCell ⟨p, 23, none⟩ (.int .i64 (wrap64 (s.steps + 1))) = w1 at *
    clear N0 M0 B0
    have cb := CB1.out
    have c18 : w1.cell? ⟨p, 18, none⟩ = some (.int .i64 s.pc) := M1.out.mc.c18
    have c0 : w1.cell? ⟨p, 0, none⟩ = some L.vc := M1.out.mc.c0
    obtain ⟨xc, capc, hvc, hcl, hcm, hcc⟩ := M1.out.code
    have hcl : s.code.length ≤ capc := hcl
    have hvc : L.vc = .slice xc s.code.length capc := hvc
    rw [hvc] at c0
    have hcs : s.code.length ≤ 65536 := M1.out.hc
    have hwc : IntKind.i64.wrap ((s.code.length : Nat) : Int) = s.code.length := IntWalk.i64_in _ (by omega)
    by_cases hin : 0 ≤ s.pc ∧ s.pc < (s.code.length : Int)
    rotate_left
    · have S1 := Lib.hid (show s.step1 = s.tick.flt by unfold Ms.step1; rw [if_neg hin])
      clear hcc hvc hcm
      have FIN := Lib.hid (fun (wz : World) (kz : Nw w1 wz) (e : Ending) (w' : World) (q : OpP wz p (mcOf L s.tick.flt) e w') =>
        (show StepR B R w p L s s.step1 (.returned (.bool true)) w' from by rw [S1.out]; exact ⟨by rw [DK.out], MidP.op (M1.out.nw kz) (K1.out.trans (Ft.nw p L kz) (fun _ _ x => x)) s.tick.flt q rfl rfl rfl rfl⟩))
      by_cases hneg : s.pc < 0
      · clear hin
        go_quiet (fail)
        go_wp2_with fail
        refine leaves_cons (f := 50) (args := #[.pointer (some ⟨bx, 0, none⟩)]) (by simp) (by simp [go_sem]) ?_
        refine (undo_step bx p (mcOf L s.tick) _ _ [] _ (((Nw.refl w1).drewN _).keeps CB1.out) (M1.out.nw ((Nw.refl w1).drewN _)).mc).mono ?_
        rintro e u' w' ⟨rfl, q⟩
        obtain ⟨rfl, q2⟩ := q
        exact ⟨_, step_res rfl, FIN.out _ ((Nw.refl w1).drewN _) _ _ ⟨rfl, q2⟩⟩
      · have hge : (s.code.length : Int) ≤ s.pc := by omega
        have hnn : 0 ≤ s.pc := by omega
        clear hin
        go_quiet (fail)
        go_wp2_with fail
        refine leaves_cons (f := 50) (args := #[.pointer (some ⟨bx, 0, none⟩)]) (by simp) (by simp [go_sem]) ?_
        refine (undo_step bx p (mcOf L s.tick) _ _ [] _ (((Nw.refl w1).drewN _).keeps CB1.out) (M1.out.nw ((Nw.refl w1).drewN _)).mc).mono ?_
        rintro e u' w' ⟨rfl, q⟩
        obtain ⟨rfl, q2⟩ := q
        exact ⟨_, step_res rfl, FIN.out _ ((Nw.refl w1).drewN _) _ _ ⟨rfl, q2⟩⟩
    · obtain ⟨k, hk⟩ : ∃ k : Nat, s.pc = (k : Int) := ⟨s.pc.toNat, by omega⟩
      have hkn : k < s.code.length := by omega
      obtain ⟨bc, oc, rfl, hRc, hcell⟩ := hcc (by intro e; have e : s.code = [] := e; rw [e] at hkn; simp at hkn)
      obtain ⟨v, hv⟩ : ∃ v, v = s.code.getD k 0 := ⟨_, rfl⟩
      have hvk : s.code[k] = v := by rw [hv, List.getD_eq_getElem?_getD, List.getElem?_eq_getElem hkn]; rfl
      have cv : w1.cell? ⟨bc, oc + k, none⟩ = some (.int .i64 v) := by rw [← hvk]; exact hcell k hkn
      have hvi := M1.out.ci v (by rw [← hvk]; exact List.getElem_mem hkn)
      have S1 := Lib.hid (show s.step1 = if okW v = true then Ms.doit { s.tick with pc := (k : Int) + 1 } v else s.tick.flt by
        unfold Ms.step1
        rw [if_pos hin, show s.code.getD s.pc.toNat 0 = v by rw [hk, hv]; rfl, hk])
      have hq0 : (0 : Int) ≤ (k : Int) := by omega
      have hq1 : (k : Int) < (s.code.length : Int) := by omega
      rw [hk] at c18
      have HK := Lib.hid hk
      have HV := Lib.hid hv
      clear hcc hvc hcm hcell hk hin hv hvk
      generalize s.code.length = nc at *
      go_quiet (fail)
      go_wp2_with fail
      have M2 := Lib.hid (M1.out.nw ((Nw.refl w1).drewN nq))
      have K2 := Lib.hid (K1.out.trans (Ft.nw p L ((Nw.refl w1).drewN nq)) (fun _ _ x => x))
      have c0 := ((Nw.refl w1).drewN nq).keeps c0
      have c18 := ((Nw.refl w1).drewN nq).keeps c18
      have cv := ((Nw.refl w1).drewN nq).keeps cv
      have cb := ((Nw.refl w1).drewN nq).keeps CB1.out
      have CB2 := Lib.hid cb
      have SZ2 := Lib.hid (show w.heap.size + 1 ≤ (w1.drewN nq).heap.size by rw [HX.out]; exact World.block_lt_of_cell? _ _ cb)
      generalize w1.drewN nq = w2 at *
      clear M1 K1 CB1
      have FC := Lib.hid (fun (wz : World) (hz : Nw w2 wz) => (⟨hz, hz.keeps cb, hz.keeps c0, hz.keeps c18, hz.keeps cv⟩ : _ ∧ _ ∧ _ ∧ _ ∧ _))
      obtain ⟨o1, a1, b1, c1, n1, er, hT, hF, de⟩ := dec_letters v hvi
      have HT := Lib.hid hT
      have HF := Lib.hid hF
      have DE := Lib.hid de
      clear hT hF de
      go_cut [3, 4] from 41 to 54 (fun s3 s4 wx => ∃ g, s3 = .pointer (some ⟨g, 0, none⟩) ∧ s4 = .int .i64 er ∧ w2.heap.size ≤ g ∧ Blk wx g [.int .i64 o1, .int .i64 a1, .int .i64 b1, .int .i64 c1, .int .i64 n1] 26 ∧ Nw w2 wx)
      case first =>
        refine wp_region_noPanic ?_
        refine wp_region_held_drew (S := fun wz => Nw w2 wz ∧ wz.cell? ⟨bx, 0, none⟩ = some (.pointer (some ⟨p, 0, none⟩)) ∧ wz.cell? ⟨p, 0, none⟩ = some (.slice (some ⟨bc, oc, none⟩) nc capc) ∧ wz.cell? ⟨p, 18, none⟩ = some (.int .i64 (k : Int)) ∧ wz.cell? ⟨bc, oc + k, none⟩ = some (.int .i64 v)) (by kernel_rfl) (FC.out _ (Nw.refl _).drew) (fun hHeld => ?_)
        have NB := Lib.hid (show Nw w2 w2.drew from (Nw.refl _).drew)
        have SB := Lib.hid (show w2.heap.size = w2.drew.heap.size from rfl)
        clear cb c0 c18 cv
        generalize w2.drew = wB at *
        refine wpAnyH_take (i := 0) (v := (.pointer (some ⟨p, 0, none⟩))) rfl (by kernel_rfl) (by kernel_rfl) (by kernel_rfl) (fun _ _ _ h => h) (Or.inl ⟨by rfl, ?_⟩) (by assumption) ?_
        · intro wq hSw
          (try dsimp only at hSw)
          go_simp
        try simp only [Act.put, List.setIfInBounds_toArray, List.set_cons_zero, List.set_cons_succ]
        refine wpAnyH_take (i := 1) (v := (.pointer (some ⟨p, 0, none⟩))) rfl (by kernel_rfl) (by kernel_rfl) (by kernel_rfl) (fun _ _ _ h => h) (Or.inl ⟨by rfl, ?_⟩) (by assumption) ?_
        · intro wq hSw
          (try dsimp only at hSw)
          go_simp
        try simp only [Act.put, List.setIfInBounds_toArray, List.set_cons_zero, List.set_cons_succ]
        refine wpAnyH_take (i := 2) (v := (.pointer (some ⟨p, 0, none⟩))) rfl (by kernel_rfl) (by kernel_rfl) (by kernel_rfl) (fun _ _ _ h => h) (Or.inl ⟨by rfl, ?_⟩) (by assumption) ?_
        · intro wq hSw
          (try dsimp only at hSw)
          go_simp
        try simp only [Act.put, List.setIfInBounds_toArray, List.set_cons_zero, List.set_cons_succ]
        refine wpAnyH_take (i := 3) (v := (.slice (some ⟨bc, oc, none⟩) nc capc)) rfl (by kernel_rfl) (by kernel_rfl) (by kernel_rfl) (fun _ _ _ h => h) (Or.inl ⟨by rfl, ?_⟩) (by assumption) ?_
        · intro wq hSw
          (try dsimp only at hSw)
          go_simp
        try simp only [Act.put, List.setIfInBounds_toArray, List.set_cons_zero, List.set_cons_succ]
        refine wpAnyH_take (i := 4) (v := (.pointer (some ⟨p, 0, none⟩))) rfl (by kernel_rfl) (by kernel_rfl) (by kernel_rfl) (fun _ _ _ h => h) (Or.inl ⟨by rfl, ?_⟩) (by assumption) ?_
        · intro wq hSw
          (try dsimp only at hSw)
          go_simp
        try simp only [Act.put, List.setIfInBounds_toArray, List.set_cons_zero, List.set_cons_succ]
        refine wpAnyH_take (i := 5) (v := (.pointer (some ⟨p, 0, none⟩))) rfl (by kernel_rfl) (by kernel_rfl) (by kernel_rfl) (fun _ _ _ h => h) (Or.inl ⟨by rfl, ?_⟩) (by assumption) ?_
        · intro wq hSw
          (try dsimp only at hSw)
          go_simp
        try simp only [Act.put, List.setIfInBounds_toArray, List.set_cons_zero, List.set_cons_succ]
        refine wpAnyH_take (i := 6) (v := (.pointer (some ⟨p, 18, none⟩))) rfl (by kernel_rfl) (by kernel_rfl) (by kernel_rfl) (fun _ _ _ h => h) (Or.inl ⟨by rfl, ?_⟩) (by assumption) ?_
        · intro wq hSw
          (try dsimp only at hSw)
          go_simp
        try simp only [Act.put, List.setIfInBounds_toArray, List.set_cons_zero, List.set_cons_succ]
        refine wpAnyH_take (i := 7) (v := (.int .i64 (k : Int))) rfl (by kernel_rfl) (by kernel_rfl) (by kernel_rfl) (fun _ _ _ h => h) (Or.inl ⟨by rfl, ?_⟩) (by assumption) ?_
        · intro wq hSw
          (try dsimp only at hSw)
          go_simp
        try simp only [Act.put, List.setIfInBounds_toArray, List.set_cons_zero, List.set_cons_succ]
        refine wpAnyH_take (i := 8) (v := (.pointer (some ⟨bc, oc + k, none⟩))) rfl (by kernel_rfl) (by kernel_rfl) (by kernel_rfl) (fun _ _ _ h => h) (Or.inl ⟨by rfl, ?_⟩) (by assumption) ?_
        · intro wq hSw
          (try dsimp only at hSw)
          go_simp
        try simp only [Act.put, List.setIfInBounds_toArray, List.set_cons_zero, List.set_cons_succ]
        refine wpAnyH_take (i := 9) (v := (.int .i64 v)) rfl (by kernel_rfl) (by kernel_rfl) (by kernel_rfl) (fun _ _ _ h => h) (Or.inl ⟨by rfl, ?_⟩) (by assumption) ?_
        · intro wq hSw
          (try dsimp only at hSw)
          go_simp
        try simp only [Act.put, List.setIfInBounds_toArray, List.set_cons_zero, List.set_cons_succ]
        refine wpAnyH_ready (rs := [10, 14]) (by kernel_rfl) (by simp) ?_
        refine AllReadyH.cons rfl (fun K hK => ?_) ?_
        · rw [if_pos (by rfl)]
          go_simp
          refine (DE.out wB).mono ?_
          rintro e2 w3 ⟨rfl, k3⟩
          have N3 := Lib.hid (NB.out.trans k3)
          clear hHeld k3
          show K _ _
          refine hK.out _ _ (FC.out _ N3.out) (fun hHeld => ?_)
          clear hK K
          try simp only [Act.put, List.setIfInBounds_toArray, List.set_cons_zero, List.set_cons_succ]
          refine wpAnyH_take (i := 11) (v := (.tuple #[(.agg #[.int .i64 o1, .int .i64 a1, .int .i64 b1, .int .i64 c1, .int .i64 n1]), .int .i64 er])) rfl (by kernel_rfl) (by kernel_rfl) (by kernel_rfl) (fun _ _ _ h => h) (Or.inl ⟨by rfl, ?_⟩) (by assumption) ?_
          · intro wq hSw
            (try dsimp only at hSw)
            go_simp
          try simp only [Act.put, List.setIfInBounds_toArray, List.set_cons_zero, List.set_cons_succ]
          refine wpAnyH_take (i := 12) (v := (.agg #[.int .i64 o1, .int .i64 a1, .int .i64 b1, .int .i64 c1, .int .i64 n1])) rfl (by kernel_rfl) (by kernel_rfl) (by kernel_rfl) (fun _ _ _ h => h) (Or.inl ⟨by rfl, ?_⟩) (by assumption) ?_
          · intro wq hSw
            (try dsimp only at hSw)
            go_simp
          try simp only [Act.put, List.setIfInBounds_toArray, List.set_cons_zero, List.set_cons_succ]
          refine wpAnyH_take (i := 13) (v := (.int .i64 er)) rfl (by kernel_rfl) (by kernel_rfl) (by kernel_rfl) (fun _ _ _ h => h) (Or.inl ⟨by rfl, ?_⟩) (by assumption) ?_
          · intro wq hSw
            (try dsimp only at hSw)
            go_simp
          try simp only [Act.put, List.setIfInBounds_toArray, List.set_cons_zero, List.set_cons_succ]
          refine wpAnyH_ready (rs := [14]) (by kernel_rfl) (by simp) ?_
          refine AllReadyH.cons rfl (fun K hK => ?_) AllReadyH.nil
          rw [if_pos (by rfl)]
          go_simp
          have N4 := Lib.hid (N3.out.alloc (.cells #[.int .i64 0, .int .i64 0, .int .i64 0, .int .i64 0, .int .i64 0] 26))
          have B4 := Lib.hid (Blk.new w3 [.int .i64 0, .int .i64 0, .int .i64 0, .int .i64 0, .int .i64 0] 26)
          have G4 := Lib.hid (show w2.heap.size ≤ w3.heap.size from N3.out.size)
          generalize w3.alloc (.cells #[.int .i64 0, .int .i64 0, .int .i64 0, .int .i64 0, .int .i64 0] 26) = w4 at *
          generalize w3.heap.size = g at *
          clear hHeld N3
          refine hK.out _ _ (FC.out _ N4.out) (fun hHeld => ?_)
          clear hK K
          try simp only [Act.put, List.setIfInBounds_toArray, List.set_cons_zero, List.set_cons_succ]
          refine wpAnyH_ready (rs := [15]) (by kernel_rfl) (by simp) ?_
          refine AllReadyH.cons rfl (fun K hK => ?_) AllReadyH.nil
          rw [if_pos (by rfl)]
          have cD := B4.out.cell
          have zD := B4.out.frozen
          have N5 := Lib.hid (Kp.sets (S := fun _ => False) (b := g) N4.out (fun h => absurd h (Nat.not_lt_of_le G4.out)) 0 [.int .i64 o1, .int .i64 a1, .int .i64 b1, .int .i64 c1, .int .i64 n1])
          have B5 := Lib.hid (Blk.sets B4.out 0 [.int .i64 o1, .int .i64 a1, .int .i64 b1, .int .i64 c1, .int .i64 n1])
          go_simp
          refine hK.out _ _ (FC.out _ N5.out) (fun hHeld => ?_)
          clear hK K cD zD
          try simp only [Act.put, List.setIfInBounds_toArray, List.set_cons_zero, List.set_cons_succ]
          refine wpAnyH_take (i := 16) (v := .int .i64 er) rfl (by kernel_rfl) (by kernel_rfl) (by kernel_rfl) (fun _ _ _ h => h) (Or.inl ⟨by rfl, ?_⟩) (by assumption) ?_
          · intro wq hSw
            (try dsimp only at hSw)
            go_simp
          try simp only [List.getElem_toArray, List.getElem_cons_zero, List.getElem_cons_succ]
          try simp only [Act.put, List.setIfInBounds_toArray, List.set_cons_zero, List.set_cons_succ]
          refine wpAnyH_done (by kernel_rfl) ?_ _
          refine NoPanic.normal ?_
          go_wp2_with fail
          go_meet
          exact ⟨g, rfl, rfl, G4.out, B5.out, N5.out⟩
        refine AllReadyH.cons rfl (fun K hK => ?_) AllReadyH.nil
        rw [if_pos (by rfl)]
        go_simp
        have N4 := Lib.hid (NB.out.alloc (.cells #[.int .i64 0, .int .i64 0, .int .i64 0, .int .i64 0, .int .i64 0] 26))
        have B4 := Lib.hid (Blk.new wB [.int .i64 0, .int .i64 0, .int .i64 0, .int .i64 0, .int .i64 0] 26)
        have G4 := Lib.hid (show w2.heap.size ≤ wB.heap.size from NB.out.size)
        generalize wB.alloc (.cells #[.int .i64 0, .int .i64 0, .int .i64 0, .int .i64 0, .int .i64 0] 26) = w4 at *
        generalize wB.heap.size = g at *
        clear hHeld NB
        refine hK.out _ _ (FC.out _ N4.out) (fun hHeld => ?_)
        clear hK K
        try simp only [Act.put, List.setIfInBounds_toArray, List.set_cons_zero, List.set_cons_succ]
        refine wpAnyH_ready (rs := [10]) (by kernel_rfl) (by simp) ?_
        refine AllReadyH.cons rfl (fun K hK => ?_) AllReadyH.nil
        rw [if_pos (by rfl)]
        go_simp
        refine (DE.out w4).mono ?_
        rintro e2 w3 ⟨rfl, k3⟩
        have N3 := Lib.hid (N4.out.trans k3)
        have B3 := Lib.hid (B4.out.nw k3)
        clear hHeld k3
        show K _ _
        refine hK.out _ _ (FC.out _ N3.out) (fun hHeld => ?_)
        clear hK K
        try simp only [Act.put, List.setIfInBounds_toArray, List.set_cons_zero, List.set_cons_succ]
        refine wpAnyH_take (i := 11) (v := (.tuple #[(.agg #[.int .i64 o1, .int .i64 a1, .int .i64 b1, .int .i64 c1, .int .i64 n1]), .int .i64 er])) rfl (by kernel_rfl) (by kernel_rfl) (by kernel_rfl) (fun _ _ _ h => h) (Or.inl ⟨by rfl, ?_⟩) (by assumption) ?_
        · intro wq hSw
          (try dsimp only at hSw)
          go_simp
        try simp only [Act.put, List.setIfInBounds_toArray, List.set_cons_zero, List.set_cons_succ]
        refine wpAnyH_take (i := 12) (v := (.agg #[.int .i64 o1, .int .i64 a1, .int .i64 b1, .int .i64 c1, .int .i64 n1])) rfl (by kernel_rfl) (by kernel_rfl) (by kernel_rfl) (fun _ _ _ h => h) (Or.inl ⟨by rfl, ?_⟩) (by assumption) ?_
        · intro wq hSw
          (try dsimp only at hSw)
          go_simp
        try simp only [Act.put, List.setIfInBounds_toArray, List.set_cons_zero, List.set_cons_succ]
        refine wpAnyH_take (i := 13) (v := (.int .i64 er)) rfl (by kernel_rfl) (by kernel_rfl) (by kernel_rfl) (fun _ _ _ h => h) (Or.inl ⟨by rfl, ?_⟩) (by assumption) ?_
        · intro wq hSw
          (try dsimp only at hSw)
          go_simp
        try simp only [Act.put, List.setIfInBounds_toArray, List.set_cons_zero, List.set_cons_succ]
        refine wpAnyH_ready (rs := [15]) (by kernel_rfl) (by simp) ?_
        refine AllReadyH.cons rfl (fun K hK => ?_) AllReadyH.nil
        rw [if_pos (by rfl)]
        have cD := B3.out.cell
        have zD := B3.out.frozen
        have N5 := Lib.hid (Kp.sets (S := fun _ => False) (b := g) N3.out (fun h => absurd h (Nat.not_lt_of_le G4.out)) 0 [.int .i64 o1, .int .i64 a1, .int .i64 b1, .int .i64 c1, .int .i64 n1])
        have B5 := Lib.hid (Blk.sets B3.out 0 [.int .i64 o1, .int .i64 a1, .int .i64 b1, .int .i64 c1, .int .i64 n1])
        go_simp
        refine hK.out _ _ (FC.out _ N5.out) (fun hHeld => ?_)
        clear hK K cD zD
        try simp only [Act.put, List.setIfInBounds_toArray, List.set_cons_zero, List.set_cons_succ]
        refine wpAnyH_take (i := 16) (v := .int .i64 er) rfl (by kernel_rfl) (by kernel_rfl) (by kernel_rfl) (fun _ _ _ h => h) (Or.inl ⟨by rfl, ?_⟩) (by assumption) ?_
        · intro wq hSw
          (try dsimp only at hSw)
          go_simp
        try simp only [List.getElem_toArray, List.getElem_cons_zero, List.getElem_cons_succ]
        try simp only [Act.put, List.setIfInBounds_toArray, List.set_cons_zero, List.set_cons_succ]
        refine wpAnyH_done (by kernel_rfl) ?_ _
        refine NoPanic.normal ?_
        go_wp2_with fail
        go_meet
        exact ⟨g, rfl, rfl, G4.out, B5.out, N5.out⟩
      case rest =>
        obtain ⟨g, rfl, rfl, hg, hbi, hn⟩ := hcut
        have M3 := Lib.hid (M2.out.nw hn)
        have K3 := Lib.hid (K2.out.trans (Ft.nw p L hn) (fun _ _ x => x))
        have CB3 := Lib.hid (hn.keeps CB2.out)
        have BI := Lib.hid hbi
        have HG := Lib.hid (show w.heap.size + 1 ≤ g from Nat.le_trans SZ2.out hg)
        clear hg hbi hn cb c0 c18 cv M2 K2 CB2 FC SZ2 DE HV hvi
        cases hok : okW v with
        | false =>
          obtain rfl := HF.out hok
          have FIN := Lib.hid (fun (e : Ending) (w' : World) (q : OpP wc p (mcOf L s.tick.flt) e w') =>
            (show StepR B R w p L s s.step1 (.returned (.bool true)) w' from by rw [S1.out, hok, if_neg (by simp)]; exact ⟨by rw [DK.out], MidP.op M3.out K3.out s.tick.flt q rfl rfl rfl rfl⟩))
          clear HT HF hok
          go_wp2_with fail
          refine leaves_cons (f := 50) (args := #[.pointer (some ⟨bx, 0, none⟩)]) (by simp) (by simp [go_sem]) ?_
          refine (undo_step bx p (mcOf L s.tick) _ _ [] _ CB3.out M3.out.mc).mono ?_
          rintro e u' w' ⟨rfl, q⟩
          obtain ⟨rfl, q2⟩ := q
          exact ⟨_, step_res rfl, FIN.out _ _ ⟨rfl, q2⟩⟩
        | true =>
          obtain ⟨rfl, rfl, rfl, rfl, rfl, rfl⟩ := HT.out hok
          obtain ⟨a, b, c, ha, hb, hc, ha16, hb16, hc16, ho0, ho1⟩ := parts_ok hok
          have S2 : s.step1 = Ms.doit { s.tick with pc := (k : Int) + 1 } v := by rw [S1.out, hok, if_pos rfl]
          unfold Ms.doit at S2
          have hbi := BI.out
          rw [ha, hb, hc] at S2 hbi
          generalize opW v = op at *
          generalize nW v = n at *
          have S3 := Lib.hid S2
          have BI3 := Lib.hid hbi
          clear S2 hbi BI HT HF S1 hok ha hb hc
          have c18 : wc.cell? ⟨p, 18, none⟩ = some (.int .i64 s.pc) := M3.out.mc.c18
          rw [HK.out] at c18
          have z18 : wc.frozen? ⟨p, 18, none⟩ = false := M3.out.mc.frozen 18
          have cb := CB3.out
          have hwk : IntKind.i64.wrap ((k : Int) + 1) = (k : Int) + 1 := IntWalk.i64_in _ (by omega)
          go_upto_region 12 with fail
          have M4 := Lib.hid (M3.out.upd { s.tick with pc := (k : Int) + 1 } (M3.out.mc.setPc ((k : Int) + 1)) (set_kp (p := p) (Nw.refl wc) 18 _) rfl rfl rfl rfl)
          have K4 := Lib.hid (K3.out.trans (Ft.of L (set_kp (p := p) (Nw.refl wc) 18 (.int .i64 ((k : Int) + 1)))) (fun _ _ x => x))
          have CB4 := Lib.hid ((set_kp (p := p) (Nw.refl wc) 18 (.int .i64 ((k : Int) + 1))).keeps (p := ⟨bx, 0, none⟩) cb (fun e => by have e : bx = p := e; omega))
          have hgp : g ≠ p := by have := HG.out; have := HX.out; omega
          have B4 := Lib.hid (BI3.out.setOther (a := ⟨p, 18, none⟩) hgp (.int .i64 ((k : Int) + 1)))
          clear cb c18 z18 hwk M3 K3 CB3 BI3
          generalize wc.setCell ⟨p, 18, none⟩ (.int .i64 ((k : Int) + 1)) = w4 at *
          obtain ⟨sk, hsk⟩ : ∃ sk, sk = ({ s.tick with pc := (k : Int) + 1 } : Ms) := ⟨_, rfl⟩
          rw [← hsk] at M4 S3
          clear hsk
          obtain ⟨bo, oo, hvf, _, hco⟩ := M4.out.ops
          have c24 : w4.cell? ⟨p, 24, none⟩ = some L.vf := M4.out.mc.c24
          rw [hvf] at c24
          have cb := CB4.out
          have i0 := B4.out.cell 0
          have i1 := B4.out.cell 1
          have i2 := B4.out.cell 2
          have i3 := B4.out.cell 3
          have i4 := B4.out.cell 4
          simp only [List.getElem?_cons_zero, List.getElem?_cons_succ] at i0 i1 i2 i3 i4
          by_cases h16 : op < 16
          · have S5 := Lib.hid (show s.step1 = sk.op op (a : Int) (b : Int) n by rw [S3.out, if_pos h16])
            obtain ⟨kk, rfl⟩ : ∃ kk : Nat, op = (kk : Int) := ⟨op.toNat, by omega⟩
            have hkk : kk < 16 := by omega
            have co := hco kk hkk
            have hKK := opF_enter kk hkk
            have OP := Lib.hid (fun (wz : World) (hz : MAtL B R wz p L sk) => op_any hz a b c ha16 hb16 n kk hkk)
            have OK := Lib.hid (fun (wz w5 : World) (hz : Nw w4 wz) (q : MidP B R wz p L (sk.op (kk : Int) (a : Int) (b : Int) n) w5) (w6 : World) (hw : w6 = w5) =>
              (show StepR B R w p L s s.step1 (.returned (.bool true)) w6 from by rw [S5.out, hw]; exact ⟨by rw [DK.out], MidP.next (K4.out.trans (Ft.nw p L hz) (fun _ _ x => x)) q⟩))
            have FL := Lib.hid (fun (wz : World) (hz : Nw w4 wz) (hs : sk.op (kk : Int) (a : Int) (b : Int) n = sk.flt) (e : Ending) (w' : World) (q : OpP wz p (mcOf L sk.flt) e w') =>
              (show StepR B R w p L s s.step1 (.returned (.bool true)) w' from by rw [S5.out, hs]; exact ⟨by rw [DK.out], MidP.op (M4.out.nw hz) (K4.out.trans (Ft.nw p L hz) (fun _ _ x => x)) sk.flt q rfl rfl rfl rfl⟩))
            have hq0 : (0 : Int) ≤ (kk : Int) := by omega
            clear hco S3 ho0 ho1 hvf
            go_quiet (fail)
            go_wp2_with fail
            have N5 := Lib.hid (show Nw w4 (w4.drewN nq) from (Nw.refl w4).drewN nq)
            have c24 := ((Nw.refl w4).drewN nq).keeps c24
            have cb := ((Nw.refl w4).drewN nq).keeps cb
            have co := ((Nw.refl w4).drewN nq).keeps co
            have i0 := ((Nw.refl w4).drewN nq).keeps i0
            have i1 := ((Nw.refl w4).drewN nq).keeps i1
            have i2 := ((Nw.refl w4).drewN nq).keeps i2
            have i3 := ((Nw.refl w4).drewN nq).keeps i3
            have i4 := ((Nw.refl w4).drewN nq).keeps i4
            generalize w4.drewN nq = w5 at *
            go_still_tail 9, (by kernel_rfl)
            change wpList _ _ _ _ _ w5.drew
            have N6 := Lib.hid (show Nw w4 w5.drew from N5.out.drew)
            have cb := (show w5.drew.cell? ⟨bx, 0, none⟩ = some (.pointer (some ⟨p, 0, none⟩)) from cb)
            clear c24 co i0 i1 i2 i3 i4
            generalize w5.drew = w6 at *
            have M6 := Lib.hid (M4.out.nw N6.out)
            have CB6 := Lib.hid cb
            go_wp2_with fail
            refine (OP.out _ M6.out).mono ?_
            rintro e7 w7 (⟨rfl, q⟩ | ⟨rfl, hs, hn⟩)
            · have Q := Lib.hid (show MidP B R w6 p L (sk.op (kk : Int) (a : Int) (b : Int) n) w7 from q)
              clear q cb
              go_wp2_with fail
              refine leaves_cons (f := 50) (args := #[.pointer (some ⟨bx, 0, none⟩)]) (by simp) (by simp [go_sem]) ?_
              refine (undo_none bx _).mono ?_
              rintro e u' w' ⟨rfl, rfl, hw⟩
              exact ⟨_, step_res rfl, OK.out _ _ N6.out Q.out _ hw⟩
            · have FL2 := Lib.hid (fun (e : Ending) (w' : World) (q : OpP w7 p (mcOf L sk.flt) e w') => FL.out _ (N6.out.trans hn) hs e w' q)
              have M7 := Lib.hid (M6.out.nw hn)
              have CB7 := Lib.hid (hn.keeps CB6.out)
              clear hs hn cb
              unfold FAULT
              go_wp2_with fail
              refine leaves_cons (f := 50) (args := #[.pointer (some ⟨bx, 0, none⟩)]) (by simp) (by simp [go_sem]) ?_
              refine (undo_step bx p (mcOf L sk) _ _ [] _ CB7.out M7.out.mc).mono ?_
              rintro e u' w' ⟨rfl, q⟩
              obtain ⟨rfl, q2⟩ := q
              exact ⟨_, step_res rfl, FL2.out _ _ ⟨rfl, q2⟩⟩
          · have S5 := Lib.hid (show s.step1 = sk.words (a : Int) (wordsV op (sk.get (b : Int)) (sk.get (c : Int))) by rw [S3.out, if_neg h16])
            have ho2 : 16 ≤ op ∧ op ≤ 50 := by omega
            have OP := Lib.hid (fun (wz : World) (hz : MAtL B R wz p L sk) => words_st hz a b c ha16 hb16 hc16 op n ho2)
            have OK := Lib.hid (fun (wz w5 : World) (hz : Nw w4 wz) (q : MidP B R wz p L (sk.words (a : Int) (wordsV op (sk.get (b : Int)) (sk.get (c : Int)))) w5) (w6 : World) (hw : w6 = w5) =>
              (show StepR B R w p L s s.step1 (.returned (.bool true)) w6 from by rw [S5.out, hw]; exact ⟨by rw [DK.out], MidP.next (K4.out.trans (Ft.nw p L hz) (fun _ _ x => x)) q⟩))
            have FL := Lib.hid (fun (wz : World) (hz : Nw w4 wz) (hs : sk.words (a : Int) (wordsV op (sk.get (b : Int)) (sk.get (c : Int))) = sk.flt) (e : Ending) (w' : World) (q : OpP wz p (mcOf L sk.flt) e w') =>
              (show StepR B R w p L s s.step1 (.returned (.bool true)) w' from by rw [S5.out, hs]; exact ⟨by rw [DK.out], MidP.op (M4.out.nw hz) (K4.out.trans (Ft.nw p L hz) (fun _ _ x => x)) sk.flt q rfl rfl rfl rfl⟩))
            generalize sk.words (a : Int) (wordsV op (sk.get (b : Int)) (sk.get (c : Int))) = sw at *
            have h16b : 16 ≤ op := ho2.1
            clear hco S3 ho0 ho1 hvf ho2
            go_quiet (fail)
            have N5 := Lib.hid (show Nw w4 (w4.drewN nq) from (Nw.refl w4).drewN nq)
            have cb := ((Nw.refl w4).drewN nq).keeps cb
            have i0 := ((Nw.refl w4).drewN nq).keeps i0
            have i1 := ((Nw.refl w4).drewN nq).keeps i1
            have i2 := ((Nw.refl w4).drewN nq).keeps i2
            have i3 := ((Nw.refl w4).drewN nq).keeps i3
            have i4 := ((Nw.refl w4).drewN nq).keeps i4
            generalize w4.drewN nq = w6 at *
            have M6 := Lib.hid (M4.out.nw N5.out)
            have CB6 := Lib.hid cb
            go_wp2_with fail
            refine (OP.out _ M6.out).mono ?_
            rintro e7 w7 (⟨rfl, q⟩ | ⟨rfl, hs, hn⟩)
            · have Q := Lib.hid (show MidP B R w6 p L sw w7 from q)
              clear q cb
              go_wp2_with fail
              refine leaves_cons (f := 50) (args := #[.pointer (some ⟨bx, 0, none⟩)]) (by simp) (by simp [go_sem]) ?_
              refine (undo_none bx _).mono ?_
              rintro e u' w' ⟨rfl, rfl, hw⟩
              exact ⟨_, step_res rfl, OK.out _ _ N5.out Q.out _ hw⟩
            · have FL2 := Lib.hid (fun (e : Ending) (w' : World) (q : OpP w7 p (mcOf L sk.flt) e w') => FL.out _ (N5.out.trans hn) hs e w' q)
              have M7 := Lib.hid (M6.out.nw hn)
              have CB7 := Lib.hid (hn.keeps CB6.out)
              clear hs hn cb
              unfold FAULT
              go_wp2_with fail
              refine leaves_cons (f := 50) (args := #[.pointer (some ⟨bx, 0, none⟩)]) (by simp) (by simp [go_sem]) ?_
              refine (undo_step bx p (mcOf L sk) _ _ [] _ CB7.out M7.out.mc).mono ?_
              rintro e u' w' ⟨rfl, q⟩
              obtain ⟨rfl, q2⟩ := q
              exact ⟨_, step_res rfl, FL2.out _ _ ⟨rfl, q2⟩⟩

end Go.Proofs.Ythlcoocboidnlaa
