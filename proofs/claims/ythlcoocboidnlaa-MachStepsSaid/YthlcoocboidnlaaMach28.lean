/- The document's machine: Step. -/
import Derived.Test.YthlcoocboidnlaaMach27
namespace Go.Proofs.Ythlcoocboidnlaa
open Go.RowKit
set_option linter.unusedSimpArgs false
set_option linter.unusedVariables false

def DStepR (B : Nat) (R : Nat → Prop) (w : World) (p : Nat) (L : Ld) (s s' : Ms) (e : Ending) (w' : World) : Prop :=
  e = .returned (.bool (decide (s.kind = 0))) ∧ SD B R w p L s' w'
theorem DAtL.upd {B : Nat} {R : Nat → Prop} {w w' : World} {p : Nat} {L : Ld} {s : Ms} (h : DAtL B R w p L s) (s' : Ms) (hm : DcAt w' p (dcOf L s')) (q3 : Kp (fun x => x = p) w w') (h1 : s'.mem = s.mem) (h2 : s'.out = s.out) (h3 : s'.code = s.code) (h4 : s'.inp = s.inp) (hk : s'.kind = 0 → s'.panics = 0) :
    DAtL B R w' p L s' := by
  have k : Kp (Fdd p L) w w' := q3.mono (fun _ _ x => .inl x)
  refine ⟨hm, by rw [h1]; exact h.mem.kp q3 h.hp, by rw [h1]; exact h.hm, h.hp, ?_, by rw [h2]; exact h.ho, h.op, h.om,
    fun x hx => ⟨Nat.lt_of_lt_of_le (h.ro x hx).1 k.size, (h.ro x hx).2⟩, ?_, by rw [h3]; exact h.hc, by rw [h3]; exact h.ci, ?_, h.hat, by rw [h4]; exact h.hin, h.bp, h.bb, hk⟩
  · rw [h2]; exact own_kp h.own q3 (fun g hg e => h.op (by rw [hg, e]))
  · rw [h3]; exact h.code.kp q3 (fun b hb e => (h.ro b hb).2.1 e)
  · exact h.inp.kp q3 (fun b hb e => (h.ro b hb).2.1 e)
theorem Fdd.of {w w' : World} {p : Nat} (L : Ld) (h : Kp (fun x => x = p) w w') : Kp (Fdd p L) w w' := h.mono (fun _ _ x => .inl x)
theorem Fdd.nw {w w' : World} (p : Nat) (L : Ld) (h : Nw w w') : Kp (Fdd p L) w w' := h.mono (fun _ _ x => x.elim)
theorem SD.nextK {B : Nat} {R : Nat → Prop} {w w0 w' : World} {p : Nat} {L : Ld} {s' : Ms} (k : Kp (Fdd p L) w w0) (q : SD B R w0 p L s' w') : SD B R w p L s' w' := by
  obtain ⟨L', h1, h2, h3, h4, h5⟩ := q
  exact ⟨L', h1, Kp.trans k h2 (fun _ _ x => x), h3, h4, fun g hg => (h5 g hg).imp id (fun e => Nat.le_trans k.size e)⟩
theorem SD.op {B : Nat} {R : Nat → Prop} {w w1 w' : World} {p : Nat} {L : Ld} {s1 : Ms} (h : DAtL B R w1 p L s1) (k : Kp (Fdd p L) w w1) (s' : Ms) (hm : DcAt w' p (dcOf L s')) (q3 : Kp (fun x => x = p) w1 w') (h1 : s'.mem = s1.mem) (h2 : s'.out = s1.out) (h3 : s'.code = s1.code) (h4 : s'.inp = s1.inp) (hk : s'.kind = 0 → s'.panics = 0) : SD B R w p L s' w' :=
  ⟨L, h.upd s' hm q3 h1 h2 h3 h4 hk, Kp.trans k (Fdd.of L q3) (fun _ _ x => x), rfl, rfl, fun g hg => .inl hg⟩
theorem op_of {v : Int} (h : okW v = true) : (0 ≤ opW v ∧ opW v ≤ 15) ∨ (17 ≤ opW v ∧ opW v ≤ 32) ∨ (41 ≤ opW v ∧ opW v ≤ 43) := by
  unfold okW at h
  simp only [Bool.and_eq_true] at h
  have h1 := h.1
  unfold okIns at h1
  simp only [Bool.and_eq_true] at h1
  exact of_decide_eq_true h1.1
theorem wun_ok {op a : Int} (h : 41 ≤ op ∧ op ≤ 43) : (wun (op - 40) a).2 = 0 := by
  have h3 : op - 40 = 1 ∨ op - 40 = 2 ∨ op - 40 = 3 := by omega
  rcases h3 with e | e | e <;> rw [e] <;> rfl
theorem nW_range (v : Int) : -9223372036854775808 ≤ nW v ∧ nW v ≤ 9223372036854775807 := by
  unfold nW wrap32
  omega
theorem dec_lettersD (v : Int) (hv : -9223372036854775808 ≤ v ∧ v ≤ 9223372036854775807) : ∃ o1 a1 b1 c1 n1 er : Int,
    (okW v = true → o1 = opW v ∧ a1 = aW v ∧ b1 = bW v ∧ c1 = cW v ∧ n1 = nW v ∧ er = 0) ∧ (okW v = false → er = 4) ∧
    ∀ w : World, Calls Try.prog 54 #[.int .i64 v] w fun e w' => e = .returned (.tuple #[.agg #[.int .i64 o1, .int .i64 a1, .int .i64 b1, .int .i64 c1, .int .i64 n1], .int .i64 er]) ∧ Nw w w' := by
  cases h : okW v with
  | true => exact ⟨_, _, _, _, _, 0, fun _ => ⟨rfl, rfl, rfl, rfl, rfl, rfl⟩, fun e => by simp at e, fun w => (rDecode_any w v hv).mono fun e w' q => ⟨by rw [q.1, h]; rfl, q.2⟩⟩
  | false => exact ⟨0, 0, 0, 0, 0, 4, fun e => by simp at e, fun _ => rfl, fun w => (rDecode_any w v hv).mono fun e w' q => ⟨by rw [q.1, h]; rfl, q.2⟩⟩
theorem dtick (s : Ms) (L : Ld) : dcOf L s.tick = { dcOf L s with steps := wrap64 (s.steps + 1) } := rfl

set_option maxRecDepth 100000 in
set_option maxHeartbeats 4000000 in
theorem dstep_any {B : Nat} {R : Nat → Prop} {w : World} {p : Nat} {L : Ld} {s : Ms} (h : DAtL B R w p L s) :
    Calls Try.prog 27 #[.pointer (some ⟨p, 0, none⟩)] w (DStepR B R w p L s s.step) := by
  by_cases hk : s.kind = 0
  rotate_left
  · have FIN := Lib.hid (show DStepR B R w p L s s.step (.returned (.bool false)) w from
      ⟨by rw [decide_eq_false hk], L, by unfold Ms.step; rw [if_neg hk]; exact h, Kp.refl _ _, rfl, rfl, fun g hg => .inl hg⟩)
    obtain ⟨ne1, ne2, ne3, ne4⟩ := int_ne hk
    have c21 : w.cell? ⟨p, 21, none⟩ = some (.int .i64 s.kind) := h.mc.c21
    clear hk h
    go_enter Try.func27, Try.ntmps27
    go_wp2_with fail
    go_returns
    exact FIN.out
  · have ST := Lib.hid (show s.step = s.step1 by unfold Ms.step; rw [if_pos hk])
    rw [ST.out]
    have DK := Lib.hid (decide_eq_true hk)
    have HP0 := Lib.hid (h.k0 hk)
    have HK0 := Lib.hid h.k0
    have c21 : w.cell? ⟨p, 21, none⟩ = some (.int .i64 s.kind) := h.mc.c21
    rw [hk] at c21
    have c24 : w.cell? ⟨p, 24, none⟩ = some (.int .i64 s.steps) := h.mc.c24
    have z24 : w.frozen? ⟨p, 24, none⟩ = false := h.mc.frozen 24
    have M0 := Lib.hid h
    clear hk h
    go_enter Try.func27, Try.ntmps27
    go_upto_region 4 with fail
    have M1 := Lib.hid (M0.out.upd s.tick (M0.out.mc.setSteps (wrap64 (s.steps + 1))) (set_kp (p := p) (Nw.refl w) 24 _) rfl rfl rfl rfl HK0.out)
    have K1 := Lib.hid (Fdd.of L (set_kp (p := p) (Nw.refl w) 24 (.int .i64 (wrap64 (s.steps + 1)))))
    clear c24 z24 c21
    generalize w.setCell ⟨p, 24, none⟩ (.int .i64 (wrap64 (s.steps + 1))) = w1 at *
    clear M0
    have c18 : w1.cell? ⟨p, 18, none⟩ = some (.int .i64 s.pc) := M1.out.mc.c18
    have c0 : w1.cell? ⟨p, 0, none⟩ = some L.vc := M1.out.mc.c0
    obtain ⟨xc, capc, hvc, hcl, hcm, hcc⟩ := M1.out.code
    have hcl : s.code.length ≤ capc := hcl
    have hvc : L.vc = .slice xc s.code.length capc := hvc
    rw [hvc] at c0
    have hcs : s.code.length ≤ 65536 := M1.out.hc
    have hwc : IntKind.i64.wrap ((s.code.length : Nat) : Int) = s.code.length := IntWalk.i64_in _ (by omega)
    have HP1 := Lib.hid (show s.tick.panics = 0 from HP0.out)
    by_cases hin : 0 ≤ s.pc ∧ s.pc < (s.code.length : Int)
    rotate_left
    · have S1 := Lib.hid (show s.step1 = s.tick.flt by unfold Ms.step1; rw [if_neg hin])
      clear hcc hvc hcm
      have FIN := Lib.hid (fun (wz : World) (kz : Nw w1 wz) => (show DStepR B R w p L s s.step1 (.returned (.bool true)) (wz.setCell ⟨p, 21, none⟩ (.int .i64 5)) from by
        rw [S1.out]
        exact ⟨by rw [DK.out], SD.op (M1.out.nw kz) (Kp.trans K1.out (Fdd.nw p L kz) (fun _ _ x => x)) s.tick.flt (by rw [flt_eq HP1.out]; exact (M1.out.nw kz).mc.setKind 5) (set_kp (p := p) (Nw.refl wz) 21 _) rfl rfl rfl rfl (fun _ => rfl)⟩))
      have c21 : w1.cell? ⟨p, 21, none⟩ = some (.int .i64 s.kind) := M1.out.mc.c21
      have z21 : w1.frozen? ⟨p, 21, none⟩ = false := M1.out.mc.frozen 21
      by_cases hneg : s.pc < 0
      · clear hin
        go_quiet (fail)
        go_wp2_with fail
        go_returns
        exact FIN.out _ ((Nw.refl w1).drewN nq)
      · have hge : (s.code.length : Int) ≤ s.pc := by omega
        have hnn : 0 ≤ s.pc := by omega
        clear hin
        go_quiet (fail)
        go_wp2_with fail
        go_returns
        exact FIN.out _ ((Nw.refl w1).drewN nq)
    · obtain ⟨k, hk⟩ : ∃ k : Nat, s.pc = (k : Int) := ⟨s.pc.toNat, by omega⟩
      have hkn : k < s.code.length := by omega
      obtain ⟨bc, oc, rfl, hRc, hcell⟩ := hcc (by intro e; have e : s.code = [] := e; rw [e] at hkn; simp at hkn)
      obtain ⟨v, hv⟩ : ∃ v, v = s.code.getD k 0 := ⟨_, rfl⟩
      have hvk : s.code[k] = v := by rw [hv, List.getD_eq_getElem?_getD, List.getElem?_eq_getElem hkn]; rfl
      have cv : w1.cell? ⟨bc, oc + k, none⟩ = some (.int .i64 v) := by rw [← hvk]; exact hcell k hkn
      have hvi := M1.out.ci v (by rw [← hvk]; exact List.getElem_mem hkn)
      have S1 := Lib.hid (show s.step1 = if okW v = true then Ms.doit { s.tick with pc := (k : Int) + 1 } v else s.tick.flt by
        unfold Ms.step1
        rw [if_pos hin, show s.code.getD s.pc.toNat 0 = v by rw [hk, hv]; rfl, hk])
      have hq0 : (0 : Int) ≤ (k : Int) := by omega
      have hq1 : (k : Int) < (s.code.length : Int) := by omega
      rw [hk] at c18
      have HK := Lib.hid hk
      have HV := Lib.hid hv
      clear hcc hvc hcm hcell hk hin hv hvk
      generalize s.code.length = nc at *
      go_quiet (fail)
      go_wp2_with fail
      have M2 := Lib.hid (M1.out.nw ((Nw.refl w1).drewN nq))
      have K2 := Lib.hid (Kp.trans K1.out (Fdd.nw p L ((Nw.refl w1).drewN nq)) (fun _ _ x => x))
      have c0 := ((Nw.refl w1).drewN nq).keeps c0
      have c18 := ((Nw.refl w1).drewN nq).keeps c18
      have cv := ((Nw.refl w1).drewN nq).keeps cv
      have HPL := Lib.hid (show p < (w1.drewN nq).heap.size from M2.out.mc.lt)
      generalize w1.drewN nq = w2 at *
      clear M1 K1
      have FC := Lib.hid (fun (wz : World) (hz : Nw w2 wz) => (⟨hz, hz.keeps c0, hz.keeps c18, hz.keeps cv⟩ : _ ∧ _ ∧ _ ∧ _))
      obtain ⟨o1, a1, b1, c1, n1, er, hT, hF, de⟩ := dec_lettersD v hvi
      have HT := Lib.hid hT
      have HF := Lib.hid hF
      have DE := Lib.hid de
      clear hT hF de
      go_cut [3, 4] from 45 to 58 (fun s3 s4 wx => ∃ g, s3 = .pointer (some ⟨g, 0, none⟩) ∧ s4 = .int .i64 er ∧ w2.heap.size ≤ g ∧ Blk wx g [.int .i64 o1, .int .i64 a1, .int .i64 b1, .int .i64 c1, .int .i64 n1] 26 ∧ Nw w2 wx)
      case first =>
        refine wp_region_noPanic ?_
        refine wp_region_held_drew (S := fun wz => Nw w2 wz ∧ wz.cell? ⟨p, 0, none⟩ = some (.slice (some ⟨bc, oc, none⟩) nc capc) ∧ wz.cell? ⟨p, 18, none⟩ = some (.int .i64 (k : Int)) ∧ wz.cell? ⟨bc, oc + k, none⟩ = some (.int .i64 v)) (by kernel_rfl) (FC.out _ (Nw.refl _).drew) (fun hHeld => ?_)
        have NB := Lib.hid (show Nw w2 w2.drew from (Nw.refl _).drew)
        have SB := Lib.hid (show w2.heap.size = w2.drew.heap.size from rfl)
        clear c0 c18 cv
        generalize w2.drew = wB at *
        refine wpAnyH_take (i := 0) (v := (.pointer (some ⟨p, 0, none⟩))) rfl (by kernel_rfl) (by kernel_rfl) (by kernel_rfl) (fun _ _ _ h => h) (Or.inl ⟨by rfl, ?_⟩) (by assumption) ?_
        · intro wq hSw
          (try dsimp only at hSw)
          go_simp
        try simp only [Act.put, List.setIfInBounds_toArray, List.set_cons_zero, List.set_cons_succ]
        refine wpAnyH_take (i := 1) (v := (.pointer (some ⟨p, 0, none⟩))) rfl (by kernel_rfl) (by kernel_rfl) (by kernel_rfl) (fun _ _ _ h => h) (Or.inl ⟨by rfl, ?_⟩) (by assumption) ?_
        · intro wq hSw
          (try dsimp only at hSw)
          go_simp
        try simp only [Act.put, List.setIfInBounds_toArray, List.set_cons_zero, List.set_cons_succ]
        refine wpAnyH_take (i := 2) (v := (.pointer (some ⟨p, 0, none⟩))) rfl (by kernel_rfl) (by kernel_rfl) (by kernel_rfl) (fun _ _ _ h => h) (Or.inl ⟨by rfl, ?_⟩) (by assumption) ?_
        · intro wq hSw
          (try dsimp only at hSw)
          go_simp
        try simp only [Act.put, List.setIfInBounds_toArray, List.set_cons_zero, List.set_cons_succ]
        refine wpAnyH_take (i := 3) (v := (.slice (some ⟨bc, oc, none⟩) nc capc)) rfl (by kernel_rfl) (by kernel_rfl) (by kernel_rfl) (fun _ _ _ h => h) (Or.inl ⟨by rfl, ?_⟩) (by assumption) ?_
        · intro wq hSw
          (try dsimp only at hSw)
          go_simp
        try simp only [Act.put, List.setIfInBounds_toArray, List.set_cons_zero, List.set_cons_succ]
        refine wpAnyH_take (i := 4) (v := (.pointer (some ⟨p, 0, none⟩))) rfl (by kernel_rfl) (by kernel_rfl) (by kernel_rfl) (fun _ _ _ h => h) (Or.inl ⟨by rfl, ?_⟩) (by assumption) ?_
        · intro wq hSw
          (try dsimp only at hSw)
          go_simp
        try simp only [Act.put, List.setIfInBounds_toArray, List.set_cons_zero, List.set_cons_succ]
        refine wpAnyH_take (i := 5) (v := (.pointer (some ⟨p, 0, none⟩))) rfl (by kernel_rfl) (by kernel_rfl) (by kernel_rfl) (fun _ _ _ h => h) (Or.inl ⟨by rfl, ?_⟩) (by assumption) ?_
        · intro wq hSw
          (try dsimp only at hSw)
          go_simp
        try simp only [Act.put, List.setIfInBounds_toArray, List.set_cons_zero, List.set_cons_succ]
        refine wpAnyH_take (i := 6) (v := (.pointer (some ⟨p, 18, none⟩))) rfl (by kernel_rfl) (by kernel_rfl) (by kernel_rfl) (fun _ _ _ h => h) (Or.inl ⟨by rfl, ?_⟩) (by assumption) ?_
        · intro wq hSw
          (try dsimp only at hSw)
          go_simp
        try simp only [Act.put, List.setIfInBounds_toArray, List.set_cons_zero, List.set_cons_succ]
        refine wpAnyH_take (i := 7) (v := (.int .i64 (k : Int))) rfl (by kernel_rfl) (by kernel_rfl) (by kernel_rfl) (fun _ _ _ h => h) (Or.inl ⟨by rfl, ?_⟩) (by assumption) ?_
        · intro wq hSw
          (try dsimp only at hSw)
          go_simp
        try simp only [Act.put, List.setIfInBounds_toArray, List.set_cons_zero, List.set_cons_succ]
        refine wpAnyH_take (i := 8) (v := (.pointer (some ⟨bc, oc + k, none⟩))) rfl (by kernel_rfl) (by kernel_rfl) (by kernel_rfl) (fun _ _ _ h => h) (Or.inl ⟨by rfl, ?_⟩) (by assumption) ?_
        · intro wq hSw
          (try dsimp only at hSw)
          go_simp
        try simp only [Act.put, List.setIfInBounds_toArray, List.set_cons_zero, List.set_cons_succ]
        refine wpAnyH_take (i := 9) (v := (.int .i64 v)) rfl (by kernel_rfl) (by kernel_rfl) (by kernel_rfl) (fun _ _ _ h => h) (Or.inl ⟨by rfl, ?_⟩) (by assumption) ?_
        · intro wq hSw
          (try dsimp only at hSw)
          go_simp
        try simp only [Act.put, List.setIfInBounds_toArray, List.set_cons_zero, List.set_cons_succ]
        refine wpAnyH_ready (rs := [10, 14]) (by kernel_rfl) (by simp) ?_
        refine AllReadyH.cons rfl (fun K hK => ?_) ?_
        · rw [if_pos (by rfl)]
          go_simp
          refine (DE.out wB).mono ?_
          rintro e2 w3 ⟨rfl, k3⟩
          have N3 := Lib.hid (NB.out.trans k3)
          clear hHeld k3
          show K _ _
          refine hK.out _ _ (FC.out _ N3.out) (fun hHeld => ?_)
          clear hK K
          try simp only [Act.put, List.setIfInBounds_toArray, List.set_cons_zero, List.set_cons_succ]
          refine wpAnyH_take (i := 11) (v := (.tuple #[(.agg #[.int .i64 o1, .int .i64 a1, .int .i64 b1, .int .i64 c1, .int .i64 n1]), .int .i64 er])) rfl (by kernel_rfl) (by kernel_rfl) (by kernel_rfl) (fun _ _ _ h => h) (Or.inl ⟨by rfl, ?_⟩) (by assumption) ?_
          · intro wq hSw
            (try dsimp only at hSw)
            go_simp
          try simp only [Act.put, List.setIfInBounds_toArray, List.set_cons_zero, List.set_cons_succ]
          refine wpAnyH_take (i := 12) (v := (.agg #[.int .i64 o1, .int .i64 a1, .int .i64 b1, .int .i64 c1, .int .i64 n1])) rfl (by kernel_rfl) (by kernel_rfl) (by kernel_rfl) (fun _ _ _ h => h) (Or.inl ⟨by rfl, ?_⟩) (by assumption) ?_
          · intro wq hSw
            (try dsimp only at hSw)
            go_simp
          try simp only [Act.put, List.setIfInBounds_toArray, List.set_cons_zero, List.set_cons_succ]
          refine wpAnyH_take (i := 13) (v := (.int .i64 er)) rfl (by kernel_rfl) (by kernel_rfl) (by kernel_rfl) (fun _ _ _ h => h) (Or.inl ⟨by rfl, ?_⟩) (by assumption) ?_
          · intro wq hSw
            (try dsimp only at hSw)
            go_simp
          try simp only [Act.put, List.setIfInBounds_toArray, List.set_cons_zero, List.set_cons_succ]
          refine wpAnyH_ready (rs := [14]) (by kernel_rfl) (by simp) ?_
          refine AllReadyH.cons rfl (fun K hK => ?_) AllReadyH.nil
          rw [if_pos (by rfl)]
          go_simp
          have N4 := Lib.hid (N3.out.alloc (.cells #[.int .i64 0, .int .i64 0, .int .i64 0, .int .i64 0, .int .i64 0] 26))
          have B4 := Lib.hid (Blk.new w3 [.int .i64 0, .int .i64 0, .int .i64 0, .int .i64 0, .int .i64 0] 26)
          have G4 := Lib.hid (show w2.heap.size ≤ w3.heap.size from N3.out.size)
          generalize w3.alloc (.cells #[.int .i64 0, .int .i64 0, .int .i64 0, .int .i64 0, .int .i64 0] 26) = w4 at *
          generalize w3.heap.size = g at *
          clear hHeld N3
          refine hK.out _ _ (FC.out _ N4.out) (fun hHeld => ?_)
          clear hK K
          try simp only [Act.put, List.setIfInBounds_toArray, List.set_cons_zero, List.set_cons_succ]
          refine wpAnyH_ready (rs := [15]) (by kernel_rfl) (by simp) ?_
          refine AllReadyH.cons rfl (fun K hK => ?_) AllReadyH.nil
          rw [if_pos (by rfl)]
          have cD := B4.out.cell
          have zD := B4.out.frozen
          have N5 := Lib.hid (Kp.sets (S := fun _ => False) (b := g) N4.out (fun h => absurd h (Nat.not_lt_of_le G4.out)) 0 [.int .i64 o1, .int .i64 a1, .int .i64 b1, .int .i64 c1, .int .i64 n1])
          have B5 := Lib.hid (Blk.sets B4.out 0 [.int .i64 o1, .int .i64 a1, .int .i64 b1, .int .i64 c1, .int .i64 n1])
          go_simp
          refine hK.out _ _ (FC.out _ N5.out) (fun hHeld => ?_)
          clear hK K cD zD
          try simp only [Act.put, List.setIfInBounds_toArray, List.set_cons_zero, List.set_cons_succ]
          refine wpAnyH_take (i := 16) (v := .int .i64 er) rfl (by kernel_rfl) (by kernel_rfl) (by kernel_rfl) (fun _ _ _ h => h) (Or.inl ⟨by rfl, ?_⟩) (by assumption) ?_
          · intro wq hSw
            (try dsimp only at hSw)
            go_simp
          try simp only [List.getElem_toArray, List.getElem_cons_zero, List.getElem_cons_succ]
          try simp only [Act.put, List.setIfInBounds_toArray, List.set_cons_zero, List.set_cons_succ]
          refine wpAnyH_done (by kernel_rfl) ?_ _
          refine NoPanic.normal ?_
          go_wp2_with fail
          go_meet
          exact ⟨g, rfl, rfl, G4.out, B5.out, N5.out⟩
        refine AllReadyH.cons rfl (fun K hK => ?_) AllReadyH.nil
        rw [if_pos (by rfl)]
        go_simp
        have N4 := Lib.hid (NB.out.alloc (.cells #[.int .i64 0, .int .i64 0, .int .i64 0, .int .i64 0, .int .i64 0] 26))
        have B4 := Lib.hid (Blk.new wB [.int .i64 0, .int .i64 0, .int .i64 0, .int .i64 0, .int .i64 0] 26)
        have G4 := Lib.hid (show w2.heap.size ≤ wB.heap.size from NB.out.size)
        generalize wB.alloc (.cells #[.int .i64 0, .int .i64 0, .int .i64 0, .int .i64 0, .int .i64 0] 26) = w4 at *
        generalize wB.heap.size = g at *
        clear hHeld NB
        refine hK.out _ _ (FC.out _ N4.out) (fun hHeld => ?_)
        clear hK K
        try simp only [Act.put, List.setIfInBounds_toArray, List.set_cons_zero, List.set_cons_succ]
        refine wpAnyH_ready (rs := [10]) (by kernel_rfl) (by simp) ?_
        refine AllReadyH.cons rfl (fun K hK => ?_) AllReadyH.nil
        rw [if_pos (by rfl)]
        go_simp
        refine (DE.out w4).mono ?_
        rintro e2 w3 ⟨rfl, k3⟩
        have N3 := Lib.hid (N4.out.trans k3)
        have B3 := Lib.hid (B4.out.nw k3)
        clear hHeld k3
        show K _ _
        refine hK.out _ _ (FC.out _ N3.out) (fun hHeld => ?_)
        clear hK K
        try simp only [Act.put, List.setIfInBounds_toArray, List.set_cons_zero, List.set_cons_succ]
        refine wpAnyH_take (i := 11) (v := (.tuple #[(.agg #[.int .i64 o1, .int .i64 a1, .int .i64 b1, .int .i64 c1, .int .i64 n1]), .int .i64 er])) rfl (by kernel_rfl) (by kernel_rfl) (by kernel_rfl) (fun _ _ _ h => h) (Or.inl ⟨by rfl, ?_⟩) (by assumption) ?_
        · intro wq hSw
          (try dsimp only at hSw)
          go_simp
        try simp only [Act.put, List.setIfInBounds_toArray, List.set_cons_zero, List.set_cons_succ]
        refine wpAnyH_take (i := 12) (v := (.agg #[.int .i64 o1, .int .i64 a1, .int .i64 b1, .int .i64 c1, .int .i64 n1])) rfl (by kernel_rfl) (by kernel_rfl) (by kernel_rfl) (fun _ _ _ h => h) (Or.inl ⟨by rfl, ?_⟩) (by assumption) ?_
        · intro wq hSw
          (try dsimp only at hSw)
          go_simp
        try simp only [Act.put, List.setIfInBounds_toArray, List.set_cons_zero, List.set_cons_succ]
        refine wpAnyH_take (i := 13) (v := (.int .i64 er)) rfl (by kernel_rfl) (by kernel_rfl) (by kernel_rfl) (fun _ _ _ h => h) (Or.inl ⟨by rfl, ?_⟩) (by assumption) ?_
        · intro wq hSw
          (try dsimp only at hSw)
          go_simp
        try simp only [Act.put, List.setIfInBounds_toArray, List.set_cons_zero, List.set_cons_succ]
        refine wpAnyH_ready (rs := [15]) (by kernel_rfl) (by simp) ?_
        refine AllReadyH.cons rfl (fun K hK => ?_) AllReadyH.nil
        rw [if_pos (by rfl)]
        have cD := B3.out.cell
        have zD := B3.out.frozen
        have N5 := Lib.hid (Kp.sets (S := fun _ => False) (b := g) N3.out (fun h => absurd h (Nat.not_lt_of_le G4.out)) 0 [.int .i64 o1, .int .i64 a1, .int .i64 b1, .int .i64 c1, .int .i64 n1])
        have B5 := Lib.hid (Blk.sets B3.out 0 [.int .i64 o1, .int .i64 a1, .int .i64 b1, .int .i64 c1, .int .i64 n1])
        go_simp
        refine hK.out _ _ (FC.out _ N5.out) (fun hHeld => ?_)
        clear hK K cD zD
        try simp only [Act.put, List.setIfInBounds_toArray, List.set_cons_zero, List.set_cons_succ]
        refine wpAnyH_take (i := 16) (v := .int .i64 er) rfl (by kernel_rfl) (by kernel_rfl) (by kernel_rfl) (fun _ _ _ h => h) (Or.inl ⟨by rfl, ?_⟩) (by assumption) ?_
        · intro wq hSw
          (try dsimp only at hSw)
          go_simp
        try simp only [List.getElem_toArray, List.getElem_cons_zero, List.getElem_cons_succ]
        try simp only [Act.put, List.setIfInBounds_toArray, List.set_cons_zero, List.set_cons_succ]
        refine wpAnyH_done (by kernel_rfl) ?_ _
        refine NoPanic.normal ?_
        go_wp2_with fail
        go_meet
        exact ⟨g, rfl, rfl, G4.out, B5.out, N5.out⟩
      case rest =>
        obtain ⟨g, rfl, rfl, hg, hbi, hn⟩ := hcut
        have M3 := Lib.hid (M2.out.nw hn)
        have K3 := Lib.hid (Kp.trans K2.out (Fdd.nw p L hn) (fun _ _ x => x))
        have BI := Lib.hid hbi
        have hgp : g ≠ p := by have := HPL.out; omega
        clear hg hbi hn c0 c18 cv M2 K2 FC DE HV hvi
        cases hok : okW v with
        | false =>
          obtain rfl := HF.out hok
          have FIN := Lib.hid (show DStepR B R w p L s s.step1 (.returned (.bool true)) (wc.setCell ⟨p, 21, none⟩ (.int .i64 5)) from by
            rw [S1.out, hok, if_neg (by simp)]
            exact ⟨by rw [DK.out], SD.op M3.out K3.out s.tick.flt (by rw [flt_eq HP1.out]; exact M3.out.mc.setKind 5) (set_kp (p := p) (Nw.refl wc) 21 _) rfl rfl rfl rfl (fun _ => rfl)⟩)
          have c21 : wc.cell? ⟨p, 21, none⟩ = some (.int .i64 s.kind) := M3.out.mc.c21
          have z21 : wc.frozen? ⟨p, 21, none⟩ = false := M3.out.mc.frozen 21
          clear HT HF hok
          go_wp2_with fail
          go_returns
          exact FIN.out
        | true =>
          obtain ⟨rfl, rfl, rfl, rfl, rfl, rfl⟩ := HT.out hok
          obtain ⟨a, b, c, ha, hb, hc, ha16, hb16, hc16, _, _⟩ := parts_ok hok
          have hop := op_of hok
          have HNR := Lib.hid (nW_range v)
          have S2 : s.step1 = Ms.doit { s.tick with pc := (k : Int) + 1 } v := by rw [S1.out, hok, if_pos rfl]
          unfold Ms.doit at S2
          have hbi := BI.out
          rw [ha, hb, hc] at S2 hbi
          generalize opW v = op at *
          generalize nW v = n at *
          have S3 := Lib.hid S2
          have BI3 := Lib.hid hbi
          clear S2 hbi BI HT HF S1 hok ha hb hc
          have c18 : wc.cell? ⟨p, 18, none⟩ = some (.int .i64 s.pc) := M3.out.mc.c18
          rw [HK.out] at c18
          have z18 : wc.frozen? ⟨p, 18, none⟩ = false := M3.out.mc.frozen 18
          have hwk : IntKind.i64.wrap ((k : Int) + 1) = (k : Int) + 1 := IntWalk.i64_in _ (by omega)
          go_upto_region 13 with fail
          have M4 := Lib.hid (M3.out.upd { s.tick with pc := (k : Int) + 1 } (M3.out.mc.setPc ((k : Int) + 1)) (set_kp (p := p) (Nw.refl wc) 18 _) rfl rfl rfl rfl HK0.out)
          have K4 := Lib.hid (Kp.trans K3.out (Fdd.of L (set_kp (p := p) (Nw.refl wc) 18 (.int .i64 ((k : Int) + 1)))) (fun _ _ x => x))
          have B4 := Lib.hid (BI3.out.setOther (a := ⟨p, 18, none⟩) hgp (.int .i64 ((k : Int) + 1)))
          clear c18 z18 hwk M3 K3 BI3
          generalize wc.setCell ⟨p, 18, none⟩ (.int .i64 ((k : Int) + 1)) = w4 at *
          obtain ⟨sk, hsk⟩ : ∃ sk, sk = ({ s.tick with pc := (k : Int) + 1 } : Ms) := ⟨_, rfl⟩
          have HKK := Lib.hid (show sk.kind = 0 by rw [hsk]; exact of_decide_eq_true DK.out)
          rw [← hsk] at M4 S3
          clear hsk
          have i0 := B4.out.cell 0
          have i1 := B4.out.cell 1
          have i2 := B4.out.cell 2
          have i3 := B4.out.cell 3
          have i4 := B4.out.cell 4
          simp only [List.getElem?_cons_zero, List.getElem?_cons_succ] at i0 i1 i2 i3 i4
          have ha0 : (0 : Int) ≤ (a : Int) := by omega
          have ha1 : (a : Int) < 16 := by omega
          have hb0 : (0 : Int) ≤ (b : Int) := by omega
          have hb1 : (b : Int) < 16 := by omega
          have hc0 : (0 : Int) ≤ (c : Int) := by omega
          have hc1 : (c : Int) < 16 := by omega
          have ra : w4.cell? ⟨p, 2 + a, none⟩ = some (.int .i64 (sk.get (a : Int))) := M4.out.mc.creg ha16
          have za : w4.frozen? ⟨p, 2 + a, none⟩ = false := M4.out.mc.frozen (2 + a)
          have rb : w4.cell? ⟨p, 2 + b, none⟩ = some (.int .i64 (sk.get (b : Int))) := M4.out.mc.creg hb16
          have rc : w4.cell? ⟨p, 2 + c, none⟩ = some (.int .i64 (sk.get (c : Int))) := M4.out.mc.creg hc16
          have PUT := Lib.hid (fun (wz : World) (kz : Nw w4 wz) (val : Int) (hs : s.step1 = sk.put (a : Int) val) => (show ∀ wf, Nw (wz.setCell ⟨p, 2 + a, none⟩ (.int .i64 val)) wf → DStepR B R w p L s s.step1 (.returned (.bool true)) wf from fun wf kf => by
            rw [hs]
            have q := SD.op (M4.out.nw kz) (Kp.trans K4.out (Fdd.nw p L kz) (fun _ _ x => x)) (sk.put (a : Int) val) ((M4.out.nw kz).mc.setReg ha16 val) (set_kp (p := p) (Nw.refl wz) (2 + a) _) rfl rfl rfl rfl M4.out.k0
            obtain ⟨L', q1, q2, q3⟩ := q
            exact ⟨by rw [DK.out], L', q1.nw kf, Kp.trans q2 (Fdd.nw p L kf) (fun _ _ x => x), q3⟩))
          have hgp2 : ¬ p = g := fun e => hgp e.symm
          by_cases h16 : op < 16
          · have S5 := Lib.hid (show s.step1 = sk.op op (a : Int) (b : Int) n by rw [S3.out, if_pos h16])
            obtain ⟨kk, rfl⟩ : ∃ kk : Nat, op = (kk : Int) := ⟨op.toNat, by omega⟩
            have hkk : kk < 16 := by omega
            have OP := Lib.hid (plain_any M4.out HKK.out a b c ha16 hb16 n HNR.out kk hkk)
            have hq0 : (0 : Int) ≤ (kk : Int) := by omega
            have h40 : (kk : Int) ≤ 40 := by omega
            have h16' : (kk : Int) ≤ 16 := by omega
            clear S3 hop ra za rb rc PUT
            go_wp2_with fail
            refine OP.out.mono ?_
            rintro e7 w7 ⟨rfl, q⟩
            have FIN := Lib.hid (show DStepR B R w p L s s.step1 (.returned (.bool true)) w7 from by rw [S5.out]; exact ⟨by rw [DK.out], SD.nextK K4.out q⟩)
            clear q OP
            go_wp2_with fail
            go_returns
            exact FIN.out
          · have S4 := Lib.hid (show s.step1 = sk.words (a : Int) (wordsV op (sk.get (b : Int)) (sk.get (c : Int))) by rw [S3.out, if_neg h16])
            clear S3
            generalize sk.get (a : Int) = va at *
            generalize sk.get (b : Int) = vb at *
            generalize sk.get (c : Int) = vc at *
            by_cases h40 : 40 < op
            · have hu := wun_ok (op := op) (a := vb) (by omega)
              have S5 := Lib.hid (show s.step1 = sk.put (a : Int) (wun (op - 40) vb).1 by
                rw [S4.out, show wordsV op vb vc = wun (op - 40) vb from if_neg (by omega)]
                exact if_pos hu)
              have UN := Lib.hid (fun wz => run_any (op - 40) vb wz)
              have hwo : IntKind.i64.wrap (op - 40) = op - 40 := IntWalk.i64_in _ (by omega)
              clear hop h16
              generalize (wun (op - 40) vb).1 = r1 at *
              generalize (wun (op - 40) vb).2 = r2 at *
              go_wp2_with fail
              go_quiet (first | (go_at_call 55; exact Calls.quiet_of_same ((UN.out _).mono fun _ _ q => ⟨q.1, q.2.symm⟩)))
              go_wp2_with fail
              go_region
              go_wp2_with fail
              go_returns
              first
                | exact PUT.out _ ((Nw.refl w4).drewN nq) _ S5.out _ (Nw.refl _).drew
                | exact PUT.out _ ((Nw.refl w4).drewN (nq + 1)) _ S5.out _ (Nw.refl _)
            · have h40' : op ≤ 40 := by omega
              have hgt : 16 < op := by omega
              have BN := Lib.hid (fun wz => rbin_any (op - 16) vb vc wz)
              have hwo : IntKind.i64.wrap (op - 16) = op - 16 := IntWalk.i64_in _ (by omega)
              have S5 : s.step1 = sk.words (a : Int) (wbin (op - 16) vb vc) := by
                rw [S4.out]
                unfold wordsV
                rw [if_pos (by omega)]
              unfold Ms.words at S5
              have FLP := Lib.hid (fun (wz : World) (kz : Nw w4 wz) (r2 : Int) (hs : s.step1 = { sk with kind := 2, panics := r2 }) => (show DStepR B R w p L s s.step1 (.returned (.bool true)) ((wz.setCell ⟨p, 21, none⟩ (.int .i64 2)).setCell ⟨p, 22, none⟩ (.int .i64 r2)) from by
                rw [hs]
                exact ⟨by rw [DK.out], SD.op (M4.out.nw kz) (Kp.trans K4.out (Fdd.nw p L kz) (fun _ _ x => x)) { sk with kind := 2, panics := r2 } (((M4.out.nw kz).mc.setKind 2).setPanics r2) (kp_set (set_kp (p := p) (Nw.refl wz) 21 _) 22 _) rfl rfl rfl rfl (fun e => absurd (show (2 : Int) = 0 from e) (by decide))⟩))
              have c21 : w4.cell? ⟨p, 21, none⟩ = some (.int .i64 sk.kind) := M4.out.mc.c21
              have z21 : w4.frozen? ⟨p, 21, none⟩ = false := M4.out.mc.frozen 21
              have c22 : w4.cell? ⟨p, 22, none⟩ = some (.int .i64 sk.panics) := M4.out.mc.c22
              have z22 : w4.frozen? ⟨p, 22, none⟩ = false := M4.out.mc.frozen 22
              clear hop h16
              generalize (wbin (op - 16) vb vc).1 = r1 at *
              generalize (wbin (op - 16) vb vc).2 = r2 at *
              by_cases hr2 : r2 = 0
              · rw [if_pos hr2] at S5
                subst hr2
                have S6 := Lib.hid S5
                clear S5 FLP
                go_wp2_with fail
                go_quiet (first | (go_at_call 56; exact Calls.quiet_of_same ((BN.out _).mono fun _ _ q => ⟨q.1, q.2.symm⟩)))
                go_wp2_with fail
                go_region
                go_wp2_with fail
                go_returns
                first
                  | exact PUT.out _ ((Nw.refl w4).drewN nq) _ S6.out _ (Nw.refl _).drew
                  | exact PUT.out _ ((Nw.refl w4).drewN (nq + 1)) _ S6.out _ (Nw.refl _)
              · rw [if_neg hr2] at S5
                obtain ⟨ne1, ne2, ne3, ne4⟩ := int_ne hr2
                have S6 := Lib.hid S5
                clear S5 PUT
                go_wp2_with fail
                go_quiet (first | (go_at_call 56; exact Calls.quiet_of_same ((BN.out _).mono fun _ _ q => ⟨q.1, q.2.symm⟩)))
                go_wp2_with fail
                go_returns
                exact FLP.out _ ((Nw.refl w4).drewN nq) _ S6.out
end Go.Proofs.Ythlcoocboidnlaa
