/- The machine's operations of memory: enter, call, at, ret. -/
import Derived.Test.YthlcoocboidnlaaMach3
namespace Go.Proofs.Ythlcoocboidnlaa
open Go.RowKit
set_option linter.unusedSimpArgs false
set_option linter.unusedVariables false

set_option maxRecDepth 100000 in
set_option maxHeartbeats 1000000 in
theorem enter_ok (w : World) (p : Nat) (m : Mc) (h : McAt w p m) {bm cm : Nat} {l : List Int} (hv : m.vm = .slice (some ⟨bm, 0, none⟩) l.length cm) (hl : l.length ≤ 262144) (hm : MemAt w bm l) (hne : bm ≠ p)
    (k : Nat) (hk : k < l.length) (hq : wrap64 (m.get 15 - 1) = (k : Int)) :
    Calls Try.prog 61 #[.pointer (some ⟨p, 0, none⟩)] w (MemP w p bm { m with reg := m.reg.set 15 (k : Int) } (l.set k m.pc)) := by
  have M0 := Lib.hid h
  have E0 := Lib.hid hm
  have r15 := h.creg (a := 15) (by decide)
  have rp := h.c18
  have zm := hm.frozen k
  have cm0 := hm.cell hk
  have hnep : ¬ p = bm := fun e => hne e.symm
  have WD := Lib.hid (fun (wz : World) (hz : Nw w wz) => word_ok wz p m (M0.out.nw hz) bm l.length cm k hv hl hk)
  clear h hm hv
  generalize hv15 : m.get 15 = v15 at *
  have HV15 := Lib.hid hv15
  clear hv15
  generalize hpc : m.pc = pc at *
  have HPC := Lib.hid hpc
  clear hpc
  have hq2 : IntKind.i64.wrap (v15 - 1) = (k : Int) := by rw [i64wrap]; exact hq
  have HQ := Lib.hid hq
  clear hq
  have FC := Lib.hid (fun (wz : World) (hz : Nw w wz) => (⟨hz.keeps r15, hz.keeps rp⟩ : _ ∧ _))
  go_enter Try.func61, Try.ntmps61
  go_wp2_with fail
  refine wp_region_still_tail 13 (by kernel_rfl) (by kernel_rfl) ?_
  simp only [List.take_succ_cons, List.take_zero, List.drop_succ_cons, List.drop_zero]
  repeat still_step
  still_call ((WD.out _ (Nw.refl _).drew).mono fun _ _ q => ⟨q.1, q.2.symm⟩)
  repeat still_step
  refine wpStill_nil ?_
  change wpList _ _ _ _ _ w.drew
  go_wp2_with fail
  have M1 := Lib.hid ((M0.out.setOther (a := ⟨bm, k, none⟩) hnep (.int .i64 pc)).drew)
  have E1 := Lib.hid ((E0.out.set k pc).nw (Nw.refl _).drew)
  have K1 := Lib.hid ((PM.setM (PM.nw p bm (Nw.refl w)) k (.int .i64 pc)).drew)
  generalize (w.setCell ⟨bm, k, none⟩ (.int .i64 pc)).drew = w1 at *
  have s15 : w1.cell? ⟨p, 17, none⟩ = _ := M1.out.creg (a := 15) (by decide)
  have z15 : w1.frozen? ⟨p, 17, none⟩ = _ := M1.out.frozen (2 + 15)
  rw [HV15.out] at s15
  have hq3 := HQ.out
  clear hq2 r15 rp zm cm0
  go_wp2_with fail
  go_region
  go_wp2_with fail
  go_returns
  have hpc := HPC.out
  subst hpc
  exact ⟨rfl, (M1.out.setReg (a := 15) (by decide) _).drew, (E1.out.setOther (a := ⟨p, 2 + 15, none⟩) hne _).nw (Nw.refl _).drew, (PM.set K1.out (2 + 15) _).drew⟩
set_option maxRecDepth 100000 in
set_option maxHeartbeats 1000000 in
theorem enter_bad (w : World) (p : Nat) (m : Mc) (h : McAt w p m) {bm cm : Nat} {l : List Int} (hv : m.vm = .slice (some ⟨bm, 0, none⟩) l.length cm) (hl : l.length ≤ 262144)
    (q : Int) (hk : q < 0 ∨ (l.length : Int) ≤ q) (hq : wrap64 (m.get 15 - 1) = q) :
    Calls Try.prog 61 #[.pointer (some ⟨p, 0, none⟩)] w (FltP w) := by
  have M0 := Lib.hid h
  have r15 := h.creg (a := 15) (by decide)
  have rp := h.c18
  have WD := Lib.hid (fun (wz : World) (hz : Nw w wz) => word_bad wz p m (M0.out.nw hz) _ l.length cm q hv hl hk)
  clear h hv hk
  generalize m.get 15 = v15 at *
  generalize m.pc = pc at *
  have hq2 : IntKind.i64.wrap (v15 - 1) = q := by rw [i64wrap]; exact hq
  clear hq
  have FC := Lib.hid (fun (wz : World) (hz : Nw w wz) => (⟨hz.keeps r15, hz.keeps rp⟩ : _ ∧ _))
  go_enter Try.func61, Try.ntmps61
  go_wp2_with fail
  refine wp_region_held_drew (S := fun wz => wz.cell? ⟨p, 2 + 15, none⟩ = some (.int .i64 v15) ∧ wz.cell? ⟨p, 18, none⟩ = some (.int .i64 pc)) (by kernel_rfl) (FC.out _ (Nw.refl _).drew) (fun hHeld => ?_)
  refine wpAnyH_take (i := 0) (v := (.pointer (some ⟨p, 0, none⟩))) rfl (by kernel_rfl) (by kernel_rfl) (by kernel_rfl) (fun _ _ _ h => h) (Or.inl ⟨by rfl, ?_⟩) (by assumption) ?_
  · intro wq hSw
    (try dsimp only at hSw)
    go_simp
  try simp only [Act.put, List.setIfInBounds_toArray, List.set_cons_zero, List.set_cons_succ]
  refine wpAnyH_take (i := 1) (v := (.pointer (some ⟨p, 0, none⟩))) rfl (by kernel_rfl) (by kernel_rfl) (by kernel_rfl) (fun _ _ _ h => h) (Or.inl ⟨by rfl, ?_⟩) (by assumption) ?_
  · intro wq hSw
    (try dsimp only at hSw)
    go_simp
  try simp only [Act.put, List.setIfInBounds_toArray, List.set_cons_zero, List.set_cons_succ]
  refine wpAnyH_take (i := 2) (v := (.pointer (some ⟨p, 0, none⟩))) rfl (by kernel_rfl) (by kernel_rfl) (by kernel_rfl) (fun _ _ _ h => h) (Or.inl ⟨by rfl, ?_⟩) (by assumption) ?_
  · intro wq hSw
    (try dsimp only at hSw)
    go_simp
  try simp only [Act.put, List.setIfInBounds_toArray, List.set_cons_zero, List.set_cons_succ]
  refine wpAnyH_take (i := 3) (v := (.pointer (some ⟨p, 2, none⟩))) rfl (by kernel_rfl) (by kernel_rfl) (by kernel_rfl) (fun _ _ _ h => h) (Or.inl ⟨by rfl, ?_⟩) (by assumption) ?_
  · intro wq hSw
    (try dsimp only at hSw)
    go_simp
  try simp only [Act.put, List.setIfInBounds_toArray, List.set_cons_zero, List.set_cons_succ]
  refine wpAnyH_take (i := 4) (v := (.pointer (some ⟨p, 2 + 15, none⟩))) rfl (by kernel_rfl) (by kernel_rfl) (by kernel_rfl) (fun _ _ _ h => h) (Or.inl ⟨by rfl, ?_⟩) (by assumption) ?_
  · intro wq hSw
    (try dsimp only at hSw)
    go_simp
  try simp only [Act.put, List.setIfInBounds_toArray, List.set_cons_zero, List.set_cons_succ]
  refine wpAnyH_take (i := 5) (v := (.int .i64 v15)) rfl (by kernel_rfl) (by kernel_rfl) (by kernel_rfl) (fun _ _ _ h => h) (Or.inl ⟨by rfl, ?_⟩) (by assumption) ?_
  · intro wq hSw
    (try dsimp only at hSw)
    go_simp
  try simp only [Act.put, List.setIfInBounds_toArray, List.set_cons_zero, List.set_cons_succ]
  refine wpAnyH_take (i := 6) (v := (.int .i64 q)) rfl (by kernel_rfl) (by kernel_rfl) (by kernel_rfl) (fun _ _ _ h => h) (Or.inl ⟨by rfl, ?_⟩) (by assumption) ?_
  · intro wq hSw
    (try dsimp only at hSw)
    go_simp
  try simp only [Act.put, List.setIfInBounds_toArray, List.set_cons_zero, List.set_cons_succ]
  refine wpAnyH_take (i := 8) (v := (.pointer (some ⟨p, 0, none⟩))) rfl (by kernel_rfl) (by kernel_rfl) (by kernel_rfl) (fun _ _ _ h => h) (Or.inl ⟨by rfl, ?_⟩) (by assumption) ?_
  · intro wq hSw
    (try dsimp only at hSw)
    go_simp
  try simp only [Act.put, List.setIfInBounds_toArray, List.set_cons_zero, List.set_cons_succ]
  refine wpAnyH_take (i := 9) (v := (.pointer (some ⟨p, 0, none⟩))) rfl (by kernel_rfl) (by kernel_rfl) (by kernel_rfl) (fun _ _ _ h => h) (Or.inl ⟨by rfl, ?_⟩) (by assumption) ?_
  · intro wq hSw
    (try dsimp only at hSw)
    go_simp
  try simp only [Act.put, List.setIfInBounds_toArray, List.set_cons_zero, List.set_cons_succ]
  refine wpAnyH_take (i := 10) (v := (.pointer (some ⟨p, 18, none⟩))) rfl (by kernel_rfl) (by kernel_rfl) (by kernel_rfl) (fun _ _ _ h => h) (Or.inl ⟨by rfl, ?_⟩) (by assumption) ?_
  · intro wq hSw
    (try dsimp only at hSw)
    go_simp
  try simp only [Act.put, List.setIfInBounds_toArray, List.set_cons_zero, List.set_cons_succ]
  refine wpAnyH_take (i := 11) (v := (.int .i64 pc)) rfl (by kernel_rfl) (by kernel_rfl) (by kernel_rfl) (fun _ _ _ h => h) (Or.inl ⟨by rfl, ?_⟩) (by assumption) ?_
  · intro wq hSw
    (try dsimp only at hSw)
    go_simp
  try simp only [Act.put, List.setIfInBounds_toArray, List.set_cons_zero, List.set_cons_succ]
  refine wpAnyH_ready (rs := [7]) (by kernel_rfl) (by simp) ?_
  refine AllReadyH.cons rfl (fun K hK => ?_) AllReadyH.nil
  rw [if_pos (by rfl)]
  go_simp
  refine (WD.out _ (Nw.refl _).drew).mono ?_
  rintro e1 w1 ⟨rfl, rfl⟩
  unfold FAULT
  exact ⟨rfl, rfl, (Nw.refl _).drew⟩

set_option maxRecDepth 100000 in
set_option maxHeartbeats 1000000 in
theorem call_ok (w : World) (p : Nat) (m : Mc) (h : McAt w p m) (a b : Int) (op c n : Int) {bm cm : Nat} {l : List Int} (hv : m.vm = .slice (some ⟨bm, 0, none⟩) l.length cm) (hl : l.length ≤ 262144) (hm : MemAt w bm l) (hne : bm ≠ p)
    (k : Nat) (hk : k < l.length) (hq : wrap64 (m.get 15 - 1) = (k : Int)) :
    Calls Try.prog 43 #[.pointer (some ⟨p, 0, none⟩), .agg #[.int .i64 op, .int .i64 a, .int .i64 b, .int .i64 c, .int .i64 n]] w (MemP w p bm { m with reg := m.reg.set 15 (k : Int), pc := n } (l.set k m.pc)) := by
  have N0 := Lib.hid (Nw.new w (.cells #[.int .i64 op, .int .i64 a, .int .i64 b, .int .i64 c, .int .i64 n] 26))
  have M0 := Lib.hid (h.alloc (.cells #[.int .i64 op, .int .i64 a, .int .i64 b, .int .i64 c, .int .i64 n] 26))
  have E0 := Lib.hid (hm.nw N0.out)
  have B0 := Lib.hid (Blk.new w [.int .i64 op, .int .i64 a, .int .i64 b, .int .i64 c, .int .i64 n] 26)
  have hlt := h.lt
  have hbl := hm.lt
  clear h hm
  go_enter Try.func43, Try.ntmps43
  go_upto_region 1 with fail
  generalize w.alloc (.cells #[.int .i64 op, .int .i64 a, .int .i64 b, .int .i64 c, .int .i64 n] 26) = w0 at *
  generalize w.heap.size = bi at *
  have EN := Lib.hid (enter_ok w0 p m M0.out hv hl E0.out hne k hk hq)
  clear hv hq
  go_wp2_with fail
  refine EN.out.mono ?_
  rintro e1 w1 ⟨rfl, m1, x1, k1⟩
  have M1 := Lib.hid m1
  have E1 := Lib.hid x1
  have K1 := Lib.hid (PM.trans (PM.nw p bm N0.out) k1)
  have B1 := Lib.hid (B0.out.kp k1 (fun e => by rcases e with e | e <;> omega))
  clear m1 x1 k1 EN
  have i0 := B1.out.cell 0
  have i1 := B1.out.cell 1
  have i2 := B1.out.cell 2
  have i3 := B1.out.cell 3
  have i4 := B1.out.cell 4
  simp only [List.getElem?_cons_zero, List.getElem?_cons_succ] at i0 i1 i2 i3 i4
  have z18 := M1.out.frozen 18
  have c18 := M1.out.c18
  go_wp2_with fail
  go_returns
  exact ⟨rfl, M1.out.setPc _, E1.out.setOther (a := ⟨p, 18, none⟩) hne _, PM.set K1.out 18 _⟩
set_option maxRecDepth 100000 in
set_option maxHeartbeats 1000000 in
theorem call_bad (w : World) (p : Nat) (m : Mc) (h : McAt w p m) (a b : Int) (op c n : Int) {bm cm : Nat} {l : List Int} (hv : m.vm = .slice (some ⟨bm, 0, none⟩) l.length cm) (hl : l.length ≤ 262144)
    (q : Int) (hk : q < 0 ∨ (l.length : Int) ≤ q) (hq : wrap64 (m.get 15 - 1) = q) :
    Calls Try.prog 43 #[.pointer (some ⟨p, 0, none⟩), .agg #[.int .i64 op, .int .i64 a, .int .i64 b, .int .i64 c, .int .i64 n]] w (FltP w) := by
  have N0 := Lib.hid (Nw.new w (.cells #[.int .i64 op, .int .i64 a, .int .i64 b, .int .i64 c, .int .i64 n] 26))
  have M0 := Lib.hid (h.alloc (.cells #[.int .i64 op, .int .i64 a, .int .i64 b, .int .i64 c, .int .i64 n] 26))
  clear h
  go_enter Try.func43, Try.ntmps43
  go_upto_region 1 with fail
  generalize w.alloc (.cells #[.int .i64 op, .int .i64 a, .int .i64 b, .int .i64 c, .int .i64 n] 26) = w0 at *
  generalize w.heap.size = bi at *
  have EN := Lib.hid (enter_bad w0 p m M0.out hv hl q hk hq)
  clear hv hq hk
  go_wp2_with fail
  refine EN.out.mono ?_
  rintro e1 w1 ⟨rfl, k1⟩
  exact ⟨rfl, rfl, N0.out.trans k1⟩
set_option maxRecDepth 100000 in
set_option maxHeartbeats 1000000 in
theorem at_ok (w : World) (p : Nat) (m : Mc) (h : McAt w p m) (a : Nat) (ha : a < 16) (b : Int) (op c n : Int) {bm cm : Nat} {l : List Int} (hv : m.vm = .slice (some ⟨bm, 0, none⟩) l.length cm) (hl : l.length ≤ 262144) (hm : MemAt w bm l) (hne : bm ≠ p)
    (k : Nat) (hk : k < l.length) (hq : wrap64 (m.get 15 - 1) = (k : Int)) :
    Calls Try.prog 44 #[.pointer (some ⟨p, 0, none⟩), .agg #[.int .i64 op, .int .i64 (a : Int), .int .i64 b, .int .i64 c, .int .i64 n]] w (MemP w p bm { m with reg := m.reg.set 15 (k : Int), pc := (m.reg.set 15 (k : Int)).getD a 0 } (l.set k m.pc)) := by
  have N0 := Lib.hid (Nw.new w (.cells #[.int .i64 op, .int .i64 (a : Int), .int .i64 b, .int .i64 c, .int .i64 n] 26))
  have M0 := Lib.hid (h.alloc (.cells #[.int .i64 op, .int .i64 (a : Int), .int .i64 b, .int .i64 c, .int .i64 n] 26))
  have E0 := Lib.hid (hm.nw N0.out)
  have B0 := Lib.hid (Blk.new w [.int .i64 op, .int .i64 (a : Int), .int .i64 b, .int .i64 c, .int .i64 n] 26)
  have hlt := h.lt
  have hbl := hm.lt
  clear h hm
  go_enter Try.func44, Try.ntmps44
  go_upto_region 1 with fail
  generalize w.alloc (.cells #[.int .i64 op, .int .i64 (a : Int), .int .i64 b, .int .i64 c, .int .i64 n] 26) = w0 at *
  generalize w.heap.size = bi at *
  have EN := Lib.hid (enter_ok w0 p m M0.out hv hl E0.out hne k hk hq)
  clear hv hq
  go_wp2_with fail
  refine EN.out.mono ?_
  rintro e1 w1 ⟨rfl, m1, x1, k1⟩
  have M1 := Lib.hid m1
  have E1 := Lib.hid x1
  have K1 := Lib.hid (PM.trans (PM.nw p bm N0.out) k1)
  have B1 := Lib.hid (B0.out.kp k1 (fun e => by rcases e with e | e <;> omega))
  clear m1 x1 k1 EN
  have i0 := B1.out.cell 0
  have i1 := B1.out.cell 1
  have i2 := B1.out.cell 2
  have i3 := B1.out.cell 3
  have i4 := B1.out.cell 4
  simp only [List.getElem?_cons_zero, List.getElem?_cons_succ] at i0 i1 i2 i3 i4
  have z18 := M1.out.frozen 18
  have c18 := M1.out.c18
  have ha0 : (0 : Int) ≤ (a : Int) := by omega
  have ha1 : (a : Int) < 16 := by omega
  have ra := M1.out.creg ha
  simp only [Mc.get] at ra
  generalize hx : (m.reg.set 15 (k : Int)).getD a 0 = x at *
  have HX := Lib.hid hx
  clear hx
  have hpb : ¬ p = bi := fun e => by omega
  go_wp2_with fail
  go_region
  go_wp2_with fail
  go_returns
  exact ⟨rfl, (M1.out.setPc _).drew, (E1.out.setOther (a := ⟨p, 18, none⟩) hne _).nw (Nw.refl _).drew, (PM.set K1.out 18 _).drew⟩
set_option maxRecDepth 100000 in
set_option maxHeartbeats 1000000 in
theorem at_bad (w : World) (p : Nat) (m : Mc) (h : McAt w p m) (a : Nat) (ha : a < 16) (b : Int) (op c n : Int) {bm cm : Nat} {l : List Int} (hv : m.vm = .slice (some ⟨bm, 0, none⟩) l.length cm) (hl : l.length ≤ 262144)
    (q : Int) (hk : q < 0 ∨ (l.length : Int) ≤ q) (hq : wrap64 (m.get 15 - 1) = q) :
    Calls Try.prog 44 #[.pointer (some ⟨p, 0, none⟩), .agg #[.int .i64 op, .int .i64 (a : Int), .int .i64 b, .int .i64 c, .int .i64 n]] w (FltP w) := by
  have N0 := Lib.hid (Nw.new w (.cells #[.int .i64 op, .int .i64 (a : Int), .int .i64 b, .int .i64 c, .int .i64 n] 26))
  have M0 := Lib.hid (h.alloc (.cells #[.int .i64 op, .int .i64 (a : Int), .int .i64 b, .int .i64 c, .int .i64 n] 26))
  clear h
  go_enter Try.func44, Try.ntmps44
  go_upto_region 1 with fail
  generalize w.alloc (.cells #[.int .i64 op, .int .i64 (a : Int), .int .i64 b, .int .i64 c, .int .i64 n] 26) = w0 at *
  generalize w.heap.size = bi at *
  have EN := Lib.hid (enter_bad w0 p m M0.out hv hl q hk hq)
  clear hv hq hk
  go_wp2_with fail
  refine EN.out.mono ?_
  rintro e1 w1 ⟨rfl, k1⟩
  exact ⟨rfl, rfl, N0.out.trans k1⟩
set_option maxRecDepth 100000 in
set_option maxHeartbeats 1000000 in
theorem ret_ok (w : World) (p : Nat) (m : Mc) (h : McAt w p m) (a b op c n : Int) {bm cm : Nat} {l : List Int} (hv : m.vm = .slice (some ⟨bm, 0, none⟩) l.length cm) (hl : l.length ≤ 262144) (hm : MemAt w bm l) (hne : bm ≠ p)
    (k : Nat) (hk : k < l.length) (hq : m.get 15 = (k : Int)) :
    Calls Try.prog 45 #[.pointer (some ⟨p, 0, none⟩), .agg #[.int .i64 op, .int .i64 a, .int .i64 b, .int .i64 c, .int .i64 n]] w (OpP w p { m with reg := m.reg.set 15 ((k : Int) + 1), pc := l.getD k 0 }) := by
  have N0 := Lib.hid (Nw.new w (.cells #[.int .i64 op, .int .i64 a, .int .i64 b, .int .i64 c, .int .i64 n] 26))
  have M0 := Lib.hid (h.alloc (.cells #[.int .i64 op, .int .i64 a, .int .i64 b, .int .i64 c, .int .i64 n] 26))
  have E0 := Lib.hid (hm.nw N0.out)
  have hlt := h.lt
  have hbl := hm.lt
  clear h hm
  go_enter Try.func45, Try.ntmps45
  go_upto_region 1 with fail
  generalize w.alloc (.cells #[.int .i64 op, .int .i64 a, .int .i64 b, .int .i64 c, .int .i64 n] 26) = w0 at *
  generalize w.heap.size = bi at *
  have WD := Lib.hid (word_ok w0 p m M0.out bm l.length cm k hv hl hk)
  have r15 := M0.out.creg (a := 15) (by decide)
  have rp := M0.out.c18
  have zp := M0.out.frozen 18
  have cm0 := E0.out.cell hk
  have HQ := Lib.hid hq
  rw [hq] at r15
  clear hv hq
  generalize l.getD k 0 = x at *
  go_wp2_with fail
  refine WD.out.mono ?_
  rintro e1 w1 ⟨rfl, rfl⟩
  go_upto_region 2 with fail
  have M1 := Lib.hid (M0.out.setPc x)
  have K1 := Lib.hid (set_kp (p := p) N0.out 18 (.int .i64 x))
  generalize w0.setCell ⟨p, 18, none⟩ (.int .i64 x) = w1 at *
  have s15 : w1.cell? ⟨p, 17, none⟩ = _ := M1.out.creg (a := 15) (by decide)
  simp only [Mc.get] at s15
  have hq3 : m.reg.getD 15 0 = (k : Int) := HQ.out
  rw [hq3] at s15
  have z15 : w1.frozen? ⟨p, 17, none⟩ = _ := M1.out.frozen (2 + 15)
  clear hq3 r15 rp zp cm0
  have FIN := Lib.hid (show OpP w p { m with reg := m.reg.set 15 ((k : Int) + 1), pc := x } (.returned (.tuple #[])) ((w1.setCell ⟨p, 17, none⟩ (.int .i64 ((k : Int) + 1))).drew) from ⟨rfl, (M1.out.setReg (a := 15) (by decide) _).drew, (kp_set K1.out (2 + 15) _).drew⟩)
  have hwr : IntKind.i64.wrap ((k : Int) + 1) = (k : Int) + 1 := IntWalk.i64_in _ (by omega)
  have hw6 : wrap64 ((k : Int) + 1) = (k : Int) + 1 := by rw [← i64wrap]; exact hwr
  go_region
  go_wp2_with fail
  go_returns
  exact FIN.out
set_option maxRecDepth 100000 in
set_option maxHeartbeats 1000000 in
theorem ret_bad (w : World) (p : Nat) (m : Mc) (h : McAt w p m) (a b op c n : Int) {bm cm : Nat} {l : List Int} (hv : m.vm = .slice (some ⟨bm, 0, none⟩) l.length cm) (hl : l.length ≤ 262144)
    (q : Int) (hk : q < 0 ∨ (l.length : Int) ≤ q) (hq : m.get 15 = q) :
    Calls Try.prog 45 #[.pointer (some ⟨p, 0, none⟩), .agg #[.int .i64 op, .int .i64 a, .int .i64 b, .int .i64 c, .int .i64 n]] w (FltP w) := by
  have N0 := Lib.hid (Nw.new w (.cells #[.int .i64 op, .int .i64 a, .int .i64 b, .int .i64 c, .int .i64 n] 26))
  have M0 := Lib.hid (h.alloc (.cells #[.int .i64 op, .int .i64 a, .int .i64 b, .int .i64 c, .int .i64 n] 26))
  clear h
  go_enter Try.func45, Try.ntmps45
  go_upto_region 1 with fail
  generalize w.alloc (.cells #[.int .i64 op, .int .i64 a, .int .i64 b, .int .i64 c, .int .i64 n] 26) = w0 at *
  generalize w.heap.size = bi at *
  have WD := Lib.hid (word_bad w0 p m M0.out _ l.length cm q hv hl hk)
  have r15 := M0.out.creg (a := 15) (by decide)
  rw [hq] at r15
  clear hv hq hk
  go_wp2_with fail
  refine WD.out.mono ?_
  rintro e1 w1 ⟨rfl, rfl⟩
  exact ⟨rfl, rfl, N0.out⟩
end Go.Proofs.Ythlcoocboidnlaa
