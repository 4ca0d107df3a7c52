/- The document's machine: load, store; calls, bytes, room. -/
import Derived.Test.YthlcoocboidnlaaMach25
import Derived.Deep.RegionHeld3
import Derived.BigQuiet
namespace Go.Proofs.Ythlcoocboidnlaa
open Go.RowKit
set_option linter.unusedSimpArgs false
set_option linter.unusedVariables false

/-- an operation is done: the struct and the memory alone have changed -/
def MemD (w : World) (p bm : Nat) (m' : Dc) (l' : List Int) (e : Ending) (w' : World) : Prop := e = .returned (.tuple #[]) ∧ DcAt w' p m' ∧ MemAt w' bm l' ∧ Kp (PM p bm) w w'
theorem DcAt.dn {w : World} {p : Nat} {m : Dc} (h : DcAt w p m) (k : Nat) : DcAt (w.drewN k) p m := h.nw ((Nw.refl w).drewN k)

set_option maxRecDepth 100000 in
set_option maxHeartbeats 1000000 in
theorem pl_load_ok (w : World) (p : Nat) (m : Dc) (h : DcAt w p m) (a b : Nat) (ha : a < 16) (hb : b < 16) (c n : Int) {bm cm : Nat} {l : List Int} (hv : m.vm = .slice (some ⟨bm, 0, none⟩) l.length cm) (hl : l.length ≤ 262144) (hm : MemAt w bm l) (hne : bm ≠ p) (k : Nat) (hk : k < l.length) (hq : wrap64 (m.get b + n) = (k : Int)) :
    Calls Try.prog 57 #[.pointer (some ⟨p, 0, none⟩), .agg #[.int .i64 5, .int .i64 (a : Int), .int .i64 (b : Int), .int .i64 c, .int .i64 n]] w (OpD w p { m with reg := m.reg.set a (l.getD k 0) }) := by
  have N0 := Lib.hid (Nw.new w (.cells #[.int .i64 5, .int .i64 (a : Int), .int .i64 (b : Int), .int .i64 c, .int .i64 n] 26))
  have M0 := Lib.hid (h.alloc (.cells #[.int .i64 5, .int .i64 (a : Int), .int .i64 (b : Int), .int .i64 c, .int .i64 n] 26))
  have B0 := Lib.hid (Blk.new w [.int .i64 5, .int .i64 (a : Int), .int .i64 (b : Int), .int .i64 c, .int .i64 n] 26)
  have hlt := h.lt
  have E0 := Lib.hid (hm.nw N0.out)
  have hbl := hm.lt
  clear h
  have ha0 : (0 : Int) ≤ (a : Int) := by omega
  have ha1 : (a : Int) < 16 := by omega
  have hb0 : (0 : Int) ≤ (b : Int) := by omega
  have hb1 : (b : Int) < 16 := by omega
  go_enter Try.func57, Try.ntmps57
  go_upto_region 1 with fail
  generalize w.alloc (.cells #[.int .i64 5, .int .i64 (a : Int), .int .i64 (b : Int), .int .i64 c, .int .i64 n] 26) = w0 at *
  generalize w.heap.size = bi at *
  have i0 := B0.out.cell 0
  have i1 := B0.out.cell 1
  have i2 := B0.out.cell 2
  have i3 := B0.out.cell 3
  have i4 := B0.out.cell 4
  simp only [List.getElem?_cons_zero, List.getElem?_cons_succ] at i0 i1 i2 i3 i4
  have hpb : ¬ p = bi := fun e => by omega
  have rm := M0.out.c1
  rw [hv] at rm
  have hmb : ¬ bm = bi := fun e => by omega
  have cm0 := E0.out.cell hk
  have zm := E0.out.frozen k
  have CK := Lib.hid (fun (wz : World) (hz : Nw w0 wz) => cell_ok wz p m (M0.out.nw hz) bm l.length cm k hv hl hk)
  have ra := M0.out.creg ha
  have za := M0.out.frozen (2 + a)
  have rb := M0.out.creg hb
  clear hv
  generalize m.get b = vb at *
  generalize hva : m.get a = va at *
  have HVA := Lib.hid hva
  clear hva
  have hq2 : IntKind.i64.wrap (vb + n) = (k : Int) := by rw [i64wrap]; exact hq
  clear hq
  generalize hx : l.getD k 0 = x at *
  have hk0 : (0 : Int) ≤ (k : Int) := by omega
  have hk1 : (k : Int) < (l.length : Int) := by omega
  have HX := Lib.hid hx
  clear hx
  go_wp2_with fail
  go_quiet (first | (go_at_call 67; exact Calls.quiet_of_same (CK.out _ ((Nw.refl w0).drewN _))))
  go_wp2_with fail
  go_region
  go_wp2_with fail
  go_returns
  exact ⟨rfl, ((M0.out.dn nq).setReg ha _).drew, (set_kp (N0.out.drewN nq) _ _).drew⟩
set_option maxRecDepth 100000 in
set_option maxHeartbeats 1000000 in
theorem pl_load_bad (w : World) (p : Nat) (m : Dc) (h : DcAt w p m) (a b : Nat) (ha : a < 16) (hb : b < 16) (c n : Int) {bm cm : Nat} {l : List Int} (hv : m.vm = .slice (some ⟨bm, 0, none⟩) l.length cm) (hl : l.length ≤ 262144) (hq : wrap64 (m.get b + n) < 0 ∨ (l.length : Int) ≤ wrap64 (m.get b + n)) :
    Calls Try.prog 57 #[.pointer (some ⟨p, 0, none⟩), .agg #[.int .i64 5, .int .i64 (a : Int), .int .i64 (b : Int), .int .i64 c, .int .i64 n]] w (OpD w p { m with kind := 5 }) := by
  have N0 := Lib.hid (Nw.new w (.cells #[.int .i64 5, .int .i64 (a : Int), .int .i64 (b : Int), .int .i64 c, .int .i64 n] 26))
  have M0 := Lib.hid (h.alloc (.cells #[.int .i64 5, .int .i64 (a : Int), .int .i64 (b : Int), .int .i64 c, .int .i64 n] 26))
  have B0 := Lib.hid (Blk.new w [.int .i64 5, .int .i64 (a : Int), .int .i64 (b : Int), .int .i64 c, .int .i64 n] 26)
  have hlt := h.lt
  clear h
  have ha0 : (0 : Int) ≤ (a : Int) := by omega
  have ha1 : (a : Int) < 16 := by omega
  have hb0 : (0 : Int) ≤ (b : Int) := by omega
  have hb1 : (b : Int) < 16 := by omega
  go_enter Try.func57, Try.ntmps57
  go_upto_region 1 with fail
  generalize w.alloc (.cells #[.int .i64 5, .int .i64 (a : Int), .int .i64 (b : Int), .int .i64 c, .int .i64 n] 26) = w0 at *
  generalize w.heap.size = bi at *
  have i0 := B0.out.cell 0
  have i1 := B0.out.cell 1
  have i2 := B0.out.cell 2
  have i3 := B0.out.cell 3
  have i4 := B0.out.cell 4
  simp only [List.getElem?_cons_zero, List.getElem?_cons_succ] at i0 i1 i2 i3 i4
  have hpb : ¬ p = bi := fun e => by omega
  have CB := Lib.hid (fun (wz : World) (hz : Nw w0 wz) => cell_bad wz p m (M0.out.nw hz) (some ⟨bm, 0, none⟩) l.length cm (wrap64 (m.get b + n)) hv hl hq)
  have rb := M0.out.creg hb
  have HRB := Lib.hid (fun (wz : World) (hz : DcAt wz p { m with kind := 5 }) => hz.creg hb)
  have hgb : Dc.get { m with kind := 5 } b = m.get b := rfl
  rw [hgb] at HRB
  clear hv hq hgb
  have hq2 : IntKind.i64.wrap (m.get b + n) = wrap64 (m.get b + n) := i64wrap _
  generalize wrap64 (m.get b + n) = q at *
  generalize m.get b = vb at *
  have FC := Lib.hid (⟨(Nw.refl w0).drew.keeps i2, (Nw.refl w0).drew.keeps i4, (Nw.refl w0).drew.keeps rb⟩ : _ ∧ _ ∧ _)
  have I2 := Lib.hid i2
  have I4 := Lib.hid i4
  go_wp2_with fail
  go_region_held3 (fun wz => wz.cell? ⟨bi, 2, none⟩ = some (.int .i64 (b : Int)) ∧ wz.cell? ⟨bi, 4, none⟩ = some (.int .i64 n) ∧ wz.cell? ⟨p, 2 + b, none⟩ = some (.int .i64 vb))
    (first | with_reducible exact FC.out | exact SF.out)
    (first | (go_at_call 67; (with_reducible refine (CB.out _ (Nw.refl _).drew).mono ?_); rintro e1 w1 ⟨rfl, m1, k1⟩; have SF := Lib.hid (show _ ∧ _ ∧ _ from ⟨k1.keeps ((Nw.refl w0).drew.keeps I2.out) (fun e => hpb e.symm), k1.keeps ((Nw.refl w0).drew.keeps I4.out) (fun e => hpb e.symm), HRB.out w1 m1⟩); have M1 := Lib.hid m1; have K1 := Lib.hid (Kp.trans (kpp N0.out.drew) k1 (fun _ _ x => x)); clear m1 k1))
  all_goals
    go_wp2_with fail
    go_returns
    exact ⟨rfl, M1.out, K1.out⟩
set_option maxRecDepth 100000 in
set_option maxHeartbeats 1000000 in
theorem pl_store_ok (w : World) (p : Nat) (m : Dc) (h : DcAt w p m) (a b : Nat) (ha : a < 16) (hb : b < 16) (c n : Int) {bm cm : Nat} {l : List Int} (hv : m.vm = .slice (some ⟨bm, 0, none⟩) l.length cm) (hl : l.length ≤ 262144) (hm : MemAt w bm l) (hne : bm ≠ p) (k : Nat) (hk : k < l.length) (hq : wrap64 (m.get b + n) = (k : Int)) :
    Calls Try.prog 57 #[.pointer (some ⟨p, 0, none⟩), .agg #[.int .i64 6, .int .i64 (a : Int), .int .i64 (b : Int), .int .i64 c, .int .i64 n]] w (MemD w p bm m (l.set k (m.get a))) := by
  have N0 := Lib.hid (Nw.new w (.cells #[.int .i64 6, .int .i64 (a : Int), .int .i64 (b : Int), .int .i64 c, .int .i64 n] 26))
  have M0 := Lib.hid (h.alloc (.cells #[.int .i64 6, .int .i64 (a : Int), .int .i64 (b : Int), .int .i64 c, .int .i64 n] 26))
  have B0 := Lib.hid (Blk.new w [.int .i64 6, .int .i64 (a : Int), .int .i64 (b : Int), .int .i64 c, .int .i64 n] 26)
  have hlt := h.lt
  have E0 := Lib.hid (hm.nw N0.out)
  have hbl := hm.lt
  clear h
  have ha0 : (0 : Int) ≤ (a : Int) := by omega
  have ha1 : (a : Int) < 16 := by omega
  have hb0 : (0 : Int) ≤ (b : Int) := by omega
  have hb1 : (b : Int) < 16 := by omega
  go_enter Try.func57, Try.ntmps57
  go_upto_region 1 with fail
  generalize w.alloc (.cells #[.int .i64 6, .int .i64 (a : Int), .int .i64 (b : Int), .int .i64 c, .int .i64 n] 26) = w0 at *
  generalize w.heap.size = bi at *
  have i0 := B0.out.cell 0
  have i1 := B0.out.cell 1
  have i2 := B0.out.cell 2
  have i3 := B0.out.cell 3
  have i4 := B0.out.cell 4
  simp only [List.getElem?_cons_zero, List.getElem?_cons_succ] at i0 i1 i2 i3 i4
  have hpb : ¬ p = bi := fun e => by omega
  have rm := M0.out.c1
  rw [hv] at rm
  have hmb : ¬ bm = bi := fun e => by omega
  have cm0 := E0.out.cell hk
  have zm := E0.out.frozen k
  have CK := Lib.hid (fun (wz : World) (hz : Nw w0 wz) => cell_ok wz p m (M0.out.nw hz) bm l.length cm k hv hl hk)
  have ra := M0.out.creg ha
  have za := M0.out.frozen (2 + a)
  have rb := M0.out.creg hb
  clear hv
  generalize m.get b = vb at *
  generalize hva : m.get a = va at *
  have HVA := Lib.hid hva
  clear hva
  have hq2 : IntKind.i64.wrap (vb + n) = (k : Int) := by rw [i64wrap]; exact hq
  clear hq
  generalize hx : l.getD k 0 = x at *
  have hk0 : (0 : Int) ≤ (k : Int) := by omega
  have hk1 : (k : Int) < (l.length : Int) := by omega
  have HX := Lib.hid hx
  clear hx
  go_wp2_with fail
  go_quiet (first | (go_at_call 67; exact Calls.quiet_of_same (CK.out _ ((Nw.refl w0).drewN _))))
  go_wp2_with fail
  go_region
  go_wp2_with fail
  go_returns
  exact ⟨rfl, ((M0.out.dn nq).setOther (a := ⟨bm, k, none⟩) (fun e => hne e.symm) _).drew, ((E0.out.nw ((Nw.refl w0).drewN nq)).set k _).nw (Nw.refl _).drew, (PM.setM (PM.nw p bm (N0.out.drewN nq)) k _).drew⟩
set_option maxRecDepth 100000 in
set_option maxHeartbeats 1000000 in
theorem pl_store_bad (w : World) (p : Nat) (m : Dc) (h : DcAt w p m) (a b : Nat) (ha : a < 16) (hb : b < 16) (c n : Int) {bm cm : Nat} {l : List Int} (hv : m.vm = .slice (some ⟨bm, 0, none⟩) l.length cm) (hl : l.length ≤ 262144) (hq : wrap64 (m.get b + n) < 0 ∨ (l.length : Int) ≤ wrap64 (m.get b + n)) :
    Calls Try.prog 57 #[.pointer (some ⟨p, 0, none⟩), .agg #[.int .i64 6, .int .i64 (a : Int), .int .i64 (b : Int), .int .i64 c, .int .i64 n]] w (OpD w p { m with kind := 5 }) := by
  have N0 := Lib.hid (Nw.new w (.cells #[.int .i64 6, .int .i64 (a : Int), .int .i64 (b : Int), .int .i64 c, .int .i64 n] 26))
  have M0 := Lib.hid (h.alloc (.cells #[.int .i64 6, .int .i64 (a : Int), .int .i64 (b : Int), .int .i64 c, .int .i64 n] 26))
  have B0 := Lib.hid (Blk.new w [.int .i64 6, .int .i64 (a : Int), .int .i64 (b : Int), .int .i64 c, .int .i64 n] 26)
  have hlt := h.lt
  clear h
  have ha0 : (0 : Int) ≤ (a : Int) := by omega
  have ha1 : (a : Int) < 16 := by omega
  have hb0 : (0 : Int) ≤ (b : Int) := by omega
  have hb1 : (b : Int) < 16 := by omega
  go_enter Try.func57, Try.ntmps57
  go_upto_region 1 with fail
  generalize w.alloc (.cells #[.int .i64 6, .int .i64 (a : Int), .int .i64 (b : Int), .int .i64 c, .int .i64 n] 26) = w0 at *
  generalize w.heap.size = bi at *
  have i0 := B0.out.cell 0
  have i1 := B0.out.cell 1
  have i2 := B0.out.cell 2
  have i3 := B0.out.cell 3
  have i4 := B0.out.cell 4
  simp only [List.getElem?_cons_zero, List.getElem?_cons_succ] at i0 i1 i2 i3 i4
  have hpb : ¬ p = bi := fun e => by omega
  have CB := Lib.hid (fun (wz : World) (hz : Nw w0 wz) => cell_bad wz p m (M0.out.nw hz) (some ⟨bm, 0, none⟩) l.length cm (wrap64 (m.get b + n)) hv hl hq)
  have rb := M0.out.creg hb
  have HRB := Lib.hid (fun (wz : World) (hz : DcAt wz p { m with kind := 5 }) => hz.creg hb)
  have hgb : Dc.get { m with kind := 5 } b = m.get b := rfl
  rw [hgb] at HRB
  clear hv hq hgb
  have hq2 : IntKind.i64.wrap (m.get b + n) = wrap64 (m.get b + n) := i64wrap _
  generalize wrap64 (m.get b + n) = q at *
  generalize m.get b = vb at *
  have FC := Lib.hid (⟨(Nw.refl w0).drew.keeps i2, (Nw.refl w0).drew.keeps i4, (Nw.refl w0).drew.keeps rb⟩ : _ ∧ _ ∧ _)
  have I2 := Lib.hid i2
  have I4 := Lib.hid i4
  go_wp2_with fail
  go_region_held3 (fun wz => wz.cell? ⟨bi, 2, none⟩ = some (.int .i64 (b : Int)) ∧ wz.cell? ⟨bi, 4, none⟩ = some (.int .i64 n) ∧ wz.cell? ⟨p, 2 + b, none⟩ = some (.int .i64 vb))
    (first | with_reducible exact FC.out | exact SF.out)
    (first | (go_at_call 67; (with_reducible refine (CB.out _ (Nw.refl _).drew).mono ?_); rintro e1 w1 ⟨rfl, m1, k1⟩; have SF := Lib.hid (show _ ∧ _ ∧ _ from ⟨k1.keeps ((Nw.refl w0).drew.keeps I2.out) (fun e => hpb e.symm), k1.keeps ((Nw.refl w0).drew.keeps I4.out) (fun e => hpb e.symm), HRB.out w1 m1⟩); have M1 := Lib.hid m1; have K1 := Lib.hid (Kp.trans (kpp N0.out.drew) k1 (fun _ _ x => x)); clear m1 k1))
  all_goals
    go_wp2_with fail
    go_returns
    exact ⟨rfl, M1.out, K1.out⟩
set_option maxRecDepth 100000 in
set_option maxHeartbeats 1000000 in
theorem ca_call_ok (w : World) (p : Nat) (m : Dc) (h : DcAt w p m) (a b : Int) (c n : Int) {bm cm : Nat} {l : List Int} (hv : m.vm = .slice (some ⟨bm, 0, none⟩) l.length cm) (hl : l.length ≤ 262144) (hm : MemAt w bm l) (hne : bm ≠ p) (k : Nat) (hk : k < l.length) (hq : wrap64 (m.get 15 - 1) = (k : Int)) :
    Calls Try.prog 68 #[.pointer (some ⟨p, 0, none⟩), .agg #[.int .i64 10, .int .i64 a, .int .i64 b, .int .i64 c, .int .i64 n]] w (MemD w p bm { m with reg := m.reg.set 15 (k : Int), pc := n } (l.set k m.pc)) := by
  have N0 := Lib.hid (Nw.new w (.cells #[.int .i64 10, .int .i64 a, .int .i64 b, .int .i64 c, .int .i64 n] 26))
  have M0 := Lib.hid (h.alloc (.cells #[.int .i64 10, .int .i64 a, .int .i64 b, .int .i64 c, .int .i64 n] 26))
  have B0 := Lib.hid (Blk.new w [.int .i64 10, .int .i64 a, .int .i64 b, .int .i64 c, .int .i64 n] 26)
  have hlt := h.lt
  have E0 := Lib.hid (hm.nw N0.out)
  have hbl := hm.lt
  clear h
  go_enter Try.func68, Try.ntmps68
  go_upto_region 1 with fail
  generalize w.alloc (.cells #[.int .i64 10, .int .i64 a, .int .i64 b, .int .i64 c, .int .i64 n] 26) = w0 at *
  generalize w.heap.size = bi at *
  have i0 := B0.out.cell 0
  have i1 := B0.out.cell 1
  have i2 := B0.out.cell 2
  have i3 := B0.out.cell 3
  have i4 := B0.out.cell 4
  simp only [List.getElem?_cons_zero, List.getElem?_cons_succ] at i0 i1 i2 i3 i4
  have hpb : ¬ p = bi := fun e => by omega
  have rm := M0.out.c1
  rw [hv] at rm
  have hmb : ¬ bm = bi := fun e => by omega
  have cm0 := E0.out.cell hk
  have zm := E0.out.frozen k
  have CK := Lib.hid (cell_ok w0 p m M0.out bm l.length cm k hv hl hk)
  have r15 := M0.out.creg (show 15 < 16 by decide)
  have z15 := M0.out.frozen 17
  replace r15 : w0.cell? ⟨p, 17, none⟩ = some (.int .i64 (m.get 15)) := r15
  have hq2 : IntKind.i64.wrap (m.get 15 - 1) = (k : Int) := by rw [i64wrap]; exact hq
  clear hq
  generalize m.get 15 = v15 at *
  have hk0 : (0 : Int) ≤ (k : Int) := by omega
  have hk1 : (k : Int) < (l.length : Int) := by omega
  have HV := Lib.hid hv
  clear hv
  go_wp2_with fail
  refine CK.out.mono ?_
  rintro e1 w1 ⟨rfl, rfl⟩
  clear CK
  go_wp2_with fail
  go_region
  have M1 := Lib.hid ((M0.out.setReg (show 15 < 16 by decide) (k : Int)).drew)
  have K1 := Lib.hid ((set_kp (p := p) N0.out 17 (.int .i64 (k : Int))).drew)
  have E1 := Lib.hid ((E0.out.setOther (a := ⟨p, 17, none⟩) hne (.int .i64 (k : Int))).nw (Nw.refl _).drew)
  have B1 := Lib.hid (((Blk.setOther B0.out (a := ⟨p, 17, none⟩) (fun e => hpb e.symm) (.int .i64 (k : Int))).drew))
  clear i0 i1 i2 i3 i4 rm cm0 zm r15 z15 hq2
  generalize (w1.setCell ⟨p, 17, none⟩ (.int .i64 (k : Int))).drew = w2 at *
  have i0 := B1.out.cell 0
  have i1 := B1.out.cell 1
  have i2 := B1.out.cell 2
  have i3 := B1.out.cell 3
  have i4 := B1.out.cell 4
  simp only [List.getElem?_cons_zero, List.getElem?_cons_succ] at i0 i1 i2 i3 i4
  have rm : w2.cell? ⟨p, 1, none⟩ = some (.slice (some ⟨bm, 0, none⟩) l.length cm) := M1.out.c1.trans (congrArg some HV.out)
  have f18 : w2.cell? ⟨p, 18, none⟩ = some (.int .i64 m.pc) := M1.out.c18
  have cm1 := E1.out.cell hk
  have zm1 := E1.out.frozen k
  go_wp2_with fail
  go_region
  have M2 := Lib.hid ((M1.out.setOther (a := ⟨bm, k, none⟩) (fun e => hne e.symm) (.int .i64 m.pc)).drew)
  have E2 := Lib.hid ((E1.out.set k m.pc).nw (Nw.refl _).drew)
  have K2 := Lib.hid ((PM.setM (bm := bm) (PM.of bm K1.out) k (.int .i64 m.pc)).drew)
  have B2 := Lib.hid (((Blk.setOther B1.out (a := ⟨bm, k, none⟩) (fun e => hmb e.symm) (.int .i64 m.pc)).drew))
  clear i0 i1 i2 i3 i4 rm f18 cm1 zm1
  generalize (w2.setCell ⟨bm, k, none⟩ (.int .i64 m.pc)).drew = w3 at *
  have i0 := B2.out.cell 0
  have i1 := B2.out.cell 1
  have i2 := B2.out.cell 2
  have i3 := B2.out.cell 3
  have i4 := B2.out.cell 4
  simp only [List.getElem?_cons_zero, List.getElem?_cons_succ] at i0 i1 i2 i3 i4
  have f18 := M2.out.c18
  have z18 := M2.out.frozen 18
  go_wp2_with fail
  go_returns
  exact ⟨rfl, M2.out.setPc _, E2.out.setOther (a := ⟨p, 18, none⟩) hne _, PM.set K2.out 18 _⟩
set_option maxRecDepth 100000 in
set_option maxHeartbeats 1000000 in
theorem ca_call_bad (w : World) (p : Nat) (m : Dc) (h : DcAt w p m) (a b c n : Int) {bm cm : Nat} {l : List Int} (hv : m.vm = .slice (some ⟨bm, 0, none⟩) l.length cm) (hl : l.length ≤ 262144) (hq : wrap64 (m.get 15 - 1) < 0 ∨ (l.length : Int) ≤ wrap64 (m.get 15 - 1)) :
    Calls Try.prog 68 #[.pointer (some ⟨p, 0, none⟩), .agg #[.int .i64 10, .int .i64 a, .int .i64 b, .int .i64 c, .int .i64 n]] w (OpD w p { m with kind := 5 }) := by
  have N0 := Lib.hid (Nw.new w (.cells #[.int .i64 10, .int .i64 a, .int .i64 b, .int .i64 c, .int .i64 n] 26))
  have M0 := Lib.hid (h.alloc (.cells #[.int .i64 10, .int .i64 a, .int .i64 b, .int .i64 c, .int .i64 n] 26))
  have B0 := Lib.hid (Blk.new w [.int .i64 10, .int .i64 a, .int .i64 b, .int .i64 c, .int .i64 n] 26)
  have hlt := h.lt
  clear h
  go_enter Try.func68, Try.ntmps68
  go_upto_region 1 with fail
  generalize w.alloc (.cells #[.int .i64 10, .int .i64 a, .int .i64 b, .int .i64 c, .int .i64 n] 26) = w0 at *
  generalize w.heap.size = bi at *
  have i0 := B0.out.cell 0
  have i1 := B0.out.cell 1
  have i2 := B0.out.cell 2
  have i3 := B0.out.cell 3
  have i4 := B0.out.cell 4
  simp only [List.getElem?_cons_zero, List.getElem?_cons_succ] at i0 i1 i2 i3 i4
  have hpb : ¬ p = bi := fun e => by omega
  have CB := Lib.hid (cell_bad w0 p m M0.out (some ⟨bm, 0, none⟩) l.length cm (wrap64 (m.get 15 - 1)) hv hl hq)
  have r15 := M0.out.creg (show 15 < 16 by decide)
  replace r15 : w0.cell? ⟨p, 17, none⟩ = some (.int .i64 (m.get 15)) := r15
  clear hv hq
  have hq2 : IntKind.i64.wrap (m.get 15 - 1) = wrap64 (m.get 15 - 1) := i64wrap _
  generalize wrap64 (m.get 15 - 1) = q at *
  generalize m.get 15 = v15 at *
  go_wp2_with fail
  refine CB.out.mono ?_
  rintro e1 w1 ⟨rfl, m1, k1⟩
  have M1 := Lib.hid m1
  have K1 := Lib.hid (Kp.trans (kpp N0.out) k1 (fun _ _ x => x))
  clear m1 k1 CB
  go_wp2_with fail
  go_returns
  exact ⟨rfl, M1.out, K1.out⟩
set_option maxRecDepth 100000 in
set_option maxHeartbeats 1000000 in
theorem ca_at_ok (w : World) (p : Nat) (m : Dc) (h : DcAt w p m) (a : Nat) (ha : a < 16) (b : Int) (c n : Int) {bm cm : Nat} {l : List Int} (hv : m.vm = .slice (some ⟨bm, 0, none⟩) l.length cm) (hl : l.length ≤ 262144) (hm : MemAt w bm l) (hne : bm ≠ p) (k : Nat) (hk : k < l.length) (hq : wrap64 (m.get 15 - 1) = (k : Int)) :
    Calls Try.prog 68 #[.pointer (some ⟨p, 0, none⟩), .agg #[.int .i64 11, .int .i64 (a : Int), .int .i64 b, .int .i64 c, .int .i64 n]] w (MemD w p bm { m with reg := m.reg.set 15 (k : Int), pc := (m.reg.set 15 (k : Int)).getD a 0 } (l.set k m.pc)) := by
  have N0 := Lib.hid (Nw.new w (.cells #[.int .i64 11, .int .i64 (a : Int), .int .i64 b, .int .i64 c, .int .i64 n] 26))
  have M0 := Lib.hid (h.alloc (.cells #[.int .i64 11, .int .i64 (a : Int), .int .i64 b, .int .i64 c, .int .i64 n] 26))
  have B0 := Lib.hid (Blk.new w [.int .i64 11, .int .i64 (a : Int), .int .i64 b, .int .i64 c, .int .i64 n] 26)
  have hlt := h.lt
  have E0 := Lib.hid (hm.nw N0.out)
  have hbl := hm.lt
  clear h
  have ha0 : (0 : Int) ≤ (a : Int) := by omega
  have ha1 : (a : Int) < 16 := by omega
  go_enter Try.func68, Try.ntmps68
  go_upto_region 1 with fail
  generalize w.alloc (.cells #[.int .i64 11, .int .i64 (a : Int), .int .i64 b, .int .i64 c, .int .i64 n] 26) = w0 at *
  generalize w.heap.size = bi at *
  have i0 := B0.out.cell 0
  have i1 := B0.out.cell 1
  have i2 := B0.out.cell 2
  have i3 := B0.out.cell 3
  have i4 := B0.out.cell 4
  simp only [List.getElem?_cons_zero, List.getElem?_cons_succ] at i0 i1 i2 i3 i4
  have hpb : ¬ p = bi := fun e => by omega
  have rm := M0.out.c1
  rw [hv] at rm
  have hmb : ¬ bm = bi := fun e => by omega
  have cm0 := E0.out.cell hk
  have zm := E0.out.frozen k
  have CK := Lib.hid (cell_ok w0 p m M0.out bm l.length cm k hv hl hk)
  have r15 := M0.out.creg (show 15 < 16 by decide)
  have z15 := M0.out.frozen 17
  replace r15 : w0.cell? ⟨p, 17, none⟩ = some (.int .i64 (m.get 15)) := r15
  have hq2 : IntKind.i64.wrap (m.get 15 - 1) = (k : Int) := by rw [i64wrap]; exact hq
  clear hq
  generalize m.get 15 = v15 at *
  have hk0 : (0 : Int) ≤ (k : Int) := by omega
  have hk1 : (k : Int) < (l.length : Int) := by omega
  have HV := Lib.hid hv
  clear hv
  go_wp2_with fail
  refine CK.out.mono ?_
  rintro e1 w1 ⟨rfl, rfl⟩
  clear CK
  go_wp2_with fail
  go_region
  have M1 := Lib.hid ((M0.out.setReg (show 15 < 16 by decide) (k : Int)).drew)
  have K1 := Lib.hid ((set_kp (p := p) N0.out 17 (.int .i64 (k : Int))).drew)
  have E1 := Lib.hid ((E0.out.setOther (a := ⟨p, 17, none⟩) hne (.int .i64 (k : Int))).nw (Nw.refl _).drew)
  have B1 := Lib.hid (((Blk.setOther B0.out (a := ⟨p, 17, none⟩) (fun e => hpb e.symm) (.int .i64 (k : Int))).drew))
  clear i0 i1 i2 i3 i4 rm cm0 zm r15 z15 hq2
  generalize (w1.setCell ⟨p, 17, none⟩ (.int .i64 (k : Int))).drew = w2 at *
  have i0 := B1.out.cell 0
  have i1 := B1.out.cell 1
  have i2 := B1.out.cell 2
  have i3 := B1.out.cell 3
  have i4 := B1.out.cell 4
  simp only [List.getElem?_cons_zero, List.getElem?_cons_succ] at i0 i1 i2 i3 i4
  have rm : w2.cell? ⟨p, 1, none⟩ = some (.slice (some ⟨bm, 0, none⟩) l.length cm) := M1.out.c1.trans (congrArg some HV.out)
  have f18 : w2.cell? ⟨p, 18, none⟩ = some (.int .i64 m.pc) := M1.out.c18
  have cm1 := E1.out.cell hk
  have zm1 := E1.out.frozen k
  go_wp2_with fail
  go_region
  have M2 := Lib.hid ((M1.out.setOther (a := ⟨bm, k, none⟩) (fun e => hne e.symm) (.int .i64 m.pc)).drew)
  have E2 := Lib.hid ((E1.out.set k m.pc).nw (Nw.refl _).drew)
  have K2 := Lib.hid ((PM.setM (bm := bm) (PM.of bm K1.out) k (.int .i64 m.pc)).drew)
  have B2 := Lib.hid (((Blk.setOther B1.out (a := ⟨bm, k, none⟩) (fun e => hmb e.symm) (.int .i64 m.pc)).drew))
  clear i0 i1 i2 i3 i4 rm f18 cm1 zm1
  generalize (w2.setCell ⟨bm, k, none⟩ (.int .i64 m.pc)).drew = w3 at *
  have i0 := B2.out.cell 0
  have i1 := B2.out.cell 1
  have i2 := B2.out.cell 2
  have i3 := B2.out.cell 3
  have i4 := B2.out.cell 4
  simp only [List.getElem?_cons_zero, List.getElem?_cons_succ] at i0 i1 i2 i3 i4
  have f18 := M2.out.c18
  have z18 := M2.out.frozen 18
  go_upto_region 10 with fail
  have M3 := Lib.hid (M2.out.setPc n)
  have E3 := Lib.hid (E2.out.setOther (a := ⟨p, 18, none⟩) hne (.int .i64 n))
  have K3 := Lib.hid (PM.set K2.out 18 (.int .i64 n))
  have B3 := Lib.hid (Blk.setOther B2.out (a := ⟨p, 18, none⟩) (fun e => hpb e.symm) (.int .i64 n))
  clear i0 i1 i2 i3 i4 f18 z18
  generalize w3.setCell ⟨p, 18, none⟩ (.int .i64 n) = w4 at *
  have i0 := B3.out.cell 0
  have i1 := B3.out.cell 1
  have i2 := B3.out.cell 2
  have i3 := B3.out.cell 3
  have i4 := B3.out.cell 4
  simp only [List.getElem?_cons_zero, List.getElem?_cons_succ] at i0 i1 i2 i3 i4
  have f18 := M3.out.c18
  have z18 := M3.out.frozen 18
  have ra : w4.cell? ⟨p, 2 + a, none⟩ = some (.int .i64 ((m.reg.set 15 (k : Int)).getD a 0)) := M3.out.creg ha
  generalize (m.reg.set 15 (k : Int)).getD a 0 = va at *
  go_region
  go_wp2_with fail
  go_returns
  exact ⟨rfl, (M3.out.setPc _).drew, (E3.out.setOther (a := ⟨p, 18, none⟩) hne _).nw (Nw.refl _).drew, (PM.set K3.out 18 _).drew⟩
set_option maxRecDepth 100000 in
set_option maxHeartbeats 1000000 in
theorem ca_at_bad (w : World) (p : Nat) (m : Dc) (h : DcAt w p m) (a b c n : Int) {bm cm : Nat} {l : List Int} (hv : m.vm = .slice (some ⟨bm, 0, none⟩) l.length cm) (hl : l.length ≤ 262144) (hq : wrap64 (m.get 15 - 1) < 0 ∨ (l.length : Int) ≤ wrap64 (m.get 15 - 1)) :
    Calls Try.prog 68 #[.pointer (some ⟨p, 0, none⟩), .agg #[.int .i64 11, .int .i64 a, .int .i64 b, .int .i64 c, .int .i64 n]] w (OpD w p { m with kind := 5 }) := by
  have N0 := Lib.hid (Nw.new w (.cells #[.int .i64 11, .int .i64 a, .int .i64 b, .int .i64 c, .int .i64 n] 26))
  have M0 := Lib.hid (h.alloc (.cells #[.int .i64 11, .int .i64 a, .int .i64 b, .int .i64 c, .int .i64 n] 26))
  have B0 := Lib.hid (Blk.new w [.int .i64 11, .int .i64 a, .int .i64 b, .int .i64 c, .int .i64 n] 26)
  have hlt := h.lt
  clear h
  go_enter Try.func68, Try.ntmps68
  go_upto_region 1 with fail
  generalize w.alloc (.cells #[.int .i64 11, .int .i64 a, .int .i64 b, .int .i64 c, .int .i64 n] 26) = w0 at *
  generalize w.heap.size = bi at *
  have i0 := B0.out.cell 0
  have i1 := B0.out.cell 1
  have i2 := B0.out.cell 2
  have i3 := B0.out.cell 3
  have i4 := B0.out.cell 4
  simp only [List.getElem?_cons_zero, List.getElem?_cons_succ] at i0 i1 i2 i3 i4
  have hpb : ¬ p = bi := fun e => by omega
  have CB := Lib.hid (cell_bad w0 p m M0.out (some ⟨bm, 0, none⟩) l.length cm (wrap64 (m.get 15 - 1)) hv hl hq)
  have r15 := M0.out.creg (show 15 < 16 by decide)
  replace r15 : w0.cell? ⟨p, 17, none⟩ = some (.int .i64 (m.get 15)) := r15
  clear hv hq
  have hq2 : IntKind.i64.wrap (m.get 15 - 1) = wrap64 (m.get 15 - 1) := i64wrap _
  generalize wrap64 (m.get 15 - 1) = q at *
  generalize m.get 15 = v15 at *
  go_wp2_with fail
  refine CB.out.mono ?_
  rintro e1 w1 ⟨rfl, m1, k1⟩
  have M1 := Lib.hid m1
  have K1 := Lib.hid (Kp.trans (kpp N0.out) k1 (fun _ _ x => x))
  clear m1 k1 CB
  go_wp2_with fail
  go_returns
  exact ⟨rfl, M1.out, K1.out⟩
set_option maxRecDepth 100000 in
set_option maxHeartbeats 1000000 in
theorem ca_ret_ok (w : World) (p : Nat) (m : Dc) (h : DcAt w p m) (a b c n : Int) {bm cm : Nat} {l : List Int} (hv : m.vm = .slice (some ⟨bm, 0, none⟩) l.length cm) (hl : l.length ≤ 262144) (hm : MemAt w bm l) (hne : bm ≠ p) (k : Nat) (hk : k < l.length) (hq : m.get 15 = (k : Int)) :
    Calls Try.prog 68 #[.pointer (some ⟨p, 0, none⟩), .agg #[.int .i64 12, .int .i64 a, .int .i64 b, .int .i64 c, .int .i64 n]] w (OpD w p { m with reg := m.reg.set 15 ((k : Int) + 1), pc := l.getD k 0 }) := by
  have N0 := Lib.hid (Nw.new w (.cells #[.int .i64 12, .int .i64 a, .int .i64 b, .int .i64 c, .int .i64 n] 26))
  have M0 := Lib.hid (h.alloc (.cells #[.int .i64 12, .int .i64 a, .int .i64 b, .int .i64 c, .int .i64 n] 26))
  have B0 := Lib.hid (Blk.new w [.int .i64 12, .int .i64 a, .int .i64 b, .int .i64 c, .int .i64 n] 26)
  have hlt := h.lt
  have E0 := Lib.hid (hm.nw N0.out)
  have hbl := hm.lt
  clear h
  go_enter Try.func68, Try.ntmps68
  go_upto_region 1 with fail
  generalize w.alloc (.cells #[.int .i64 12, .int .i64 a, .int .i64 b, .int .i64 c, .int .i64 n] 26) = w0 at *
  generalize w.heap.size = bi at *
  have i0 := B0.out.cell 0
  have i1 := B0.out.cell 1
  have i2 := B0.out.cell 2
  have i3 := B0.out.cell 3
  have i4 := B0.out.cell 4
  simp only [List.getElem?_cons_zero, List.getElem?_cons_succ] at i0 i1 i2 i3 i4
  have hpb : ¬ p = bi := fun e => by omega
  have rm := M0.out.c1
  rw [hv] at rm
  have hmb : ¬ bm = bi := fun e => by omega
  have cm0 := E0.out.cell hk
  have zm := E0.out.frozen k
  have CK := Lib.hid (cell_ok w0 p m M0.out bm l.length cm k hv hl hk)
  have r15 := M0.out.creg (show 15 < 16 by decide)
  have z15 := M0.out.frozen 17
  replace r15 : w0.cell? ⟨p, 17, none⟩ = some (.int .i64 (m.get 15)) := r15
  rw [hq] at r15
  have HQ := Lib.hid hq
  clear hq
  have hk0 : (0 : Int) ≤ (k : Int) := by omega
  have hk1 : (k : Int) < (l.length : Int) := by omega
  have hwk : IntKind.i64.wrap ((k : Int) + 1) = (k : Int) + 1 := IntWalk.i64_in _ (by omega)
  have f18 := M0.out.c18
  have z18 := M0.out.frozen 18
  have HV := Lib.hid hv
  clear hv
  generalize hx : l.getD k 0 = x at *
  have HX := Lib.hid hx
  clear hx
  go_wp2_with fail
  refine CK.out.mono ?_
  rintro e1 w1 ⟨rfl, rfl⟩
  clear CK
  go_upto_region 15 with fail
  have M1 := Lib.hid (M0.out.setPc x)
  have K1 := Lib.hid (set_kp (p := p) N0.out 18 (.int .i64 x))
  clear i0 i1 i2 i3 i4 rm cm0 zm r15 z15 f18 z18
  generalize w1.setCell ⟨p, 18, none⟩ (.int .i64 x) = w2 at *
  have r15 := M1.out.creg (show 15 < 16 by decide)
  have z15 := M1.out.frozen 17
  replace r15 : w2.cell? ⟨p, 17, none⟩ = some (.int .i64 (k : Int)) := by rw [← HQ.out]; exact r15
  go_region
  go_wp2_with fail
  go_returns
  exact ⟨rfl, (M1.out.setReg (show 15 < 16 by decide) _).drew, (kp_set K1.out _ _).drew⟩
set_option maxRecDepth 100000 in
set_option maxHeartbeats 1000000 in
theorem ca_ret_bad (w : World) (p : Nat) (m : Dc) (h : DcAt w p m) (a b c n : Int) {bm cm : Nat} {l : List Int} (hv : m.vm = .slice (some ⟨bm, 0, none⟩) l.length cm) (hl : l.length ≤ 262144) (hq : m.get 15 < 0 ∨ (l.length : Int) ≤ m.get 15) :
    Calls Try.prog 68 #[.pointer (some ⟨p, 0, none⟩), .agg #[.int .i64 12, .int .i64 a, .int .i64 b, .int .i64 c, .int .i64 n]] w (OpD w p { m with kind := 5 }) := by
  have N0 := Lib.hid (Nw.new w (.cells #[.int .i64 12, .int .i64 a, .int .i64 b, .int .i64 c, .int .i64 n] 26))
  have M0 := Lib.hid (h.alloc (.cells #[.int .i64 12, .int .i64 a, .int .i64 b, .int .i64 c, .int .i64 n] 26))
  have B0 := Lib.hid (Blk.new w [.int .i64 12, .int .i64 a, .int .i64 b, .int .i64 c, .int .i64 n] 26)
  have hlt := h.lt
  clear h
  go_enter Try.func68, Try.ntmps68
  go_upto_region 1 with fail
  generalize w.alloc (.cells #[.int .i64 12, .int .i64 a, .int .i64 b, .int .i64 c, .int .i64 n] 26) = w0 at *
  generalize w.heap.size = bi at *
  have i0 := B0.out.cell 0
  have i1 := B0.out.cell 1
  have i2 := B0.out.cell 2
  have i3 := B0.out.cell 3
  have i4 := B0.out.cell 4
  simp only [List.getElem?_cons_zero, List.getElem?_cons_succ] at i0 i1 i2 i3 i4
  have hpb : ¬ p = bi := fun e => by omega
  have CB := Lib.hid (cell_bad w0 p m M0.out (some ⟨bm, 0, none⟩) l.length cm (m.get 15) hv hl hq)
  have r15 := M0.out.creg (show 15 < 16 by decide)
  replace r15 : w0.cell? ⟨p, 17, none⟩ = some (.int .i64 (m.get 15)) := r15
  clear hv hq
  generalize m.get 15 = q at *
  go_wp2_with fail
  refine CB.out.mono ?_
  rintro e1 w1 ⟨rfl, m1, k1⟩
  have M1 := Lib.hid m1
  have K1 := Lib.hid (Kp.trans (kpp N0.out) k1 (fun _ _ x => x))
  clear m1 k1 CB
  go_wp2_with fail
  go_returns
  exact ⟨rfl, M1.out, K1.out⟩
set_option maxRecDepth 100000 in
set_option maxHeartbeats 1000000 in
theorem ca_room (w : World) (p : Nat) (m : Dc) (h : DcAt w p m) (a : Nat) (ha : a < 16) (b c n : Int) {bm cm : Nat} {l : List Int} (hv : m.vm = .slice (some ⟨bm, 0, none⟩) l.length cm) (hl : l.length ≤ 262144) :
    Calls Try.prog 68 #[.pointer (some ⟨p, 0, none⟩), .agg #[.int .i64 15, .int .i64 (a : Int), .int .i64 b, .int .i64 c, .int .i64 n]] w (OpD w p { m with reg := m.reg.set a (l.length : Int) }) := by
  have N0 := Lib.hid (Nw.new w (.cells #[.int .i64 15, .int .i64 (a : Int), .int .i64 b, .int .i64 c, .int .i64 n] 26))
  have M0 := Lib.hid (h.alloc (.cells #[.int .i64 15, .int .i64 (a : Int), .int .i64 b, .int .i64 c, .int .i64 n] 26))
  have B0 := Lib.hid (Blk.new w [.int .i64 15, .int .i64 (a : Int), .int .i64 b, .int .i64 c, .int .i64 n] 26)
  have hlt := h.lt
  clear h
  have ha0 : (0 : Int) ≤ (a : Int) := by omega
  have ha1 : (a : Int) < 16 := by omega
  go_enter Try.func68, Try.ntmps68
  go_upto_region 1 with fail
  generalize w.alloc (.cells #[.int .i64 15, .int .i64 (a : Int), .int .i64 b, .int .i64 c, .int .i64 n] 26) = w0 at *
  generalize w.heap.size = bi at *
  have i0 := B0.out.cell 0
  have i1 := B0.out.cell 1
  have i2 := B0.out.cell 2
  have i3 := B0.out.cell 3
  have i4 := B0.out.cell 4
  simp only [List.getElem?_cons_zero, List.getElem?_cons_succ] at i0 i1 i2 i3 i4
  have hpb : ¬ p = bi := fun e => by omega
  have rm := M0.out.c1
  rw [hv] at rm
  clear hv
  have hwl : IntKind.i64.wrap ((l.length : Nat) : Int) = l.length := IntWalk.i64_in _ (by omega)
  have ra := M0.out.creg ha
  have za := M0.out.frozen (2 + a)
  go_wp2_with fail
  go_region
  go_wp2_with fail
  go_returns
  exact ⟨rfl, (M0.out.setReg ha _).drew, (set_kp N0.out _ _).drew⟩
set_option maxRecDepth 100000 in
set_option maxHeartbeats 1000000 in
theorem ca_read_nil (w : World) (p : Nat) (m : Dc) (h : DcAt w p m) (a : Nat) (ha : a < 16) (b c n : Int) {x : Option Addr} {k cp : Nat} (hv : m.vi = .slice x k cp) (hk : k ≤ 9223372036854775807) (hat : m.at_ = (k : Int)) :
    Calls Try.prog 68 #[.pointer (some ⟨p, 0, none⟩), .agg #[.int .i64 13, .int .i64 (a : Int), .int .i64 b, .int .i64 c, .int .i64 n]] w (OpD w p { m with reg := m.reg.set a (-1) }) := by
  have N0 := Lib.hid (Nw.new w (.cells #[.int .i64 13, .int .i64 (a : Int), .int .i64 b, .int .i64 c, .int .i64 n] 26))
  have M0 := Lib.hid (h.alloc (.cells #[.int .i64 13, .int .i64 (a : Int), .int .i64 b, .int .i64 c, .int .i64 n] 26))
  have B0 := Lib.hid (Blk.new w [.int .i64 13, .int .i64 (a : Int), .int .i64 b, .int .i64 c, .int .i64 n] 26)
  have hlt := h.lt
  clear h
  have ha0 : (0 : Int) ≤ (a : Int) := by omega
  have ha1 : (a : Int) < 16 := by omega
  go_enter Try.func68, Try.ntmps68
  go_upto_region 1 with fail
  generalize w.alloc (.cells #[.int .i64 13, .int .i64 (a : Int), .int .i64 b, .int .i64 c, .int .i64 n] 26) = w0 at *
  generalize w.heap.size = bi at *
  have i0 := B0.out.cell 0
  have i1 := B0.out.cell 1
  have i2 := B0.out.cell 2
  have i3 := B0.out.cell 3
  have i4 := B0.out.cell 4
  simp only [List.getElem?_cons_zero, List.getElem?_cons_succ] at i0 i1 i2 i3 i4
  have hpb : ¬ p = bi := fun e => by omega
  have za := M0.out.frozen (2 + a)
  have ra := M0.out.creg ha
  go_wp2_with fail
  go_region
  have M1 := Lib.hid ((M0.out.setReg ha (-1)).drew)
  have K1 := Lib.hid ((set_kp (p := p) N0.out (2 + a) (.int .i64 (-1))).drew)
  clear i0 i1 i2 i3 i4 za ra
  generalize (w0.setCell ⟨p, 2 + a, none⟩ (.int .i64 (-1))).drew = w1 at *
  have f19 := M1.out.c19
  have f20 := M1.out.c20
  dsimp only at f19 f20
  rw [hv] at f19
  rw [hat] at f20
  clear hv hat
  have hwk : IntKind.i64.wrap ((k : Nat) : Int) = k := IntWalk.i64_in _ (by omega)
  go_wp2_with fail
  go_quiet (fail)
  go_wp2_with fail
  go_returns
  exact ⟨rfl, M1.out.dn nq, K1.out.drewN nq⟩
set_option maxRecDepth 100000 in
set_option maxHeartbeats 1000000 in
theorem ca_read_cons (w : World) (p : Nat) (m : Dc) (h : DcAt w p m) (a : Nat) (ha : a < 16) (b c n : Int) {bb oo k cp t : Nat} (hv : m.vi = .slice (some ⟨bb, oo, none⟩) k cp) (hk : k ≤ 9223372036854775807) (hat : m.at_ = (t : Int)) (htk : t < k) (y : UInt8) (hc0 : w.cell? ⟨bb, oo + t, none⟩ = some (.int .u8 (y.toNat : Int))) (hne : bb ≠ p) :
    Calls Try.prog 68 #[.pointer (some ⟨p, 0, none⟩), .agg #[.int .i64 13, .int .i64 (a : Int), .int .i64 b, .int .i64 c, .int .i64 n]] w (OpD w p { m with reg := m.reg.set a (y.toNat : Int), at_ := (t : Int) + 1 }) := by
  have hbl : bb < w.heap.size := World.block_lt_of_cell? w _ hc0
  have CB := Lib.hid ((Nw.new w (.cells #[.int .i64 13, .int .i64 (a : Int), .int .i64 b, .int .i64 c, .int .i64 n] 26)).keeps hc0)
  clear hc0
  have N0 := Lib.hid (Nw.new w (.cells #[.int .i64 13, .int .i64 (a : Int), .int .i64 b, .int .i64 c, .int .i64 n] 26))
  have M0 := Lib.hid (h.alloc (.cells #[.int .i64 13, .int .i64 (a : Int), .int .i64 b, .int .i64 c, .int .i64 n] 26))
  have B0 := Lib.hid (Blk.new w [.int .i64 13, .int .i64 (a : Int), .int .i64 b, .int .i64 c, .int .i64 n] 26)
  have hlt := h.lt
  clear h
  have ha0 : (0 : Int) ≤ (a : Int) := by omega
  have ha1 : (a : Int) < 16 := by omega
  go_enter Try.func68, Try.ntmps68
  go_upto_region 1 with fail
  generalize w.alloc (.cells #[.int .i64 13, .int .i64 (a : Int), .int .i64 b, .int .i64 c, .int .i64 n] 26) = w0 at *
  generalize w.heap.size = bi at *
  have i0 := B0.out.cell 0
  have i1 := B0.out.cell 1
  have i2 := B0.out.cell 2
  have i3 := B0.out.cell 3
  have i4 := B0.out.cell 4
  simp only [List.getElem?_cons_zero, List.getElem?_cons_succ] at i0 i1 i2 i3 i4
  have hpb : ¬ p = bi := fun e => by omega
  have hbb : ¬ bb = bi := fun e => by omega
  have za := M0.out.frozen (2 + a)
  have ra := M0.out.creg ha
  go_wp2_with fail
  go_region
  have M1 := Lib.hid ((M0.out.setReg ha (-1)).drew)
  have K1 := Lib.hid ((set_kp (p := p) N0.out (2 + a) (.int .i64 (-1))).drew)
  have B1 := Lib.hid ((B0.out.setOther (a := ⟨p, 2 + a, none⟩) (fun e => hpb e.symm) (.int .i64 (-1))).drew)
  have CB1 := Lib.hid (((set_kp (p := p) (Nw.refl w0) (2 + a) (.int .i64 (-1))).drew).keeps CB.out hne)
  clear i0 i1 i2 i3 i4 za ra
  generalize (w0.setCell ⟨p, 2 + a, none⟩ (.int .i64 (-1))).drew = w1 at *
  have i1 := B1.out.cell 1
  simp only [List.getElem?_cons_zero, List.getElem?_cons_succ] at i1
  have f19 := M1.out.c19
  have f20 := M1.out.c20
  dsimp only at f19 f20
  rw [hv] at f19
  rw [hat] at f20
  have HV := Lib.hid hv
  have HAT := Lib.hid hat
  clear hv hat
  have cb1 := CB1.out
  have za := M1.out.frozen (2 + a)
  have ra := M1.out.creg ha
  generalize Dc.get _ a = va at ra
  have hyr : (0 : Int) ≤ (y.toNat : Int) ∧ (y.toNat : Int) < 256 := ⟨by omega, by have := y.toNat_lt; omega⟩
  obtain ⟨hy0, hy1⟩ := hyr
  generalize hyv : (y.toNat : Int) = yv at *
  have hwk : IntKind.i64.wrap ((k : Nat) : Int) = k := IntWalk.i64_in _ (by omega)
  have hwy : IntKind.i64.wrap yv = yv := IntWalk.i64_in _ (by omega)
  have hwt : IntKind.i64.wrap ((t : Int) + 1) = (t : Int) + 1 := IntWalk.i64_in _ (by omega)
  have ht0 : (0 : Int) ≤ (t : Int) := by omega
  have ht1 : (t : Int) < (k : Int) := by omega
  go_wp2_with fail
  go_quiet (fail)
  go_wp2_with fail
  go_region
  have M2 := Lib.hid ((M1.out.dn (nq + 1)).setReg ha yv)
  have K2 := Lib.hid (kp_set (p := p) (K1.out.drewN (nq + 1)) (2 + a) (.int .i64 yv))
  generalize (w1.drewN (nq + 1)).setCell ⟨p, 2 + a, none⟩ (.int .i64 yv) = w2 at *
  have g20 := M2.out.c20
  have z20 := M2.out.frozen 20
  dsimp only at g20
  rw [HAT.out] at g20
  clear f19 f20 cb1 za ra i1 hwy
  go_wp2_with fail
  go_returns
  have M3 := M2.out.setAt ((t : Int) + 1)
  dsimp only at M3
  rw [List.set_set] at M3
  exact ⟨rfl, M3, kp_set K2.out 20 _⟩

def WriteD (B : Nat) (w : World) (p : Nat) (m : Dc) (out : List UInt8) (e : Ending) (w' : World) : Prop :=
  e = .returned (.tuple #[]) ∧ ∃ vo, DcAt w' p { m with vo := vo } ∧ w'.ownsRow B 5 1 vo out.length (byteV out) ∧ Kp (fun x => x = p ∨ m.vo.ownBlock = some x) w w' ∧ (∀ g, vo.ownBlock = some g → m.vo.ownBlock = some g ∨ w.heap.size ≤ g) ∧ vo.ownBlock ≠ some p
set_option maxRecDepth 100000 in
set_option maxHeartbeats 1000000 in
theorem ca_write_full (w : World) (p : Nat) (m : Dc) (h : DcAt w p m) (a : Nat) (ha : a < 16) (b c n : Int) {x : Option Addr} {k cp : Nat} (hv : m.vo = .slice x k cp) (hk : 4096 ≤ k) (hk2 : k ≤ 5000) :
    Calls Try.prog 68 #[.pointer (some ⟨p, 0, none⟩), .agg #[.int .i64 14, .int .i64 (a : Int), .int .i64 b, .int .i64 c, .int .i64 n]] w (OpD w p m) := by
  have N0 := Lib.hid (Nw.new w (.cells #[.int .i64 14, .int .i64 (a : Int), .int .i64 b, .int .i64 c, .int .i64 n] 26))
  have M0 := Lib.hid (h.alloc (.cells #[.int .i64 14, .int .i64 (a : Int), .int .i64 b, .int .i64 c, .int .i64 n] 26))
  have B0 := Lib.hid (Blk.new w [.int .i64 14, .int .i64 (a : Int), .int .i64 b, .int .i64 c, .int .i64 n] 26)
  have hlt := h.lt
  clear h
  have ha0 : (0 : Int) ≤ (a : Int) := by omega
  have ha1 : (a : Int) < 16 := by omega
  have hwk : IntKind.i64.wrap ((k : Nat) : Int) = k := IntWalk.i64_in _ (by omega)
  have hk3 : (4096 : Int) ≤ (k : Int) := by omega
  go_enter Try.func68, Try.ntmps68
  go_upto_region 1 with fail
  generalize w.alloc (.cells #[.int .i64 14, .int .i64 (a : Int), .int .i64 b, .int .i64 c, .int .i64 n] 26) = w0 at *
  generalize w.heap.size = bi at *
  have i0 := B0.out.cell 0
  simp only [List.getElem?_cons_zero] at i0
  have f23 := M0.out.c23
  rw [hv] at f23
  clear hv
  go_wp2_with fail
  go_returns
  exact ⟨rfl, M0.out, kpp N0.out⟩
set_option maxRecDepth 100000 in
set_option maxHeartbeats 1000000 in
theorem ca_write_ok (w : World) (p : Nat) (m : Dc) (h : DcAt w p m) (a : Nat) (ha : a < 16) (b c n : Int) {B : Nat} (hB : B ≤ w.heap.size) {out : List UInt8} (ho : w.ownsRow B 5 1 m.vo out.length (byteV out)) (hl : out.length < 4096) (hne : m.vo.ownBlock ≠ some p) :
    Calls Try.prog 68 #[.pointer (some ⟨p, 0, none⟩), .agg #[.int .i64 14, .int .i64 (a : Int), .int .i64 b, .int .i64 c, .int .i64 n]] w (WriteD B w p m (out ++ [byteOf (m.get a)])) := by
  obtain ⟨i0', hi, hz0, hz1, hz2⟩ := info_parts u8info
  obtain ⟨x, cp, hvo⟩ := own_slice ho
  rw [hvo] at ho
  have HNE := Lib.hid hne
  have HVO := Lib.hid hvo
  have hfar : ∀ g, m.vo.ownBlock = some g → g < w.heap.size := fun g hg => (ho.lt g (by rw [← hvo]; exact hg)).2
  have HFAR := Lib.hid hfar
  have HO := Lib.hid ho
  have MW := Lib.hid h
  clear hne ho hfar
  have N0 := Lib.hid (Nw.new w (.cells #[.int .i64 14, .int .i64 (a : Int), .int .i64 b, .int .i64 c, .int .i64 n] 26))
  have M0 := Lib.hid (h.alloc (.cells #[.int .i64 14, .int .i64 (a : Int), .int .i64 b, .int .i64 c, .int .i64 n] 26))
  have B0 := Lib.hid (Blk.new w [.int .i64 14, .int .i64 (a : Int), .int .i64 b, .int .i64 c, .int .i64 n] 26)
  have hlt := h.lt
  clear h
  have ha0 : (0 : Int) ≤ (a : Int) := by omega
  have ha1 : (a : Int) < 16 := by omega
  have hB1 := Nat.le_trans hB N0.out.size
  clear hB
  obtain ⟨k, hk⟩ : ∃ k, k = out.length := ⟨_, rfl⟩
  rw [← hk] at HO hl hvo
  have HK := Lib.hid hk
  clear hk
  have hwk : IntKind.i64.wrap ((k : Nat) : Int) = k := IntWalk.i64_in _ (by omega)
  have hk3 : (k : Int) < 4096 := by omega
  have H63 := Lib.hid (show k + 1 ≤ maxLen by unfold maxLen; omega)
  have HBY := Lib.hid (show (k + 1) * 1 ≤ 140737488355328 by omega)
  go_enter Try.func68, Try.ntmps68
  go_upto_region 1 with fail
  generalize w.alloc (.cells #[.int .i64 14, .int .i64 (a : Int), .int .i64 b, .int .i64 c, .int .i64 n] 26) = w0 at *
  generalize w.heap.size = bi at *
  have i0 := B0.out.cell 0
  have i1 := B0.out.cell 1
  have i2 := B0.out.cell 2
  have i3 := B0.out.cell 3
  have i4 := B0.out.cell 4
  simp only [List.getElem?_cons_zero, List.getElem?_cons_succ] at i0 i1 i2 i3 i4
  have hpb : ¬ p = bi := fun e => by omega
  have f23 := M0.out.c23
  rw [hvo] at f23
  have ra := M0.out.creg ha
  have zo := M0.out.frozen 23
  generalize hva : m.get a = va at *
  have HVA := Lib.hid hva
  clear hva hvo
  go_wp2_with fail
  obtain ⟨yv, hyv⟩ : ∃ yv, IntKind.u8.wrap va = yv := ⟨_, rfl⟩
  have HY := Lib.hid (show byteV (out ++ [byteOf va]) = byteV out ++ [.int .u8 yv] by
    rw [byteV_append]
    simp only [byteV, List.map_cons, List.map_nil, byteOf_nat]
    rw [← hyv]
    simp [IntKind.wrap_u8])
  have N1 := Lib.hid ((N0.out.alloc (.cells #[.int .u8 yv] 5)).drew)
  have HOW := Lib.hid (own_kp HO.out N1.out (fun _ _ x => x))
  have HN1 := Lib.hid (show ∀ (i : Nat) u, [Value.int .u8 yv][i]? = some u → (w0.alloc (.cells #[.int .u8 yv] 5)).drew.cell? ((⟨w0.heap.size, 0, none⟩ : Addr).add i) = some u from cell_one_new _ _ _)
  have HN2 := Lib.hid (show ∀ u ∈ [Value.int .u8 yv], u.oneCell' = true from by intro u hu; simp at hu; subst hu; rfl)
  have HB := Lib.hid (show B ≤ (w0.alloc (.cells #[.int .u8 yv] 5)).drew.heap.size from Nat.le_trans hB1 (((Nw.refl w0).alloc (.cells #[.int .u8 yv] 5)).drew.size))
  have SZ := Lib.hid (show p < (w0.alloc (.cells #[.int .u8 yv] 5)).drew.heap.size from Nat.lt_of_lt_of_le MW.out.lt N1.out.size)
  have SW := Lib.hid (show w.heap.size ≤ (w0.alloc (.cells #[.int .u8 yv] 5)).drew.heap.size from N1.out.size)
  have FIN := Lib.hid (fun (g c' : Nat) (w1 : World) (ho : w1.ownsRow B 5 1 (.slice (some ⟨g, 0, none⟩) (k + 1) c') (k + 1) (byteV out ++ [.int .u8 yv]))
      (hg : (w0.alloc (.cells #[.int .u8 yv] 5)).drew.grownBy w1 (Value.slice x k cp).ownBlock) (hl : (Value.slice x k cp).ownBlock = some g ∨ g = (w0.alloc (.cells #[.int .u8 yv] 5)).drew.heap.size) =>
    (show DcAt w1 p m ∧ WriteD B w p m (out ++ [byteOf va]) (.returned (.tuple #[])) (w1.setCell ⟨p, 23, none⟩ (.slice (some ⟨g, 0, none⟩) (k + 1) c')) by
      have hk : Kp (fun x => m.vo.ownBlock = some x) w w1 := Kp.grown (S := fun x => m.vo.ownBlock = some x) (N1.out.mono (fun _ _ x => x.elim)) hg (fun j hj _ => by rw [HVO.out, ← HK.out]; exact hj)
      have hgp : g ≠ p := by
        rcases hl with hl | hl
        · intro e; subst e; apply HNE.out; rw [HVO.out, ← HK.out]; exact hl
        · have := SZ.out; omega
      refine ⟨MW.out.kp hk HNE.out, rfl, _, (MW.out.kp hk HNE.out).setVo _, ?_, ?_, ?_, ?_⟩
      · rw [HY.out, show (out ++ [byteOf va]).length = k + 1 by rw [List.length_append, ← HK.out]; rfl]
        exact own_kp ho (set_kp (p := p) (Nw.refl w1) 23 _) (fun j hj e => hgp (by have : some g = some j := hj; injection this with h2; omega))
      · exact Kp.setCell (S := fun x => x = p ∨ m.vo.ownBlock = some x) (hk.mono (fun _ _ x => .inr x)) (p := ⟨p, 23, none⟩) (fun _ => .inl rfl) _
      · intro j hj
        have hj2 : some g = some j := hj
        injection hj2 with hj2
        subst hj2
        rcases hl with hl | hl
        · left; rw [HVO.out, ← HK.out]; exact hl
        · right; have := SW.out; omega
      · intro e
        have e2 : some g = some p := e
        injection e2 with e2
        exact hgp e2))
  have f23a := (Nw.new w0 (.cells #[.int .u8 yv] 5)).keeps f23
  clear hB1
  go_region_law (refine step_append_lies _ rfl (.tmp 144) (.tmp 153) 35 rfl B 5 i0' (.int .u8 0) 1 1 Try.underlying35 hi hz0 hz1 hz2 rfl (by decide) _ _ _ rfl HOW.out ⟨w0.heap.size, 0, none⟩ 1 1 _ (by simp [Act.eval, Act.put, hyv]) rfl HN1.out HN2.out (by decide) H63.out HBY.out HB.out _ rfl ?_; intro g c' w1 ho' hg' hl' hlt'; obtain ⟨m1, f1⟩ := FIN.out g c' w1 ho' hg' hl'; have F1 := Lib.hid f1; have y23 := m1.c23; have zz23 := m1.frozen 23; rw [HVO.out] at y23; clear f1 m1 ho' hg' hl' hlt')
  all_goals
    go_wp2_with fail
    go_returns
    exact F1.out
set_option maxRecDepth 100000 in
set_option maxHeartbeats 1000000 in
theorem pl_calls (w : World) (p : Nat) (op a b c n : Int) (ho : op = 10 ∨ op = 11 ∨ op = 12 ∨ op = 13 ∨ op = 14 ∨ op = 15) (Q : World → World → Prop)
    (hc : ∀ wz, Nw w wz → Calls Try.prog 68 #[.pointer (some ⟨p, 0, none⟩), .agg #[.int .i64 op, .int .i64 a, .int .i64 b, .int .i64 c, .int .i64 n]] wz (fun e w' => e = .returned (.tuple #[]) ∧ Q wz w')) :
    Calls Try.prog 57 #[.pointer (some ⟨p, 0, none⟩), .agg #[.int .i64 op, .int .i64 a, .int .i64 b, .int .i64 c, .int .i64 n]] w (fun e w' => e = .returned (.tuple #[]) ∧ ∃ w0, Nw w w0 ∧ Q w0 w') := by
  have N0 := Lib.hid (Nw.new w (.cells #[.int .i64 op, .int .i64 a, .int .i64 b, .int .i64 c, .int .i64 n] 26))
  have B0 := Lib.hid (Blk.new w [.int .i64 op, .int .i64 a, .int .i64 b, .int .i64 c, .int .i64 n] 26)
  have HC := Lib.hid (hc _ N0.out)
  clear hc
  rcases ho with rfl | rfl | rfl | rfl | rfl | rfl
  · go_enter Try.func57, Try.ntmps57
    go_upto_region 1 with fail
    generalize w.alloc (.cells #[.int .i64 10, .int .i64 a, .int .i64 b, .int .i64 c, .int .i64 n] 26) = w0 at *
    generalize w.heap.size = bi at *
    have i0 := B0.out.cell 0
    have i1 := B0.out.cell 1
    have i2 := B0.out.cell 2
    have i3 := B0.out.cell 3
    have i4 := B0.out.cell 4
    simp only [List.getElem?_cons_zero, List.getElem?_cons_succ] at i0 i1 i2 i3 i4
    go_wp2_with fail
    refine HC.out.mono ?_
    rintro e1 w1 ⟨rfl, q1⟩
    have Q1 := Lib.hid q1
    clear q1 HC
    go_wp2_with fail
    go_returns
    exact ⟨rfl, w0, N0.out, Q1.out⟩
  · go_enter Try.func57, Try.ntmps57
    go_upto_region 1 with fail
    generalize w.alloc (.cells #[.int .i64 11, .int .i64 a, .int .i64 b, .int .i64 c, .int .i64 n] 26) = w0 at *
    generalize w.heap.size = bi at *
    have i0 := B0.out.cell 0
    have i1 := B0.out.cell 1
    have i2 := B0.out.cell 2
    have i3 := B0.out.cell 3
    have i4 := B0.out.cell 4
    simp only [List.getElem?_cons_zero, List.getElem?_cons_succ] at i0 i1 i2 i3 i4
    go_wp2_with fail
    refine HC.out.mono ?_
    rintro e1 w1 ⟨rfl, q1⟩
    have Q1 := Lib.hid q1
    clear q1 HC
    go_wp2_with fail
    go_returns
    exact ⟨rfl, w0, N0.out, Q1.out⟩
  · go_enter Try.func57, Try.ntmps57
    go_upto_region 1 with fail
    generalize w.alloc (.cells #[.int .i64 12, .int .i64 a, .int .i64 b, .int .i64 c, .int .i64 n] 26) = w0 at *
    generalize w.heap.size = bi at *
    have i0 := B0.out.cell 0
    have i1 := B0.out.cell 1
    have i2 := B0.out.cell 2
    have i3 := B0.out.cell 3
    have i4 := B0.out.cell 4
    simp only [List.getElem?_cons_zero, List.getElem?_cons_succ] at i0 i1 i2 i3 i4
    go_wp2_with fail
    refine HC.out.mono ?_
    rintro e1 w1 ⟨rfl, q1⟩
    have Q1 := Lib.hid q1
    clear q1 HC
    go_wp2_with fail
    go_returns
    exact ⟨rfl, w0, N0.out, Q1.out⟩
  · go_enter Try.func57, Try.ntmps57
    go_upto_region 1 with fail
    generalize w.alloc (.cells #[.int .i64 13, .int .i64 a, .int .i64 b, .int .i64 c, .int .i64 n] 26) = w0 at *
    generalize w.heap.size = bi at *
    have i0 := B0.out.cell 0
    have i1 := B0.out.cell 1
    have i2 := B0.out.cell 2
    have i3 := B0.out.cell 3
    have i4 := B0.out.cell 4
    simp only [List.getElem?_cons_zero, List.getElem?_cons_succ] at i0 i1 i2 i3 i4
    go_wp2_with fail
    refine HC.out.mono ?_
    rintro e1 w1 ⟨rfl, q1⟩
    have Q1 := Lib.hid q1
    clear q1 HC
    go_wp2_with fail
    go_returns
    exact ⟨rfl, w0, N0.out, Q1.out⟩
  · go_enter Try.func57, Try.ntmps57
    go_upto_region 1 with fail
    generalize w.alloc (.cells #[.int .i64 14, .int .i64 a, .int .i64 b, .int .i64 c, .int .i64 n] 26) = w0 at *
    generalize w.heap.size = bi at *
    have i0 := B0.out.cell 0
    have i1 := B0.out.cell 1
    have i2 := B0.out.cell 2
    have i3 := B0.out.cell 3
    have i4 := B0.out.cell 4
    simp only [List.getElem?_cons_zero, List.getElem?_cons_succ] at i0 i1 i2 i3 i4
    go_wp2_with fail
    refine HC.out.mono ?_
    rintro e1 w1 ⟨rfl, q1⟩
    have Q1 := Lib.hid q1
    clear q1 HC
    go_wp2_with fail
    go_returns
    exact ⟨rfl, w0, N0.out, Q1.out⟩
  · go_enter Try.func57, Try.ntmps57
    go_upto_region 1 with fail
    generalize w.alloc (.cells #[.int .i64 15, .int .i64 a, .int .i64 b, .int .i64 c, .int .i64 n] 26) = w0 at *
    generalize w.heap.size = bi at *
    have i0 := B0.out.cell 0
    have i1 := B0.out.cell 1
    have i2 := B0.out.cell 2
    have i3 := B0.out.cell 3
    have i4 := B0.out.cell 4
    simp only [List.getElem?_cons_zero, List.getElem?_cons_succ] at i0 i1 i2 i3 i4
    go_wp2_with fail
    refine HC.out.mono ?_
    rintro e1 w1 ⟨rfl, q1⟩
    have Q1 := Lib.hid q1
    clear q1 HC
    go_wp2_with fail
    go_returns
    exact ⟨rfl, w0, N0.out, Q1.out⟩
end Go.Proofs.Ythlcoocboidnlaa
