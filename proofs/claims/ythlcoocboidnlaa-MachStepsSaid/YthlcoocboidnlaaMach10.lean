/- What the machine tells: Pc, Reg, Mem; many steps: Run. -/
import Derived.Test.YthlcoocboidnlaaMach9
namespace Go.Proofs.Ythlcoocboidnlaa
open Go.RowKit
set_option linter.unusedSimpArgs false
set_option linter.unusedVariables false

def Ms.regAt (s : Ms) (i : Int) : Int := if 0 ≤ i ∧ i < 16 then s.get i else 0
def Ms.memAt (s : Ms) (i : Int) : Int := if s.has i = true then s.at i else 0
/-- n steps at most -/
def Ms.runN : Nat → Ms → Ms
  | 0, s => s
  | n + 1, s => Ms.runN n s.step
theorem Ms.step_end {s : Ms} (h : ¬ s.kind = 0) : s.step = s := if_neg h
theorem Ms.runN_end {s : Ms} (h : ¬ s.kind = 0) (n : Nat) : s.runN n = s := by
  induction n with
  | zero => rfl
  | succ n ih => rw [Ms.runN, Ms.step_end h, ih]
def NumP (x : Int) (w : World) (e : Ending) (w' : World) : Prop := e = .returned (.int .i64 x) ∧ w = w'
section
variable {B : Nat} {R : Nat → Prop} {w : World} {p : Nat} {L : Lc} {s : Ms}
set_option maxRecDepth 100000 in
set_option maxHeartbeats 1000000 in
theorem pc_any (h : MAtL B R w p L s) : Calls Try.prog 26 #[.pointer (some ⟨p, 0, none⟩)] w (NumP s.pc w) := by
  have c18 : w.cell? ⟨p, 18, none⟩ = some (.int .i64 s.pc) := h.mc.c18
  clear h
  go_enter Try.func26, Try.ntmps26
  go_wp2_with fail
  go_returns
  exact ⟨rfl, rfl⟩
set_option maxRecDepth 100000 in
set_option maxHeartbeats 1000000 in
theorem reg_any (h : MAtL B R w p L s) (i : Int) : Calls Try.prog 16 #[.pointer (some ⟨p, 0, none⟩), .int .i64 i] w (NumP (s.regAt i) w) := by
  by_cases h0 : i < 0
  · have HR := Lib.hid (show s.regAt i = 0 from if_neg (by omega))
    rw [HR.out]
    clear h
    go_enter Try.func16, Try.ntmps16
    go_wp2_with fail
    go_returns
    exact ⟨rfl, rfl⟩
  · by_cases h1 : 16 ≤ i
    · have HR := Lib.hid (show s.regAt i = 0 from if_neg (by omega))
      rw [HR.out]
      clear h
      go_enter Try.func16, Try.ntmps16
      go_wp2_with fail
      go_returns
      exact ⟨rfl, rfl⟩
    · obtain ⟨a, rfl⟩ : ∃ a : Nat, i = (a : Int) := ⟨i.toNat, by omega⟩
      have ha : a < 16 := by omega
      have HR := Lib.hid (show s.regAt (a : Int) = s.get (a : Int) from if_pos (by omega))
      rw [HR.out]
      have ra : w.cell? ⟨p, 2 + a, none⟩ = some (.int .i64 (s.get (a : Int))) := h.mc.creg ha
      have hq0 : (0 : Int) ≤ (a : Int) := by omega
      have hq1 : (a : Int) < 16 := by omega
      clear h h0 h1
      generalize s.get (a : Int) = x at *
      go_enter Try.func16, Try.ntmps16
      go_wp2_with fail
      go_returns
      exact ⟨rfl, rfl⟩
set_option maxRecDepth 100000 in
set_option maxHeartbeats 1000000 in
theorem mem_any (h : MAtL B R w p L s) (i : Int) : Calls Try.prog 28 #[.pointer (some ⟨p, 0, none⟩), .int .i64 i] w (NumP (s.memAt i) w) := by
  have c1 : w.cell? ⟨p, 1, none⟩ = some (.slice (some ⟨L.bm, 0, none⟩) s.mem.length L.cm) := h.mc.c1
  have hml := h.hm
  have hwl : IntKind.i64.wrap ((s.mem.length : Nat) : Int) = s.mem.length := IntWalk.i64_in _ (by omega)
  by_cases h0 : i < 0
  · have HR := Lib.hid (show s.memAt i = 0 from if_neg (by unfold Ms.has; simp; omega))
    rw [HR.out]
    clear h
    go_enter Try.func28, Try.ntmps28
    go_wp2_with fail
    go_returns
    exact ⟨rfl, rfl⟩
  · by_cases h1 : (s.mem.length : Int) ≤ i
    · have HR := Lib.hid (show s.memAt i = 0 from if_neg (by unfold Ms.has; simp; omega))
      rw [HR.out]
      clear h
      go_enter Try.func28, Try.ntmps28
      go_wp2_with fail
      go_returns
      exact ⟨rfl, rfl⟩
    · obtain ⟨k, rfl⟩ : ∃ k : Nat, i = (k : Int) := ⟨i.toNat, by omega⟩
      have hk : k < s.mem.length := by omega
      have HR := Lib.hid (show s.memAt (k : Int) = s.mem.getD k 0 from if_pos (by unfold Ms.has; simp; omega))
      rw [HR.out]
      have ck := h.mem.cell hk
      have hq0 : (0 : Int) ≤ (k : Int) := by omega
      have hq1 : (k : Int) < (s.mem.length : Int) := by omega
      clear h h0 h1 HR
      generalize s.mem.getD k 0 = x at *
      generalize s.mem.length = nm at *
      go_enter Try.func28, Try.ntmps28
      go_wp2_with fail
      go_returns
      exact ⟨rfl, rfl⟩
/-- n steps are made: the machine as it is then; what is told of it -/
def RunP (B : Nat) (R : Nat → Prop) (w : World) (p : Nat) (L : Lc) (s' : Ms) (e : Ending) (w' : World) : Prop :=
  (∃ v, e = .returned (.agg #[.int .i64 s'.kind, .int .i64 s'.panics, v, .int .i64 s'.steps]) ∧ w'.ownsRow w.heap.size 5 1 v s'.out.length (byteV s'.out) ∧
    ∃ L', MAtL B R w' p L' s' ∧ Kp (Ft p L) w w' ∧ L'.bm = L.bm ∧ (∀ g, L'.vo.ownBlock = some g → L.vo.ownBlock = some g ∨ w.heap.size ≤ g) ∧ ∀ g, v.ownBlock = some g → L'.vo.ownBlock ≠ some g)
theorem mrun_res {tmps : Array Value} {w : World} {q : Nat} {a b c d : Value} (h2 : tmps[4]?.getD undef = .pointer (some ⟨q, 0, none⟩)) (hb : Blk w q [a, b, c, d] 37) :
    (results Try.f15 tmps).run Try.prog w = .ok (.agg #[a, b, c, d]) w := by
  have f0 := hb.cell 0
  have f1 := hb.cell 1
  have f2 := hb.cell 2
  have f3 := hb.cell 3
  simp only [List.getElem?_cons_zero, List.getElem?_cons_succ] at f0 f1 f2 f3
  simp [results, Try.results15, go_sem, h2, f0, f1, f2, f3]
theorem outcome_val (h : MAtL B R w p L s) : Calls Try.prog 22 #[.pointer (some ⟨p, 0, none⟩)] w fun e w' => ∃ x c, e = .returned (.agg #[.int .i64 s.kind, .int .i64 s.panics, .slice x s.out.length c, .int .i64 s.steps]) ∧
    w'.ownsRow w.heap.size 5 1 (.slice x s.out.length c) s.out.length (byteV s.out) ∧ Nw w w' := by
  refine (outcome_any h).mono ?_
  rintro e w' ⟨v, rfl, ho, hk⟩
  obtain ⟨x, c, rfl⟩ := own_slice ho
  exact ⟨x, c, rfl, ho, hk⟩
set_option maxRecDepth 100000 in
set_option maxHeartbeats 1000000 in
theorem mrun_any (h : MAtL B R w p L s) (n : Int) (hn : -9223372036854775808 ≤ n ∧ n ≤ 9223372036854775807) :
    Calls Try.prog 15 #[.pointer (some ⟨p, 0, none⟩), .int .i64 n] w (RunP B R w p L (s.runN n.toNat)) := by
  have N0 := Lib.hid (Nw.new w (.cells #[.int .i64 0, .int .i64 0, .slice none 0 0, .int .i64 0] 37))
  have M0 := Lib.hid (h.nw N0.out)
  have B0 := Lib.hid (Blk.new w [.int .i64 0, .int .i64 0, .slice none 0 0, .int .i64 0] 37)
  have HQB := Lib.hid (show ¬ Ft p L w.heap.size by
    rintro (e | e | e)
    · have := h.mc.lt; omega
    · have := h.mem.lt; omega
    · have := (h.own.lt _ e).2; omega)
  have RQ := Lib.hid (fun x (hx : R x) => (h.ro x hx).1)
  have SZ := Lib.hid (show w.heap.size + 1 ≤ (w.alloc (.cells #[.int .i64 0, .int .i64 0, .slice none 0 0, .int .i64 0] 37)).heap.size by simp)
  clear h
  go_enter Try.func15, Try.ntmps15
  go_upto_region 1 with fail
  generalize w.alloc (.cells #[.int .i64 0, .int .i64 0, .slice none 0 0, .int .i64 0] 37) = w0 at *
  obtain ⟨q, hqq⟩ : ∃ q, q = w.heap.size := ⟨_, rfl⟩
  rw [← hqq] at B0 HQB SZ ⊢
  have HQ := Lib.hid hqq
  clear hqq
  go_loopw [1] (fun i wr => ∃ (m : Int) (sj : Ms) (Lj : Lc), i = .int .i64 m ∧ m ≤ n ∧ -9223372036854775808 ≤ m ∧ sj.runN m.toNat = s.runN n.toNat ∧ MAtL B R wr p Lj sj ∧ Kp (Ft p L) w wr ∧ Blk wr q [.int .i64 0, .int .i64 0, .slice none 0 0, .int .i64 0] 37 ∧ Lj.bm = L.bm ∧ ∀ g, Lj.vo.ownBlock = some g → L.vo.ownBlock = some g ∨ w.heap.size ≤ g ∧ g ≠ q) (fun i _ => (intOf i).toNat)
  case atStart => exact ⟨n, s, L, rfl, Int.le_refl _, hn.1, rfl, M0.out, Ft.nw p L N0.out, B0.out, rfl, fun g hg => .inl hg⟩
  case round =>
    obtain ⟨m, sj, Lj, rfl, hm, hm0, hrun, hmj, hkj, hbj, hbm, hvo⟩ := hrel
    have FX := Lib.hid (fun (wx : World) (Lx : Lc) (mx : MAtL B R wx p Lx (s.runN n.toNat)) (kx : Kp (Ft p L) w wx) (bx : Lx.bm = L.bm) (vx : ∀ g, Lx.vo.ownBlock = some g → L.vo.ownBlock = some g ∨ w.heap.size ≤ g ∧ g ≠ q) (hqx : q < wx.heap.size)
      (w2 : World) (k2 : Nw wx w2) (xr : Option Addr) (cr : Nat) (ho : w2.ownsRow wx.heap.size 5 1 (.slice xr (s.runN n.toNat).out.length cr) (s.runN n.toNat).out.length (byteV (s.runN n.toNat).out)) (w3 : World) (k3 : Kp (fun x => x = q) w2 w3) =>
      (show RunP B R w p L (s.runN n.toNat) (.returned (.agg #[.int .i64 (s.runN n.toNat).kind, .int .i64 (s.runN n.toNat).panics, .slice xr (s.runN n.toNat).out.length cr, .int .i64 (s.runN n.toNat).steps])) w3 by
        have hqp : q ≠ p := fun e => HQB.out (.inl e)
        have hqb : q ≠ Lx.bm := fun e => HQB.out (.inr (.inl (by rw [← bx]; exact e)))
        have hqv : Lx.vo.ownBlock ≠ some q := fun e => by
          rcases vx q e with e2 | e2
          · exact HQB.out (.inr (.inr e2))
          · exact e2.2 rfl
        have hqr : ∀ x, R x → x ≠ q := fun x hx e => by
          have := (M0.out.ro x hx)
          have h2 := RQ.out x hx
          have := HQ.out
          omega
        have m2 := mx.nw k2
        refine ⟨_, rfl, own_weaken (own_kp ho k3 (fun g hg e => ?_)) kx.size, Lx, ⟨m2.mc.kp k3 (fun e => hqp e.symm), m2.mem.kp k3 (fun e => hqb e.symm), m2.hm, m2.hp, own_kp m2.own k3 (fun g hg e => hqv (by rw [hg]; exact congrArg some e)), m2.ho, m2.op, m2.om,
          fun x hx => ⟨Nat.lt_of_lt_of_le (m2.ro x hx).1 k3.size, (m2.ro x hx).2⟩, m2.code.kp k3 hqr, m2.hc, m2.ci, m2.inp.kp k3 hqr, m2.ops.kp k3 hqr, m2.bp, m2.bb⟩, ?_, bx, fun g hg => (vx g hg).imp id And.left, ?_⟩
        · have h1 := own_block ho g hg
          have e : g = q := e
          omega
        · refine ((kx.trans (Ft.nw p L k2) (fun _ _ x => x)).trans k3 (fun x hx e => ?_))
          have e : x = q := e
          have := HQ.out
          omega
        · intro g hg e
          have h1 := own_block ho g hg
          have h2 := (mx.own.lt g e).2
          omega))
    by_cases hp : 0 < m
    · obtain ⟨b, hb⟩ : ∃ b, b = decide (sj.kind = 0) := ⟨_, rfl⟩
      have SJ := Lib.hid (step_any hmj)
      unfold StepR at SJ
      rw [← hb] at SJ
      have HBB := Lib.hid hb
      have HRUN := Lib.hid hrun
      have KJ := Lib.hid hkj
      have BJ := Lib.hid hbj
      have HBM := Lib.hid hbm
      have HVO := Lib.hid hvo
      have HQJ := Lib.hid (show ¬ Ft p Lj q from fun e => HQB.out (by
        rcases e with e | e | e
        · exact .inl e
        · exact .inr (.inl (by rw [← hbm]; exact e))
        · rcases hvo q e with e2 | e2
          · exact .inr (.inr e2)
          · exact absurd rfl e2.2))
      have KF := Lib.hid (show ∀ wy, Kp (Ft p Lj) wr wy → Kp (Ft p L) w wy from fun wy k => hkj.trans k (fun x hx e => by
        rcases e with e | e | e
        · exact .inl e
        · exact .inr (.inl (by rw [← hbm]; exact e))
        · rcases hvo x e with e2 | e2
          · exact .inr (.inr e2)
          · have := e2.1; omega))
      have HQL := Lib.hid hbj.lt
      clear hb hrun hkj hbj hbm hvo hmj
      cases b with
      | true =>
        have RU := Lib.hid (show sj.step.runN (m - 1).toNat = s.runN n.toNat by
          rw [← HRUN.out, show m.toNat = (m - 1).toNat + 1 by omega]; rfl)
        go_wp2_with fail
        refine SJ.out.mono ?_
        rintro e1 w1 ⟨rfl, L1, m1, k1, b1, v1⟩
        have M1 := Lib.hid m1
        have K1 := Lib.hid k1
        have B1 := Lib.hid b1
        have V1 := Lib.hid v1
        clear m1 k1 b1 v1 SJ
        go_wp2_with fail
        go_roundw
        case rel => exact ⟨m - 1, sj.step, L1, by go_num, by omega, by omega, RU.out, M1.out, KF.out _ K1.out, BJ.out.kp K1.out HQJ.out, B1.out.trans HBM.out, fun g hg => by
          rcases V1.out g hg with e | e
          · exact HVO.out g e
          · exact .inr ⟨Nat.le_trans KJ.out.size e, by have := HQL.out; omega⟩⟩
        case measure => simp [intOf]; omega
      | false =>
        have hk : ¬ sj.kind = 0 := of_decide_eq_false HBB.out.symm
        have RU := Lib.hid (show sj.step = s.runN n.toNat by rw [← HRUN.out, Ms.runN_end hk, Ms.step_end hk])
        rw [RU.out] at SJ
        clear hk
        go_wp2_with fail
        refine SJ.out.mono ?_
        rintro e1 w1 ⟨rfl, L1, m1, k1, b1, v1⟩
        have MX := Lib.hid m1
        have BX := Lib.hid (BJ.out.kp k1 HQJ.out)
        have FX2 := Lib.hid (FX.out w1 L1 m1 (KF.out _ k1) (b1.trans HBM.out) (fun g hg => by
          rcases v1 g hg with e | e
          · exact HVO.out g e
          · exact .inr ⟨Nat.le_trans KJ.out.size e, by have := HQL.out; omega⟩) (Nat.lt_of_lt_of_le HQL.out k1.size))
        clear FX m1 k1 b1 v1 SJ
        have FX := FX2
        clear FX2
        go_wp2_with fail
        refine (outcome_val MX.out).mono ?_
        rintro e2 w2 ⟨xr, cr, rfl, ho2, k2⟩
        have OW := Lib.hid ho2
        have B2 := Lib.hid (BX.out.nw k2)
        have cR := B2.out.cell
        have zR := B2.out.frozen
        have KQ := Lib.hid ((Kp.refl (fun x => x = q) w2).sets (fun _ => rfl) 0 [.int .i64 (s.runN n.toNat).kind, .int .i64 (s.runN n.toNat).panics, .slice xr (s.runN n.toNat).out.length cr, .int .i64 (s.runN n.toNat).steps])
        have FIN := Lib.hid (FX.out w2 k2 xr cr OW.out (lays w2 q 0 [.int .i64 (s.runN n.toNat).kind, .int .i64 (s.runN n.toNat).panics, .slice xr (s.runN n.toNat).out.length cr, .int .i64 (s.runN n.toNat).steps]) KQ.out)
        have FB := Lib.hid (Blk.sets B2.out 0 [.int .i64 (s.runN n.toNat).kind, .int .i64 (s.runN n.toNat).panics, .slice xr (s.runN n.toNat).out.length cr, .int .i64 (s.runN n.toNat).steps])
        clear k2 ho2
        generalize s.runN n.toNat = sf at *
        go_wp2_with fail
        refine bodyPost_ret (v := .agg #[.int .i64 sf.kind, .int .i64 sf.panics, .slice xr sf.out.length cr, .int .i64 sf.steps]) (mrun_res rfl FB.out) rfl FIN.out
    · have RU : sj = s.runN n.toNat := by rw [← hrun, show m.toNat = 0 by omega]; rfl
      rw [RU] at hmj
      have MX := Lib.hid hmj
      have BX := Lib.hid hbj
      have FX2 := Lib.hid (FX.out wr Lj hmj hkj hbm hvo hbj.lt)
      clear FX RU hrun hmj hkj hbj hbm hvo
      have FX := FX2
      clear FX2
      go_wp2_with fail
      refine (outcome_val MX.out).mono ?_
      rintro e2 w2 ⟨xr, cr, rfl, ho2, k2⟩
      have OW := Lib.hid ho2
      have B2 := Lib.hid (BX.out.nw k2)
      have cR := B2.out.cell
      have zR := B2.out.frozen
      have KQ := Lib.hid ((Kp.refl (fun x => x = q) w2).sets (fun _ => rfl) 0 [.int .i64 (s.runN n.toNat).kind, .int .i64 (s.runN n.toNat).panics, .slice xr (s.runN n.toNat).out.length cr, .int .i64 (s.runN n.toNat).steps])
      have FIN := Lib.hid (FX.out w2 k2 xr cr OW.out (lays w2 q 0 [.int .i64 (s.runN n.toNat).kind, .int .i64 (s.runN n.toNat).panics, .slice xr (s.runN n.toNat).out.length cr, .int .i64 (s.runN n.toNat).steps]) KQ.out)
      have FB := Lib.hid (Blk.sets B2.out 0 [.int .i64 (s.runN n.toNat).kind, .int .i64 (s.runN n.toNat).panics, .slice xr (s.runN n.toNat).out.length cr, .int .i64 (s.runN n.toNat).steps])
      clear k2 ho2
      generalize s.runN n.toNat = sf at *
      go_wp2_with fail
      refine bodyPost_ret (v := .agg #[.int .i64 sf.kind, .int .i64 sf.panics, .slice xr sf.out.length cr, .int .i64 sf.steps]) (mrun_res rfl FB.out) rfl FIN.out
end

end Go.Proofs.Ythlcoocboidnlaa
