/- The document's machine: many steps. -/
import Derived.Test.YthlcoocboidnlaaMach28
namespace Go.Proofs.Ythlcoocboidnlaa
open Go.RowKit
set_option linter.unusedSimpArgs false
set_option linter.unusedVariables false

/-- many steps are made; what is told of it -/
def RunD (B : Nat) (R : Nat → Prop) (w : World) (p : Nat) (L : Ld) (s' : Ms) (e : Ending) (w' : World) : Prop :=
  (∃ x c, e = .returned (s'.oc.val x c) ∧ w'.ownsRow w.heap.size 5 1 (.slice x s'.oc.out.length c) s'.oc.out.length (byteV s'.oc.out)) ∧ SD B R w p L s' w'

theorem drun_res {tmps : Array Value} {w : World} {q : Nat} {a b c d : Value} (h2 : tmps[4]?.getD undef = .pointer (some ⟨q, 0, none⟩)) (hb : Blk w q [a, b, c, d] 37) :
    (results Try.f29 tmps).run Try.prog w = .ok (.agg #[a, b, c, d]) w := by
  have f0 := hb.cell 0
  have f1 := hb.cell 1
  have f2 := hb.cell 2
  have f3 := hb.cell 3
  simp only [List.getElem?_cons_zero, List.getElem?_cons_succ] at f0 f1 f2 f3
  simp [results, Try.results29, go_sem, h2, f0, f1, f2, f3]
theorem app_none (w : World) {gd n c : Nat} (hn : n ≤ c) : (Builtin.append_ #[35, 35] 35 #[.slice (some ⟨gd, 0, none⟩) n c, .slice none 0 0]).run Try.prog w = .ok (.slice (some ⟨gd, 0, none⟩) n c) w := by
  obtain ⟨i0, hi0, hz0, hz1, hz2⟩ := info_parts u8info
  simp [Builtin.append_, run_underlying Try.underlying35, sizeOf, typeInfo, hi0, hz1, Builtin.lenOf, Builtin.firstCells, loadCells, loadCellsFrom, storeCells, hn]
theorem Kp.cellNew {S : Nat → Prop} {a w : World} (h : Kp S a w) {b i : Nat} (hb : a.heap.size ≤ b) (v : Value) : Kp S a (w.setCell ⟨b, i, none⟩ v) :=
  Kp.setCell h (p := ⟨b, i, none⟩) (fun hh => absurd hh (Nat.not_lt_of_le hb)) v
/-- the end of Run: the outcome is copied -/
theorem drun_fin {B : Nat} {R : Nat → Prop} {w wr w2 : World} {p : Nat} {L Lj : Ld} {sf : Ms} {q : Nat} {x' : Option Addr} {c' : Nat} {v : Value} (mx : DAtL B R wr p Lj sf) (kx : Kp (Fdd p L) w wr) (bx : Lj.bm = L.bm) (ax : Lj.all = L.all) (vx : ∀ g, Lj.vo.ownBlock = some g → L.vo.ownBlock = some g ∨ w.heap.size ≤ g ∧ g ≠ q)
    (hq : q = w.heap.size) (hql : q < wr.heap.size) (hqf : ¬ Fdd p L q) (hqr : ∀ x, R x → x ≠ q) (k2 : Nw wr w2) (ho : w2.ownsRow (wr.heap.size + 1) 5 1 (.slice x' sf.out.length c') sf.out.length (byteV sf.out)) (i : Nat) (vs : List Value) :
    RunD B R w p L sf (.returned (sf.oc.val x' c')) (lays (w2.setCell ⟨wr.heap.size, i, none⟩ v) q 0 vs) := by
  have k3 : Kp (fun x => x = q) wr (w2.setCell ⟨wr.heap.size, i, none⟩ v) := Kp.cellNew (k2.mono (fun _ _ x => x.elim)) (Nat.le_refl _) v
  have k4 : Kp (fun x => x = q) wr (lays (w2.setCell ⟨wr.heap.size, i, none⟩ v) q 0 vs) := k3.sets (fun _ => rfl) 0 vs
  refine ⟨⟨x', c', rfl, ?_⟩, Lj, mx.kpo k4 ?_, ?_, bx, ax, fun g hg => (vx g hg).imp id And.left⟩
  · refine own_weaken (own_kp ho (S := fun x => x = q ∨ x = wr.heap.size) ?_ ?_) (Nat.le_trans kx.size (Nat.le_succ _))
    · exact Kp.sets (Kp.setCell (Kp.refl _ w2) (p := ⟨wr.heap.size, i, none⟩) (fun _ => .inr rfl) v) (fun _ => .inl rfl) 0 vs
    · intro g hg e
      have h1 := own_block ho g hg
      rcases e with e | e <;> omega
  · rintro x (e | e | e | e) hx
    · exact hqr x e hx
    · exact hqf (.inl (by rw [← hx]; exact e))
    · exact hqf (.inr (.inl (by rw [← bx, ← hx]; exact e)))
    · rcases vx x e with e2 | e2
      · exact hqf (.inr (.inr (by rw [← hx]; exact e2)))
      · exact e2.2 hx
  · refine Kp.trans kx k4 (fun x hx e => ?_)
    have e : x = q := e
    omega

set_option maxRecDepth 100000 in
set_option maxHeartbeats 4000000 in
theorem drun_any {B : Nat} {R : Nat → Prop} {w : World} {p : Nat} {L : Ld} {s : Ms} (h : DAtL B R w p L s) (n : Int) (hn : I64 n) :
    Calls Try.prog 29 #[.pointer (some ⟨p, 0, none⟩), .int .i64 n] w (RunD B R w p L (s.runN n.toNat)) := by
  have N0 := Lib.hid (Nw.new w (.cells #[.int .i64 0, .int .i64 0, .slice none 0 0, .int .i64 0] 37))
  have M0 := Lib.hid (h.nw N0.out)
  have B0 := Lib.hid (Blk.new w [.int .i64 0, .int .i64 0, .slice none 0 0, .int .i64 0] 37)
  have HQB := Lib.hid (show ¬ Fdd p L w.heap.size from fun e => by have := h.all_lt _ (.inr e); omega)
  have HQR := Lib.hid (show ∀ x, R x → x ≠ w.heap.size from fun x hx e => by have := (h.ro x hx).1; omega)
  obtain ⟨hn1, hn2⟩ := hn
  clear h
  go_enter Try.func29, Try.ntmps29
  go_upto_region 1 with fail
  generalize w.alloc (.cells #[.int .i64 0, .int .i64 0, .slice none 0 0, .int .i64 0] 37) = w0 at *
  obtain ⟨q, hqq⟩ : ∃ q, q = w.heap.size := ⟨_, rfl⟩
  rw [← hqq] at B0 HQB HQR ⊢
  have HQ := Lib.hid hqq
  clear hqq
  go_upto_region 2 with fail
  go_loopw [5] (fun i wr => ∃ (j : Nat) (Lj : Ld), i = .int .i64 (j : Int) ∧ j ≤ n.toNat ∧ DAtL B R wr p Lj (s.runN j) ∧ Kp (Fdd p L) w wr ∧ Blk wr q [.int .i64 0, .int .i64 0, .slice none 0 0, .int .i64 0] 37 ∧ Lj.bm = L.bm ∧ Lj.all = L.all ∧ ∀ g, Lj.vo.ownBlock = some g → L.vo.ownBlock = some g ∨ w.heap.size ≤ g ∧ g ≠ q) (fun i _ => n.toNat - (intOf i).toNat)
  case atStart => exact ⟨0, L, rfl, Nat.zero_le _, M0.out, Fdd.nw p L N0.out, B0.out, rfl, rfl, fun g hg => .inl hg⟩
  case round =>
    obtain ⟨j, Lj, rfl, hj, hmj, hkj, hbj, hbm, hal, hvo⟩ := hrel
    have MX := Lib.hid hmj
    have KX := Lib.hid hkj
    have BX := Lib.hid hbj
    have BMX := Lib.hid hbm
    have ALX := Lib.hid hal
    have VOX := Lib.hid hvo
    clear hmj hkj hbj hbm hal hvo M0 B0
    have c21 : wr.cell? ⟨p, 21, none⟩ = some (.int .i64 (s.runN j).kind) := MX.out.mc.c21
    by_cases hjn : j < n.toNat
    · have hq0 : (j : Int) < n := by omega
      by_cases hk : (s.runN j).kind = 0
      · have ST := Lib.hid (dstep_any MX.out)
        rw [hk] at c21
        have HQJ := Lib.hid (show ¬ Fdd p Lj q from fun e => HQB.out (by
          rcases e with e | e | e
          · exact .inl e
          · exact .inr (.inl (by rw [← BMX.out]; exact e))
          · rcases VOX.out q e with e2 | e2
            · exact .inr (.inr e2)
            · exact absurd rfl e2.2))
        have KF := Lib.hid (show ∀ wy, Kp (Fdd p Lj) wr wy → Kp (Fdd p L) w wy from fun wy k => Kp.trans KX.out k (fun x hx e => by
          rcases e with e | e | e
          · exact .inl e
          · exact .inr (.inl (by rw [← BMX.out]; exact e))
          · rcases VOX.out x e with e2 | e2
            · exact .inr (.inr e2)
            · have := e2.1; omega))
        clear hk
        go_wp2_with fail
        refine ST.out.mono ?_
        rintro e1 w1 ⟨rfl, L1, m1, k1, b1, a1, v1⟩
        have M1 := Lib.hid m1
        have K1 := Lib.hid (KF.out _ k1)
        have B1 := Lib.hid (BX.out.kp k1 HQJ.out)
        have BM1 := Lib.hid (b1.trans BMX.out)
        have AL1 := Lib.hid (a1.trans ALX.out)
        have V1 := Lib.hid (show ∀ g, L1.vo.ownBlock = some g → L.vo.ownBlock = some g ∨ w.heap.size ≤ g ∧ g ≠ q from fun g hg => by
          rcases v1 g hg with e | e
          · exact VOX.out g e
          · exact .inr ⟨Nat.le_trans KX.out.size e, by have := BX.out.lt; omega⟩)
        clear m1 k1 b1 a1 v1 ST
        go_wp2_with fail
        go_roundw
        case rel => exact ⟨j + 1, L1, by go_num, by omega, by rw [runN_succ]; exact M1.out, K1.out, B1.out, BM1.out, AL1.out, V1.out⟩
        case measure => simp [intOf]; omega
      · have RU : s.runN j = s.runN n.toNat := by
          rw [show n.toNat = j + (n.toNat - j) by omega, runN_add, Ms.runN_end hk]
        obtain ⟨ne1, ne2, ne3, ne4⟩ := int_ne hk
        obtain ⟨sf, hsf⟩ : ∃ sf, sf = s.runN n.toNat := ⟨_, rfl⟩
        rw [RU, ← hsf] at MX c21 ne1 ne2 ne3 ne4
        rw [← hsf]
        have HSF := Lib.hid hsf
        clear hk RU hsf
        go_upto_region 5 with fail
        obtain ⟨x, c, hvo⟩ := own_slice MX.out.own
        obtain ⟨n0, hn0⟩ : ∃ n0, n0 = sf.out.length := ⟨_, rfl⟩
        have f21 : wr.cell? ⟨p, 21, none⟩ = some (.int .i64 sf.kind) := MX.out.mc.c21
        have f22 : wr.cell? ⟨p, 22, none⟩ = some (.int .i64 sf.panics) := MX.out.mc.c22
        have f23 : wr.cell? ⟨p, 23, none⟩ = some Lj.vo := MX.out.mc.c23
        have f24 : wr.cell? ⟨p, 24, none⟩ = some (.int .i64 sf.steps) := MX.out.mc.c24
        have hpl := MX.out.mc.lt
        have hn4 := MX.out.ho
        have HL := Lib.hid (own_bytesAt MX.out.own)
        rw [hvo] at f23
        rw [← hn0] at f23 hn4
        have NL := Lib.hid hn0
        clear hn0
        have N6 := Lib.hid (Nw.new wr (.cells #[.int .i64 sf.kind, .int .i64 sf.panics, .slice x n0 c, .int .i64 sf.steps] 37))
        have B6 := Lib.hid (Blk.new wr [.int .i64 sf.kind, .int .i64 sf.panics, .slice x n0 c, .int .i64 sf.steps] 37)
        have BQ6 := Lib.hid (BX.out.nw N6.out)
        have SZ := Lib.hid (size_alloc wr (.cells #[.int .i64 sf.kind, .int .i64 sf.panics, .slice x n0 c, .int .i64 sf.steps] 37))
        have HQL := Lib.hid BX.out.lt
        go_upto_region 6 with fail
        generalize wr.alloc (.cells #[.int .i64 sf.kind, .int .i64 sf.panics, .slice x n0 c, .int .i64 sf.steps] 37) = w6 at *
        have f23 : w6.cell? ⟨p, 23, none⟩ = some (.slice x n0 c) := N6.out.keeps f23
        obtain ⟨q6, hq6⟩ : ∃ q6, q6 = wr.heap.size := ⟨_, rfl⟩
        rw [← hq6] at B6 SZ HQL hpl ⊢
        have HQ6 := Lib.hid hq6
        have hqq : ¬ q6 = q := fun e => by have := HQL.out; omega
        have hqq2 : ¬ q = q6 := fun e => hqq e.symm
        have hpq : ¬ p = q6 := fun e => by omega
        clear hq6 f21 f22 f24 hpl
        have OE := Lib.hid (own_empty w6 5)
        have N7 := Lib.hid (Nw.new w6 (.cells #[] 5))
        have STEP := Lib.hid (fun (x' : Option Addr) (c' : Nat) (w' : World) (ho : w'.ownsRow w6.heap.size 5 1 (.slice x' (0 + n0) c') (0 + n0) ([] ++ byteV sf.out)) (hk : Nw w6 w') =>
          (show Blk w' q6 [.int .i64 sf.kind, .int .i64 sf.panics, .slice x n0 c, .int .i64 sf.steps] 37 ∧ Blk w' q [.int .i64 0, .int .i64 0, .slice none 0 0, .int .i64 0] 37 ∧ RunD B R w p L sf (.returned (sf.oc.val x' c')) (lays (w'.setCell ⟨q6, 2, none⟩ (.slice x' n0 c')) q 0 [.int .i64 sf.kind, .int .i64 sf.panics, .slice x' n0 c', .int .i64 sf.steps]) ∧ ∀ g, x' = some ⟨g, 0, none⟩ → True by
            refine ⟨B6.out.nw hk, BQ6.out.nw hk, ?_, fun _ _ => trivial⟩
            rw [HQ6.out]
            refine drun_fin MX.out KX.out BMX.out ALX.out VOX.out HQ.out (by have := HQL.out; have := HQ6.out; omega) HQB.out HQR.out (N6.out.trans hk) ?_ 2 _
            rw [← NL.out, ← HQ6.out, ← SZ.out]
            simpa using ho))
        rcases MX.out.own.2 with ⟨h1, h2⟩ | ⟨g, cap, cur, hv, hb, hg, hn, hm, hc, ht⟩
        · have hn00 : n0 = 0 := by rw [NL.out]; exact h2
          have hxc : x = none ∧ c = 0 := by
            rw [hvo] at h1
            injection h1 with e1 e2 e3
            exact ⟨e1, e3⟩
          obtain ⟨rfl, rfl⟩ := hxc
          subst hn00
          have an := app_none (w6.alloc (.cells #[] 5)) (gd := w6.heap.size) (n := 0) (c := 0) (Nat.le_refl _)
          have S7 := STEP.out (some ⟨w6.heap.size, 0, none⟩) 0 (w6.alloc (.cells #[] 5)) (by
            have e : byteV sf.out = [] := by rw [List.eq_nil_of_length_eq_zero NL.out.symm]; rfl
            rw [e]
            exact OE.out) N7.out
          obtain ⟨b6, bq, fin, _⟩ := S7
          have B7 := Lib.hid b6
          have BQ7 := Lib.hid bq
          have FIN := Lib.hid fin
          clear h1 h2 b6 bq fin STEP OE hvo
          have y0 := B7.out.cell 0
          have y1 := B7.out.cell 1
          have y2 := B7.out.cell 2
          have y3 := B7.out.cell 3
          have zz2 := B7.out.frozen 2
          simp only [List.getElem?_cons_zero, List.getElem?_cons_succ] at y0 y1 y2 y3
          have cR := BQ7.out.cell
          have zR := BQ7.out.frozen
          have f23a := N7.out.keeps f23
          have FB := Lib.hid (Blk.sets ((BQ7.out.setOther (a := ⟨q6, 2, none⟩) hqq2 (.slice (some ⟨w6.heap.size, 0, none⟩) 0 0))) 0 [.int .i64 sf.kind, .int .i64 sf.panics, .slice (some ⟨w6.heap.size, 0, none⟩) 0 0, .int .i64 sf.steps])
          go_wp2_with fail
          refine bodyPost_ret (v := .agg #[.int .i64 sf.kind, .int .i64 sf.panics, .slice (some ⟨w6.heap.size, 0, none⟩) 0 0, .int .i64 sf.steps]) (drun_res rfl FB.out) rfl ?_
          rw [← HSF.out]
          have F1 := FIN.out
          unfold Oc.val at F1
          rw [show sf.oc.out.length = 0 from NL.out.symm] at F1
          exact F1
        · have hx : x = some ⟨g, 0, none⟩ := by rw [hvo] at hv; injection hv
          subst hx
          have HN := Lib.hid (fun j u (h : (byteV sf.out)[j]? = some u) => (N6.out.trans N7.out).keeps ((MX.out.own.cells (g := g) (by rw [hvo]; rfl)) j u h))
          have HN1 := Lib.hid (show ∀ u ∈ byteV sf.out, u.oneCell' = true from fun u hu => by
            simp only [byteV, List.mem_map] at hu
            obtain ⟨b, _, rfl⟩ := hu
            rfl)
          have HLN := Lib.hid (show (byteV sf.out).length = n0 * 1 by rw [byteV_length, ← NL.out]; omega)
          have H63 := Lib.hid (show 0 + n0 ≤ maxLen by unfold maxLen; omega)
          have HBY := Lib.hid (show (0 + n0) * 1 ≤ 140737488355328 by omega)
          have HBS := Lib.hid (show w6.heap.size ≤ (w6.alloc (.cells #[] 5)).heap.size by simp)
          have GR := Lib.hid (fun (w' : World) (hg : (w6.alloc (.cells #[] 5)).grownBy w' (Value.slice (some ⟨w6.heap.size, 0, none⟩) 0 0).ownBlock) => grown_nw N7.out hg (fun k hk => by have : some w6.heap.size = some k := hk; injection this with this; omega))
          obtain ⟨i0, hi, hz0, hz1, hz2⟩ := info_parts u8info
          have f23a := N7.out.keeps f23
          clear hv hb hg hn hm hc ht cur hvo
          go_wp2_with (at_builtin; refine wpList_app _ rfl (.tmp 26) (.tmp 31) 35 rfl w6.heap.size 5 i0 (.int .u8 0) 1 1 Try.underlying35 hi hz0 hz1 hz2 rfl (by decide) _ 0 [] rfl OE.out ⟨g, 0, none⟩ n0 c (byteV sf.out) rfl HLN.out HN.out HN1.out H63.out HBY.out HBS.out ?_; intro x' c' w7 ho' hg' hl'; obtain ⟨b6, bq, fin, _⟩ := STEP.out x' c' w7 ho' (GR.out w7 hg'); have B7 := Lib.hid b6; have BQ7 := Lib.hid bq; have FIN := Lib.hid fin; have y0 := b6.cell 0; have y1 := b6.cell 1; have y2 := b6.cell 2; have y3 := b6.cell 3; have zz2 := b6.frozen 2; simp only [List.getElem?_cons_zero, List.getElem?_cons_succ] at y0 y1 y2 y3; have cR := bq.cell; have zR := bq.frozen; clear b6 bq fin ho' hg' hl')
          have FB := Lib.hid (Blk.sets ((BQ7.out.setOther (a := ⟨q6, 2, none⟩) hqq2 (.slice x' n0 c'))) 0 [.int .i64 sf.kind, .int .i64 sf.panics, .slice x' n0 c', .int .i64 sf.steps])
          refine bodyPost_ret (v := .agg #[.int .i64 sf.kind, .int .i64 sf.panics, .slice x' n0 c', .int .i64 sf.steps]) (drun_res rfl FB.out) rfl ?_
          rw [← HSF.out]
          have F1 := FIN.out
          unfold Oc.val at F1
          rw [show sf.oc.out.length = n0 from NL.out.symm] at F1
          exact F1
    · have RU : s.runN j = s.runN n.toNat := by rw [show j = n.toNat by omega]
      have hq0 : n ≤ (j : Int) := by omega
      obtain ⟨sf, hsf⟩ : ∃ sf, sf = s.runN n.toNat := ⟨_, rfl⟩
      rw [RU, ← hsf] at MX c21
      rw [← hsf]
      have HSF := Lib.hid hsf
      clear RU hsf
      go_upto_region 5 with fail
      obtain ⟨x, c, hvo⟩ := own_slice MX.out.own
      obtain ⟨n0, hn0⟩ : ∃ n0, n0 = sf.out.length := ⟨_, rfl⟩
      have f21 : wr.cell? ⟨p, 21, none⟩ = some (.int .i64 sf.kind) := MX.out.mc.c21
      have f22 : wr.cell? ⟨p, 22, none⟩ = some (.int .i64 sf.panics) := MX.out.mc.c22
      have f23 : wr.cell? ⟨p, 23, none⟩ = some Lj.vo := MX.out.mc.c23
      have f24 : wr.cell? ⟨p, 24, none⟩ = some (.int .i64 sf.steps) := MX.out.mc.c24
      have hpl := MX.out.mc.lt
      have hn4 := MX.out.ho
      have HL := Lib.hid (own_bytesAt MX.out.own)
      rw [hvo] at f23
      rw [← hn0] at f23 hn4
      have NL := Lib.hid hn0
      clear hn0
      have N6 := Lib.hid (Nw.new wr (.cells #[.int .i64 sf.kind, .int .i64 sf.panics, .slice x n0 c, .int .i64 sf.steps] 37))
      have B6 := Lib.hid (Blk.new wr [.int .i64 sf.kind, .int .i64 sf.panics, .slice x n0 c, .int .i64 sf.steps] 37)
      have BQ6 := Lib.hid (BX.out.nw N6.out)
      have SZ := Lib.hid (size_alloc wr (.cells #[.int .i64 sf.kind, .int .i64 sf.panics, .slice x n0 c, .int .i64 sf.steps] 37))
      have HQL := Lib.hid BX.out.lt
      go_upto_region 6 with fail
      generalize wr.alloc (.cells #[.int .i64 sf.kind, .int .i64 sf.panics, .slice x n0 c, .int .i64 sf.steps] 37) = w6 at *
      have f23 : w6.cell? ⟨p, 23, none⟩ = some (.slice x n0 c) := N6.out.keeps f23
      obtain ⟨q6, hq6⟩ : ∃ q6, q6 = wr.heap.size := ⟨_, rfl⟩
      rw [← hq6] at B6 SZ HQL hpl ⊢
      have HQ6 := Lib.hid hq6
      have hqq : ¬ q6 = q := fun e => by have := HQL.out; omega
      have hqq2 : ¬ q = q6 := fun e => hqq e.symm
      have hpq : ¬ p = q6 := fun e => by omega
      clear hq6 f21 f22 f24 hpl
      have OE := Lib.hid (own_empty w6 5)
      have N7 := Lib.hid (Nw.new w6 (.cells #[] 5))
      have STEP := Lib.hid (fun (x' : Option Addr) (c' : Nat) (w' : World) (ho : w'.ownsRow w6.heap.size 5 1 (.slice x' (0 + n0) c') (0 + n0) ([] ++ byteV sf.out)) (hk : Nw w6 w') =>
        (show Blk w' q6 [.int .i64 sf.kind, .int .i64 sf.panics, .slice x n0 c, .int .i64 sf.steps] 37 ∧ Blk w' q [.int .i64 0, .int .i64 0, .slice none 0 0, .int .i64 0] 37 ∧ RunD B R w p L sf (.returned (sf.oc.val x' c')) (lays (w'.setCell ⟨q6, 2, none⟩ (.slice x' n0 c')) q 0 [.int .i64 sf.kind, .int .i64 sf.panics, .slice x' n0 c', .int .i64 sf.steps]) ∧ ∀ g, x' = some ⟨g, 0, none⟩ → True by
          refine ⟨B6.out.nw hk, BQ6.out.nw hk, ?_, fun _ _ => trivial⟩
          rw [HQ6.out]
          refine drun_fin MX.out KX.out BMX.out ALX.out VOX.out HQ.out (by have := HQL.out; have := HQ6.out; omega) HQB.out HQR.out (N6.out.trans hk) ?_ 2 _
          rw [← NL.out, ← HQ6.out, ← SZ.out]
          simpa using ho))
      rcases MX.out.own.2 with ⟨h1, h2⟩ | ⟨g, cap, cur, hv, hb, hg, hn, hm, hc, ht⟩
      · have hn00 : n0 = 0 := by rw [NL.out]; exact h2
        have hxc : x = none ∧ c = 0 := by
          rw [hvo] at h1
          injection h1 with e1 e2 e3
          exact ⟨e1, e3⟩
        obtain ⟨rfl, rfl⟩ := hxc
        subst hn00
        have an := app_none (w6.alloc (.cells #[] 5)) (gd := w6.heap.size) (n := 0) (c := 0) (Nat.le_refl _)
        have S7 := STEP.out (some ⟨w6.heap.size, 0, none⟩) 0 (w6.alloc (.cells #[] 5)) (by
          have e : byteV sf.out = [] := by rw [List.eq_nil_of_length_eq_zero NL.out.symm]; rfl
          rw [e]
          exact OE.out) N7.out
        obtain ⟨b6, bq, fin, _⟩ := S7
        have B7 := Lib.hid b6
        have BQ7 := Lib.hid bq
        have FIN := Lib.hid fin
        clear h1 h2 b6 bq fin STEP OE hvo
        have y0 := B7.out.cell 0
        have y1 := B7.out.cell 1
        have y2 := B7.out.cell 2
        have y3 := B7.out.cell 3
        have zz2 := B7.out.frozen 2
        simp only [List.getElem?_cons_zero, List.getElem?_cons_succ] at y0 y1 y2 y3
        have cR := BQ7.out.cell
        have zR := BQ7.out.frozen
        have f23a := N7.out.keeps f23
        have FB := Lib.hid (Blk.sets ((BQ7.out.setOther (a := ⟨q6, 2, none⟩) hqq2 (.slice (some ⟨w6.heap.size, 0, none⟩) 0 0))) 0 [.int .i64 sf.kind, .int .i64 sf.panics, .slice (some ⟨w6.heap.size, 0, none⟩) 0 0, .int .i64 sf.steps])
        go_wp2_with fail
        refine bodyPost_ret (v := .agg #[.int .i64 sf.kind, .int .i64 sf.panics, .slice (some ⟨w6.heap.size, 0, none⟩) 0 0, .int .i64 sf.steps]) (drun_res rfl FB.out) rfl ?_
        rw [← HSF.out]
        have F1 := FIN.out
        unfold Oc.val at F1
        rw [show sf.oc.out.length = 0 from NL.out.symm] at F1
        exact F1
      · have hx : x = some ⟨g, 0, none⟩ := by rw [hvo] at hv; injection hv
        subst hx
        have HN := Lib.hid (fun j u (h : (byteV sf.out)[j]? = some u) => (N6.out.trans N7.out).keeps ((MX.out.own.cells (g := g) (by rw [hvo]; rfl)) j u h))
        have HN1 := Lib.hid (show ∀ u ∈ byteV sf.out, u.oneCell' = true from fun u hu => by
          simp only [byteV, List.mem_map] at hu
          obtain ⟨b, _, rfl⟩ := hu
          rfl)
        have HLN := Lib.hid (show (byteV sf.out).length = n0 * 1 by rw [byteV_length, ← NL.out]; omega)
        have H63 := Lib.hid (show 0 + n0 ≤ maxLen by unfold maxLen; omega)
        have HBY := Lib.hid (show (0 + n0) * 1 ≤ 140737488355328 by omega)
        have HBS := Lib.hid (show w6.heap.size ≤ (w6.alloc (.cells #[] 5)).heap.size by simp)
        have GR := Lib.hid (fun (w' : World) (hg : (w6.alloc (.cells #[] 5)).grownBy w' (Value.slice (some ⟨w6.heap.size, 0, none⟩) 0 0).ownBlock) => grown_nw N7.out hg (fun k hk => by have : some w6.heap.size = some k := hk; injection this with this; omega))
        obtain ⟨i0, hi, hz0, hz1, hz2⟩ := info_parts u8info
        have f23a := N7.out.keeps f23
        clear hv hb hg hn hm hc ht cur hvo
        go_wp2_with (at_builtin; refine wpList_app _ rfl (.tmp 26) (.tmp 31) 35 rfl w6.heap.size 5 i0 (.int .u8 0) 1 1 Try.underlying35 hi hz0 hz1 hz2 rfl (by decide) _ 0 [] rfl OE.out ⟨g, 0, none⟩ n0 c (byteV sf.out) rfl HLN.out HN.out HN1.out H63.out HBY.out HBS.out ?_; intro x' c' w7 ho' hg' hl'; obtain ⟨b6, bq, fin, _⟩ := STEP.out x' c' w7 ho' (GR.out w7 hg'); have B7 := Lib.hid b6; have BQ7 := Lib.hid bq; have FIN := Lib.hid fin; have y0 := b6.cell 0; have y1 := b6.cell 1; have y2 := b6.cell 2; have y3 := b6.cell 3; have zz2 := b6.frozen 2; simp only [List.getElem?_cons_zero, List.getElem?_cons_succ] at y0 y1 y2 y3; have cR := bq.cell; have zR := bq.frozen; clear b6 bq fin ho' hg' hl')
        have FB := Lib.hid (Blk.sets ((BQ7.out.setOther (a := ⟨q6, 2, none⟩) hqq2 (.slice x' n0 c'))) 0 [.int .i64 sf.kind, .int .i64 sf.panics, .slice x' n0 c', .int .i64 sf.steps])
        refine bodyPost_ret (v := .agg #[.int .i64 sf.kind, .int .i64 sf.panics, .slice x' n0 c', .int .i64 sf.steps]) (drun_res rfl FB.out) rfl ?_
        rw [← HSF.out]
        have F1 := FIN.out
        unfold Oc.val at F1
        rw [show sf.oc.out.length = n0 from NL.out.symm] at F1
        exact F1
end Go.Proofs.Ythlcoocboidnlaa
