/- Are two units one: the document's function; and the walk of ExportUnlike. -/
import Derived.Test.YtpopgnengimieaaSame4
import Derived.Test.YtpopgnengimieaaSame5
import Derived.Test.YtpopgnengimieaaEncodes
import Derived.Test.YtpopgnengimieaaInj
namespace Go.Proofs.Ytpopgnengimieaa
open Go.RowKit
set_option linter.unusedSimpArgs false
set_option linter.unusedVariables false
set_option maxRecDepth 100000 in
set_option maxHeartbeats 1000000 in
theorem sameUnit_any {B : Nat} {W : World} {d d' : Nat} (u : Un) (cs : List Value) (v : Un) (cs' : List Value) (w : World) (hx : UnAt B W d u cs) (hx' : UnAt B W d' v cs') (h : In B W w) :
    Calls Try.prog 16 #[.agg cs.toArray, .agg cs'.toArray] w (BoolPost w (dc (u = v))) := by
  have SH := Lib.hid (fun (wz : World) (hz : Nw w wz) => sameHead_any u cs v cs' wz hx hx' (h.nw hz))
  have G := Lib.hid h
  obtain ⟨vi, vd, vb, rfl, hp, hi, hd, hb⟩ := hx
  obtain ⟨vi', vd', vb', rfl, hp', hi', hd', hb'⟩ := hx'
  obtain ⟨x1, m1, c1, rfl⟩ := hi.slice
  obtain ⟨x2, m2, c2, rfl⟩ := hd.slice
  obtain ⟨x3, m3, c3, rfl⟩ := hb.slice
  obtain ⟨x1', m1', c1', rfl⟩ := hi'.slice
  obtain ⟨x2', m2', c2', rfl⟩ := hd'.slice
  obtain ⟨x3', m3', c3', rfl⟩ := hb'.slice
  have K0 := Lib.hid (show Nw w ((w.alloc (.cells #[.string u.pkg, .slice x1 m1 c1, .slice x2 m2 c2, .slice x3 m3 c3] 30)).alloc (.cells #[.string v.pkg, .slice x1' m1' c1', .slice x2' m2' c2', .slice x3' m3' c3'] 30)) from ((Nw.refl w).alloc _).alloc _)
  have BA := Lib.hid (fun (wz : World) (hz : Nw ((w.alloc (.cells #[.string u.pkg, .slice x1 m1 c1, .slice x2 m2 c2, .slice x3 m3 c3] 30)).alloc (.cells #[.string v.pkg, .slice x1' m1' c1', .slice x2' m2' c2', .slice x3' m3' c3'] 30)) wz) => (((Blk.new w [.string u.pkg, .slice x1 m1 c1, .slice x2 m2 c2, .slice x3 m3 c3] 30).alloc (.cells #[.string v.pkg, .slice x1' m1' c1', .slice x2' m2' c2', .slice x3' m3' c3'] 30)).nw hz).cell)
  have BB := Lib.hid (fun (wz : World) (hz : Nw ((w.alloc (.cells #[.string u.pkg, .slice x1 m1 c1, .slice x2 m2 c2, .slice x3 m3 c3] 30)).alloc (.cells #[.string v.pkg, .slice x1' m1' c1', .slice x2' m2' c2', .slice x3' m3' c3'] 30)) wz) => (show ∀ o, wz.cell? ⟨w.heap.size + 1, o, none⟩ = [.string v.pkg, .slice x1' m1' c1', .slice x2' m2' c2', .slice x3' m3' c3'][o]? from by
    have e : (w.alloc (.cells #[.string u.pkg, .slice x1 m1 c1, .slice x2 m2 c2, .slice x3 m3 c3] 30)).heap.size = w.heap.size + 1 := by simp
    have := ((Blk.new (w.alloc (.cells #[.string u.pkg, .slice x1 m1 c1, .slice x2 m2 c2, .slice x3 m3 c3] 30)) [.string v.pkg, .slice x1' m1' c1', .slice x2' m2' c2', .slice x3' m3' c3'] 30).nw hz).cell
    rw [e] at this; exact this))
  have cA := BA.out _ (Nw.refl _)
  have cB := BB.out _ (Nw.refl _)
  have SF := Lib.hid (fun (wz : World) (hz : Nw w wz) => sameFuncs_any u.bodies _ v.bodies _ wz hb hb' (G.out.nw hz))
  clear hp hi hd hb hp' hi' hd' hb' h
  by_cases e1 : HeadEq u v
  · have D1 := Lib.hid (dc_true e1)
    obtain ⟨bb, hbb⟩ : ∃ b, b = dc (u = v) := ⟨_, rfl⟩
    have D2 := Lib.hid (show dc (u.bodies = v.bodies) = bb from by
      rw [hbb]
      by_cases e2 : u = v
      · rw [dc_true e2, dc_true (by rw [e2])]
      · rw [dc_false e2, dc_false (by
          intro e3; apply e2
          obtain ⟨q1, q2, q3⟩ := e1
          cases u; cases v
          simp only at q1 q2 q3 e3
          rw [q1, q2, q3, e3])])
    rw [← hbb]
    clear hbb e1
    go_enter Try.func16, Try.ntmps16
    go_wp2_with fail
    refine (SH.out _ K0.out).mono ?_
    rintro e1 w1 ⟨rfl, k1⟩
    rw [D1.out]
    have N1 := Lib.hid k1
    clear cA cB k1
    have cA := BA.out _ N1.out
    have cB := BB.out _ N1.out
    go_wp2_with fail
    refine (SF.out _ (K0.out.trans N1.out)).mono ?_
    rintro e2 w2 ⟨rfl, k2⟩
    rw [D2.out]
    have N2 := Lib.hid k2
    clear cA cB k2
    go_wp2_with fail
    go_returns
    exact ⟨rfl, K0.out.trans (N1.out.trans N2.out)⟩
  · have D1 := Lib.hid (dc_false e1)
    have D2 := Lib.hid (show dc (u = v) = false from dc_false (by intro e2; exact e1 (by rw [e2]; exact ⟨rfl, rfl, rfl⟩)))
    rw [D2.out]
    clear e1
    go_enter Try.func16, Try.ntmps16
    go_wp2_with fail
    refine (SH.out _ K0.out).mono ?_
    rintro e1 w1 ⟨rfl, k1⟩
    rw [D1.out]
    have N1 := Lib.hid k1
    clear cA cB k1
    go_wp2_with fail
    go_returns
    exact ⟨rfl, K0.out.trans N1.out⟩

set_option maxRecDepth 100000 in
set_option maxHeartbeats 2000000 in
theorem exportUnlike_walk {n m : Nat} (u : Un) (cs : List Value) (v : Un) (cs' : List Value) (w : World) (hx : UnAt w.heap.size w n u cs) (hx' : UnAt w.heap.size w m v cs') :
    Calls Try.prog 5 #[.agg cs.toArray, .agg cs'.toArray] w (BoolPost w true) := by
  have XU := Lib.hid hx
  have XV := Lib.hid hx'
  have GU := Lib.hid (fun (wz : World) (hz : Nw w wz) => great_any n u cs wz hx ((In.self w).nw hz))
  have GV := Lib.hid (fun (wz : World) (hz : Nw w wz) => great_any m v cs' wz hx' ((In.self w).nw hz))
  have EU := Lib.hid (fun (wz : World) (hz : Nw w wz) => encode_any n u cs wz hx ((In.self w).nw hz))
  have EV := Lib.hid (fun (wz : World) (hz : Nw w wz) => encode_any m v cs' wz hx' ((In.self w).nw hz))
  have SU := Lib.hid (fun (wz : World) (hz : Nw w wz) => sameUnit_any u cs v cs' wz hx hx' ((In.self w).nw hz))
  obtain ⟨vi, vd, vb, rfl, hp, hi, hd, hb⟩ := hx
  obtain ⟨vi', vd', vb', rfl, hp', hi', hd', hb'⟩ := hx'
  obtain ⟨x1, m1, c1, rfl⟩ := hi.slice
  obtain ⟨x2, m2, c2, rfl⟩ := hd.slice
  obtain ⟨x3, m3, c3, rfl⟩ := hb.slice
  obtain ⟨x1', m1', c1', rfl⟩ := hi'.slice
  obtain ⟨x2', m2', c2', rfl⟩ := hd'.slice
  obtain ⟨x3', m3', c3', rfl⟩ := hb'.slice
  have K0 := Lib.hid (show Nw w ((w.alloc (.cells #[.string u.pkg, .slice x1 m1 c1, .slice x2 m2 c2, .slice x3 m3 c3] 30)).alloc (.cells #[.string v.pkg, .slice x1' m1' c1', .slice x2' m2' c2', .slice x3' m3' c3'] 30)) from ((Nw.refl w).alloc _).alloc _)
  have BA := Lib.hid (fun (wz : World) (hz : Nw ((w.alloc (.cells #[.string u.pkg, .slice x1 m1 c1, .slice x2 m2 c2, .slice x3 m3 c3] 30)).alloc (.cells #[.string v.pkg, .slice x1' m1' c1', .slice x2' m2' c2', .slice x3' m3' c3'] 30)) wz) => (((Blk.new w [.string u.pkg, .slice x1 m1 c1, .slice x2 m2 c2, .slice x3 m3 c3] 30).alloc (.cells #[.string v.pkg, .slice x1' m1' c1', .slice x2' m2' c2', .slice x3' m3' c3'] 30)).nw hz).cell)
  have BB := Lib.hid (fun (wz : World) (hz : Nw ((w.alloc (.cells #[.string u.pkg, .slice x1 m1 c1, .slice x2 m2 c2, .slice x3 m3 c3] 30)).alloc (.cells #[.string v.pkg, .slice x1' m1' c1', .slice x2' m2' c2', .slice x3' m3' c3'] 30)) wz) => (show ∀ o, wz.cell? ⟨w.heap.size + 1, o, none⟩ = [.string v.pkg, .slice x1' m1' c1', .slice x2' m2' c2', .slice x3' m3' c3'][o]? from by
    have e : (w.alloc (.cells #[.string u.pkg, .slice x1 m1 c1, .slice x2 m2 c2, .slice x3 m3 c3] 30)).heap.size = w.heap.size + 1 := by simp
    have := ((Blk.new (w.alloc (.cells #[.string u.pkg, .slice x1 m1 c1, .slice x2 m2 c2, .slice x3 m3 c3] 30)) [.string v.pkg, .slice x1' m1' c1', .slice x2' m2' c2', .slice x3' m3' c3'] 30).nw hz).cell
    rw [e] at this; exact this))
  have cA := BA.out _ (Nw.refl _)
  have cB := BB.out _ (Nw.refl _)
  clear hp hi hd hb hp' hi' hd' hb'
  by_cases hg : 3000 < cntUn u
  · have HG := Lib.hid (show decide (3000 < cntUn u) = true by simp [hg])
    clear hg
    go_enter Try.func5, Try.ntmps5
    go_wp2_with fail
    refine (GU.out _ (K0.out.trans (Nw.refl _))).mono ?_
    rintro e1 w1 ⟨rfl, k1⟩
    rw [HG.out]
    have N1 := Lib.hid (Nw.trans (Nw.refl _) k1)
    clear k1 cA cB
    have cA := BA.out _ N1.out
    have cB := BB.out _ N1.out
    go_wp2_with fail
    refine (awake8_any _).mono ?_
    rintro e2 w2 ⟨rfl, k2⟩
    have N2 := Lib.hid (Nw.trans N1.out k2)
    clear k2 cA cB
    go_wp2_with fail
    go_returns
    exact ⟨rfl, K0.out.trans N2.out⟩
  · have HG := Lib.hid (show decide (3000 < cntUn u) = false by simp; omega)
    clear hg
    by_cases hg' : 3000 < cntUn v
    · have HG' := Lib.hid (show decide (3000 < cntUn v) = true by simp [hg'])
      clear hg'
      go_enter Try.func5, Try.ntmps5
      go_wp2_with fail
      refine (GU.out _ (K0.out.trans (Nw.refl _))).mono ?_
      rintro e1 w1 ⟨rfl, k1⟩
      rw [HG.out]
      have N1 := Lib.hid (Nw.trans (Nw.refl _) k1)
      clear k1 cA cB
      have cA := BA.out _ N1.out
      have cB := BB.out _ N1.out
      go_wp2_with fail
      refine (GV.out _ (K0.out.trans N1.out)).mono ?_
      rintro e2 w2 ⟨rfl, k2⟩
      rw [HG'.out]
      have N2 := Lib.hid (Nw.trans N1.out k2)
      clear k2 cA cB
      have cA := BA.out _ N2.out
      have cB := BB.out _ N2.out
      go_wp2_with fail
      refine (awake8_any _).mono ?_
      rintro e3 w3 ⟨rfl, k3⟩
      have N3 := Lib.hid (Nw.trans N2.out k3)
      clear k3 cA cB
      go_wp2_with fail
      go_returns
      exact ⟨rfl, K0.out.trans N3.out⟩
    · have HG' := Lib.hid (show decide (3000 < cntUn v) = false by simp; omega)
      clear hg'
      by_cases hc : codeU u = 0
      · have HC := Lib.hid hc
        clear hc
        by_cases hc' : codeU v = 0
        · have HC' := Lib.hid hc'
          clear hc'
          go_enter Try.func5, Try.ntmps5
          go_wp2_with fail
          refine (GU.out _ (K0.out.trans (Nw.refl _))).mono ?_
          rintro e1 w1 ⟨rfl, k1⟩
          rw [HG.out]
          have N1 := Lib.hid (Nw.trans (Nw.refl _) k1)
          clear k1 cA cB
          have cA := BA.out _ N1.out
          have cB := BB.out _ N1.out
          go_wp2_with fail
          refine (GV.out _ (K0.out.trans N1.out)).mono ?_
          rintro e2 w2 ⟨rfl, k2⟩
          rw [HG'.out]
          have N2 := Lib.hid (Nw.trans N1.out k2)
          clear k2 cA cB
          have cA := BA.out _ N2.out
          have cB := BB.out _ N2.out
          go_wp2_with fail
          refine (EU.out _ (K0.out.trans N2.out)).mono ?_
          rintro e3 w3 ⟨a3, n3, z3, rfl, k3, hb3⟩
          rw [HC.out]
          rw [if_pos HC.out] at hb3
          have S3 := Lib.hid hb3.at
          have N3 := Lib.hid (Nw.trans N2.out k3)
          have M3 := Lib.hid k3
          clear k3 hb3 cA cB
          have cA := BA.out _ N3.out
          have cB := BB.out _ N3.out
          go_wp2_with fail
          refine (EV.out _ (K0.out.trans N3.out)).mono ?_
          rintro e4 w4 ⟨a4, n4, z4, rfl, k4, hb4⟩
          rw [HC'.out]
          rw [if_pos HC'.out] at hb4
          have S4 := Lib.hid hb4.at
          have N4 := Lib.hid (Nw.trans N3.out k4)
          have M4 := Lib.hid k4
          clear k4 hb4 cA cB
          have cA := BA.out _ N4.out
          have cB := BB.out _ N4.out
          go_wp2_with fail
          refine (num8_any _ _).mono ?_
          rintro _ _ ⟨rfl, rfl⟩
          go_wp2_with fail
          refine (num8_any _ _).mono ?_
          rintro _ _ ⟨rfl, rfl⟩
          obtain ⟨s, hs⟩ : ∃ s : ByteArray, s = ⟨(encB u).toArray⟩ := ⟨_, rfl⟩
          obtain ⟨t, ht⟩ : ∃ s : ByteArray, s = ⟨(encB v).toArray⟩ := ⟨_, rfl⟩
          have FC := Lib.hid (fun (wz : World) (hz : Nw w4 wz) => (⟨hz, BA.out wz (N4.out.trans hz) 0, BA.out wz (N4.out.trans hz) 1, BA.out wz (N4.out.trans hz) 2, BA.out wz (N4.out.trans hz) 3,
            BB.out wz (N4.out.trans hz) 0, BB.out wz (N4.out.trans hz) 1, BB.out wz (N4.out.trans hz) 2, BB.out wz (N4.out.trans hz) 3,
            by rw [hs]; exact conv_bytes (bytesAt_nw S3.out (M4.out.trans hz)), by rw [ht]; exact conv_bytes (bytesAt_nw S4.out hz)⟩ : Nw w4 wz ∧ wz.cell? ⟨w.heap.size, 0, none⟩ = some (.string u.pkg) ∧ wz.cell? ⟨w.heap.size, 1, none⟩ = some (.slice x1 m1 c1) ∧ wz.cell? ⟨w.heap.size, 2, none⟩ = some (.slice x2 m2 c2) ∧ wz.cell? ⟨w.heap.size, 3, none⟩ = some (.slice x3 m3 c3) ∧ wz.cell? ⟨w.heap.size + 1, 0, none⟩ = some (.string v.pkg) ∧ wz.cell? ⟨w.heap.size + 1, 1, none⟩ = some (.slice x1' m1' c1') ∧ wz.cell? ⟨w.heap.size + 1, 2, none⟩ = some (.slice x2' m2' c2') ∧ wz.cell? ⟨w.heap.size + 1, 3, none⟩ = some (.slice x3' m3' c3') ∧ (convert 22 9 (.slice a3 n3 z3)).run Try.prog wz = .ok (.string s) wz ∧ (convert 22 9 (.slice a4 n4 z4)).run Try.prog wz = .ok (.string t) wz))
          by_cases e : u = v
          · have D := Lib.hid (dc_true e)
            have hst : t = s := by rw [hs, ht, e]
            clear hs ht e cA cB
            subst hst
            go_wp2_with fail
            go_region_held3 (fun wz => Nw w4 wz ∧ wz.cell? ⟨w.heap.size, 0, none⟩ = some (.string u.pkg) ∧ wz.cell? ⟨w.heap.size, 1, none⟩ = some (.slice x1 m1 c1) ∧ wz.cell? ⟨w.heap.size, 2, none⟩ = some (.slice x2 m2 c2) ∧ wz.cell? ⟨w.heap.size, 3, none⟩ = some (.slice x3 m3 c3) ∧ wz.cell? ⟨w.heap.size + 1, 0, none⟩ = some (.string v.pkg) ∧ wz.cell? ⟨w.heap.size + 1, 1, none⟩ = some (.slice x1' m1' c1') ∧ wz.cell? ⟨w.heap.size + 1, 2, none⟩ = some (.slice x2' m2' c2') ∧ wz.cell? ⟨w.heap.size + 1, 3, none⟩ = some (.slice x3' m3' c3') ∧ (convert 22 9 (.slice a3 n3 z3)).run Try.prog wz = .ok (.string t) wz ∧ (convert 22 9 (.slice a4 n4 z4)).run Try.prog wz = .ok (.string t) wz)
              (exact FC.out _ (by first | assumption | exact (Nw.refl _).drew | exact Nw.refl _))
              (first
                | (go_at_call 16; refine (SU.out _ (K0.out.trans (N4.out.trans (by first | assumption | exact (Nw.refl _).drew | exact Nw.refl _)))).mono ?_; rintro e5 w5 ⟨rfl, k5⟩; rw [D.out]; have kk5 : Nw w4 w5 := Nw.trans (by first | assumption | exact (Nw.refl _).drew | exact Nw.refl _) k5; clear k5)
                | (go_at_call 9; refine (awake8_any _).mono ?_; rintro e6 w6 ⟨rfl, k6⟩; have kk6 : Nw w4 w6 := Nw.trans (by first | assumption | exact (Nw.refl _).drew | exact Nw.refl _) k6; clear k6))
            all_goals
              go_wp2_with fail
              go_returns
              exact ⟨rfl, K0.out.trans (N4.out.trans (by assumption))⟩
          · have D := Lib.hid (dc_false e)
            have hst : ¬ s = t := by
              intro h; rw [hs, ht] at h
              injection h with h
              exact e (encB_inj XU.out XV.out (by simpa using congrArg Array.toList h))
            clear hs ht e cA cB
            obtain ⟨ne1, ne2, ne3, ne4⟩ := str_ne hst
            go_wp2_with fail
            go_region_held3 (fun wz => Nw w4 wz ∧ wz.cell? ⟨w.heap.size, 0, none⟩ = some (.string u.pkg) ∧ wz.cell? ⟨w.heap.size, 1, none⟩ = some (.slice x1 m1 c1) ∧ wz.cell? ⟨w.heap.size, 2, none⟩ = some (.slice x2 m2 c2) ∧ wz.cell? ⟨w.heap.size, 3, none⟩ = some (.slice x3 m3 c3) ∧ wz.cell? ⟨w.heap.size + 1, 0, none⟩ = some (.string v.pkg) ∧ wz.cell? ⟨w.heap.size + 1, 1, none⟩ = some (.slice x1' m1' c1') ∧ wz.cell? ⟨w.heap.size + 1, 2, none⟩ = some (.slice x2' m2' c2') ∧ wz.cell? ⟨w.heap.size + 1, 3, none⟩ = some (.slice x3' m3' c3') ∧ (convert 22 9 (.slice a3 n3 z3)).run Try.prog wz = .ok (.string s) wz ∧ (convert 22 9 (.slice a4 n4 z4)).run Try.prog wz = .ok (.string t) wz)
              (exact FC.out _ (by first | assumption | exact (Nw.refl _).drew | exact Nw.refl _))
              (first
                | (go_at_call 16; refine (SU.out _ (K0.out.trans (N4.out.trans (by first | assumption | exact (Nw.refl _).drew | exact Nw.refl _)))).mono ?_; rintro e5 w5 ⟨rfl, k5⟩; rw [D.out]; have kk5 : Nw w4 w5 := Nw.trans (by first | assumption | exact (Nw.refl _).drew | exact Nw.refl _) k5; clear k5)
                | (go_at_call 9; refine (awake8_any _).mono ?_; rintro e6 w6 ⟨rfl, k6⟩; have kk6 : Nw w4 w6 := Nw.trans (by first | assumption | exact (Nw.refl _).drew | exact Nw.refl _) k6; clear k6))
            all_goals
              go_wp2_with fail
              go_returns
              exact ⟨rfl, K0.out.trans (N4.out.trans (by assumption))⟩
        · obtain ⟨ne1, ne2, ne3, ne4⟩ := int_ne hc'
          go_enter Try.func5, Try.ntmps5
          go_wp2_with fail
          refine (GU.out _ (K0.out.trans (Nw.refl _))).mono ?_
          rintro e1 w1 ⟨rfl, k1⟩
          rw [HG.out]
          have N1 := Lib.hid (Nw.trans (Nw.refl _) k1)
          clear k1 cA cB
          have cA := BA.out _ N1.out
          have cB := BB.out _ N1.out
          go_wp2_with fail
          refine (GV.out _ (K0.out.trans N1.out)).mono ?_
          rintro e2 w2 ⟨rfl, k2⟩
          rw [HG'.out]
          have N2 := Lib.hid (Nw.trans N1.out k2)
          clear k2 cA cB
          have cA := BA.out _ N2.out
          have cB := BB.out _ N2.out
          go_wp2_with fail
          refine (EU.out _ (K0.out.trans N2.out)).mono ?_
          rintro e3 w3 ⟨a3, n3, z3, rfl, k3, hb3⟩
          rw [HC.out]
          rw [if_pos HC.out] at hb3
          have S3 := Lib.hid hb3.at
          have N3 := Lib.hid (Nw.trans N2.out k3)
          have M3 := Lib.hid k3
          clear k3 hb3 cA cB
          have cA := BA.out _ N3.out
          have cB := BB.out _ N3.out
          go_wp2_with fail
          refine (EV.out _ (K0.out.trans N3.out)).mono ?_
          rintro e4 w4 ⟨a4, n4, z4, rfl, k4, hb4⟩
          have N4 := Lib.hid (Nw.trans N3.out k4)
          have M4 := Lib.hid k4
          clear k4 hb4 cA cB
          have cA := BA.out _ N4.out
          have cB := BB.out _ N4.out
          go_wp2_with fail
          refine (num8_any _ _).mono ?_
          rintro _ _ ⟨rfl, rfl⟩
          go_wp2_with fail
          refine (num8_any _ _).mono ?_
          rintro _ _ ⟨rfl, rfl⟩
          go_wp2_with fail
          refine (awake8_any _).mono ?_
          rintro e5 w5 ⟨rfl, k5⟩
          have N5 := Lib.hid (Nw.trans N4.out k5)
          clear k5 cA cB
          go_wp2_with fail
          go_returns
          exact ⟨rfl, K0.out.trans N5.out⟩
      · obtain ⟨ne1, ne2, ne3, ne4⟩ := int_ne hc
        go_enter Try.func5, Try.ntmps5
        go_wp2_with fail
        refine (GU.out _ (K0.out.trans (Nw.refl _))).mono ?_
        rintro e1 w1 ⟨rfl, k1⟩
        rw [HG.out]
        have N1 := Lib.hid (Nw.trans (Nw.refl _) k1)
        clear k1 cA cB
        have cA := BA.out _ N1.out
        have cB := BB.out _ N1.out
        go_wp2_with fail
        refine (GV.out _ (K0.out.trans N1.out)).mono ?_
        rintro e2 w2 ⟨rfl, k2⟩
        rw [HG'.out]
        have N2 := Lib.hid (Nw.trans N1.out k2)
        clear k2 cA cB
        have cA := BA.out _ N2.out
        have cB := BB.out _ N2.out
        go_wp2_with fail
        refine (EU.out _ (K0.out.trans N2.out)).mono ?_
        rintro e3 w3 ⟨a3, n3, z3, rfl, k3, hb3⟩
        have N3 := Lib.hid (Nw.trans N2.out k3)
        have M3 := Lib.hid k3
        clear k3 hb3 cA cB
        have cA := BA.out _ N3.out
        have cB := BB.out _ N3.out
        go_wp2_with fail
        refine (EV.out _ (K0.out.trans N3.out)).mono ?_
        rintro e4 w4 ⟨a4, n4, z4, rfl, k4, hb4⟩
        have N4 := Lib.hid (Nw.trans N3.out k4)
        have M4 := Lib.hid k4
        clear k4 hb4 cA cB
        have cA := BA.out _ N4.out
        have cB := BB.out _ N4.out
        go_wp2_with fail
        refine (num8_any _ _).mono ?_
        rintro _ _ ⟨rfl, rfl⟩
        go_wp2_with fail
        refine (awake8_any _).mono ?_
        rintro e5 w5 ⟨rfl, k5⟩
        have N5 := Lib.hid (Nw.trans N4.out k5)
        clear k5 cA cB
        go_wp2_with fail
        go_returns
        exact ⟨rfl, K0.out.trans N5.out⟩
end Go.Proofs.Ytpopgnengimieaa
