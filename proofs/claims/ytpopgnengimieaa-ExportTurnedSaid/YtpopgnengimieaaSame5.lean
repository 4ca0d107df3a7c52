/- Are two units' heads one: r7.SameHead. -/
import Derived.Test.YtpopgnengimieaaSame3
import Derived.Laws.StructEq
namespace Go.Proofs.Ytpopgnengimieaa
open Go.RowKit
set_option linter.unusedSimpArgs false
set_option linter.unusedVariables false

theorem im_eq (w : World) (s s' : ByteArray) (h h' : Int) : (Op.equalIn 10000 58 (.agg #[.string s, .int .i64 h]) (.agg #[.string s', .int .i64 h'])).run Try.prog w = .ok (dc (Im.mk s h = Im.mk s' h')) w := by
  have hf : Try.prog.fieldsOf 58 = #[{ name := "Name", type := 9, offset := 0, embedded := false, tag := "", pkgPath := "", byteOffset := 0 }, { name := "Hash", type := 2, offset := 1, embedded := false, tag := "", pkgPath := "", byteOffset := 16 }] := by kernel_rfl
  rw [run_equalIn_agg w 9999 58 _ _ (by kernel_rfl) (by kernel_rfl), hf]
  by_cases e1 : s = s'
  · subst e1
    by_cases e2 : h = h'
    · subst e2
      rw [dc_true rfl]
      go_simp
    · rw [dc_false (by intro e; injection e with _ e; exact e2 e)]
      go_simp
  · rw [dc_false (by intro e; injection e with e _; exact e1 e)]
    obtain ⟨n1, n2, n3, n4⟩ := str_ne e1
    have n5 := of_decide_eq_false n3
    go_simp
theorem im_neq (w : World) (s s' : ByteArray) (h h' : Int) (b : Bool) (hb : dc (Im.mk s h = Im.mk s' h') = b) : (binOp .neq 58 (.agg #[.string s, .int .i64 h]) (.agg #[.string s', .int .i64 h'])).run Try.prog w = .ok (.bool (!b)) w := by
  rw [run_neq_struct, im_eq, hb]; rfl

def HeadEq (u v : Un) : Prop := u.pkg = v.pkg ∧ u.imports = v.imports ∧ u.decls = v.decls
set_option maxRecDepth 100000 in
set_option maxHeartbeats 2000000 in
theorem sameHead_any {B : Nat} {W : World} {d d' : Nat} (u : Un) (cs : List Value) (v : Un) (cs' : List Value) (w : World) (hx : UnAt B W d u cs) (hx' : UnAt B W d' v cs') (h : In B W w) :
    Calls Try.prog 41 #[.agg cs.toArray, .agg cs'.toArray] w (BoolPost w (dc (HeadEq u v))) := by
  generalize hrr : dc (HeadEq u v) = rr
  have hm : Try.prog.eqGuardType Try.prog.depth 58 = false := by kernel_rfl
  obtain ⟨pk, is, ds, bs⟩ := u
  obtain ⟨pk', is', ds', bs'⟩ := v
  obtain ⟨vi, vd, vb, rfl, _, hi, hd, hb⟩ := hx
  obtain ⟨vi', vd', vb', rfl, _, hi', hd', hb'⟩ := hx'
  obtain ⟨x3, m3, c3, rfl⟩ := hb.slice
  obtain ⟨x3', m3', c3', rfl⟩ := hb'.slice
  obtain ⟨x1, c1, rfl, hil, hie⟩ := hi
  obtain ⟨x1', c1', rfl, hil', hie'⟩ := hi'
  obtain ⟨x2, c2, rfl, hdl, hde⟩ := hd
  obtain ⟨x2', c2', rfl, hdl', hde'⟩ := hd'
  have RR := Lib.hid hrr
  have G := Lib.hid h
  have HI := Lib.hid hie
  have HI' := Lib.hid hie'
  have HD := Lib.hid hde
  have HD' := Lib.hid hde'
  obtain ⟨m1, e1⟩ : ∃ n, n = is.length := ⟨_, rfl⟩
  obtain ⟨m1', e1'⟩ : ∃ n, n = is'.length := ⟨_, rfl⟩
  obtain ⟨m2, e2⟩ : ∃ n, n = ds.length := ⟨_, rfl⟩
  obtain ⟨m2', e2'⟩ : ∃ n, n = ds'.length := ⟨_, rfl⟩
  dsimp only at hil hil' hdl hdl' ⊢
  rw [← e1] at hil ⊢
  rw [← e1'] at hil' ⊢
  rw [← e2] at hdl ⊢
  rw [← e2'] at hdl' ⊢
  have E1 := Lib.hid e1
  have E1' := Lib.hid e1'
  have E2 := Lib.hid e2
  have E2' := Lib.hid e2'
  clear hrr h hie hie' hde hde' hb hb' e1 e1' e2 e2'
  have K0 := Lib.hid (show Nw w ((w.alloc (.cells #[.string pk, .slice x1 m1 c1, .slice x2 m2 c2, .slice x3 m3 c3] 30)).alloc (.cells #[.string pk', .slice x1' m1' c1', .slice x2' m2' c2', .slice x3' m3' c3'] 30)) from ((Nw.refl w).alloc _).alloc _)
  have BA := Lib.hid (fun (wz : World) (hz : Nw ((w.alloc (.cells #[.string pk, .slice x1 m1 c1, .slice x2 m2 c2, .slice x3 m3 c3] 30)).alloc (.cells #[.string pk', .slice x1' m1' c1', .slice x2' m2' c2', .slice x3' m3' c3'] 30)) wz) => (((Blk.new w [.string pk, .slice x1 m1 c1, .slice x2 m2 c2, .slice x3 m3 c3] 30).alloc (.cells #[.string pk', .slice x1' m1' c1', .slice x2' m2' c2', .slice x3' m3' c3'] 30)).nw hz).cell)
  have BB := Lib.hid (fun (wz : World) (hz : Nw ((w.alloc (.cells #[.string pk, .slice x1 m1 c1, .slice x2 m2 c2, .slice x3 m3 c3] 30)).alloc (.cells #[.string pk', .slice x1' m1' c1', .slice x2' m2' c2', .slice x3' m3' c3'] 30)) wz) => (show ∀ o, wz.cell? ⟨w.heap.size + 1, o, none⟩ = [.string pk', .slice x1' m1' c1', .slice x2' m2' c2', .slice x3' m3' c3'][o]? from by
    have e : (w.alloc (.cells #[.string pk, .slice x1 m1 c1, .slice x2 m2 c2, .slice x3 m3 c3] 30)).heap.size = w.heap.size + 1 := by simp
    have := ((Blk.new (w.alloc (.cells #[.string pk, .slice x1 m1 c1, .slice x2 m2 c2, .slice x3 m3 c3] 30)) [.string pk', .slice x1' m1' c1', .slice x2' m2' c2', .slice x3' m3' c3'] 30).nw hz).cell
    rw [e] at this; exact this))
  have cA := BA.out _ (Nw.refl _)
  have cB := BB.out _ (Nw.refl _)
  by_cases ep : pk = pk'
  rotate_left
  · have HR := Lib.hid (RR.out.symm.trans (dc_false (fun e => ep e.1)))
    obtain ⟨ne1, ne2, ne3, ne4⟩ := str_ne ep
    clear ep
    go_enter Try.func41, Try.ntmps41
    go_wp2_with fail
    go_returns
    exact ⟨by rw [HR.out]; rfl, K0.out⟩
  subst ep
  by_cases ei : m1 = m1'
  rotate_left
  · have HR := Lib.hid (RR.out.symm.trans (dc_false (fun e => ei (by rw [E1.out, E1'.out]; exact congrArg List.length e.2.1))))
    obtain ⟨ne1, ne2, ne3, ne4⟩ := nat_ne ei
    clear ei
    go_enter Try.func41, Try.ntmps41
    go_wp2_with fail
    go_returns
    exact ⟨by rw [HR.out]; rfl, K0.out⟩
  subst ei
  by_cases ed : m2 = m2'
  rotate_left
  · have HR := Lib.hid (RR.out.symm.trans (dc_false (fun e => ed (by rw [E2.out, E2'.out]; exact congrArg List.length e.2.2))))
    obtain ⟨ne1, ne2, ne3, ne4⟩ := nat_ne ed
    clear ed
    go_enter Try.func41, Try.ntmps41
    go_wp2_with fail
    go_returns
    exact ⟨by rw [HR.out]; rfl, K0.out⟩
  subst ed
  go_enter Try.func41, Try.ntmps41
  go_wp2_with fail
  go_loopw [5] (fun i wr => ∃ k : Nat, k ≤ m1 ∧ i = .int .i64 k ∧ Nw ((w.alloc (.cells #[.string pk, .slice x1 m1 c1, .slice x2 m2 c2, .slice x3 m3 c3] 30)).alloc (.cells #[.string pk, .slice x1' m1 c1', .slice x2' m2 c2', .slice x3' m3' c3'] 30)) wr ∧ is.take k = is'.take k) (fun i _ => m1 - (intOf i).toNat)
  case atStart => exact ⟨0, Nat.zero_le _, rfl, Nw.refl _, by simp⟩
  case round =>
    clear cA cB
    obtain ⟨k, hk0, rfl, g, htk⟩ := hrel
    have Gk := Lib.hid g
    have TK := Lib.hid htk
    have cA := BA.out _ g
    have cB := BB.out _ g
    clear g htk
    by_cases hlt : k < m1
    · have hkl : k < is.length := by rw [← E1.out]; exact hlt
      have hkl' : k < is'.length := by rw [← E1'.out]; exact hlt
      have hq0 : (0 : Int) ≤ (k : Int) := by omega
      have hq1 : (k : Int) < (m1 : Int) := by omega
      obtain ⟨b, o, rfl, hb, he⟩ := HI.out (by intro e; rw [e] at hkl; simp at hkl)
      obtain ⟨b', o', rfl, hb', he'⟩ := HI'.out (by intro e; rw [e] at hkl'; simp at hkl')
      obtain ⟨cs, hcl, hcc, hce⟩ := he k hkl
      obtain ⟨cs', hcl', hcc', hce'⟩ := he' k hkl'
      have HQ := Lib.hid (fun (e : is[k]'hkl = is'[k]'hkl') => take_eq hkl hkl' TK.out e)
      have HN := Lib.hid (fun (e : ¬ is[k]'hkl = is'[k]'hkl') => RR.out.symm.trans (dc_false (fun q => take_ne hkl hkl' e q.2.1)))
      clear he he'
      generalize is[k]'hkl = y at *
      generalize is'[k]'hkl' = y' at *
      obtain ⟨sn, hh⟩ := y
      obtain ⟨sn', hh'⟩ := y'
      obtain ⟨rfl, _, _⟩ := hce
      obtain ⟨rfl, _, _⟩ := hce'
      have f0 := ((G.out.nw (K0.out.trans Gk.out)).bel.cell (p := ⟨b, o + k * 2 + 0, none⟩) hb).trans (hcc 0 (by simp))
      have f1 := ((G.out.nw (K0.out.trans Gk.out)).bel.cell (p := ⟨b, o + k * 2 + 1, none⟩) hb).trans (hcc 1 (by simp))
      have g0 := ((G.out.nw (K0.out.trans Gk.out)).bel.cell (p := ⟨b', o' + k * 2 + 0, none⟩) hb').trans (hcc' 0 (by simp))
      have g1 := ((G.out.nw (K0.out.trans Gk.out)).bel.cell (p := ⟨b', o' + k * 2 + 1, none⟩) hb').trans (hcc' 1 (by simp))
      simp only [List.getElem?_cons_zero, List.getElem?_cons_succ, Nat.add_zero] at f0 f1 g0 g1
      clear hcc hcc'
      by_cases ey : Im.mk sn hh = Im.mk sn' hh'
      · have HR := Lib.hid (HQ.out ey)
        have NQ := fun (wz : World) => im_neq wz sn sn' hh hh' true (dc_true ey)
        clear ey
        go_wp2_with fail
        go_quiet (fail)
        go_wp2_with fail
        go_roundw
        case rel => exact ⟨k + 1, by omega, by go_num, Gk.out.trans (nw_drewN _ _), HR.out⟩
        case measure => simp [intOf]; omega
      · have HR := Lib.hid (HN.out ey)
        have NQ := fun (wz : World) => im_neq wz sn sn' hh hh' false (dc_false ey)
        clear ey
        go_wp2_with fail
        go_quiet (fail)
        go_wp2_with fail
        go_returns
        exact ⟨by rw [HR.out]; rfl, (K0.out.trans Gk.out).trans (nw_drewN _ _)⟩
    · have HIE := Lib.hid (take_done (k := k) (by rw [← E1.out]; omega) (by rw [← E1'.out]; omega) TK.out)
      go_wp2_with fail
      obtain ⟨wo, hwo⟩ : ∃ wo : World, wo = wr := ⟨_, rfl⟩
      subst hwo
      go_loopw [6] (fun i wr => ∃ k : Nat, k ≤ m2 ∧ i = .int .i64 k ∧ Nw wo wr ∧ ds.take k = ds'.take k) (fun i _ => m2 - (intOf i).toNat)
      case atStart => exact ⟨0, Nat.zero_le _, rfl, Nw.refl _, by simp⟩
      case round =>
        clear cA cB hk0 hlt
        obtain ⟨j, hj0, rfl, g, htk⟩ := hrel
        have Gj := Lib.hid g
        have TJ := Lib.hid htk
        have cA := BA.out _ (Gk.out.trans g)
        have cB := BB.out _ (Gk.out.trans g)
        clear g htk
        by_cases hlt : j < m2
        · have hkl : j < ds.length := by rw [← E2.out]; exact hlt
          have hkl' : j < ds'.length := by rw [← E2'.out]; exact hlt
          have hq0 : (0 : Int) ≤ (j : Int) := by omega
          have hq1 : (j : Int) < (m2 : Int) := by omega
          obtain ⟨b, o, rfl, hb, he⟩ := HD.out (by intro e; rw [e] at hkl; simp at hkl)
          obtain ⟨b', o', rfl, hb', he'⟩ := HD'.out (by intro e; rw [e] at hkl'; simp at hkl')
          obtain ⟨cs, hcl, hcc, hce⟩ := he j hkl
          obtain ⟨cs', hcl', hcc', hce'⟩ := he' j hkl'
          have HQ := Lib.hid (fun (e : ds[j]'hkl = ds'[j]'hkl') => take_eq hkl hkl' TJ.out e)
          have HN := Lib.hid (fun (e : ¬ ds[j]'hkl = ds'[j]'hkl') => RR.out.symm.trans (dc_false (fun q => take_ne hkl hkl' e q.2.2)))
          clear he he'
          generalize ds[j]'hkl = y at *
          generalize ds'[j]'hkl' = y' at *
          obtain ⟨t0, t1, t2, t3, t4, t5, t6, t7, t7l, t7c, t8, t8l, t8c, t9, t9l, t9c, rfl⟩ := shape_De hce
          obtain ⟨t0', t1', t2', t3', t4', t5', t6', t7', t7l', t7c', t8', t8l', t8c', t9', t9l', t9c', rfl⟩ := shape_De hce'
          have IW := Lib.hid (G.out.nw ((K0.out.trans Gk.out).trans Gj.out))
          have F0 := Lib.hid (fun (wz : World) (hz : In B W wz) (i : Nat) (hi : i < 10) => (hz.bel.cell (p := ⟨b, o + j * 10 + i, none⟩) hb).trans (hcc i (by simpa using hi)))
          have F0' := Lib.hid (fun (wz : World) (hz : In B W wz) (i : Nat) (hi : i < 10) => (hz.bel.cell (p := ⟨b', o' + j * 10 + i, none⟩) hb').trans (hcc' i (by simpa using hi)))
          have FC := Lib.hid (fun (wz : World) (hz : Nw wr wz) => (⟨hz, BA.out _ ((Gk.out.trans Gj.out).trans hz) 2, BB.out _ ((Gk.out.trans Gj.out).trans hz) 2, F0.out wz (IW.out.nw hz) 0 (by omega), F0.out wz (IW.out.nw hz) 1 (by omega), F0.out wz (IW.out.nw hz) 2 (by omega), F0.out wz (IW.out.nw hz) 3 (by omega), F0.out wz (IW.out.nw hz) 4 (by omega), F0.out wz (IW.out.nw hz) 5 (by omega), F0.out wz (IW.out.nw hz) 6 (by omega), F0.out wz (IW.out.nw hz) 7 (by omega), F0.out wz (IW.out.nw hz) 8 (by omega), F0.out wz (IW.out.nw hz) 9 (by omega), F0'.out wz (IW.out.nw hz) 0 (by omega), F0'.out wz (IW.out.nw hz) 1 (by omega), F0'.out wz (IW.out.nw hz) 2 (by omega), F0'.out wz (IW.out.nw hz) 3 (by omega), F0'.out wz (IW.out.nw hz) 4 (by omega), F0'.out wz (IW.out.nw hz) 5 (by omega), F0'.out wz (IW.out.nw hz) 6 (by omega), F0'.out wz (IW.out.nw hz) 7 (by omega), F0'.out wz (IW.out.nw hz) 8 (by omega), F0'.out wz (IW.out.nw hz) 9 (by omega)⟩ : Nw wr wz ∧ wz.cell? ⟨w.heap.size, 2, none⟩ = some (.slice (some ⟨b, o, none⟩) m2 c2) ∧ wz.cell? ⟨w.heap.size + 1, 2, none⟩ = some (.slice (some ⟨b', o', none⟩) m2 c2') ∧ wz.cell? ⟨b, o + j * 10, none⟩ = some (.int .i64 t0) ∧ wz.cell? ⟨b, o + j * 10 + 1, none⟩ = some (.string t1) ∧ wz.cell? ⟨b, o + j * 10 + 2, none⟩ = some (.string t2) ∧ wz.cell? ⟨b, o + j * 10 + 3, none⟩ = some (.int .i64 t3) ∧ wz.cell? ⟨b, o + j * 10 + 4, none⟩ = some (.int .i64 t4) ∧ wz.cell? ⟨b, o + j * 10 + 5, none⟩ = some (.string t5) ∧ wz.cell? ⟨b, o + j * 10 + 6, none⟩ = some (.string t6) ∧ wz.cell? ⟨b, o + j * 10 + 7, none⟩ = some (.slice t7 t7l t7c) ∧ wz.cell? ⟨b, o + j * 10 + 8, none⟩ = some (.slice t8 t8l t8c) ∧ wz.cell? ⟨b, o + j * 10 + 9, none⟩ = some (.slice t9 t9l t9c) ∧ wz.cell? ⟨b', o' + j * 10, none⟩ = some (.int .i64 t0') ∧ wz.cell? ⟨b', o' + j * 10 + 1, none⟩ = some (.string t1') ∧ wz.cell? ⟨b', o' + j * 10 + 2, none⟩ = some (.string t2') ∧ wz.cell? ⟨b', o' + j * 10 + 3, none⟩ = some (.int .i64 t3') ∧ wz.cell? ⟨b', o' + j * 10 + 4, none⟩ = some (.int .i64 t4') ∧ wz.cell? ⟨b', o' + j * 10 + 5, none⟩ = some (.string t5') ∧ wz.cell? ⟨b', o' + j * 10 + 6, none⟩ = some (.string t6') ∧ wz.cell? ⟨b', o' + j * 10 + 7, none⟩ = some (.slice t7' t7l' t7c') ∧ wz.cell? ⟨b', o' + j * 10 + 8, none⟩ = some (.slice t8' t8l' t8c') ∧ wz.cell? ⟨b', o' + j * 10 + 9, none⟩ = some (.slice t9' t9l' t9c')))
          have CA := Lib.hid (fun (wz : World) (hz : Nw wr wz) => sameDecl_any y _ y' _ wz hce hce' (IW.out.nw hz))
          clear hcc hcc' hce hce'
          by_cases ey : y = y'
          · have HR := Lib.hid (HQ.out ey)
            have DD := Lib.hid (dc_true ey)
            clear ey
            go_wp2_with fail
            go_region_held3 (fun wz => Nw wr wz ∧ wz.cell? ⟨w.heap.size, 2, none⟩ = some (.slice (some ⟨b, o, none⟩) m2 c2) ∧ wz.cell? ⟨w.heap.size + 1, 2, none⟩ = some (.slice (some ⟨b', o', none⟩) m2 c2') ∧ wz.cell? ⟨b, o + j * 10, none⟩ = some (.int .i64 t0) ∧ wz.cell? ⟨b, o + j * 10 + 1, none⟩ = some (.string t1) ∧ wz.cell? ⟨b, o + j * 10 + 2, none⟩ = some (.string t2) ∧ wz.cell? ⟨b, o + j * 10 + 3, none⟩ = some (.int .i64 t3) ∧ wz.cell? ⟨b, o + j * 10 + 4, none⟩ = some (.int .i64 t4) ∧ wz.cell? ⟨b, o + j * 10 + 5, none⟩ = some (.string t5) ∧ wz.cell? ⟨b, o + j * 10 + 6, none⟩ = some (.string t6) ∧ wz.cell? ⟨b, o + j * 10 + 7, none⟩ = some (.slice t7 t7l t7c) ∧ wz.cell? ⟨b, o + j * 10 + 8, none⟩ = some (.slice t8 t8l t8c) ∧ wz.cell? ⟨b, o + j * 10 + 9, none⟩ = some (.slice t9 t9l t9c) ∧ wz.cell? ⟨b', o' + j * 10, none⟩ = some (.int .i64 t0') ∧ wz.cell? ⟨b', o' + j * 10 + 1, none⟩ = some (.string t1') ∧ wz.cell? ⟨b', o' + j * 10 + 2, none⟩ = some (.string t2') ∧ wz.cell? ⟨b', o' + j * 10 + 3, none⟩ = some (.int .i64 t3') ∧ wz.cell? ⟨b', o' + j * 10 + 4, none⟩ = some (.int .i64 t4') ∧ wz.cell? ⟨b', o' + j * 10 + 5, none⟩ = some (.string t5') ∧ wz.cell? ⟨b', o' + j * 10 + 6, none⟩ = some (.string t6') ∧ wz.cell? ⟨b', o' + j * 10 + 7, none⟩ = some (.slice t7' t7l' t7c') ∧ wz.cell? ⟨b', o' + j * 10 + 8, none⟩ = some (.slice t8' t8l' t8c') ∧ wz.cell? ⟨b', o' + j * 10 + 9, none⟩ = some (.slice t9' t9l' t9c'))
              (exact FC.out _ (by first | assumption | exact Nw.refl _ | exact (Nw.refl _).drew))
              (first
                | (go_at_call 72; refine (CA.out _ (by first | assumption | exact Nw.refl _ | exact (Nw.refl _).drew)).mono ?_; rintro e5 w5 ⟨rfl, k5⟩; rw [DD.out]; have kk5 : Nw wr w5 := Nw.trans (by first | assumption | exact Nw.refl _ | exact (Nw.refl _).drew) k5; clear k5))
            go_wp2_with fail
            go_roundw
            case rel => exact ⟨j + 1, by omega, by go_num, Gj.out.trans (by first | assumption | exact Nw.refl _ | exact (Nw.refl _).drew), HR.out⟩
            case measure => simp [intOf]; omega
          · have HR := Lib.hid (HN.out ey)
            have DD := Lib.hid (dc_false ey)
            clear ey
            go_wp2_with fail
            go_region_held3 (fun wz => Nw wr wz ∧ wz.cell? ⟨w.heap.size, 2, none⟩ = some (.slice (some ⟨b, o, none⟩) m2 c2) ∧ wz.cell? ⟨w.heap.size + 1, 2, none⟩ = some (.slice (some ⟨b', o', none⟩) m2 c2') ∧ wz.cell? ⟨b, o + j * 10, none⟩ = some (.int .i64 t0) ∧ wz.cell? ⟨b, o + j * 10 + 1, none⟩ = some (.string t1) ∧ wz.cell? ⟨b, o + j * 10 + 2, none⟩ = some (.string t2) ∧ wz.cell? ⟨b, o + j * 10 + 3, none⟩ = some (.int .i64 t3) ∧ wz.cell? ⟨b, o + j * 10 + 4, none⟩ = some (.int .i64 t4) ∧ wz.cell? ⟨b, o + j * 10 + 5, none⟩ = some (.string t5) ∧ wz.cell? ⟨b, o + j * 10 + 6, none⟩ = some (.string t6) ∧ wz.cell? ⟨b, o + j * 10 + 7, none⟩ = some (.slice t7 t7l t7c) ∧ wz.cell? ⟨b, o + j * 10 + 8, none⟩ = some (.slice t8 t8l t8c) ∧ wz.cell? ⟨b, o + j * 10 + 9, none⟩ = some (.slice t9 t9l t9c) ∧ wz.cell? ⟨b', o' + j * 10, none⟩ = some (.int .i64 t0') ∧ wz.cell? ⟨b', o' + j * 10 + 1, none⟩ = some (.string t1') ∧ wz.cell? ⟨b', o' + j * 10 + 2, none⟩ = some (.string t2') ∧ wz.cell? ⟨b', o' + j * 10 + 3, none⟩ = some (.int .i64 t3') ∧ wz.cell? ⟨b', o' + j * 10 + 4, none⟩ = some (.int .i64 t4') ∧ wz.cell? ⟨b', o' + j * 10 + 5, none⟩ = some (.string t5') ∧ wz.cell? ⟨b', o' + j * 10 + 6, none⟩ = some (.string t6') ∧ wz.cell? ⟨b', o' + j * 10 + 7, none⟩ = some (.slice t7' t7l' t7c') ∧ wz.cell? ⟨b', o' + j * 10 + 8, none⟩ = some (.slice t8' t8l' t8c') ∧ wz.cell? ⟨b', o' + j * 10 + 9, none⟩ = some (.slice t9' t9l' t9c'))
              (exact FC.out _ (by first | assumption | exact Nw.refl _ | exact (Nw.refl _).drew))
              (first
                | (go_at_call 72; refine (CA.out _ (by first | assumption | exact Nw.refl _ | exact (Nw.refl _).drew)).mono ?_; rintro e5 w5 ⟨rfl, k5⟩; rw [DD.out]; have kk5 : Nw wr w5 := Nw.trans (by first | assumption | exact Nw.refl _ | exact (Nw.refl _).drew) k5; clear k5))
            go_wp2_with fail
            go_returns
            exact ⟨by rw [HR.out]; rfl, (K0.out.trans (Gk.out.trans Gj.out)).trans (by first | assumption | exact Nw.refl _ | exact (Nw.refl _).drew)⟩
        · have HR := Lib.hid (RR.out.symm.trans (dc_true ⟨rfl, HIE.out, take_done (k := j) (by rw [← E2.out]; omega) (by rw [← E2'.out]; omega) TJ.out⟩))
          go_wp2_with fail
          go_returns
          exact ⟨by rw [HR.out]; rfl, K0.out.trans (Gk.out.trans Gj.out)⟩
end Go.Proofs.Ytpopgnengimieaa
