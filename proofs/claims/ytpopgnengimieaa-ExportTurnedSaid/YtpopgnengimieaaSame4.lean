/- Are two functions one: the document's functions. -/
import Derived.Test.YtpopgnengimieaaSame2
import Derived.Deep.QuietTactic
import Derived.BigQuiet
import Derived.Deep.RegionHeld3
namespace Go.Proofs.Ytpopgnengimieaa
open Go.RowKit
set_option linter.unusedSimpArgs false
set_option linter.unusedVariables false
set_option maxRecDepth 100000 in
set_option maxHeartbeats 1000000 in
theorem sameFunc_any {B : Nat} {W : World} {d d' : Nat}
    (x : Fn1) (cs : List Value) (x' : Fn1) (cs' : List Value) (w : World) (hx : FnAt B W d x cs) (hx' : FnAt B W d' x' cs') (h : In B W w) :
    Calls Try.prog 73 #[.agg cs.toArray, .agg cs'.toArray] w (BoolPost w (dc (x = x'))) := by
  generalize hrr : dc (x = x') = rr
  obtain ⟨nm, wk, pa, lo, bd⟩ := x
  obtain ⟨nm', wk', pa', lo', bd'⟩ := x'
  obtain ⟨vb, rfl, _, _, _, hb⟩ := hx
  obtain ⟨vb', rfl, _, _, _, hb'⟩ := hx'
  obtain ⟨x1, m1, c1, rfl⟩ := hb.slice
  obtain ⟨x1', m1', c1', rfl⟩ := hb'.slice
  dsimp only at hb hb' ⊢
  have RR := Lib.hid hrr
  clear hrr
  have G := Lib.hid h
  have K0 := Lib.hid (show Nw w ((w.alloc (.cells #[.string nm, .bool wk, .int .i64 pa, .int .i64 lo, .slice x1 m1 c1] 67)).alloc (.cells #[.string nm', .bool wk', .int .i64 pa', .int .i64 lo', .slice x1' m1' c1'] 67)) from ((Nw.refl w).alloc _).alloc _)
  have BA := Lib.hid (fun (wz : World) (hz : Nw ((w.alloc (.cells #[.string nm, .bool wk, .int .i64 pa, .int .i64 lo, .slice x1 m1 c1] 67)).alloc (.cells #[.string nm', .bool wk', .int .i64 pa', .int .i64 lo', .slice x1' m1' c1'] 67)) wz) => (((Blk.new w [.string nm, .bool wk, .int .i64 pa, .int .i64 lo, .slice x1 m1 c1] 67).alloc (.cells #[.string nm', .bool wk', .int .i64 pa', .int .i64 lo', .slice x1' m1' c1'] 67)).nw hz).cell)
  have BB := Lib.hid (fun (wz : World) (hz : Nw ((w.alloc (.cells #[.string nm, .bool wk, .int .i64 pa, .int .i64 lo, .slice x1 m1 c1] 67)).alloc (.cells #[.string nm', .bool wk', .int .i64 pa', .int .i64 lo', .slice x1' m1' c1'] 67)) wz) => (show ∀ o, wz.cell? ⟨w.heap.size + 1, o, none⟩ = [.string nm', .bool wk', .int .i64 pa', .int .i64 lo', .slice x1' m1' c1'][o]? from by
    have e : (w.alloc (.cells #[.string nm, .bool wk, .int .i64 pa, .int .i64 lo, .slice x1 m1 c1] 67)).heap.size = w.heap.size + 1 := by simp
    have := ((Blk.new (w.alloc (.cells #[.string nm, .bool wk, .int .i64 pa, .int .i64 lo, .slice x1 m1 c1] 67)) [.string nm', .bool wk', .int .i64 pa', .int .i64 lo', .slice x1' m1' c1'] 67).nw hz).cell
    rw [e] at this; exact this))
  have cA := BA.out _ (Nw.refl _)
  have cB := BB.out _ (Nw.refl _)
  have CA4 := Lib.hid (fun (wz : World) (hz : Nw ((w.alloc (.cells #[.string nm, .bool wk, .int .i64 pa, .int .i64 lo, .slice x1 m1 c1] 67)).alloc (.cells #[.string nm', .bool wk', .int .i64 pa', .int .i64 lo', .slice x1' m1' c1'] 67)) wz) => (sameStats_any d d' bd _ bd' _ wz hb hb' ((G.out.nw K0.out).nw hz)).mono fun _ _ q => QPost.nw q)
  clear h hb hb'
  by_cases e0 : nm = nm'
  rotate_left
  · have hun : ¬ ((Fn1.mk nm wk pa lo bd : Fn1) = (Fn1.mk nm' wk' pa' lo' bd' : Fn1)) := by intro h; apply e0; injection h
    obtain ⟨ne1, ne2, ne3, ne4⟩ := str_ne e0
    clear e0
    have HR := Lib.hid (RR.out.symm.trans (dc_false hun))
    clear hun
    go_enter Try.func73, Try.ntmps73
    go_wp2_with fail
    go_returns
    exact ⟨by rw [HR.out]; rfl, K0.out.trans (Nw.refl _)⟩
  · subst e0
    by_cases e1 : wk = wk'
    rotate_left
    · have hun : ¬ ((Fn1.mk nm wk pa lo bd : Fn1) = (Fn1.mk nm wk' pa' lo' bd' : Fn1)) := by intro h; apply e1; injection h
      obtain ⟨ne1, ne2, ne3, ne4⟩ := bool_ne e1
      clear e1
      have HR := Lib.hid (RR.out.symm.trans (dc_false hun))
      clear hun
      go_enter Try.func73, Try.ntmps73
      go_wp2_with fail
      go_returns
      exact ⟨by rw [HR.out]; rfl, K0.out.trans (Nw.refl _)⟩
    · subst e1
      by_cases e2 : pa = pa'
      rotate_left
      · have hun : ¬ ((Fn1.mk nm wk pa lo bd : Fn1) = (Fn1.mk nm wk pa' lo' bd' : Fn1)) := by intro h; apply e2; injection h
        obtain ⟨ne1, ne2, ne3, ne4⟩ := int_ne e2
        clear e2
        have HR := Lib.hid (RR.out.symm.trans (dc_false hun))
        clear hun
        go_enter Try.func73, Try.ntmps73
        go_wp2_with fail
        go_returns
        exact ⟨by rw [HR.out]; rfl, K0.out.trans (Nw.refl _)⟩
      · subst e2
        by_cases e3 : lo = lo'
        rotate_left
        · have hun : ¬ ((Fn1.mk nm wk pa lo bd : Fn1) = (Fn1.mk nm wk pa lo' bd' : Fn1)) := by intro h; apply e3; injection h
          obtain ⟨ne1, ne2, ne3, ne4⟩ := int_ne e3
          clear e3
          have HR := Lib.hid (RR.out.symm.trans (dc_false hun))
          clear hun
          go_enter Try.func73, Try.ntmps73
          go_wp2_with fail
          go_returns
          exact ⟨by rw [HR.out]; rfl, K0.out.trans (Nw.refl _)⟩
        · subst e3
          by_cases e4 : bd = bd'
          rotate_left
          · have hun : ¬ ((Fn1.mk nm wk pa lo bd : Fn1) = (Fn1.mk nm wk pa lo bd' : Fn1)) := by intro h; apply e4; injection h
            have D4 := Lib.hid (dc_false e4)
            clear e4
            have HR := Lib.hid (RR.out.symm.trans (dc_false hun))
            clear hun
            go_enter Try.func73, Try.ntmps73
            go_wp2_with fail
            refine (CA4.out _ (Nw.refl _)).mono ?_
            rintro e4 w4 ⟨rfl, k4⟩
            rw [D4.out]
            have N4 := Lib.hid (Nw.trans (Nw.refl _) k4)
            clear k4 cA cB
            have cA := BA.out _ N4.out
            have cB := BB.out _ N4.out
            go_wp2_with fail
            go_returns
            exact ⟨by rw [HR.out]; rfl, K0.out.trans (N4.out)⟩
          · have D4 := Lib.hid (dc_true e4)
            subst e4
            have HR := Lib.hid (RR.out.symm.trans (dc_true (rfl : (Fn1.mk nm wk pa lo bd : Fn1) = (Fn1.mk nm wk pa lo bd : Fn1))))
            go_enter Try.func73, Try.ntmps73
            go_wp2_with fail
            refine (CA4.out _ (Nw.refl _)).mono ?_
            rintro e4 w4 ⟨rfl, k4⟩
            rw [D4.out]
            have N4 := Lib.hid (Nw.trans (Nw.refl _) k4)
            clear k4 cA cB
            have cA := BA.out _ N4.out
            have cB := BB.out _ N4.out
            go_wp2_with fail
            go_returns
            exact ⟨by rw [HR.out]; rfl, K0.out.trans (N4.out)⟩
set_option maxRecDepth 100000 in
set_option maxHeartbeats 1000000 in
theorem sameFuncs_any {B : Nat} {W : World} {d d' : Nat} 
    (l : List Fn1) (v : Value) (l' : List Fn1) (v' : Value) (w : World) (hl : SlB B W 5 (FnAt B W d) l v) (hl' : SlB B W 5 (FnAt B W d') l' v') (h : In B W w) :
    Calls Try.prog 42 #[v, v'] w (BoolPost w (dc (l = l'))) := by
  obtain ⟨x, c, rfl, hlen, hel⟩ := hl
  obtain ⟨x', c', rfl, hlen', hel'⟩ := hl'
  have G := Lib.hid h
  have HE := Lib.hid hel
  have HE' := Lib.hid hel'

  obtain ⟨n, e1⟩ : ∃ n, n = l.length := ⟨_, rfl⟩
  obtain ⟨n', e1'⟩ : ∃ n, n = l'.length := ⟨_, rfl⟩
  rw [← e1] at hlen ⊢
  rw [← e1'] at hlen' ⊢
  have E1 := Lib.hid e1
  have E1' := Lib.hid e1'
  clear h hel hel' e1 e1'
  by_cases hnn : n = n'
  · subst hnn
    go_enter Try.func42, Try.ntmps42
    go_wp2_with fail
    go_loopw [5] (fun i wr => ∃ k : Nat, k ≤ n ∧ i = .int .i64 k ∧ Nw w wr ∧ l.take k = l'.take k) (fun i _ => n - (intOf i).toNat)
    case atStart => exact ⟨0, Nat.zero_le _, rfl, Nw.refl _, by simp⟩
    case round =>
      obtain ⟨k, hk0, rfl, g, htk⟩ := hrel
      have Gk := Lib.hid g
      have TK := Lib.hid htk
      clear g htk
      by_cases hlt : k < n
      · have hkl : k < l.length := by rw [← E1.out]; exact hlt
        have hkl' : k < l'.length := by rw [← E1'.out]; exact hlt
        have hq0 : (0 : Int) ≤ (k : Int) := by omega
        have hq1 : (k : Int) < (n : Int) := by omega
        obtain ⟨b, o, rfl, hb, he⟩ := HE.out (by intro e; rw [e] at hkl; simp at hkl)
        obtain ⟨b', o', rfl, hb', he'⟩ := HE'.out (by intro e; rw [e] at hkl'; simp at hkl')
        obtain ⟨cs, hcl, hcc, hce⟩ := he k hkl
        obtain ⟨cs', hcl', hcc', hce'⟩ := he' k hkl'
        have HQ := Lib.hid (fun (e : l[k]'hkl = l'[k]'hkl') => take_eq hkl hkl' TK.out e)
        have HN := Lib.hid (fun (e : ¬ l[k]'hkl = l'[k]'hkl') => dc_false (take_ne hkl hkl' e))
        clear he he'
        generalize l[k]'hkl = y at *
        generalize l'[k]'hkl' = y' at *
        obtain ⟨t0, t1, t2, t3, t4, t4l, t4c, rfl⟩ := shape_Fn hce
        obtain ⟨t0', t1', t2', t3', t4', t4l', t4c', rfl⟩ := shape_Fn hce'
        have F0 := Lib.hid (fun (wz : World) (hz : In B W wz) (j : Nat) (hj : j < 5) => (hz.bel.cell (p := ⟨b, o + k * 5 + j, none⟩) hb).trans (hcc j (by simpa using hj)))
        have F0' := Lib.hid (fun (wz : World) (hz : In B W wz) (j : Nat) (hj : j < 5) => (hz.bel.cell (p := ⟨b', o' + k * 5 + j, none⟩) hb').trans (hcc' j (by simpa using hj)))
        have FC := Lib.hid (fun (wz : World) (hz : Nw wr wz) => (⟨hz, F0.out wz ((G.out.nw Gk.out).nw hz) 0 (by omega), F0.out wz ((G.out.nw Gk.out).nw hz) 1 (by omega), F0.out wz ((G.out.nw Gk.out).nw hz) 2 (by omega), F0.out wz ((G.out.nw Gk.out).nw hz) 3 (by omega), F0.out wz ((G.out.nw Gk.out).nw hz) 4 (by omega), F0'.out wz ((G.out.nw Gk.out).nw hz) 0 (by omega), F0'.out wz ((G.out.nw Gk.out).nw hz) 1 (by omega), F0'.out wz ((G.out.nw Gk.out).nw hz) 2 (by omega), F0'.out wz ((G.out.nw Gk.out).nw hz) 3 (by omega), F0'.out wz ((G.out.nw Gk.out).nw hz) 4 (by omega)⟩ : Nw wr wz ∧ wz.cell? ⟨b, o + k * 5, none⟩ = some (.string t0) ∧ wz.cell? ⟨b, o + k * 5 + 1, none⟩ = some (.bool t1) ∧ wz.cell? ⟨b, o + k * 5 + 2, none⟩ = some (.int .i64 t2) ∧ wz.cell? ⟨b, o + k * 5 + 3, none⟩ = some (.int .i64 t3) ∧ wz.cell? ⟨b, o + k * 5 + 4, none⟩ = some (.slice t4 t4l t4c) ∧ wz.cell? ⟨b', o' + k * 5, none⟩ = some (.string t0') ∧ wz.cell? ⟨b', o' + k * 5 + 1, none⟩ = some (.bool t1') ∧ wz.cell? ⟨b', o' + k * 5 + 2, none⟩ = some (.int .i64 t2') ∧ wz.cell? ⟨b', o' + k * 5 + 3, none⟩ = some (.int .i64 t3') ∧ wz.cell? ⟨b', o' + k * 5 + 4, none⟩ = some (.slice t4' t4l' t4c')))
        have CA0 := Lib.hid (fun (wz : World) (hz : Nw wr wz) => sameFunc_any y _ y' _ wz hce hce' ((G.out.nw Gk.out).nw hz))
        clear hcc hcc' hce hce'
        by_cases e0 : y = y'
        rotate_left
        · have hun : ¬ (y = y') := by intro h; apply e0; exact h
          have D0 := Lib.hid (dc_false e0)
          clear e0
          have HR := Lib.hid (HN.out hun)
          clear hun
          go_wp2_with fail
          go_region_held3 (fun wz => Nw wr wz ∧ wz.cell? ⟨b, o + k * 5, none⟩ = some (.string t0) ∧ wz.cell? ⟨b, o + k * 5 + 1, none⟩ = some (.bool t1) ∧ wz.cell? ⟨b, o + k * 5 + 2, none⟩ = some (.int .i64 t2) ∧ wz.cell? ⟨b, o + k * 5 + 3, none⟩ = some (.int .i64 t3) ∧ wz.cell? ⟨b, o + k * 5 + 4, none⟩ = some (.slice t4 t4l t4c) ∧ wz.cell? ⟨b', o' + k * 5, none⟩ = some (.string t0') ∧ wz.cell? ⟨b', o' + k * 5 + 1, none⟩ = some (.bool t1') ∧ wz.cell? ⟨b', o' + k * 5 + 2, none⟩ = some (.int .i64 t2') ∧ wz.cell? ⟨b', o' + k * 5 + 3, none⟩ = some (.int .i64 t3') ∧ wz.cell? ⟨b', o' + k * 5 + 4, none⟩ = some (.slice t4' t4l' t4c'))
            (exact FC.out _ (by first | assumption | exact Nw.refl _ | exact (Nw.refl _).drew))
            (first
              | (go_at_call 73; refine (CA0.out _ (by first | assumption | exact Nw.refl _ | exact (Nw.refl _).drew)).mono ?_; rintro e0 w0 ⟨rfl, k0⟩; rw [D0.out]; have kk0 : Nw wr w0 := Nw.trans (by first | assumption | exact Nw.refl _ | exact (Nw.refl _).drew) k0; clear k0))
          go_wp2_with fail
          go_returns
          exact ⟨by rw [HR.out]; rfl, Gk.out.trans (by first | assumption | exact Nw.refl _ | exact (Nw.refl _).drew)⟩
        · have D0 := Lib.hid (dc_true e0)
          subst e0
          have HR := Lib.hid (HQ.out rfl)
          go_wp2_with fail
          go_region_held3 (fun wz => Nw wr wz ∧ wz.cell? ⟨b, o + k * 5, none⟩ = some (.string t0) ∧ wz.cell? ⟨b, o + k * 5 + 1, none⟩ = some (.bool t1) ∧ wz.cell? ⟨b, o + k * 5 + 2, none⟩ = some (.int .i64 t2) ∧ wz.cell? ⟨b, o + k * 5 + 3, none⟩ = some (.int .i64 t3) ∧ wz.cell? ⟨b, o + k * 5 + 4, none⟩ = some (.slice t4 t4l t4c) ∧ wz.cell? ⟨b', o' + k * 5, none⟩ = some (.string t0') ∧ wz.cell? ⟨b', o' + k * 5 + 1, none⟩ = some (.bool t1') ∧ wz.cell? ⟨b', o' + k * 5 + 2, none⟩ = some (.int .i64 t2') ∧ wz.cell? ⟨b', o' + k * 5 + 3, none⟩ = some (.int .i64 t3') ∧ wz.cell? ⟨b', o' + k * 5 + 4, none⟩ = some (.slice t4' t4l' t4c'))
            (exact FC.out _ (by first | assumption | exact Nw.refl _ | exact (Nw.refl _).drew))
            (first
              | (go_at_call 73; refine (CA0.out _ (by first | assumption | exact Nw.refl _ | exact (Nw.refl _).drew)).mono ?_; rintro e0 w0 ⟨rfl, k0⟩; rw [D0.out]; have kk0 : Nw wr w0 := Nw.trans (by first | assumption | exact Nw.refl _ | exact (Nw.refl _).drew) k0; clear k0))
          go_wp2_with fail
          go_roundw
          case rel => exact ⟨k + 1, by omega, by go_num, Gk.out.trans (by first | assumption | exact Nw.refl _ | exact (Nw.refl _).drew), HR.out⟩
          case measure => simp [intOf]; omega
      · have HR := Lib.hid (dc_true (take_done (k := k) (by rw [← E1.out]; omega) (by rw [← E1'.out]; omega) TK.out))
        go_wp2_with fail
        go_returns
        exact ⟨by rw [HR.out]; rfl, Gk.out⟩
  · have HR := Lib.hid (dc_false (len_ne (l := l) (m := l') (by rw [← E1.out, ← E1'.out]; exact hnn)))
    obtain ⟨ne1, ne2, ne3, ne4⟩ := nat_ne hnn
    go_enter Try.func42, Try.ntmps42
    go_wp2_with fail
    go_returns
    exact ⟨by rw [HR.out]; rfl, Nw.refl _⟩
end Go.Proofs.Ytpopgnengimieaa
