/- Are two types, fields, declarations, functions one: the document's functions. -/
import Derived.Test.YtpopgnengimieaaSame1
import Derived.Deep.QuietTactic
import Derived.BigQuiet
import Derived.Deep.RegionHeld3
namespace Go.Proofs.Ytpopgnengimieaa
open Go.RowKit
set_option linter.unusedSimpArgs false
set_option linter.unusedVariables false
set_option maxRecDepth 100000 in
set_option maxHeartbeats 1000000 in
theorem all_of {B : Nat} {W : World} {d d' : Nat} 
    (one : ∀ (x : Ty) (cs : List Value) (x' : Ty) (cs' : List Value) (w : World), TyAt B W d x cs → TyAt B W d' x' cs' → In B W w → Calls Try.prog 97 #[.agg cs.toArray, .agg cs'.toArray] w (BoolPost w (dc (x = x'))))
    (l : List Ty) (v : Value) (l' : List Ty) (v' : Value) (w : World) (hl : SlB B W 5 (TyAt B W d) l v) (hl' : SlB B W 5 (TyAt B W d') l' v') (h : In B W w) :
    Calls Try.prog 108 #[v, v'] w (BoolPost w (dc (l = l'))) := by
  obtain ⟨x, c, rfl, hlen, hel⟩ := hl
  obtain ⟨x', c', rfl, hlen', hel'⟩ := hl'
  have G := Lib.hid h
  have HE := Lib.hid hel
  have HE' := Lib.hid hel'
  have ONE := Lib.hid one
  clear one
  obtain ⟨n, e1⟩ : ∃ n, n = l.length := ⟨_, rfl⟩
  obtain ⟨n', e1'⟩ : ∃ n, n = l'.length := ⟨_, rfl⟩
  rw [← e1] at hlen ⊢
  rw [← e1'] at hlen' ⊢
  have E1 := Lib.hid e1
  have E1' := Lib.hid e1'
  clear h hel hel' e1 e1'
  by_cases hnn : n = n'
  · subst hnn
    go_enter Try.func108, Try.ntmps108
    go_wp2_with fail
    go_loopw [5] (fun i wr => ∃ k : Nat, k ≤ n ∧ i = .int .i64 k ∧ Nw w wr ∧ l.take k = l'.take k) (fun i _ => n - (intOf i).toNat)
    case atStart => exact ⟨0, Nat.zero_le _, rfl, Nw.refl _, by simp⟩
    case round =>
      obtain ⟨k, hk0, rfl, g, htk⟩ := hrel
      have Gk := Lib.hid g
      have TK := Lib.hid htk
      clear g htk
      by_cases hlt : k < n
      · have hkl : k < l.length := by rw [← E1.out]; exact hlt
        have hkl' : k < l'.length := by rw [← E1'.out]; exact hlt
        have hq0 : (0 : Int) ≤ (k : Int) := by omega
        have hq1 : (k : Int) < (n : Int) := by omega
        obtain ⟨b, o, rfl, hb, he⟩ := HE.out (by intro e; rw [e] at hkl; simp at hkl)
        obtain ⟨b', o', rfl, hb', he'⟩ := HE'.out (by intro e; rw [e] at hkl'; simp at hkl')
        obtain ⟨cs, hcl, hcc, hce⟩ := he k hkl
        obtain ⟨cs', hcl', hcc', hce'⟩ := he' k hkl'
        have HQ := Lib.hid (fun (e : l[k]'hkl = l'[k]'hkl') => take_eq hkl hkl' TK.out e)
        have HN := Lib.hid (fun (e : ¬ l[k]'hkl = l'[k]'hkl') => dc_false (take_ne hkl hkl' e))
        clear he he'
        generalize l[k]'hkl = y at *
        generalize l'[k]'hkl' = y' at *
        obtain ⟨t0, t1, t2, t3, t3l, t3c, t4, t4l, t4c, rfl⟩ := shape_Ty hce
        obtain ⟨t0', t1', t2', t3', t3l', t3c', t4', t4l', t4c', rfl⟩ := shape_Ty hce'
        have F0 := Lib.hid (fun (wz : World) (hz : In B W wz) (j : Nat) (hj : j < 5) => (hz.bel.cell (p := ⟨b, o + k * 5 + j, none⟩) hb).trans (hcc j (by simpa using hj)))
        have F0' := Lib.hid (fun (wz : World) (hz : In B W wz) (j : Nat) (hj : j < 5) => (hz.bel.cell (p := ⟨b', o' + k * 5 + j, none⟩) hb').trans (hcc' j (by simpa using hj)))
        have FC := Lib.hid (fun (wz : World) (hz : Nw wr wz) => (⟨hz, F0.out wz ((G.out.nw Gk.out).nw hz) 0 (by omega), F0.out wz ((G.out.nw Gk.out).nw hz) 1 (by omega), F0.out wz ((G.out.nw Gk.out).nw hz) 2 (by omega), F0.out wz ((G.out.nw Gk.out).nw hz) 3 (by omega), F0.out wz ((G.out.nw Gk.out).nw hz) 4 (by omega), F0'.out wz ((G.out.nw Gk.out).nw hz) 0 (by omega), F0'.out wz ((G.out.nw Gk.out).nw hz) 1 (by omega), F0'.out wz ((G.out.nw Gk.out).nw hz) 2 (by omega), F0'.out wz ((G.out.nw Gk.out).nw hz) 3 (by omega), F0'.out wz ((G.out.nw Gk.out).nw hz) 4 (by omega)⟩ : Nw wr wz ∧ wz.cell? ⟨b, o + k * 5, none⟩ = some (.int .i64 t0) ∧ wz.cell? ⟨b, o + k * 5 + 1, none⟩ = some (.string t1) ∧ wz.cell? ⟨b, o + k * 5 + 2, none⟩ = some (.string t2) ∧ wz.cell? ⟨b, o + k * 5 + 3, none⟩ = some (.slice t3 t3l t3c) ∧ wz.cell? ⟨b, o + k * 5 + 4, none⟩ = some (.slice t4 t4l t4c) ∧ wz.cell? ⟨b', o' + k * 5, none⟩ = some (.int .i64 t0') ∧ wz.cell? ⟨b', o' + k * 5 + 1, none⟩ = some (.string t1') ∧ wz.cell? ⟨b', o' + k * 5 + 2, none⟩ = some (.string t2') ∧ wz.cell? ⟨b', o' + k * 5 + 3, none⟩ = some (.slice t3' t3l' t3c') ∧ wz.cell? ⟨b', o' + k * 5 + 4, none⟩ = some (.slice t4' t4l' t4c')))
        have CA0 := Lib.hid (fun (wz : World) (hz : Nw wr wz) => ONE.out y _ y' _ wz hce hce' ((G.out.nw Gk.out).nw hz))
        clear hcc hcc' hce hce'
        by_cases e0 : y = y'
        rotate_left
        · have hun : ¬ (y = y') := by intro h; apply e0; exact h
          have D0 := Lib.hid (dc_false e0)
          clear e0
          have HR := Lib.hid (HN.out hun)
          clear hun
          go_wp2_with fail
          go_region_held3 (fun wz => Nw wr wz ∧ wz.cell? ⟨b, o + k * 5, none⟩ = some (.int .i64 t0) ∧ wz.cell? ⟨b, o + k * 5 + 1, none⟩ = some (.string t1) ∧ wz.cell? ⟨b, o + k * 5 + 2, none⟩ = some (.string t2) ∧ wz.cell? ⟨b, o + k * 5 + 3, none⟩ = some (.slice t3 t3l t3c) ∧ wz.cell? ⟨b, o + k * 5 + 4, none⟩ = some (.slice t4 t4l t4c) ∧ wz.cell? ⟨b', o' + k * 5, none⟩ = some (.int .i64 t0') ∧ wz.cell? ⟨b', o' + k * 5 + 1, none⟩ = some (.string t1') ∧ wz.cell? ⟨b', o' + k * 5 + 2, none⟩ = some (.string t2') ∧ wz.cell? ⟨b', o' + k * 5 + 3, none⟩ = some (.slice t3' t3l' t3c') ∧ wz.cell? ⟨b', o' + k * 5 + 4, none⟩ = some (.slice t4' t4l' t4c'))
            (exact FC.out _ (by first | assumption | exact Nw.refl _ | exact (Nw.refl _).drew))
            (first
              | (go_at_call 97; refine (CA0.out _ (by first | assumption | exact Nw.refl _ | exact (Nw.refl _).drew)).mono ?_; rintro e0 w0 ⟨rfl, k0⟩; rw [D0.out]; have kk0 : Nw wr w0 := Nw.trans (by first | assumption | exact Nw.refl _ | exact (Nw.refl _).drew) k0; clear k0))
          go_wp2_with fail
          go_returns
          exact ⟨by rw [HR.out]; rfl, Gk.out.trans (by first | assumption | exact Nw.refl _ | exact (Nw.refl _).drew)⟩
        · have D0 := Lib.hid (dc_true e0)
          subst e0
          have HR := Lib.hid (HQ.out rfl)
          go_wp2_with fail
          go_region_held3 (fun wz => Nw wr wz ∧ wz.cell? ⟨b, o + k * 5, none⟩ = some (.int .i64 t0) ∧ wz.cell? ⟨b, o + k * 5 + 1, none⟩ = some (.string t1) ∧ wz.cell? ⟨b, o + k * 5 + 2, none⟩ = some (.string t2) ∧ wz.cell? ⟨b, o + k * 5 + 3, none⟩ = some (.slice t3 t3l t3c) ∧ wz.cell? ⟨b, o + k * 5 + 4, none⟩ = some (.slice t4 t4l t4c) ∧ wz.cell? ⟨b', o' + k * 5, none⟩ = some (.int .i64 t0') ∧ wz.cell? ⟨b', o' + k * 5 + 1, none⟩ = some (.string t1') ∧ wz.cell? ⟨b', o' + k * 5 + 2, none⟩ = some (.string t2') ∧ wz.cell? ⟨b', o' + k * 5 + 3, none⟩ = some (.slice t3' t3l' t3c') ∧ wz.cell? ⟨b', o' + k * 5 + 4, none⟩ = some (.slice t4' t4l' t4c'))
            (exact FC.out _ (by first | assumption | exact Nw.refl _ | exact (Nw.refl _).drew))
            (first
              | (go_at_call 97; refine (CA0.out _ (by first | assumption | exact Nw.refl _ | exact (Nw.refl _).drew)).mono ?_; rintro e0 w0 ⟨rfl, k0⟩; rw [D0.out]; have kk0 : Nw wr w0 := Nw.trans (by first | assumption | exact Nw.refl _ | exact (Nw.refl _).drew) k0; clear k0))
          go_wp2_with fail
          go_roundw
          case rel => exact ⟨k + 1, by omega, by go_num, Gk.out.trans (by first | assumption | exact Nw.refl _ | exact (Nw.refl _).drew), HR.out⟩
          case measure => simp [intOf]; omega
      · have HR := Lib.hid (dc_true (take_done (k := k) (by rw [← E1.out]; omega) (by rw [← E1'.out]; omega) TK.out))
        go_wp2_with fail
        go_returns
        exact ⟨by rw [HR.out]; rfl, Gk.out⟩
  · have HR := Lib.hid (dc_false (len_ne (l := l) (m := l') (by rw [← E1.out, ← E1'.out]; exact hnn)))
    obtain ⟨ne1, ne2, ne3, ne4⟩ := nat_ne hnn
    go_enter Try.func108, Try.ntmps108
    go_wp2_with fail
    go_returns
    exact ⟨by rw [HR.out]; rfl, Nw.refl _⟩
set_option maxRecDepth 100000 in
set_option maxHeartbeats 1000000 in
theorem same_of {B : Nat} {W : World} {d d' : Nat}
    (ih : ∀ (x : Ty) (cs : List Value) (x' : Ty) (cs' : List Value) (w : World), TyAt B W d x cs → TyAt B W d' x' cs' → In B W w → Calls Try.prog 97 #[.agg cs.toArray, .agg cs'.toArray] w (BoolPost w (dc (x = x'))))
    (x : Ty) (cs : List Value) (x' : Ty) (cs' : List Value) (w : World) (hx : TyAt B W (d + 1) x cs) (hx' : TyAt B W (d' + 1) x' cs') (h : In B W w) :
    Calls Try.prog 97 #[.agg cs.toArray, .agg cs'.toArray] w (BoolPost w (dc (x = x'))) := by
  generalize hrr : dc (x = x') = rr
  have AL := Lib.hid (fun (wz : World) (l : List Ty) (v : Value) (l' : List Ty) (v' : Value) (hl : SlB B W 5 (TyAt B W d) l v) (hl' : SlB B W 5 (TyAt B W d') l' v') (hz : In B W wz) => all_of ih l v l' v' wz hl hl' hz)
  clear ih
  obtain ⟨kd, pk, nm, la, lr⟩ := x
  obtain ⟨kd', pk', nm', la', lr'⟩ := x'
  obtain ⟨va, vr, rfl, _, _, _, ha, hr⟩ := hx
  obtain ⟨va', vr', rfl, _, _, _, ha', hr'⟩ := hx'
  obtain ⟨x1, m1, c1, rfl⟩ := ha.slice
  obtain ⟨x2, m2, c2, rfl⟩ := hr.slice
  obtain ⟨x1', m1', c1', rfl⟩ := ha'.slice
  obtain ⟨x2', m2', c2', rfl⟩ := hr'.slice
  have RR := Lib.hid hrr
  clear hrr
  have G := Lib.hid h
  have K0 := Lib.hid (show Nw w ((w.alloc (.cells #[.int .i64 kd, .string pk, .string nm, .slice x1 m1 c1, .slice x2 m2 c2] 41)).alloc (.cells #[.int .i64 kd', .string pk', .string nm', .slice x1' m1' c1', .slice x2' m2' c2'] 41)) from ((Nw.refl w).alloc _).alloc _)
  have BA := Lib.hid (fun (wz : World) (hz : Nw ((w.alloc (.cells #[.int .i64 kd, .string pk, .string nm, .slice x1 m1 c1, .slice x2 m2 c2] 41)).alloc (.cells #[.int .i64 kd', .string pk', .string nm', .slice x1' m1' c1', .slice x2' m2' c2'] 41)) wz) => (((Blk.new w [.int .i64 kd, .string pk, .string nm, .slice x1 m1 c1, .slice x2 m2 c2] 41).alloc (.cells #[.int .i64 kd', .string pk', .string nm', .slice x1' m1' c1', .slice x2' m2' c2'] 41)).nw hz).cell)
  have BB := Lib.hid (fun (wz : World) (hz : Nw ((w.alloc (.cells #[.int .i64 kd, .string pk, .string nm, .slice x1 m1 c1, .slice x2 m2 c2] 41)).alloc (.cells #[.int .i64 kd', .string pk', .string nm', .slice x1' m1' c1', .slice x2' m2' c2'] 41)) wz) => (show ∀ o, wz.cell? ⟨w.heap.size + 1, o, none⟩ = [.int .i64 kd', .string pk', .string nm', .slice x1' m1' c1', .slice x2' m2' c2'][o]? from by
    have e : (w.alloc (.cells #[.int .i64 kd, .string pk, .string nm, .slice x1 m1 c1, .slice x2 m2 c2] 41)).heap.size = w.heap.size + 1 := by simp
    have := ((Blk.new (w.alloc (.cells #[.int .i64 kd, .string pk, .string nm, .slice x1 m1 c1, .slice x2 m2 c2] 41)) [.int .i64 kd', .string pk', .string nm', .slice x1' m1' c1', .slice x2' m2' c2'] 41).nw hz).cell
    rw [e] at this; exact this))
  have cA := BA.out _ (Nw.refl _)
  have cB := BB.out _ (Nw.refl _)
  have CA3 := Lib.hid (fun (wz : World) (hz : Nw ((w.alloc (.cells #[.int .i64 kd, .string pk, .string nm, .slice x1 m1 c1, .slice x2 m2 c2] 41)).alloc (.cells #[.int .i64 kd', .string pk', .string nm', .slice x1' m1' c1', .slice x2' m2' c2'] 41)) wz) => AL.out wz la _ la' _ ha ha' ((G.out.nw K0.out).nw hz))
  have CA4 := Lib.hid (fun (wz : World) (hz : Nw ((w.alloc (.cells #[.int .i64 kd, .string pk, .string nm, .slice x1 m1 c1, .slice x2 m2 c2] 41)).alloc (.cells #[.int .i64 kd', .string pk', .string nm', .slice x1' m1' c1', .slice x2' m2' c2'] 41)) wz) => AL.out wz lr _ lr' _ hr hr' ((G.out.nw K0.out).nw hz))
  clear h ha ha' hr hr'
  by_cases e0 : kd = kd'
  rotate_left
  · have hun : ¬ ((Ty.mk kd pk nm la lr : Ty) = (Ty.mk kd' pk' nm' la' lr' : Ty)) := by intro h; apply e0; injection h
    obtain ⟨ne1, ne2, ne3, ne4⟩ := int_ne e0
    clear e0
    have HR := Lib.hid (RR.out.symm.trans (dc_false hun))
    clear hun
    go_enter Try.func97, Try.ntmps97
    go_wp2_with fail
    go_returns
    exact ⟨by rw [HR.out]; rfl, K0.out.trans (Nw.refl _)⟩
  · subst e0
    by_cases e1 : pk = pk'
    rotate_left
    · have hun : ¬ ((Ty.mk kd pk nm la lr : Ty) = (Ty.mk kd pk' nm' la' lr' : Ty)) := by intro h; apply e1; injection h
      obtain ⟨ne1, ne2, ne3, ne4⟩ := str_ne e1
      clear e1
      have HR := Lib.hid (RR.out.symm.trans (dc_false hun))
      clear hun
      go_enter Try.func97, Try.ntmps97
      go_wp2_with fail
      go_returns
      exact ⟨by rw [HR.out]; rfl, K0.out.trans (Nw.refl _)⟩
    · subst e1
      by_cases e2 : nm = nm'
      rotate_left
      · have hun : ¬ ((Ty.mk kd pk nm la lr : Ty) = (Ty.mk kd pk nm' la' lr' : Ty)) := by intro h; apply e2; injection h
        obtain ⟨ne1, ne2, ne3, ne4⟩ := str_ne e2
        clear e2
        have HR := Lib.hid (RR.out.symm.trans (dc_false hun))
        clear hun
        go_enter Try.func97, Try.ntmps97
        go_wp2_with fail
        go_returns
        exact ⟨by rw [HR.out]; rfl, K0.out.trans (Nw.refl _)⟩
      · subst e2
        by_cases e3 : la = la'
        rotate_left
        · have hun : ¬ ((Ty.mk kd pk nm la lr : Ty) = (Ty.mk kd pk nm la' lr' : Ty)) := by intro h; apply e3; injection h
          have D3 := Lib.hid (dc_false e3)
          clear e3
          have HR := Lib.hid (RR.out.symm.trans (dc_false hun))
          clear hun
          go_enter Try.func97, Try.ntmps97
          go_wp2_with fail
          refine (CA3.out _ (Nw.refl _)).mono ?_
          rintro e3 w3 ⟨rfl, k3⟩
          rw [D3.out]
          have N3 := Lib.hid (Nw.trans (Nw.refl _) k3)
          clear k3 cA cB
          have cA := BA.out _ N3.out
          have cB := BB.out _ N3.out
          go_wp2_with fail
          go_returns
          exact ⟨by rw [HR.out]; rfl, K0.out.trans (N3.out)⟩
        · have D3 := Lib.hid (dc_true e3)
          subst e3
          by_cases e4 : lr = lr'
          rotate_left
          · have hun : ¬ ((Ty.mk kd pk nm la lr : Ty) = (Ty.mk kd pk nm la lr' : Ty)) := by intro h; apply e4; injection h
            have D4 := Lib.hid (dc_false e4)
            clear e4
            have HR := Lib.hid (RR.out.symm.trans (dc_false hun))
            clear hun
            go_enter Try.func97, Try.ntmps97
            go_wp2_with fail
            refine (CA3.out _ (Nw.refl _)).mono ?_
            rintro e3 w3 ⟨rfl, k3⟩
            rw [D3.out]
            have N3 := Lib.hid (Nw.trans (Nw.refl _) k3)
            clear k3 cA cB
            have cA := BA.out _ N3.out
            have cB := BB.out _ N3.out
            go_wp2_with fail
            refine (CA4.out _ (N3.out)).mono ?_
            rintro e4 w4 ⟨rfl, k4⟩
            rw [D4.out]
            have N4 := Lib.hid (Nw.trans (N3.out) k4)
            clear k4 cA cB
            have cA := BA.out _ N4.out
            have cB := BB.out _ N4.out
            go_wp2_with fail
            go_returns
            exact ⟨by rw [HR.out]; rfl, K0.out.trans (N4.out)⟩
          · have D4 := Lib.hid (dc_true e4)
            subst e4
            have HR := Lib.hid (RR.out.symm.trans (dc_true (rfl : (Ty.mk kd pk nm la lr : Ty) = (Ty.mk kd pk nm la lr : Ty))))
            go_enter Try.func97, Try.ntmps97
            go_wp2_with fail
            refine (CA3.out _ (Nw.refl _)).mono ?_
            rintro e3 w3 ⟨rfl, k3⟩
            rw [D3.out]
            have N3 := Lib.hid (Nw.trans (Nw.refl _) k3)
            clear k3 cA cB
            have cA := BA.out _ N3.out
            have cB := BB.out _ N3.out
            go_wp2_with fail
            refine (CA4.out _ (N3.out)).mono ?_
            rintro e4 w4 ⟨rfl, k4⟩
            rw [D4.out]
            have N4 := Lib.hid (Nw.trans (N3.out) k4)
            clear k4 cA cB
            have cA := BA.out _ N4.out
            have cB := BB.out _ N4.out
            go_wp2_with fail
            go_returns
            exact ⟨by rw [HR.out]; rfl, K0.out.trans (N4.out)⟩
theorem same_any {B : Nat} {W : World} (d : Nat) : ∀ (d' : Nat) (x : Ty) (cs : List Value) (x' : Ty) (cs' : List Value) (w : World), TyAt B W d x cs → TyAt B W d' x' cs' → In B W w → Calls Try.prog 97 #[.agg cs.toArray, .agg cs'.toArray] w (BoolPost w (dc (x = x'))) := by
  induction d with
  | zero => intro _ _ _ _ _ _ h; exact h.elim
  | succ d ih =>
    intro d' x cs x' cs' w h h'
    cases d' with
    | zero => exact h'.elim
    | succ d' => exact same_of (ih d') x cs x' cs' w h h'
set_option maxRecDepth 100000 in
set_option maxHeartbeats 1000000 in
theorem sameFields_any {B : Nat} {W : World} {d d' : Nat} 
    (l : List Fd) (v : Value) (l' : List Fd) (v' : Value) (w : World) (hl : SlB B W 6 (FdAt B W d) l v) (hl' : SlB B W 6 (FdAt B W d') l' v') (h : In B W w) :
    Calls Try.prog 98 #[v, v'] w (BoolPost w (dc (l = l'))) := by
  obtain ⟨x, c, rfl, hlen, hel⟩ := hl
  obtain ⟨x', c', rfl, hlen', hel'⟩ := hl'
  have G := Lib.hid h
  have HE := Lib.hid hel
  have HE' := Lib.hid hel'

  obtain ⟨n, e1⟩ : ∃ n, n = l.length := ⟨_, rfl⟩
  obtain ⟨n', e1'⟩ : ∃ n, n = l'.length := ⟨_, rfl⟩
  rw [← e1] at hlen ⊢
  rw [← e1'] at hlen' ⊢
  have E1 := Lib.hid e1
  have E1' := Lib.hid e1'
  clear h hel hel' e1 e1'
  by_cases hnn : n = n'
  · subst hnn
    go_enter Try.func98, Try.ntmps98
    go_wp2_with fail
    go_loopw [5] (fun i wr => ∃ k : Nat, k ≤ n ∧ i = .int .i64 k ∧ Nw w wr ∧ l.take k = l'.take k) (fun i _ => n - (intOf i).toNat)
    case atStart => exact ⟨0, Nat.zero_le _, rfl, Nw.refl _, by simp⟩
    case round =>
      obtain ⟨k, hk0, rfl, g, htk⟩ := hrel
      have Gk := Lib.hid g
      have TK := Lib.hid htk
      clear g htk
      by_cases hlt : k < n
      · have hkl : k < l.length := by rw [← E1.out]; exact hlt
        have hkl' : k < l'.length := by rw [← E1'.out]; exact hlt
        have hq0 : (0 : Int) ≤ (k : Int) := by omega
        have hq1 : (k : Int) < (n : Int) := by omega
        obtain ⟨b, o, rfl, hb, he⟩ := HE.out (by intro e; rw [e] at hkl; simp at hkl)
        obtain ⟨b', o', rfl, hb', he'⟩ := HE'.out (by intro e; rw [e] at hkl'; simp at hkl')
        obtain ⟨cs, hcl, hcc, hce⟩ := he k hkl
        obtain ⟨cs', hcl', hcc', hce'⟩ := he' k hkl'
        have HQ := Lib.hid (fun (e : l[k]'hkl = l'[k]'hkl') => take_eq hkl hkl' TK.out e)
        have HN := Lib.hid (fun (e : ¬ l[k]'hkl = l'[k]'hkl') => dc_false (take_ne hkl hkl' e))
        clear he he'
        generalize l[k]'hkl = y at *
        generalize l'[k]'hkl' = y' at *
        obtain ⟨nm, ty⟩ := y
        obtain ⟨nm', ty'⟩ := y'
        obtain ⟨ct, rfl, _, _, hty⟩ := hce
        obtain ⟨ct', rfl, _, _, hty'⟩ := hce'
        obtain ⟨t0, t1, t2, t3, t3l, t3c, t4, t4l, t4c, rfl⟩ := shape_Ty hty
        obtain ⟨t0', t1', t2', t3', t3l', t3c', t4', t4l', t4c', rfl⟩ := shape_Ty hty'
        have F0 := Lib.hid (fun (wz : World) (hz : In B W wz) (j : Nat) (hj : j < 6) => (hz.bel.cell (p := ⟨b, o + k * 6 + j, none⟩) hb).trans (hcc j (by simpa using hj)))
        have F0' := Lib.hid (fun (wz : World) (hz : In B W wz) (j : Nat) (hj : j < 6) => (hz.bel.cell (p := ⟨b', o' + k * 6 + j, none⟩) hb').trans (hcc' j (by simpa using hj)))
        have FC := Lib.hid (fun (wz : World) (hz : Nw wr wz) => (⟨hz, F0.out wz ((G.out.nw Gk.out).nw hz) 0 (by omega), F0.out wz ((G.out.nw Gk.out).nw hz) 1 (by omega), F0.out wz ((G.out.nw Gk.out).nw hz) 2 (by omega), F0.out wz ((G.out.nw Gk.out).nw hz) 3 (by omega), F0.out wz ((G.out.nw Gk.out).nw hz) 4 (by omega), F0.out wz ((G.out.nw Gk.out).nw hz) 5 (by omega), F0'.out wz ((G.out.nw Gk.out).nw hz) 0 (by omega), F0'.out wz ((G.out.nw Gk.out).nw hz) 1 (by omega), F0'.out wz ((G.out.nw Gk.out).nw hz) 2 (by omega), F0'.out wz ((G.out.nw Gk.out).nw hz) 3 (by omega), F0'.out wz ((G.out.nw Gk.out).nw hz) 4 (by omega), F0'.out wz ((G.out.nw Gk.out).nw hz) 5 (by omega)⟩ : Nw wr wz ∧ wz.cell? ⟨b, o + k * 6, none⟩ = some (.string nm) ∧ wz.cell? ⟨b, o + k * 6 + 1, none⟩ = some (.int .i64 t0) ∧ wz.cell? ⟨b, o + k * 6 + 2, none⟩ = some (.string t1) ∧ wz.cell? ⟨b, o + k * 6 + 3, none⟩ = some (.string t2) ∧ wz.cell? ⟨b, o + k * 6 + 4, none⟩ = some (.slice t3 t3l t3c) ∧ wz.cell? ⟨b, o + k * 6 + 5, none⟩ = some (.slice t4 t4l t4c) ∧ wz.cell? ⟨b', o' + k * 6, none⟩ = some (.string nm') ∧ wz.cell? ⟨b', o' + k * 6 + 1, none⟩ = some (.int .i64 t0') ∧ wz.cell? ⟨b', o' + k * 6 + 2, none⟩ = some (.string t1') ∧ wz.cell? ⟨b', o' + k * 6 + 3, none⟩ = some (.string t2') ∧ wz.cell? ⟨b', o' + k * 6 + 4, none⟩ = some (.slice t3' t3l' t3c') ∧ wz.cell? ⟨b', o' + k * 6 + 5, none⟩ = some (.slice t4' t4l' t4c')))
        have f0 := F0.out wr (G.out.nw Gk.out) 0 (by omega)
        have g0 := F0'.out wr (G.out.nw Gk.out) 0 (by omega)
        have f1 := F0.out wr (G.out.nw Gk.out) 1 (by omega)
        have g1 := F0'.out wr (G.out.nw Gk.out) 1 (by omega)
        have f2 := F0.out wr (G.out.nw Gk.out) 2 (by omega)
        have g2 := F0'.out wr (G.out.nw Gk.out) 2 (by omega)
        have f3 := F0.out wr (G.out.nw Gk.out) 3 (by omega)
        have g3 := F0'.out wr (G.out.nw Gk.out) 3 (by omega)
        have f4 := F0.out wr (G.out.nw Gk.out) 4 (by omega)
        have g4 := F0'.out wr (G.out.nw Gk.out) 4 (by omega)
        have f5 := F0.out wr (G.out.nw Gk.out) 5 (by omega)
        have g5 := F0'.out wr (G.out.nw Gk.out) 5 (by omega)
        simp only [List.getElem?_cons_zero, List.getElem?_cons_succ, Nat.add_zero] at f0 g0 f1 g1 f2 g2 f3 g3 f4 g4 f5 g5
        have CA1 := Lib.hid (fun (wz : World) (hz : Nw wr wz) => same_any d d' ty _ ty' _ wz hty hty' ((G.out.nw Gk.out).nw hz))
        clear hcc hcc' hty hty'
        by_cases e0 : nm = nm'
        rotate_left
        · have hun : ¬ (Fd.mk nm ty = Fd.mk nm' ty') := by intro h; apply e0; injection h
          obtain ⟨ne1, ne2, ne3, ne4⟩ := str_ne e0
          clear e0
          have HR := Lib.hid (HN.out hun)
          clear hun
          go_wp2_with fail
          go_quiet (fail)
          go_wp2_with fail
          go_returns
          exact ⟨by rw [HR.out]; rfl, Gk.out.trans (nw_drewN _ _)⟩
        · subst e0
          by_cases e1 : ty = ty'
          rotate_left
          · have hun : ¬ (Fd.mk nm ty = Fd.mk nm ty') := by intro h; apply e1; injection h
            have D1 := Lib.hid (dc_false e1)
            clear e1
            have HR := Lib.hid (HN.out hun)
            clear hun
            go_wp2_with fail
            go_region_held3 (fun wz => Nw wr wz ∧ wz.cell? ⟨b, o + k * 6, none⟩ = some (.string nm) ∧ wz.cell? ⟨b, o + k * 6 + 1, none⟩ = some (.int .i64 t0) ∧ wz.cell? ⟨b, o + k * 6 + 2, none⟩ = some (.string t1) ∧ wz.cell? ⟨b, o + k * 6 + 3, none⟩ = some (.string t2) ∧ wz.cell? ⟨b, o + k * 6 + 4, none⟩ = some (.slice t3 t3l t3c) ∧ wz.cell? ⟨b, o + k * 6 + 5, none⟩ = some (.slice t4 t4l t4c) ∧ wz.cell? ⟨b', o' + k * 6, none⟩ = some (.string nm) ∧ wz.cell? ⟨b', o' + k * 6 + 1, none⟩ = some (.int .i64 t0') ∧ wz.cell? ⟨b', o' + k * 6 + 2, none⟩ = some (.string t1') ∧ wz.cell? ⟨b', o' + k * 6 + 3, none⟩ = some (.string t2') ∧ wz.cell? ⟨b', o' + k * 6 + 4, none⟩ = some (.slice t3' t3l' t3c') ∧ wz.cell? ⟨b', o' + k * 6 + 5, none⟩ = some (.slice t4' t4l' t4c'))
              (exact FC.out _ (by first | assumption | exact Nw.refl _ | exact (Nw.refl _).drew))
              (first
                | (go_at_call 97; refine (CA1.out _ (by first | assumption | exact Nw.refl _ | exact (Nw.refl _).drew)).mono ?_; rintro e1 w1 ⟨rfl, k1⟩; rw [D1.out]; have kk1 : Nw wr w1 := Nw.trans (by first | assumption | exact Nw.refl _ | exact (Nw.refl _).drew) k1; clear k1))
            go_wp2_with fail
            go_returns
            exact ⟨by rw [HR.out]; rfl, Gk.out.trans (by first | assumption | exact Nw.refl _ | exact (Nw.refl _).drew)⟩
          · have D1 := Lib.hid (dc_true e1)
            subst e1
            have HR := Lib.hid (HQ.out rfl)
            go_wp2_with fail
            go_region_held3 (fun wz => Nw wr wz ∧ wz.cell? ⟨b, o + k * 6, none⟩ = some (.string nm) ∧ wz.cell? ⟨b, o + k * 6 + 1, none⟩ = some (.int .i64 t0) ∧ wz.cell? ⟨b, o + k * 6 + 2, none⟩ = some (.string t1) ∧ wz.cell? ⟨b, o + k * 6 + 3, none⟩ = some (.string t2) ∧ wz.cell? ⟨b, o + k * 6 + 4, none⟩ = some (.slice t3 t3l t3c) ∧ wz.cell? ⟨b, o + k * 6 + 5, none⟩ = some (.slice t4 t4l t4c) ∧ wz.cell? ⟨b', o' + k * 6, none⟩ = some (.string nm) ∧ wz.cell? ⟨b', o' + k * 6 + 1, none⟩ = some (.int .i64 t0') ∧ wz.cell? ⟨b', o' + k * 6 + 2, none⟩ = some (.string t1') ∧ wz.cell? ⟨b', o' + k * 6 + 3, none⟩ = some (.string t2') ∧ wz.cell? ⟨b', o' + k * 6 + 4, none⟩ = some (.slice t3' t3l' t3c') ∧ wz.cell? ⟨b', o' + k * 6 + 5, none⟩ = some (.slice t4' t4l' t4c'))
              (exact FC.out _ (by first | assumption | exact Nw.refl _ | exact (Nw.refl _).drew))
              (first
                | (go_at_call 97; refine (CA1.out _ (by first | assumption | exact Nw.refl _ | exact (Nw.refl _).drew)).mono ?_; rintro e1 w1 ⟨rfl, k1⟩; rw [D1.out]; have kk1 : Nw wr w1 := Nw.trans (by first | assumption | exact Nw.refl _ | exact (Nw.refl _).drew) k1; clear k1))
            go_wp2_with fail
            go_roundw
            case rel => exact ⟨k + 1, by omega, by go_num, Gk.out.trans (by first | assumption | exact Nw.refl _ | exact (Nw.refl _).drew), HR.out⟩
            case measure => simp [intOf]; omega
      · have HR := Lib.hid (dc_true (take_done (k := k) (by rw [← E1.out]; omega) (by rw [← E1'.out]; omega) TK.out))
        go_wp2_with fail
        go_returns
        exact ⟨by rw [HR.out]; rfl, Gk.out⟩
  · have HR := Lib.hid (dc_false (len_ne (l := l) (m := l') (by rw [← E1.out, ← E1'.out]; exact hnn)))
    obtain ⟨ne1, ne2, ne3, ne4⟩ := nat_ne hnn
    go_enter Try.func98, Try.ntmps98
    go_wp2_with fail
    go_returns
    exact ⟨by rw [HR.out]; rfl, Nw.refl _⟩
set_option maxRecDepth 100000 in
set_option maxHeartbeats 1000000 in
theorem sameDecl_any {B : Nat} {W : World} {d d' : Nat}
    (x : De) (cs : List Value) (x' : De) (cs' : List Value) (w : World) (hx : DeAt B W d x cs) (hx' : DeAt B W d' x' cs') (h : In B W w) :
    Calls Try.prog 72 #[.agg cs.toArray, .agg cs'.toArray] w (BoolPost w (dc (x = x'))) := by
  generalize hrr : dc (x = x') = rr
  obtain ⟨ki, na, off, va, ty, fs⟩ := x
  obtain ⟨ki', na', off', va', ty', fs'⟩ := x'
  obtain ⟨ct, vf, rfl, _, _, _, _, _, ht, hf⟩ := hx
  obtain ⟨ct', vf', rfl, _, _, _, _, _, ht', hf'⟩ := hx'
  obtain ⟨kd, pk, nm, x1, m1, c1, x2, m2, c2, rfl⟩ := shape_Ty ht
  obtain ⟨kd', pk', nm', x1', m1', c1', x2', m2', c2', rfl⟩ := shape_Ty ht'
  obtain ⟨x3, m3, c3, rfl⟩ := hf.slice
  obtain ⟨x3', m3', c3', rfl⟩ := hf'.slice
  simp only [List.cons_append, List.nil_append]
  dsimp only at ht hf ht' hf' ⊢
  have RR := Lib.hid hrr
  clear hrr
  have G := Lib.hid h
  have K0 := Lib.hid (show Nw w ((w.alloc (.cells #[.int .i64 ki, .string na, .string off, .int .i64 va, .int .i64 kd, .string pk, .string nm, .slice x1 m1 c1, .slice x2 m2 c2, .slice x3 m3 c3] 44)).alloc (.cells #[.int .i64 ki', .string na', .string off', .int .i64 va', .int .i64 kd', .string pk', .string nm', .slice x1' m1' c1', .slice x2' m2' c2', .slice x3' m3' c3'] 44)) from ((Nw.refl w).alloc _).alloc _)
  have BA := Lib.hid (fun (wz : World) (hz : Nw ((w.alloc (.cells #[.int .i64 ki, .string na, .string off, .int .i64 va, .int .i64 kd, .string pk, .string nm, .slice x1 m1 c1, .slice x2 m2 c2, .slice x3 m3 c3] 44)).alloc (.cells #[.int .i64 ki', .string na', .string off', .int .i64 va', .int .i64 kd', .string pk', .string nm', .slice x1' m1' c1', .slice x2' m2' c2', .slice x3' m3' c3'] 44)) wz) => (((Blk.new w [.int .i64 ki, .string na, .string off, .int .i64 va, .int .i64 kd, .string pk, .string nm, .slice x1 m1 c1, .slice x2 m2 c2, .slice x3 m3 c3] 44).alloc (.cells #[.int .i64 ki', .string na', .string off', .int .i64 va', .int .i64 kd', .string pk', .string nm', .slice x1' m1' c1', .slice x2' m2' c2', .slice x3' m3' c3'] 44)).nw hz).cell)
  have BB := Lib.hid (fun (wz : World) (hz : Nw ((w.alloc (.cells #[.int .i64 ki, .string na, .string off, .int .i64 va, .int .i64 kd, .string pk, .string nm, .slice x1 m1 c1, .slice x2 m2 c2, .slice x3 m3 c3] 44)).alloc (.cells #[.int .i64 ki', .string na', .string off', .int .i64 va', .int .i64 kd', .string pk', .string nm', .slice x1' m1' c1', .slice x2' m2' c2', .slice x3' m3' c3'] 44)) wz) => (show ∀ o, wz.cell? ⟨w.heap.size + 1, o, none⟩ = [.int .i64 ki', .string na', .string off', .int .i64 va', .int .i64 kd', .string pk', .string nm', .slice x1' m1' c1', .slice x2' m2' c2', .slice x3' m3' c3'][o]? from by
    have e : (w.alloc (.cells #[.int .i64 ki, .string na, .string off, .int .i64 va, .int .i64 kd, .string pk, .string nm, .slice x1 m1 c1, .slice x2 m2 c2, .slice x3 m3 c3] 44)).heap.size = w.heap.size + 1 := by simp
    have := ((Blk.new (w.alloc (.cells #[.int .i64 ki, .string na, .string off, .int .i64 va, .int .i64 kd, .string pk, .string nm, .slice x1 m1 c1, .slice x2 m2 c2, .slice x3 m3 c3] 44)) [.int .i64 ki', .string na', .string off', .int .i64 va', .int .i64 kd', .string pk', .string nm', .slice x1' m1' c1', .slice x2' m2' c2', .slice x3' m3' c3'] 44).nw hz).cell
    rw [e] at this; exact this))
  have cA := BA.out _ (Nw.refl _)
  have cB := BB.out _ (Nw.refl _)
  have CA4 := Lib.hid (fun (wz : World) (hz : Nw ((w.alloc (.cells #[.int .i64 ki, .string na, .string off, .int .i64 va, .int .i64 kd, .string pk, .string nm, .slice x1 m1 c1, .slice x2 m2 c2, .slice x3 m3 c3] 44)).alloc (.cells #[.int .i64 ki', .string na', .string off', .int .i64 va', .int .i64 kd', .string pk', .string nm', .slice x1' m1' c1', .slice x2' m2' c2', .slice x3' m3' c3'] 44)) wz) => same_any d d' ty _ ty' _ wz ht ht' ((G.out.nw K0.out).nw hz))
  have CA5 := Lib.hid (fun (wz : World) (hz : Nw ((w.alloc (.cells #[.int .i64 ki, .string na, .string off, .int .i64 va, .int .i64 kd, .string pk, .string nm, .slice x1 m1 c1, .slice x2 m2 c2, .slice x3 m3 c3] 44)).alloc (.cells #[.int .i64 ki', .string na', .string off', .int .i64 va', .int .i64 kd', .string pk', .string nm', .slice x1' m1' c1', .slice x2' m2' c2', .slice x3' m3' c3'] 44)) wz) => sameFields_any fs _ fs' _ wz hf hf' ((G.out.nw K0.out).nw hz))
  clear h hf hf' ht ht'
  by_cases e0 : ki = ki'
  rotate_left
  · have hun : ¬ ((De.mk ki na off va ty fs : De) = (De.mk ki' na' off' va' ty' fs' : De)) := by intro h; apply e0; injection h
    obtain ⟨ne1, ne2, ne3, ne4⟩ := int_ne e0
    clear e0
    have HR := Lib.hid (RR.out.symm.trans (dc_false hun))
    clear hun
    go_enter Try.func72, Try.ntmps72
    go_wp2_with fail
    go_returns
    exact ⟨by rw [HR.out]; rfl, K0.out.trans (Nw.refl _)⟩
  · subst e0
    by_cases e1 : na = na'
    rotate_left
    · have hun : ¬ ((De.mk ki na off va ty fs : De) = (De.mk ki na' off' va' ty' fs' : De)) := by intro h; apply e1; injection h
      obtain ⟨ne1, ne2, ne3, ne4⟩ := str_ne e1
      clear e1
      have HR := Lib.hid (RR.out.symm.trans (dc_false hun))
      clear hun
      go_enter Try.func72, Try.ntmps72
      go_wp2_with fail
      go_returns
      exact ⟨by rw [HR.out]; rfl, K0.out.trans (Nw.refl _)⟩
    · subst e1
      by_cases e2 : off = off'
      rotate_left
      · have hun : ¬ ((De.mk ki na off va ty fs : De) = (De.mk ki na off' va' ty' fs' : De)) := by intro h; apply e2; injection h
        obtain ⟨ne1, ne2, ne3, ne4⟩ := str_ne e2
        clear e2
        have HR := Lib.hid (RR.out.symm.trans (dc_false hun))
        clear hun
        go_enter Try.func72, Try.ntmps72
        go_wp2_with fail
        go_returns
        exact ⟨by rw [HR.out]; rfl, K0.out.trans (Nw.refl _)⟩
      · subst e2
        by_cases e3 : va = va'
        rotate_left
        · have hun : ¬ ((De.mk ki na off va ty fs : De) = (De.mk ki na off va' ty' fs' : De)) := by intro h; apply e3; injection h
          obtain ⟨ne1, ne2, ne3, ne4⟩ := int_ne e3
          clear e3
          have HR := Lib.hid (RR.out.symm.trans (dc_false hun))
          clear hun
          go_enter Try.func72, Try.ntmps72
          go_wp2_with fail
          go_returns
          exact ⟨by rw [HR.out]; rfl, K0.out.trans (Nw.refl _)⟩
        · subst e3
          by_cases e4 : ty = ty'
          rotate_left
          · have hun : ¬ ((De.mk ki na off va ty fs : De) = (De.mk ki na off va ty' fs' : De)) := by intro h; apply e4; injection h
            have D4 := Lib.hid (dc_false e4)
            clear e4
            have HR := Lib.hid (RR.out.symm.trans (dc_false hun))
            clear hun
            go_enter Try.func72, Try.ntmps72
            go_wp2_with fail
            refine (CA4.out _ (Nw.refl _)).mono ?_
            rintro e4 w4 ⟨rfl, k4⟩
            rw [D4.out]
            have N4 := Lib.hid (Nw.trans (Nw.refl _) k4)
            clear k4 cA cB
            have cA := BA.out _ N4.out
            have cB := BB.out _ N4.out
            go_wp2_with fail
            go_returns
            exact ⟨by rw [HR.out]; rfl, K0.out.trans (N4.out)⟩
          · have D4 := Lib.hid (dc_true e4)
            subst e4
            by_cases e5 : fs = fs'
            rotate_left
            · have hun : ¬ ((De.mk ki na off va ty fs : De) = (De.mk ki na off va ty fs' : De)) := by intro h; apply e5; injection h
              have D5 := Lib.hid (dc_false e5)
              clear e5
              have HR := Lib.hid (RR.out.symm.trans (dc_false hun))
              clear hun
              go_enter Try.func72, Try.ntmps72
              go_wp2_with fail
              refine (CA4.out _ (Nw.refl _)).mono ?_
              rintro e4 w4 ⟨rfl, k4⟩
              rw [D4.out]
              have N4 := Lib.hid (Nw.trans (Nw.refl _) k4)
              clear k4 cA cB
              have cA := BA.out _ N4.out
              have cB := BB.out _ N4.out
              go_wp2_with fail
              refine (CA5.out _ (N4.out)).mono ?_
              rintro e5 w5 ⟨rfl, k5⟩
              rw [D5.out]
              have N5 := Lib.hid (Nw.trans (N4.out) k5)
              clear k5 cA cB
              have cA := BA.out _ N5.out
              have cB := BB.out _ N5.out
              go_wp2_with fail
              go_returns
              exact ⟨by rw [HR.out]; rfl, K0.out.trans (N5.out)⟩
            · have D5 := Lib.hid (dc_true e5)
              subst e5
              have HR := Lib.hid (RR.out.symm.trans (dc_true (rfl : (De.mk ki na off va ty fs : De) = (De.mk ki na off va ty fs : De))))
              go_enter Try.func72, Try.ntmps72
              go_wp2_with fail
              refine (CA4.out _ (Nw.refl _)).mono ?_
              rintro e4 w4 ⟨rfl, k4⟩
              rw [D4.out]
              have N4 := Lib.hid (Nw.trans (Nw.refl _) k4)
              clear k4 cA cB
              have cA := BA.out _ N4.out
              have cB := BB.out _ N4.out
              go_wp2_with fail
              refine (CA5.out _ (N4.out)).mono ?_
              rintro e5 w5 ⟨rfl, k5⟩
              rw [D5.out]
              have N5 := Lib.hid (Nw.trans (N4.out) k5)
              clear k5 cA cB
              have cA := BA.out _ N5.out
              have cB := BB.out _ N5.out
              go_wp2_with fail
              go_returns
              exact ⟨by rw [HR.out]; rfl, K0.out.trans (N5.out)⟩
end Go.Proofs.Ytpopgnengimieaa
