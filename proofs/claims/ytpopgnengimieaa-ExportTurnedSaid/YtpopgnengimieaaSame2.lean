/- Are two lists of statements one: the document's function. -/
import Derived.Test.YtpopgnengimieaaSame1
import Derived.Deep.QuietTactic
import Derived.BigQuiet
import Derived.Deep.RegionHeld3
namespace Go.Proofs.Ytpopgnengimieaa
open Go.RowKit
set_option linter.unusedSimpArgs false
set_option linter.unusedVariables false
set_option maxRecDepth 100000 in
set_option maxHeartbeats 4000000 in
theorem sameStats_of {B : Nat} {W : World} {d d' : Nat} 
    (ih : ∀ (d0 : Nat), d0 + 1 = d → ∀ (d' : Nat) (l : List St) (v : Value) (l' : List St) (v' : Value) (w : World), SlB B W 5 (StAt B W d0) l v → SlB B W 5 (StAt B W d') l' v' → In B W w → Calls Try.prog 99 #[v, v'] w (QPost w (dc (l = l'))))
    (l : List St) (v : Value) (l' : List St) (v' : Value) (w : World) (hl : SlB B W 5 (StAt B W d) l v) (hl' : SlB B W 5 (StAt B W d') l' v') (h : In B W w) :
    Calls Try.prog 99 #[v, v'] w (QPost w (dc (l = l'))) := by
  obtain ⟨x, c, rfl, hlen, hel⟩ := hl
  obtain ⟨x', c', rfl, hlen', hel'⟩ := hl'
  have G := Lib.hid h
  have HE := Lib.hid hel
  have HE' := Lib.hid hel'
  have IHS := Lib.hid ih
  clear ih
  obtain ⟨n, e1⟩ : ∃ n, n = l.length := ⟨_, rfl⟩
  obtain ⟨n', e1'⟩ : ∃ n, n = l'.length := ⟨_, rfl⟩
  rw [← e1] at hlen ⊢
  rw [← e1'] at hlen' ⊢
  have E1 := Lib.hid e1
  have E1' := Lib.hid e1'
  clear h hel hel' e1 e1'
  by_cases hnn : n = n'
  · subst hnn
    go_enter Try.func99, Try.ntmps99
    go_wp2_with fail
    go_loopw [5] (fun i wr => ∃ k : Nat, k ≤ n ∧ i = .int .i64 k ∧ (∃ m, wr = w.drewN m) ∧ l.take k = l'.take k) (fun i _ => n - (intOf i).toNat)
    case atStart => exact ⟨0, Nat.zero_le _, rfl, ⟨0, rfl⟩, by simp⟩
    case round =>
      obtain ⟨k, hk0, rfl, g, htk⟩ := hrel
      have DT := Lib.hid (fun (q : Nat) => (show ∃ m, wr.drewN q = w.drewN m by obtain ⟨m, rfl⟩ := g; exact ⟨m + q, World.drewN_drewN _ _ _⟩))
      have DG := Lib.hid g
      have Gk := Lib.hid (show Nw w wr by obtain ⟨m, rfl⟩ := g; exact nw_drewN w m)
      have TK := Lib.hid htk
      clear g htk
      by_cases hlt : k < n
      · have hkl : k < l.length := by rw [← E1.out]; exact hlt
        have hkl' : k < l'.length := by rw [← E1'.out]; exact hlt
        have hq0 : (0 : Int) ≤ (k : Int) := by omega
        have hq1 : (k : Int) < (n : Int) := by omega
        obtain ⟨b, o, rfl, hb, he⟩ := HE.out (by intro e; rw [e] at hkl; simp at hkl)
        obtain ⟨b', o', rfl, hb', he'⟩ := HE'.out (by intro e; rw [e] at hkl'; simp at hkl')
        obtain ⟨cs, hcl, hcc, hce⟩ := he k hkl
        obtain ⟨cs', hcl', hcc', hce'⟩ := he' k hkl'
        have HQ := Lib.hid (fun (e : l[k]'hkl = l'[k]'hkl') => take_eq hkl hkl' TK.out e)
        have HN := Lib.hid (fun (e : ¬ l[k]'hkl = l'[k]'hkl') => dc_false (take_ne hkl hkl' e))
        clear he he'
        generalize l[k]'hkl = y at *
        generalize l'[k]'hkl' = y' at *
        obtain ⟨d0, rfl⟩ := some_succ (d := d) (p := True) (fun e => by subst e; exact hce.elim)
        obtain ⟨d0', rfl⟩ := some_succ (d := d') (p := True) (fun e => by subst e; exact hce'.elim)
        obtain ⟨op, nn, es, bs, ls⟩ := y
        obtain ⟨op', nn', es', bs', ls'⟩ := y'
        obtain ⟨ve, vb, vl, rfl, _, _, he1, he2, he3⟩ := hce
        obtain ⟨ve', vb', vl', rfl, _, _, he1', he2', he3'⟩ := hce'
        obtain ⟨x1, m1, c1, rfl⟩ := he1.slice
        obtain ⟨x1', m1', c1', rfl⟩ := he1'.slice
        obtain ⟨x2, m2, c2, rfl⟩ := he2.slice
        obtain ⟨x2', m2', c2', rfl⟩ := he2'.slice
        obtain ⟨x3, m3, c3, rfl⟩ := he3.slice
        obtain ⟨x3', m3', c3', rfl⟩ := he3'.slice
        have F0 := Lib.hid (fun (wz : World) (hz : In B W wz) (j : Nat) (hj : j < 5) => (hz.bel.cell (p := ⟨b, o + k * 5 + j, none⟩) hb).trans (hcc j (by simpa using hj)))
        have F0' := Lib.hid (fun (wz : World) (hz : In B W wz) (j : Nat) (hj : j < 5) => (hz.bel.cell (p := ⟨b', o' + k * 5 + j, none⟩) hb').trans (hcc' j (by simpa using hj)))
        have f0 := F0.out wr (G.out.nw Gk.out) 0 (by omega)
        have g0 := F0'.out wr (G.out.nw Gk.out) 0 (by omega)
        have f1 := F0.out wr (G.out.nw Gk.out) 1 (by omega)
        have g1 := F0'.out wr (G.out.nw Gk.out) 1 (by omega)
        have f2 := F0.out wr (G.out.nw Gk.out) 2 (by omega)
        have g2 := F0'.out wr (G.out.nw Gk.out) 2 (by omega)
        have f3 := F0.out wr (G.out.nw Gk.out) 3 (by omega)
        have g3 := F0'.out wr (G.out.nw Gk.out) 3 (by omega)
        have f4 := F0.out wr (G.out.nw Gk.out) 4 (by omega)
        have g4 := F0'.out wr (G.out.nw Gk.out) 4 (by omega)
        simp only [List.getElem?_cons_zero, List.getElem?_cons_succ, Nat.add_zero] at f0 g0 f1 g1 f2 g2 f3 g3 f4 g4
        clear F0 F0'
        have CA2 := Lib.hid (fun (wz : World) (hz : Nw wr wz) => sameExprs_any d0 d0' _ _ _ _ wz he1 he1' ((G.out.nw Gk.out).nw hz))
        have CA3 := Lib.hid (fun (wz : World) (hz : Nw wr wz) => IHS.out d0 rfl d0' _ _ _ _ wz he2 he2' ((G.out.nw Gk.out).nw hz))
        have CA4 := Lib.hid (fun (wz : World) (hz : Nw wr wz) => IHS.out d0 rfl d0' _ _ _ _ wz he3 he3' ((G.out.nw Gk.out).nw hz))
        clear hcc hcc' he1 he1' he2 he2' he3 he3'
        go_wp2_with fail
        refine wp_region_quiet_lit (by kernel_rfl) (by kernel_rfl) ?_
        try simp only [List.append_eq, List.cons_append, List.nil_append]
        iterate 10 (go_big_quiet_step (fail))
        by_cases e0 : op = op'
        rotate_left
        · have hun : ¬ (St.mk op nn es bs ls = St.mk op' nn' es' bs' ls') := by intro h; apply e0; injection h
          obtain ⟨ne1, ne2, ne3, ne4⟩ := int_ne e0
          clear e0
          have HR := Lib.hid (HN.out hun)
          clear hun
          repeat (go_big_quiet_step (fail))
          refine wpQuiet_nil ?_
          intro _ hw'
          obtain ⟨nq, hw''⟩ := hw'
          subst hw''
          go_wp2_with fail
          go_returns
          exact ⟨by rw [HR.out]; rfl, DT.out _⟩
        · subst e0
          iterate 12 (go_big_quiet_step (fail))
          by_cases e1 : nn = nn'
          rotate_left
          · have hun : ¬ (St.mk op nn es bs ls = St.mk op nn' es' bs' ls') := by intro h; apply e1; injection h
            obtain ⟨ne1, ne2, ne3, ne4⟩ := int_ne e1
            clear e1
            have HR := Lib.hid (HN.out hun)
            clear hun
            repeat (go_big_quiet_step (fail))
            refine wpQuiet_nil ?_
            intro _ hw'
            obtain ⟨nq, hw''⟩ := hw'
            subst hw''
            go_wp2_with fail
            go_returns
            exact ⟨by rw [HR.out]; rfl, DT.out _⟩
          · subst e1
            iterate 13 (go_big_quiet_step (fail))
            by_cases e2 : es = es'
            rotate_left
            · have hun : ¬ (St.mk op nn es bs ls = St.mk op nn es' bs' ls') := by intro h; apply e2; injection h
              have D2 := Lib.hid (dc_false e2)
              clear e2
              have HR := Lib.hid (HN.out hun)
              clear hun
              repeat (go_big_quiet_step ((go_at_call 109; exact quietB (CA2.out _ (nw_drewN _ _)) D2.out)))
              refine wpQuiet_nil ?_
              intro _ hw'
              obtain ⟨nq, hw''⟩ := hw'
              subst hw''
              go_wp2_with fail
              go_returns
              exact ⟨by rw [HR.out]; rfl, DT.out _⟩
            · have D2 := Lib.hid (dc_true e2)
              subst e2
              iterate 14 (go_big_quiet_step ((go_at_call 109; exact quietB (CA2.out _ (nw_drewN _ _)) D2.out)))
              by_cases e3 : bs = bs'
              rotate_left
              · have hun : ¬ (St.mk op nn es bs ls = St.mk op nn es bs' ls') := by intro h; apply e3; injection h
                have D3 := Lib.hid (dc_false e3)
                clear e3
                have HR := Lib.hid (HN.out hun)
                clear hun
                repeat (go_big_quiet_step ((go_at_call 99; exact quietB (CA3.out _ (nw_drewN _ _)) D3.out)))
                refine wpQuiet_nil ?_
                intro _ hw'
                obtain ⟨nq, hw''⟩ := hw'
                subst hw''
                go_wp2_with fail
                go_returns
                exact ⟨by rw [HR.out]; rfl, DT.out _⟩
              · have D3 := Lib.hid (dc_true e3)
                subst e3
                iterate 14 (go_big_quiet_step ((go_at_call 99; exact quietB (CA3.out _ (nw_drewN _ _)) D3.out)))
                by_cases e4 : ls = ls'
                rotate_left
                · have hun : ¬ (St.mk op nn es bs ls = St.mk op nn es bs ls') := by intro h; apply e4; injection h
                  have D4 := Lib.hid (dc_false e4)
                  clear e4
                  have HR := Lib.hid (HN.out hun)
                  clear hun
                  repeat (go_big_quiet_step ((go_at_call 99; exact quietB (CA4.out _ (nw_drewN _ _)) D4.out)))
                  refine wpQuiet_nil ?_
                  intro _ hw'
                  obtain ⟨nq, hw''⟩ := hw'
                  subst hw''
                  go_wp2_with fail
                  go_returns
                  exact ⟨by rw [HR.out]; rfl, DT.out _⟩
                · have D4 := Lib.hid (dc_true e4)
                  subst e4
                  have HR := Lib.hid (HQ.out rfl)
                  repeat (go_big_quiet_step ((go_at_call 99; exact quietB (CA4.out _ (nw_drewN _ _)) D4.out)))
                  refine wpQuiet_nil ?_
                  intro _ hw'
                  obtain ⟨nq, hw''⟩ := hw'
                  subst hw''
                  go_wp2_with fail
                  go_roundw
                  case rel => exact ⟨k + 1, by omega, by go_num, DT.out _, HR.out⟩
                  case measure => simp [intOf]; omega
      · have HR := Lib.hid (dc_true (take_done (k := k) (by rw [← E1.out]; omega) (by rw [← E1'.out]; omega) TK.out))
        go_wp2_with fail
        go_returns
        exact ⟨by rw [HR.out]; rfl, DG.out⟩
  · have HR := Lib.hid (dc_false (len_ne (l := l) (m := l') (by rw [← E1.out, ← E1'.out]; exact hnn)))
    obtain ⟨ne1, ne2, ne3, ne4⟩ := nat_ne hnn
    go_enter Try.func99, Try.ntmps99
    go_wp2_with fail
    go_returns
    exact ⟨by rw [HR.out]; rfl, ⟨0, rfl⟩⟩
theorem sameStats_any {B : Nat} {W : World} (d : Nat) : ∀ (d' : Nat) (l : List St) (v : Value) (l' : List St) (v' : Value) (w : World), SlB B W 5 (StAt B W d) l v → SlB B W 5 (StAt B W d') l' v' → In B W w → Calls Try.prog 99 #[v, v'] w (QPost w (dc (l = l'))) := by
  induction d with
  | zero => intro d' l v l' v' w; exact sameStats_of (fun d0 e => by omega) l v l' v' w
  | succ d ih => intro d' l v l' v' w; exact sameStats_of (fun d0 e => by cases (show d0 = d by omega); exact ih) l v l' v' w
end Go.Proofs.Ytpopgnengimieaa
