/- Are two lists of expressions, of statements one: the document's functions. -/
import Derived.Test.YtpopgnengimieaaFits
import Derived.Deep.QuietTactic
import Derived.BigQuiet
import Derived.Deep.RegionHeld3
namespace Go.Proofs.Ytpopgnengimieaa
open Go.RowKit
set_option linter.unusedSimpArgs false
set_option linter.unusedVariables false

/-- the truth of p -/
noncomputable def dc (p : Prop) : Bool := @decide p (Classical.propDecidable p)
theorem dc_true {p : Prop} (h : p) : dc p = true := by simp [dc, h]
theorem dc_false {p : Prop} (h : ¬ p) : dc p = false := by simp [dc, h]
theorem take_eq {α : Type} {l m : List α} {k : Nat} (h : k < l.length) (h' : k < m.length) (e : l.take k = m.take k) (e1 : l[k] = m[k]) : l.take (k + 1) = m.take (k + 1) := by
  rw [List.take_succ_eq_append_getElem h, List.take_succ_eq_append_getElem h', e, e1]
theorem take_ne {α : Type} {l m : List α} {k : Nat} (h : k < l.length) (h' : k < m.length) (e1 : l[k] ≠ m[k]) : l ≠ m := by
  intro e; subst e; exact e1 rfl
theorem take_done {α : Type} {l m : List α} {k : Nat} (h : l.length ≤ k) (h' : m.length ≤ k) (e : l.take k = m.take k) : l = m := by
  rwa [List.take_of_length_le h, List.take_of_length_le h'] at e
theorem len_ne {α : Type} {l m : List α} (h : l.length ≠ m.length) : l ≠ m := fun e => h (by rw [e])
theorem int_ne {a b : Int} (h : ¬ a = b) : (a == b) = false ∧ (a != b) = true ∧ decide (a = b) = false ∧ decide (¬ a = b) = true := by
  refine ⟨beq_eq_false_iff_ne.2 h, ?_, decide_eq_false h, decide_eq_true h⟩
  simp [h]
theorem str_ne {a b : ByteArray} (h : ¬ a = b) : (a.toList == b.toList) = false ∧ (a.toList != b.toList) = true ∧ decide (a.toList = b.toList) = false ∧ decide (¬ a.toList = b.toList) = true := by
  have hn : ¬ a.toList = b.toList := fun e => h (by
    rw [ByteArray.toList_eq, ByteArray.toList_eq] at e
    cases a; cases b
    simp at e
    rw [e])
  refine ⟨beq_eq_false_iff_ne.2 hn, ?_, decide_eq_false hn, decide_eq_true hn⟩
  simp [hn]
/-- quiet: it hands back the truth of p, and draws alone -/
def QPost (w : World) (b : Bool) (e : Ending) (w' : World) : Prop := e = .returned (.bool b) ∧ ∃ m, w' = w.drewN m
theorem nw_drewN (w : World) (m : Nat) : Nw w (w.drewN m) := (Nw.refl w).drewN m
theorem QPost.nw {w : World} {b : Bool} {e : Ending} {w' : World} (h : QPost w b e w') : BoolPost w b e w' := by
  obtain ⟨h1, m, rfl⟩ := h
  exact ⟨h1, nw_drewN w m⟩
theorem quietB {P : Program} {f : FuncId} {args : Array Value} {w : World} {n : Nat} {b b' : Bool} (h : Calls P f args (w.drewN n) (QPost (w.drewN n) b)) (e : b = b') :
    Calls P f args (w.drewN n) fun e w'' => e = .returned (.bool b') ∧ ∃ m, w'' = w.drewN m := by
  subst e; exact Calls.quiet_of h
theorem bool_ne {a b : Bool} (h : ¬ a = b) : (a == b) = false ∧ (a != b) = true ∧ decide (a = b) = false ∧ decide (¬ a = b) = true := by
  refine ⟨beq_eq_false_iff_ne.2 h, ?_, decide_eq_false h, decide_eq_true h⟩
  simp [h]
theorem nat_ne {a b : Nat} (h : ¬ a = b) : ((a : Int) == (b : Int)) = false ∧ ((a : Int) != (b : Int)) = true ∧ decide ((a : Int) = (b : Int)) = false ∧ decide (¬ (a : Int) = (b : Int)) = true := int_ne (by omega)
theorem some_succ {d : Nat} {p : Prop} (h : d = 0 → False) : ∃ d0, d = d0 + 1 := by cases d with | zero => exact (h rfl).elim | succ n => exact ⟨n, rfl⟩
set_option maxRecDepth 100000 in
set_option maxHeartbeats 1000000 in
theorem sameExprs_of {B : Nat} {W : World} {d d' : Nat} 
    (ih : ∀ (d0 : Nat), d0 + 1 = d → ∀ (d' : Nat) (l : List Ex) (v : Value) (l' : List Ex) (v' : Value) (w : World), SlB B W 4 (ExAt B W d0) l v → SlB B W 4 (ExAt B W d') l' v' → In B W w → Calls Try.prog 109 #[v, v'] w (QPost w (dc (l = l'))))
    (l : List Ex) (v : Value) (l' : List Ex) (v' : Value) (w : World) (hl : SlB B W 4 (ExAt B W d) l v) (hl' : SlB B W 4 (ExAt B W d') l' v') (h : In B W w) :
    Calls Try.prog 109 #[v, v'] w (QPost w (dc (l = l'))) := by
  obtain ⟨x, c, rfl, hlen, hel⟩ := hl
  obtain ⟨x', c', rfl, hlen', hel'⟩ := hl'
  have G := Lib.hid h
  have HE := Lib.hid hel
  have HE' := Lib.hid hel'
  have IHE := Lib.hid ih
  clear ih
  obtain ⟨n, e1⟩ : ∃ n, n = l.length := ⟨_, rfl⟩
  obtain ⟨n', e1'⟩ : ∃ n, n = l'.length := ⟨_, rfl⟩
  rw [← e1] at hlen ⊢
  rw [← e1'] at hlen' ⊢
  have E1 := Lib.hid e1
  have E1' := Lib.hid e1'
  clear h hel hel' e1 e1'
  by_cases hnn : n = n'
  · subst hnn
    go_enter Try.func109, Try.ntmps109
    go_wp2_with fail
    go_loopw [5] (fun i wr => ∃ k : Nat, k ≤ n ∧ i = .int .i64 k ∧ (∃ m, wr = w.drewN m) ∧ l.take k = l'.take k) (fun i _ => n - (intOf i).toNat)
    case atStart => exact ⟨0, Nat.zero_le _, rfl, ⟨0, rfl⟩, by simp⟩
    case round =>
      obtain ⟨k, hk0, rfl, g, htk⟩ := hrel
      have DT := Lib.hid (fun (q : Nat) => (show ∃ m, wr.drewN q = w.drewN m by obtain ⟨m, rfl⟩ := g; exact ⟨m + q, World.drewN_drewN _ _ _⟩))
      have DG := Lib.hid g
      have Gk := Lib.hid (show Nw w wr by obtain ⟨m, rfl⟩ := g; exact nw_drewN w m)
      have TK := Lib.hid htk
      clear g htk
      by_cases hlt : k < n
      · have hkl : k < l.length := by rw [← E1.out]; exact hlt
        have hkl' : k < l'.length := by rw [← E1'.out]; exact hlt
        have hq0 : (0 : Int) ≤ (k : Int) := by omega
        have hq1 : (k : Int) < (n : Int) := by omega
        obtain ⟨b, o, rfl, hb, he⟩ := HE.out (by intro e; rw [e] at hkl; simp at hkl)
        obtain ⟨b', o', rfl, hb', he'⟩ := HE'.out (by intro e; rw [e] at hkl'; simp at hkl')
        obtain ⟨cs, hcl, hcc, hce⟩ := he k hkl
        obtain ⟨cs', hcl', hcc', hce'⟩ := he' k hkl'
        have HQ := Lib.hid (fun (e : l[k]'hkl = l'[k]'hkl') => take_eq hkl hkl' TK.out e)
        have HN := Lib.hid (fun (e : ¬ l[k]'hkl = l'[k]'hkl') => dc_false (take_ne hkl hkl' e))
        clear he he'
        generalize l[k]'hkl = y at *
        generalize l'[k]'hkl' = y' at *
        obtain ⟨d0, rfl⟩ := some_succ (d := d) (p := True) (fun e => by subst e; exact hce.elim)
        obtain ⟨d0', rfl⟩ := some_succ (d := d') (p := True) (fun e => by subst e; exact hce'.elim)
        obtain ⟨op, nn, s, ks⟩ := y
        obtain ⟨op', nn', s', ks'⟩ := y'
        obtain ⟨vk, rfl, _, _, _, hk⟩ := hce
        obtain ⟨vk', rfl, _, _, _, hk'⟩ := hce'
        obtain ⟨x3, m3, c3, rfl⟩ := hk.slice
        obtain ⟨x3', m3', c3', rfl⟩ := hk'.slice
        have F0 := Lib.hid (fun (wz : World) (hz : In B W wz) (j : Nat) (hj : j < 4) => (hz.bel.cell (p := ⟨b, o + k * 4 + j, none⟩) hb).trans (hcc j (by simpa using hj)))
        have F0' := Lib.hid (fun (wz : World) (hz : In B W wz) (j : Nat) (hj : j < 4) => (hz.bel.cell (p := ⟨b', o' + k * 4 + j, none⟩) hb').trans (hcc' j (by simpa using hj)))
        have f0 := F0.out wr (G.out.nw Gk.out) 0 (by omega)
        have g0 := F0'.out wr (G.out.nw Gk.out) 0 (by omega)
        have f1 := F0.out wr (G.out.nw Gk.out) 1 (by omega)
        have g1 := F0'.out wr (G.out.nw Gk.out) 1 (by omega)
        have f2 := F0.out wr (G.out.nw Gk.out) 2 (by omega)
        have g2 := F0'.out wr (G.out.nw Gk.out) 2 (by omega)
        have f3 := F0.out wr (G.out.nw Gk.out) 3 (by omega)
        have g3 := F0'.out wr (G.out.nw Gk.out) 3 (by omega)
        simp only [List.getElem?_cons_zero, List.getElem?_cons_succ, Nat.add_zero] at f0 g0 f1 g1 f2 g2 f3 g3
        clear F0 F0'
        have CA3 := Lib.hid (fun (wz : World) (hz : Nw wr wz) => IHE.out d0 rfl d0' _ _ _ _ wz hk hk' ((G.out.nw Gk.out).nw hz))
        clear hcc hcc' hk hk'
        by_cases e0 : op = op'
        rotate_left
        · have hun : ¬ (Ex.mk op nn s ks = Ex.mk op' nn' s' ks') := by intro h; apply e0; injection h
          obtain ⟨ne1, ne2, ne3, ne4⟩ := int_ne e0
          clear e0
          have HR := Lib.hid (HN.out hun)
          clear hun
          go_wp2_with fail
          go_quiet (fail)
          go_wp2_with fail
          go_returns
          exact ⟨by rw [HR.out]; rfl, DT.out _⟩
        · subst e0
          by_cases e1 : nn = nn'
          rotate_left
          · have hun : ¬ (Ex.mk op nn s ks = Ex.mk op nn' s' ks') := by intro h; apply e1; injection h
            obtain ⟨ne1, ne2, ne3, ne4⟩ := int_ne e1
            clear e1
            have HR := Lib.hid (HN.out hun)
            clear hun
            go_wp2_with fail
            go_quiet (fail)
            go_wp2_with fail
            go_returns
            exact ⟨by rw [HR.out]; rfl, DT.out _⟩
          · subst e1
            by_cases e2 : s = s'
            rotate_left
            · have hun : ¬ (Ex.mk op nn s ks = Ex.mk op nn s' ks') := by intro h; apply e2; injection h
              obtain ⟨ne1, ne2, ne3, ne4⟩ := str_ne e2
              clear e2
              have HR := Lib.hid (HN.out hun)
              clear hun
              go_wp2_with fail
              go_quiet (fail)
              go_wp2_with fail
              go_returns
              exact ⟨by rw [HR.out]; rfl, DT.out _⟩
            · subst e2
              by_cases e3 : ks = ks'
              rotate_left
              · have hun : ¬ (Ex.mk op nn s ks = Ex.mk op nn s ks') := by intro h; apply e3; injection h
                have D3 := Lib.hid (dc_false e3)
                clear e3
                have HR := Lib.hid (HN.out hun)
                clear hun
                go_wp2_with fail
                go_quiet ((first
                    | (go_at_call 109; exact quietB (CA3.out _ (nw_drewN _ _)) D3.out)))
                go_wp2_with fail
                go_returns
                exact ⟨by rw [HR.out]; rfl, DT.out _⟩
              · have D3 := Lib.hid (dc_true e3)
                subst e3
                have HR := Lib.hid (HQ.out rfl)
                go_wp2_with fail
                go_quiet ((first
                    | (go_at_call 109; exact quietB (CA3.out _ (nw_drewN _ _)) D3.out)))
                go_wp2_with fail
                go_roundw
                case rel => exact ⟨k + 1, by omega, by go_num, DT.out _, HR.out⟩
                case measure => simp [intOf]; omega
      · have HR := Lib.hid (dc_true (take_done (k := k) (by rw [← E1.out]; omega) (by rw [← E1'.out]; omega) TK.out))
        go_wp2_with fail
        go_returns
        exact ⟨by rw [HR.out]; rfl, DG.out⟩
  · have HR := Lib.hid (dc_false (len_ne (l := l) (m := l') (by rw [← E1.out, ← E1'.out]; exact hnn)))
    obtain ⟨ne1, ne2, ne3, ne4⟩ := nat_ne hnn
    go_enter Try.func109, Try.ntmps109
    go_wp2_with fail
    go_returns
    exact ⟨by rw [HR.out]; rfl, ⟨0, rfl⟩⟩
theorem sameExprs_any {B : Nat} {W : World} (d : Nat) : ∀ (d' : Nat) (l : List Ex) (v : Value) (l' : List Ex) (v' : Value) (w : World), SlB B W 4 (ExAt B W d) l v → SlB B W 4 (ExAt B W d') l' v' → In B W w → Calls Try.prog 109 #[v, v'] w (QPost w (dc (l = l'))) := by
  induction d with
  | zero => intro d' l v l' v' w; exact sameExprs_of (fun d0 e => by omega) l v l' v' w
  | succ d ih => intro d' l v l' v' w; exact sameExprs_of (fun d0 e => by cases (show d0 = d by omega); exact ih) l v l' v' w
end Go.Proofs.Ytpopgnengimieaa
