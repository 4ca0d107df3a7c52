/- Lists of words, of symbols held against one another: the document's Words, Syms. -/
import Derived.Test.YtfdjlicegfgodaaLk14
import Derived.Laws.StructEq
namespace Go.Proofs.Ytfdjlicegfgodaa
open Go.RowKit
set_option linter.unusedSimpArgs false
set_option linter.unusedVariables false

theorem take_eq {α : Type} {l m : List α} {k : Nat} (h : k < l.length) (h' : k < m.length) (e : l.take k = m.take k) (e1 : l[k] = m[k]) : l.take (k + 1) = m.take (k + 1) := by
  rw [List.take_succ_eq_append_getElem h, List.take_succ_eq_append_getElem h', e, e1]
theorem take_ne {α : Type} {l m : List α} {k : Nat} (h : k < l.length) (h' : k < m.length) (e1 : l[k] ≠ m[k]) : l ≠ m := by
  intro e; subst e; exact e1 rfl
theorem take_done {α : Type} {l m : List α} {k : Nat} (h : l.length ≤ k) (h' : m.length ≤ k) (e : l.take k = m.take k) : l = m := by
  rwa [List.take_of_length_le h, List.take_of_length_le h'] at e
theorem len_ne {α : Type} {l m : List α} (h : l.length ≠ m.length) : l ≠ m := fun e => h (by rw [e])
theorem nw_drewN (w : World) (m : Nat) : Nw w (w.drewN m) := (Nw.refl w).drewN m
theorem nat_ne {a b : Nat} (h : ¬ a = b) : ((a : Int) == (b : Int)) = false ∧ ((a : Int) != (b : Int)) = true ∧ decide ((a : Int) = (b : Int)) = false ∧ decide (¬ (a : Int) = (b : Int)) = true := int_ne (by omega)
theorem bool_ne {a b : Bool} (h : ¬ a = b) : (a == b) = false ∧ (a != b) = true ∧ decide (a = b) = false ∧ decide (¬ a = b) = true := by
  refine ⟨beq_eq_false_iff_ne.2 h, ?_, decide_eq_false h, decide_eq_true h⟩
  simp [h]
set_option maxHeartbeats 1000000 in
theorem sy_eq (w : World) (a0 b0 : ByteArray) (a1 b1 : Int) (a2 b2 : Bool) (a3 b3 : Int) (a4 b4 : Int) (a5 b5 : Int) : (Op.equalIn 10000 44 (.agg #[.string a0, .int .i64 a1, .bool a2, .int .i64 a3, .int .i64 a4, .int .i64 a5]) (.agg #[.string b0, .int .i64 b1, .bool b2, .int .i64 b3, .int .i64 b4, .int .i64 b5])).run Try.prog w = .ok (dc (Sy.mk a0 a1 a2 a3 a4 a5 = Sy.mk b0 b1 b2 b3 b4 b5)) w := by
  have hf : Try.prog.fieldsOf 44 = #[{ name := "Name", type := 9, offset := 0, embedded := false, tag := "", pkgPath := "", byteOffset := 0 }, { name := "Kind", type := 3, offset := 1, embedded := false, tag := "", pkgPath := "", byteOffset := 16 }, { name := "Weak", type := 4, offset := 2, embedded := false, tag := "", pkgPath := "", byteOffset := 24 }, { name := "At", type := 3, offset := 3, embedded := false, tag := "", pkgPath := "", byteOffset := 32 }, { name := "Size", type := 3, offset := 4, embedded := false, tag := "", pkgPath := "", byteOffset := 40 }, { name := "Frame", type := 3, offset := 5, embedded := false, tag := "", pkgPath := "", byteOffset := 48 }] := by kernel_rfl
  rw [run_equalIn_agg w 9999 44 _ _ (by kernel_rfl) (by kernel_rfl), hf]
  by_cases e0 : a0 = b0
  rotate_left
  · rw [dc_false (by intro e; injection e with h0 h1 h2 h3 h4 h5; exact e0 h0)]
    obtain ⟨n1, n2, n3, n4⟩ := str_ne e0
    have n5 := of_decide_eq_false n3
    go_simp
  subst e0
  by_cases e1 : a1 = b1
  rotate_left
  · rw [dc_false (by intro e; injection e with h0 h1 h2 h3 h4 h5; exact e1 h1)]
    obtain ⟨n1, n2, n3, n4⟩ := int_ne e1
    have n5 := of_decide_eq_false n3
    go_simp
  subst e1
  by_cases e2 : a2 = b2
  rotate_left
  · rw [dc_false (by intro e; injection e with h0 h1 h2 h3 h4 h5; exact e2 h2)]
    obtain ⟨n1, n2, n3, n4⟩ := bool_ne e2
    have n5 := of_decide_eq_false n3
    go_simp
  subst e2
  by_cases e3 : a3 = b3
  rotate_left
  · rw [dc_false (by intro e; injection e with h0 h1 h2 h3 h4 h5; exact e3 h3)]
    obtain ⟨n1, n2, n3, n4⟩ := int_ne e3
    have n5 := of_decide_eq_false n3
    go_simp
  subst e3
  by_cases e4 : a4 = b4
  rotate_left
  · rw [dc_false (by intro e; injection e with h0 h1 h2 h3 h4 h5; exact e4 h4)]
    obtain ⟨n1, n2, n3, n4⟩ := int_ne e4
    have n5 := of_decide_eq_false n3
    go_simp
  subst e4
  by_cases e5 : a5 = b5
  rotate_left
  · rw [dc_false (by intro e; injection e with h0 h1 h2 h3 h4 h5; exact e5 h5)]
    obtain ⟨n1, n2, n3, n4⟩ := int_ne e5
    have n5 := of_decide_eq_false n3
    go_simp
  subst e5
  rw [dc_true rfl]
  go_simp
theorem sy_neq (w : World) (a0 b0 : ByteArray) (a1 b1 : Int) (a2 b2 : Bool) (a3 b3 : Int) (a4 b4 : Int) (a5 b5 : Int) (b : Bool) (hb : dc (Sy.mk a0 a1 a2 a3 a4 a5 = Sy.mk b0 b1 b2 b3 b4 b5) = b) : (binOp .neq 44 (.agg #[.string a0, .int .i64 a1, .bool a2, .int .i64 a3, .int .i64 a4, .int .i64 a5]) (.agg #[.string b0, .int .i64 b1, .bool b2, .int .i64 b3, .int .i64 b4, .int .i64 b5])).run Try.prog w = .ok (.bool (!b)) w := by
  rw [run_neq_struct, sy_eq, hb]; rfl
set_option maxRecDepth 100000 in
set_option maxHeartbeats 1000000 in
theorem words28 {B : Nat} {W : World} (l l' : List Int) (v v' : Value) (w : World) (hl : SlB B W 1 WdAt l v) (hl' : SlB B W 1 WdAt l' v') (h : In B W w) :
    Calls Try.prog 25 #[v, v'] w (BoolPost w (dc (l = l'))) := by
  generalize hrr : dc (l = l') = rr
  have hm : Try.prog.eqGuardType Try.prog.depth 44 = false := by kernel_rfl
  obtain ⟨x, c, rfl, hlen, hel⟩ := hl
  obtain ⟨x', c', rfl, hlen', hel'⟩ := hl'
  have RR := Lib.hid hrr
  have G := Lib.hid h
  have HE := Lib.hid hel
  have HE' := Lib.hid hel'
  obtain ⟨n, e1⟩ : ∃ n, n = l.length := ⟨_, rfl⟩
  obtain ⟨n', e1'⟩ : ∃ n, n = l'.length := ⟨_, rfl⟩
  rw [← e1] at hlen ⊢
  rw [← e1'] at hlen' ⊢
  have E1 := Lib.hid e1
  have E1' := Lib.hid e1'
  clear h hel hel' e1 e1' hrr
  by_cases hnn : n = n'
  · subst hnn
    go_enter Try.func25, Try.ntmps25
    go_wp2_with fail
    go_loopw [5] (fun i wr => ∃ k : Nat, k ≤ n ∧ i = .int .i64 k ∧ Nw w wr ∧ l.take k = l'.take k) (fun i _ => n - (intOf i).toNat)
    case atStart => exact ⟨0, Nat.zero_le _, rfl, Nw.refl _, by simp⟩
    case round =>
      obtain ⟨k, hk0, rfl, g, htk⟩ := hrel
      have Gk := Lib.hid g
      have TK := Lib.hid htk
      clear g htk
      by_cases hlt : k < n
      · skip
        have hkl : k < l.length := by rw [← E1.out]; exact hlt
        have hkl' : k < l'.length := by rw [← E1'.out]; exact hlt
        have hq0 : (0 : Int) ≤ (k : Int) := by omega
        have hq1 : (k : Int) < (n : Int) := by omega
        obtain ⟨b, o, rfl, hb, he⟩ := HE.out (by intro e; rw [e] at hkl; simp at hkl)
        obtain ⟨b', o', rfl, hb', he'⟩ := HE'.out (by intro e; rw [e] at hkl'; simp at hkl')
        obtain ⟨cs, hcl, hcc, hce⟩ := he k hkl
        obtain ⟨cs', hcl', hcc', hce'⟩ := he' k hkl'
        have HQ := Lib.hid (fun (e : l[k]'hkl = l'[k]'hkl') => take_eq hkl hkl' TK.out e)
        have HN := Lib.hid (fun (e : ¬ l[k]'hkl = l'[k]'hkl') => RR.out.symm.trans (dc_false (take_ne hkl hkl' e)))
        clear he he'
        generalize l[k]'hkl = y at *
        generalize l'[k]'hkl' = y' at *
        obtain ⟨rfl, _⟩ := hce
        obtain ⟨rfl, _⟩ := hce'
        have f0 := ((G.out.nw Gk.out).bel.cell (p := ⟨b, o + k * 1 + 0, none⟩) hb).trans (hcc 0 (by simp))
        have g0 := ((G.out.nw Gk.out).bel.cell (p := ⟨b', o' + k * 1 + 0, none⟩) hb').trans (hcc' 0 (by simp))
        simp only [List.getElem?_cons_zero, List.getElem?_cons_succ, Nat.add_zero, Nat.mul_one] at f0 g0
        clear hcc hcc'
        by_cases ey : y = y'
        · have HR := Lib.hid (HQ.out ey)
          subst ey
          go_wp2_with fail
          go_quiet (fail)
          go_wp2_with fail
          go_roundw
          case rel => exact ⟨k + 1, by omega, by go_num, Gk.out.trans (nw_drewN _ _), HR.out⟩
          case measure => simp [intOf]; omega
        · have HR := Lib.hid (HN.out ey)
          obtain ⟨ne1, ne2, ne3, ne4⟩ := int_ne ey
          clear ey
          go_wp2_with fail
          go_quiet (fail)
          go_wp2_with fail
          go_returns
          exact ⟨by rw [HR.out]; rfl, Gk.out.trans (nw_drewN _ _)⟩
      · have HR := Lib.hid (RR.out.symm.trans (dc_true (take_done (k := k) (by rw [← E1.out]; omega) (by rw [← E1'.out]; omega) TK.out)))
        go_wp2_with fail
        go_returns
        exact ⟨by rw [HR.out]; rfl, Gk.out⟩
  · have HR := Lib.hid (RR.out.symm.trans (dc_false (len_ne (l := l) (m := l') (by rw [← E1.out, ← E1'.out]; exact hnn))))
    obtain ⟨ne1, ne2, ne3, ne4⟩ := nat_ne hnn
    go_enter Try.func25, Try.ntmps25
    go_wp2_with fail
    go_returns
    exact ⟨by rw [HR.out]; rfl, Nw.refl _⟩
set_option maxRecDepth 100000 in
set_option maxHeartbeats 1000000 in
theorem syms28 {B : Nat} {W : World} (l l' : List Sy) (v v' : Value) (w : World) (hl : SlB B W 6 SyAt l v) (hl' : SlB B W 6 SyAt l' v') (h : In B W w) :
    Calls Try.prog 24 #[v, v'] w (BoolPost w (dc (l = l'))) := by
  generalize hrr : dc (l = l') = rr
  have hm : Try.prog.eqGuardType Try.prog.depth 44 = false := by kernel_rfl
  obtain ⟨x, c, rfl, hlen, hel⟩ := hl
  obtain ⟨x', c', rfl, hlen', hel'⟩ := hl'
  have RR := Lib.hid hrr
  have G := Lib.hid h
  have HE := Lib.hid hel
  have HE' := Lib.hid hel'
  obtain ⟨n, e1⟩ : ∃ n, n = l.length := ⟨_, rfl⟩
  obtain ⟨n', e1'⟩ : ∃ n, n = l'.length := ⟨_, rfl⟩
  rw [← e1] at hlen ⊢
  rw [← e1'] at hlen' ⊢
  have E1 := Lib.hid e1
  have E1' := Lib.hid e1'
  clear h hel hel' e1 e1' hrr
  by_cases hnn : n = n'
  · subst hnn
    go_enter Try.func24, Try.ntmps24
    go_wp2_with fail
    go_loopw [5] (fun i wr => ∃ k : Nat, k ≤ n ∧ i = .int .i64 k ∧ Nw w wr ∧ l.take k = l'.take k) (fun i _ => n - (intOf i).toNat)
    case atStart => exact ⟨0, Nat.zero_le _, rfl, Nw.refl _, by simp⟩
    case round =>
      obtain ⟨k, hk0, rfl, g, htk⟩ := hrel
      have Gk := Lib.hid g
      have TK := Lib.hid htk
      clear g htk
      by_cases hlt : k < n
      · skip
        have hkl : k < l.length := by rw [← E1.out]; exact hlt
        have hkl' : k < l'.length := by rw [← E1'.out]; exact hlt
        have hq0 : (0 : Int) ≤ (k : Int) := by omega
        have hq1 : (k : Int) < (n : Int) := by omega
        obtain ⟨b, o, rfl, hb, he⟩ := HE.out (by intro e; rw [e] at hkl; simp at hkl)
        obtain ⟨b', o', rfl, hb', he'⟩ := HE'.out (by intro e; rw [e] at hkl'; simp at hkl')
        obtain ⟨cs, hcl, hcc, hce⟩ := he k hkl
        obtain ⟨cs', hcl', hcc', hce'⟩ := he' k hkl'
        have HQ := Lib.hid (fun (e : l[k]'hkl = l'[k]'hkl') => take_eq hkl hkl' TK.out e)
        have HN := Lib.hid (fun (e : ¬ l[k]'hkl = l'[k]'hkl') => RR.out.symm.trans (dc_false (take_ne hkl hkl' e)))
        clear he he'
        generalize l[k]'hkl = y at *
        generalize l'[k]'hkl' = y' at *
        obtain ⟨a0, a1, a2, a3, a4, a5⟩ := y
        obtain ⟨b0, b1, b2, b3, b4, b5⟩ := y'
        obtain ⟨rfl, _⟩ := hce
        obtain ⟨rfl, _⟩ := hce'
        have f0 := ((G.out.nw Gk.out).bel.cell (p := ⟨b, o + k * 6 + 0, none⟩) hb).trans (hcc 0 (by simp))
        have g0 := ((G.out.nw Gk.out).bel.cell (p := ⟨b', o' + k * 6 + 0, none⟩) hb').trans (hcc' 0 (by simp))
        have f1 := ((G.out.nw Gk.out).bel.cell (p := ⟨b, o + k * 6 + 1, none⟩) hb).trans (hcc 1 (by simp))
        have g1 := ((G.out.nw Gk.out).bel.cell (p := ⟨b', o' + k * 6 + 1, none⟩) hb').trans (hcc' 1 (by simp))
        have f2 := ((G.out.nw Gk.out).bel.cell (p := ⟨b, o + k * 6 + 2, none⟩) hb).trans (hcc 2 (by simp))
        have g2 := ((G.out.nw Gk.out).bel.cell (p := ⟨b', o' + k * 6 + 2, none⟩) hb').trans (hcc' 2 (by simp))
        have f3 := ((G.out.nw Gk.out).bel.cell (p := ⟨b, o + k * 6 + 3, none⟩) hb).trans (hcc 3 (by simp))
        have g3 := ((G.out.nw Gk.out).bel.cell (p := ⟨b', o' + k * 6 + 3, none⟩) hb').trans (hcc' 3 (by simp))
        have f4 := ((G.out.nw Gk.out).bel.cell (p := ⟨b, o + k * 6 + 4, none⟩) hb).trans (hcc 4 (by simp))
        have g4 := ((G.out.nw Gk.out).bel.cell (p := ⟨b', o' + k * 6 + 4, none⟩) hb').trans (hcc' 4 (by simp))
        have f5 := ((G.out.nw Gk.out).bel.cell (p := ⟨b, o + k * 6 + 5, none⟩) hb).trans (hcc 5 (by simp))
        have g5 := ((G.out.nw Gk.out).bel.cell (p := ⟨b', o' + k * 6 + 5, none⟩) hb').trans (hcc' 5 (by simp))
        simp only [List.getElem?_cons_zero, List.getElem?_cons_succ, Nat.add_zero] at f0 g0 f1 g1 f2 g2 f3 g3 f4 g4 f5 g5
        clear hcc hcc'
        by_cases ey : Sy.mk a0 a1 a2 a3 a4 a5 = Sy.mk b0 b1 b2 b3 b4 b5
        · have HR := Lib.hid (HQ.out ey)
          have NQ := fun (wz : World) => sy_neq wz a0 b0 a1 b1 a2 b2 a3 b3 a4 b4 a5 b5 true (dc_true ey)
          clear ey
          go_wp2_with fail
          go_quiet (fail)
          go_wp2_with fail
          go_roundw
          case rel => exact ⟨k + 1, by omega, by go_num, Gk.out.trans (nw_drewN _ _), HR.out⟩
          case measure => simp [intOf]; omega
        · have HR := Lib.hid (HN.out ey)
          have NQ := fun (wz : World) => sy_neq wz a0 b0 a1 b1 a2 b2 a3 b3 a4 b4 a5 b5 false (dc_false ey)
          clear ey
          go_wp2_with fail
          go_quiet (fail)
          go_wp2_with fail
          go_returns
          exact ⟨by rw [HR.out]; rfl, Gk.out.trans (nw_drewN _ _)⟩
      · have HR := Lib.hid (RR.out.symm.trans (dc_true (take_done (k := k) (by rw [← E1.out]; omega) (by rw [← E1'.out]; omega) TK.out)))
        go_wp2_with fail
        go_returns
        exact ⟨by rw [HR.out]; rfl, Gk.out⟩
  · have HR := Lib.hid (RR.out.symm.trans (dc_false (len_ne (l := l) (m := l') (by rw [← E1.out, ← E1'.out]; exact hnn))))
    obtain ⟨ne1, ne2, ne3, ne4⟩ := nat_ne hnn
    go_enter Try.func24, Try.ntmps24
    go_wp2_with fail
    go_returns
    exact ⟨by rw [HR.out]; rfl, Nw.refl _⟩
end Go.Proofs.Ytfdjlicegfgodaa
