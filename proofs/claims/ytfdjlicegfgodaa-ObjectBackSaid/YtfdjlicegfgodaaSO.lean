/- Are two objects one: the document's functions. -/
import Derived.Test.YtfdjlicegfgodaaTK7
import Derived.Laws.StructEq
namespace Go.Proofs.Ytfdjlicegfgodaa
open Go.RowKit
set_option linter.unusedSimpArgs false
set_option linter.unusedVariables false

theorem take_eq {α : Type} {l m : List α} {k : Nat} (h : k < l.length) (h' : k < m.length) (e : l.take k = m.take k) (e1 : l[k] = m[k]) : l.take (k + 1) = m.take (k + 1) := by
  rw [List.take_succ_eq_append_getElem h, List.take_succ_eq_append_getElem h', e, e1]
theorem take_ne {α : Type} {l m : List α} {k : Nat} (h : k < l.length) (h' : k < m.length) (e1 : l[k] ≠ m[k]) : l ≠ m := by
  intro e; subst e; exact e1 rfl
theorem take_done {α : Type} {l m : List α} {k : Nat} (h : l.length ≤ k) (h' : m.length ≤ k) (e : l.take k = m.take k) : l = m := by
  rwa [List.take_of_length_le h, List.take_of_length_le h'] at e
theorem len_ne {α : Type} {l m : List α} (h : l.length ≠ m.length) : l ≠ m := fun e => h (by rw [e])
theorem nw_drewN (w : World) (m : Nat) : Nw w (w.drewN m) := (Nw.refl w).drewN m
theorem nat_ne {a b : Nat} (h : ¬ a = b) : ((a : Int) == (b : Int)) = false ∧ ((a : Int) != (b : Int)) = true ∧ decide ((a : Int) = (b : Int)) = false ∧ decide (¬ (a : Int) = (b : Int)) = true := int_ne (by omega)
theorem bool_ne {a b : Bool} (h : ¬ a = b) : (a == b) = false ∧ (a != b) = true ∧ decide (a = b) = false ∧ decide (¬ a = b) = true := by
  refine ⟨beq_eq_false_iff_ne.2 h, ?_, decide_eq_false h, decide_eq_true h⟩
  simp [h]
set_option maxHeartbeats 1000000 in
theorem im_eq (w : World) (a0 b0 : ByteArray) (a1 b1 : Int) : (Op.equalIn 10000 51 (.agg #[.string a0, .int .i64 a1]) (.agg #[.string b0, .int .i64 b1])).run Try.prog w = .ok (dc (Im.mk a0 a1 = Im.mk b0 b1)) w := by
  have hf : Try.prog.fieldsOf 51 = #[{ name := "Name", type := 9, offset := 0, embedded := false, tag := "", pkgPath := "", byteOffset := 0 }, { name := "Hash", type := 2, offset := 1, embedded := false, tag := "", pkgPath := "", byteOffset := 16 }] := by kernel_rfl
  rw [run_equalIn_agg w 9999 51 _ _ (by kernel_rfl) (by kernel_rfl), hf]
  by_cases e0 : a0 = b0
  rotate_left
  · rw [dc_false (by intro e; injection e with h0 h1; exact e0 h0)]
    obtain ⟨n1, n2, n3, n4⟩ := str_ne e0
    have n5 := of_decide_eq_false n3
    go_simp
  subst e0
  by_cases e1 : a1 = b1
  rotate_left
  · rw [dc_false (by intro e; injection e with h0 h1; exact e1 h1)]
    obtain ⟨n1, n2, n3, n4⟩ := int_ne e1
    have n5 := of_decide_eq_false n3
    go_simp
  subst e1
  rw [dc_true rfl]
  go_simp
theorem im_neq (w : World) (a0 b0 : ByteArray) (a1 b1 : Int) (b : Bool) (hb : dc (Im.mk a0 a1 = Im.mk b0 b1) = b) : (binOp .neq 51 (.agg #[.string a0, .int .i64 a1]) (.agg #[.string b0, .int .i64 b1])).run Try.prog w = .ok (.bool (!b)) w := by
  rw [run_neq_struct, im_eq, hb]; rfl
set_option maxHeartbeats 1000000 in
theorem sy_eq (w : World) (a0 b0 : ByteArray) (a1 b1 : Int) (a2 b2 : Bool) (a3 b3 : Int) (a4 b4 : Int) (a5 b5 : Int) : (Op.equalIn 10000 44 (.agg #[.string a0, .int .i64 a1, .bool a2, .int .i64 a3, .int .i64 a4, .int .i64 a5]) (.agg #[.string b0, .int .i64 b1, .bool b2, .int .i64 b3, .int .i64 b4, .int .i64 b5])).run Try.prog w = .ok (dc (Sy.mk a0 a1 a2 a3 a4 a5 = Sy.mk b0 b1 b2 b3 b4 b5)) w := by
  have hf : Try.prog.fieldsOf 44 = #[{ name := "Name", type := 9, offset := 0, embedded := false, tag := "", pkgPath := "", byteOffset := 0 }, { name := "Kind", type := 3, offset := 1, embedded := false, tag := "", pkgPath := "", byteOffset := 16 }, { name := "Weak", type := 4, offset := 2, embedded := false, tag := "", pkgPath := "", byteOffset := 24 }, { name := "At", type := 3, offset := 3, embedded := false, tag := "", pkgPath := "", byteOffset := 32 }, { name := "Size", type := 3, offset := 4, embedded := false, tag := "", pkgPath := "", byteOffset := 40 }, { name := "Frame", type := 3, offset := 5, embedded := false, tag := "", pkgPath := "", byteOffset := 48 }] := by kernel_rfl
  rw [run_equalIn_agg w 9999 44 _ _ (by kernel_rfl) (by kernel_rfl), hf]
  by_cases e0 : a0 = b0
  rotate_left
  · rw [dc_false (by intro e; injection e with h0 h1 h2 h3 h4 h5; exact e0 h0)]
    obtain ⟨n1, n2, n3, n4⟩ := str_ne e0
    have n5 := of_decide_eq_false n3
    go_simp
  subst e0
  by_cases e1 : a1 = b1
  rotate_left
  · rw [dc_false (by intro e; injection e with h0 h1 h2 h3 h4 h5; exact e1 h1)]
    obtain ⟨n1, n2, n3, n4⟩ := int_ne e1
    have n5 := of_decide_eq_false n3
    go_simp
  subst e1
  by_cases e2 : a2 = b2
  rotate_left
  · rw [dc_false (by intro e; injection e with h0 h1 h2 h3 h4 h5; exact e2 h2)]
    obtain ⟨n1, n2, n3, n4⟩ := bool_ne e2
    have n5 := of_decide_eq_false n3
    go_simp
  subst e2
  by_cases e3 : a3 = b3
  rotate_left
  · rw [dc_false (by intro e; injection e with h0 h1 h2 h3 h4 h5; exact e3 h3)]
    obtain ⟨n1, n2, n3, n4⟩ := int_ne e3
    have n5 := of_decide_eq_false n3
    go_simp
  subst e3
  by_cases e4 : a4 = b4
  rotate_left
  · rw [dc_false (by intro e; injection e with h0 h1 h2 h3 h4 h5; exact e4 h4)]
    obtain ⟨n1, n2, n3, n4⟩ := int_ne e4
    have n5 := of_decide_eq_false n3
    go_simp
  subst e4
  by_cases e5 : a5 = b5
  rotate_left
  · rw [dc_false (by intro e; injection e with h0 h1 h2 h3 h4 h5; exact e5 h5)]
    obtain ⟨n1, n2, n3, n4⟩ := int_ne e5
    have n5 := of_decide_eq_false n3
    go_simp
  subst e5
  rw [dc_true rfl]
  go_simp
theorem sy_neq (w : World) (a0 b0 : ByteArray) (a1 b1 : Int) (a2 b2 : Bool) (a3 b3 : Int) (a4 b4 : Int) (a5 b5 : Int) (b : Bool) (hb : dc (Sy.mk a0 a1 a2 a3 a4 a5 = Sy.mk b0 b1 b2 b3 b4 b5) = b) : (binOp .neq 44 (.agg #[.string a0, .int .i64 a1, .bool a2, .int .i64 a3, .int .i64 a4, .int .i64 a5]) (.agg #[.string b0, .int .i64 b1, .bool b2, .int .i64 b3, .int .i64 b4, .int .i64 b5])).run Try.prog w = .ok (.bool (!b)) w := by
  rw [run_neq_struct, sy_eq, hb]; rfl
set_option maxHeartbeats 1000000 in
theorem re_eq (w : World) (a0 b0 : Bool) (a1 b1 : Int) (a2 b2 : ByteArray) : (Op.equalIn 10000 64 (.agg #[.bool a0, .int .i64 a1, .string a2]) (.agg #[.bool b0, .int .i64 b1, .string b2])).run Try.prog w = .ok (dc (Re.mk a0 a1 a2 = Re.mk b0 b1 b2)) w := by
  have hf : Try.prog.fieldsOf 64 = #[{ name := "Data", type := 4, offset := 0, embedded := false, tag := "", pkgPath := "", byteOffset := 0 }, { name := "At", type := 3, offset := 1, embedded := false, tag := "", pkgPath := "", byteOffset := 8 }, { name := "Name", type := 9, offset := 2, embedded := false, tag := "", pkgPath := "", byteOffset := 16 }] := by kernel_rfl
  rw [run_equalIn_agg w 9999 64 _ _ (by kernel_rfl) (by kernel_rfl), hf]
  by_cases e0 : a0 = b0
  rotate_left
  · rw [dc_false (by intro e; injection e with h0 h1 h2; exact e0 h0)]
    obtain ⟨n1, n2, n3, n4⟩ := bool_ne e0
    have n5 := of_decide_eq_false n3
    go_simp
  subst e0
  by_cases e1 : a1 = b1
  rotate_left
  · rw [dc_false (by intro e; injection e with h0 h1 h2; exact e1 h1)]
    obtain ⟨n1, n2, n3, n4⟩ := int_ne e1
    have n5 := of_decide_eq_false n3
    go_simp
  subst e1
  by_cases e2 : a2 = b2
  rotate_left
  · rw [dc_false (by intro e; injection e with h0 h1 h2; exact e2 h2)]
    obtain ⟨n1, n2, n3, n4⟩ := str_ne e2
    have n5 := of_decide_eq_false n3
    go_simp
  subst e2
  rw [dc_true rfl]
  go_simp
theorem re_neq (w : World) (a0 b0 : Bool) (a1 b1 : Int) (a2 b2 : ByteArray) (b : Bool) (hb : dc (Re.mk a0 a1 a2 = Re.mk b0 b1 b2) = b) : (binOp .neq 64 (.agg #[.bool a0, .int .i64 a1, .string a2]) (.agg #[.bool b0, .int .i64 b1, .string b2])).run Try.prog w = .ok (.bool (!b)) w := by
  rw [run_neq_struct, re_eq, hb]; rfl
set_option maxRecDepth 100000 in
set_option maxHeartbeats 1000000 in
theorem words28 {B : Nat} {W : World} (l l' : List Int) (v v' : Value) (w : World) (hl : SlB B W 1 WdAt l v) (hl' : SlB B W 1 WdAt l' v') (h : In B W w) :
    Calls Try.prog 25 #[v, v'] w (BoolPost w (dc (l = l'))) := by
  generalize hrr : dc (l = l') = rr
  have hm : Try.prog.eqGuardType Try.prog.depth 44 = false := by kernel_rfl
  obtain ⟨x, c, rfl, hlen, hel⟩ := hl
  obtain ⟨x', c', rfl, hlen', hel'⟩ := hl'
  have RR := Lib.hid hrr
  have G := Lib.hid h
  have HE := Lib.hid hel
  have HE' := Lib.hid hel'
  obtain ⟨n, e1⟩ : ∃ n, n = l.length := ⟨_, rfl⟩
  obtain ⟨n', e1'⟩ : ∃ n, n = l'.length := ⟨_, rfl⟩
  rw [← e1] at hlen ⊢
  rw [← e1'] at hlen' ⊢
  have E1 := Lib.hid e1
  have E1' := Lib.hid e1'
  clear h hel hel' e1 e1' hrr
  by_cases hnn : n = n'
  · subst hnn
    go_enter Try.func25, Try.ntmps25
    go_wp2_with fail
    go_loopw [5] (fun i wr => ∃ k : Nat, k ≤ n ∧ i = .int .i64 k ∧ Nw w wr ∧ l.take k = l'.take k) (fun i _ => n - (intOf i).toNat)
    case atStart => exact ⟨0, Nat.zero_le _, rfl, Nw.refl _, by simp⟩
    case round =>
      obtain ⟨k, hk0, rfl, g, htk⟩ := hrel
      have Gk := Lib.hid g
      have TK := Lib.hid htk
      clear g htk
      by_cases hlt : k < n
      · skip
        have hkl : k < l.length := by rw [← E1.out]; exact hlt
        have hkl' : k < l'.length := by rw [← E1'.out]; exact hlt
        have hq0 : (0 : Int) ≤ (k : Int) := by omega
        have hq1 : (k : Int) < (n : Int) := by omega
        obtain ⟨b, o, rfl, hb, he⟩ := HE.out (by intro e; rw [e] at hkl; simp at hkl)
        obtain ⟨b', o', rfl, hb', he'⟩ := HE'.out (by intro e; rw [e] at hkl'; simp at hkl')
        obtain ⟨cs, hcl, hcc, hce⟩ := he k hkl
        obtain ⟨cs', hcl', hcc', hce'⟩ := he' k hkl'
        have HQ := Lib.hid (fun (e : l[k]'hkl = l'[k]'hkl') => take_eq hkl hkl' TK.out e)
        have HN := Lib.hid (fun (e : ¬ l[k]'hkl = l'[k]'hkl') => RR.out.symm.trans (dc_false (take_ne hkl hkl' e)))
        clear he he'
        generalize l[k]'hkl = y at *
        generalize l'[k]'hkl' = y' at *
        obtain ⟨rfl, _⟩ := hce
        obtain ⟨rfl, _⟩ := hce'
        have f0 := ((G.out.nw Gk.out).bel.cell (p := ⟨b, o + k * 1 + 0, none⟩) hb).trans (hcc 0 (by simp))
        have g0 := ((G.out.nw Gk.out).bel.cell (p := ⟨b', o' + k * 1 + 0, none⟩) hb').trans (hcc' 0 (by simp))
        simp only [List.getElem?_cons_zero, List.getElem?_cons_succ, Nat.add_zero, Nat.mul_one] at f0 g0
        clear hcc hcc'
        by_cases ey : y = y'
        · have HR := Lib.hid (HQ.out ey)
          subst ey
          go_wp2_with fail
          go_quiet (fail)
          go_wp2_with fail
          go_roundw
          case rel => exact ⟨k + 1, by omega, by go_num, Gk.out.trans (nw_drewN _ _), HR.out⟩
          case measure => simp [intOf]; omega
        · have HR := Lib.hid (HN.out ey)
          obtain ⟨ne1, ne2, ne3, ne4⟩ := int_ne ey
          clear ey
          go_wp2_with fail
          go_quiet (fail)
          go_wp2_with fail
          go_returns
          exact ⟨by rw [HR.out]; rfl, Gk.out.trans (nw_drewN _ _)⟩
      · have HR := Lib.hid (RR.out.symm.trans (dc_true (take_done (k := k) (by rw [← E1.out]; omega) (by rw [← E1'.out]; omega) TK.out)))
        go_wp2_with fail
        go_returns
        exact ⟨by rw [HR.out]; rfl, Gk.out⟩
  · have HR := Lib.hid (RR.out.symm.trans (dc_false (len_ne (l := l) (m := l') (by rw [← E1.out, ← E1'.out]; exact hnn))))
    obtain ⟨ne1, ne2, ne3, ne4⟩ := nat_ne hnn
    go_enter Try.func25, Try.ntmps25
    go_wp2_with fail
    go_returns
    exact ⟨by rw [HR.out]; rfl, Nw.refl _⟩
set_option maxRecDepth 100000 in
set_option maxHeartbeats 1000000 in
theorem syms28 {B : Nat} {W : World} (l l' : List Sy) (v v' : Value) (w : World) (hl : SlB B W 6 SyAt l v) (hl' : SlB B W 6 SyAt l' v') (h : In B W w) :
    Calls Try.prog 24 #[v, v'] w (BoolPost w (dc (l = l'))) := by
  generalize hrr : dc (l = l') = rr
  have hm : Try.prog.eqGuardType Try.prog.depth 44 = false := by kernel_rfl
  obtain ⟨x, c, rfl, hlen, hel⟩ := hl
  obtain ⟨x', c', rfl, hlen', hel'⟩ := hl'
  have RR := Lib.hid hrr
  have G := Lib.hid h
  have HE := Lib.hid hel
  have HE' := Lib.hid hel'
  obtain ⟨n, e1⟩ : ∃ n, n = l.length := ⟨_, rfl⟩
  obtain ⟨n', e1'⟩ : ∃ n, n = l'.length := ⟨_, rfl⟩
  rw [← e1] at hlen ⊢
  rw [← e1'] at hlen' ⊢
  have E1 := Lib.hid e1
  have E1' := Lib.hid e1'
  clear h hel hel' e1 e1' hrr
  by_cases hnn : n = n'
  · subst hnn
    go_enter Try.func24, Try.ntmps24
    go_wp2_with fail
    go_loopw [5] (fun i wr => ∃ k : Nat, k ≤ n ∧ i = .int .i64 k ∧ Nw w wr ∧ l.take k = l'.take k) (fun i _ => n - (intOf i).toNat)
    case atStart => exact ⟨0, Nat.zero_le _, rfl, Nw.refl _, by simp⟩
    case round =>
      obtain ⟨k, hk0, rfl, g, htk⟩ := hrel
      have Gk := Lib.hid g
      have TK := Lib.hid htk
      clear g htk
      by_cases hlt : k < n
      · skip
        have hkl : k < l.length := by rw [← E1.out]; exact hlt
        have hkl' : k < l'.length := by rw [← E1'.out]; exact hlt
        have hq0 : (0 : Int) ≤ (k : Int) := by omega
        have hq1 : (k : Int) < (n : Int) := by omega
        obtain ⟨b, o, rfl, hb, he⟩ := HE.out (by intro e; rw [e] at hkl; simp at hkl)
        obtain ⟨b', o', rfl, hb', he'⟩ := HE'.out (by intro e; rw [e] at hkl'; simp at hkl')
        obtain ⟨cs, hcl, hcc, hce⟩ := he k hkl
        obtain ⟨cs', hcl', hcc', hce'⟩ := he' k hkl'
        have HQ := Lib.hid (fun (e : l[k]'hkl = l'[k]'hkl') => take_eq hkl hkl' TK.out e)
        have HN := Lib.hid (fun (e : ¬ l[k]'hkl = l'[k]'hkl') => RR.out.symm.trans (dc_false (take_ne hkl hkl' e)))
        clear he he'
        generalize l[k]'hkl = y at *
        generalize l'[k]'hkl' = y' at *
        obtain ⟨a0, a1, a2, a3, a4, a5⟩ := y
        obtain ⟨b0, b1, b2, b3, b4, b5⟩ := y'
        obtain ⟨rfl, _⟩ := hce
        obtain ⟨rfl, _⟩ := hce'
        have f0 := ((G.out.nw Gk.out).bel.cell (p := ⟨b, o + k * 6 + 0, none⟩) hb).trans (hcc 0 (by simp))
        have g0 := ((G.out.nw Gk.out).bel.cell (p := ⟨b', o' + k * 6 + 0, none⟩) hb').trans (hcc' 0 (by simp))
        have f1 := ((G.out.nw Gk.out).bel.cell (p := ⟨b, o + k * 6 + 1, none⟩) hb).trans (hcc 1 (by simp))
        have g1 := ((G.out.nw Gk.out).bel.cell (p := ⟨b', o' + k * 6 + 1, none⟩) hb').trans (hcc' 1 (by simp))
        have f2 := ((G.out.nw Gk.out).bel.cell (p := ⟨b, o + k * 6 + 2, none⟩) hb).trans (hcc 2 (by simp))
        have g2 := ((G.out.nw Gk.out).bel.cell (p := ⟨b', o' + k * 6 + 2, none⟩) hb').trans (hcc' 2 (by simp))
        have f3 := ((G.out.nw Gk.out).bel.cell (p := ⟨b, o + k * 6 + 3, none⟩) hb).trans (hcc 3 (by simp))
        have g3 := ((G.out.nw Gk.out).bel.cell (p := ⟨b', o' + k * 6 + 3, none⟩) hb').trans (hcc' 3 (by simp))
        have f4 := ((G.out.nw Gk.out).bel.cell (p := ⟨b, o + k * 6 + 4, none⟩) hb).trans (hcc 4 (by simp))
        have g4 := ((G.out.nw Gk.out).bel.cell (p := ⟨b', o' + k * 6 + 4, none⟩) hb').trans (hcc' 4 (by simp))
        have f5 := ((G.out.nw Gk.out).bel.cell (p := ⟨b, o + k * 6 + 5, none⟩) hb).trans (hcc 5 (by simp))
        have g5 := ((G.out.nw Gk.out).bel.cell (p := ⟨b', o' + k * 6 + 5, none⟩) hb').trans (hcc' 5 (by simp))
        simp only [List.getElem?_cons_zero, List.getElem?_cons_succ, Nat.add_zero] at f0 g0 f1 g1 f2 g2 f3 g3 f4 g4 f5 g5
        clear hcc hcc'
        by_cases ey : Sy.mk a0 a1 a2 a3 a4 a5 = Sy.mk b0 b1 b2 b3 b4 b5
        · have HR := Lib.hid (HQ.out ey)
          have NQ := fun (wz : World) => sy_neq wz a0 b0 a1 b1 a2 b2 a3 b3 a4 b4 a5 b5 true (dc_true ey)
          clear ey
          go_wp2_with fail
          go_quiet (fail)
          go_wp2_with fail
          go_roundw
          case rel => exact ⟨k + 1, by omega, by go_num, Gk.out.trans (nw_drewN _ _), HR.out⟩
          case measure => simp [intOf]; omega
        · have HR := Lib.hid (HN.out ey)
          have NQ := fun (wz : World) => sy_neq wz a0 b0 a1 b1 a2 b2 a3 b3 a4 b4 a5 b5 false (dc_false ey)
          clear ey
          go_wp2_with fail
          go_quiet (fail)
          go_wp2_with fail
          go_returns
          exact ⟨by rw [HR.out]; rfl, Gk.out.trans (nw_drewN _ _)⟩
      · have HR := Lib.hid (RR.out.symm.trans (dc_true (take_done (k := k) (by rw [← E1.out]; omega) (by rw [← E1'.out]; omega) TK.out)))
        go_wp2_with fail
        go_returns
        exact ⟨by rw [HR.out]; rfl, Gk.out⟩
  · have HR := Lib.hid (RR.out.symm.trans (dc_false (len_ne (l := l) (m := l') (by rw [← E1.out, ← E1'.out]; exact hnn))))
    obtain ⟨ne1, ne2, ne3, ne4⟩ := nat_ne hnn
    go_enter Try.func24, Try.ntmps24
    go_wp2_with fail
    go_returns
    exact ⟨by rw [HR.out]; rfl, Nw.refl _⟩
set_option maxRecDepth 100000 in
set_option maxHeartbeats 4000000 in
theorem same28 {B : Nat} {W w : World} (u v : Ob) (cs cs' : List Value) (hx : ObAt B W u cs) (hx' : ObAt B W v cs') (h : In B W w) :
    Calls Try.prog 19 #[.agg cs.toArray, .agg cs'.toArray] w (BoolPost w (dc (u = v))) := by
  generalize hrr : dc (u = v) = rr
  have hm : Try.prog.eqGuardType Try.prog.depth 51 = false := by kernel_rfl
  have hm2 : Try.prog.eqGuardType Try.prog.depth 64 = false := by kernel_rfl
  obtain ⟨pk, hash, is, ss, rs, code, data⟩ := u
  obtain ⟨vi, vs, vr, vc, vd, rfl, _, _, hi, hs, hr, hc, hd⟩ := hx
  have HSs := Lib.hid hs
  have HCs := Lib.hid hc
  have HDs := Lib.hid hd
  obtain ⟨x2, c2, rfl, hil, hie⟩ := hi
  obtain ⟨x3, c3, rfl, hsl, hse⟩ := hs
  obtain ⟨x4, c4, rfl, hrl, hre⟩ := hr
  obtain ⟨x5, c5, rfl, hcl, hce⟩ := hc
  obtain ⟨x6, c6, rfl, hdl, hde⟩ := hd
  have HI := Lib.hid hie
  have HR := Lib.hid hre
  clear hie hse hre hce hde
  obtain ⟨m2, e2⟩ : ∃ n, n = is.length := ⟨_, rfl⟩
  obtain ⟨m3, e3⟩ : ∃ n, n = ss.length := ⟨_, rfl⟩
  obtain ⟨m4, e4⟩ : ∃ n, n = rs.length := ⟨_, rfl⟩
  obtain ⟨m5, e5⟩ : ∃ n, n = code.length := ⟨_, rfl⟩
  obtain ⟨m6, e6⟩ : ∃ n, n = data.length := ⟨_, rfl⟩
  dsimp only at hil hsl hrl hcl hdl HSs HCs HDs ⊢
  rw [← e2] at hil ⊢
  rw [← e3] at hsl HSs ⊢
  rw [← e4] at hrl ⊢
  rw [← e5] at hcl HCs ⊢
  rw [← e6] at hdl HDs ⊢
  have E2 := Lib.hid e2
  have E3 := Lib.hid e3
  have E4 := Lib.hid e4
  clear e2 e3 e4 e5 e6
  obtain ⟨pk', hash', is', ss', rs', code', data'⟩ := v
  obtain ⟨vi', vs', vr', vc', vd', rfl, _, _, hi', hs', hr', hc', hd'⟩ := hx'
  have HSs' := Lib.hid hs'
  have HCs' := Lib.hid hc'
  have HDs' := Lib.hid hd'
  obtain ⟨x2', c2', rfl, hil', hie'⟩ := hi'
  obtain ⟨x3', c3', rfl, hsl', hse'⟩ := hs'
  obtain ⟨x4', c4', rfl, hrl', hre'⟩ := hr'
  obtain ⟨x5', c5', rfl, hcl', hce'⟩ := hc'
  obtain ⟨x6', c6', rfl, hdl', hde'⟩ := hd'
  have HI' := Lib.hid hie'
  have HR' := Lib.hid hre'
  clear hie' hse' hre' hce' hde'
  obtain ⟨m2', e2'⟩ : ∃ n, n = is'.length := ⟨_, rfl⟩
  obtain ⟨m3', e3'⟩ : ∃ n, n = ss'.length := ⟨_, rfl⟩
  obtain ⟨m4', e4'⟩ : ∃ n, n = rs'.length := ⟨_, rfl⟩
  obtain ⟨m5', e5'⟩ : ∃ n, n = code'.length := ⟨_, rfl⟩
  obtain ⟨m6', e6'⟩ : ∃ n, n = data'.length := ⟨_, rfl⟩
  dsimp only at hil' hsl' hrl' hcl' hdl' HSs' HCs' HDs' ⊢
  rw [← e2'] at hil' ⊢
  rw [← e3'] at hsl' HSs' ⊢
  rw [← e4'] at hrl' ⊢
  rw [← e5'] at hcl' HCs' ⊢
  rw [← e6'] at hdl' HDs' ⊢
  have E2' := Lib.hid e2'
  have E3' := Lib.hid e3'
  have E4' := Lib.hid e4'
  clear e2' e3' e4' e5' e6'
  have RR := Lib.hid hrr
  have G := Lib.hid h
  clear hrr h
  have K0 := Lib.hid (show Nw w ((w.alloc (.cells #[.string pk, .int .i64 hash, .slice x2 m2 c2, .slice x3 m3 c3, .slice x4 m4 c4, .slice x5 m5 c5, .slice x6 m6 c6] 27)).alloc (.cells #[.string pk', .int .i64 hash', .slice x2' m2' c2', .slice x3' m3' c3', .slice x4' m4' c4', .slice x5' m5' c5', .slice x6' m6' c6'] 27)) from ((Nw.refl w).alloc _).alloc _)
  have BA := Lib.hid ((Blk.new w [.string pk, .int .i64 hash, .slice x2 m2 c2, .slice x3 m3 c3, .slice x4 m4 c4, .slice x5 m5 c5, .slice x6 m6 c6] 27).alloc (.cells #[.string pk', .int .i64 hash', .slice x2' m2' c2', .slice x3' m3' c3', .slice x4' m4' c4', .slice x5' m5' c5', .slice x6' m6' c6'] 27))
  have BB := Lib.hid (show Blk ((w.alloc (.cells #[.string pk, .int .i64 hash, .slice x2 m2 c2, .slice x3 m3 c3, .slice x4 m4 c4, .slice x5 m5 c5, .slice x6 m6 c6] 27)).alloc (.cells #[.string pk', .int .i64 hash', .slice x2' m2' c2', .slice x3' m3' c3', .slice x4' m4' c4', .slice x5' m5' c5', .slice x6' m6' c6'] 27)) (w.heap.size + 1) [.string pk', .int .i64 hash', .slice x2' m2' c2', .slice x3' m3' c3', .slice x4' m4' c4', .slice x5' m5' c5', .slice x6' m6' c6'] 27 by
    have := Blk.new (w.alloc (.cells #[.string pk, .int .i64 hash, .slice x2 m2 c2, .slice x3 m3 c3, .slice x4 m4 c4, .slice x5 m5 c5, .slice x6 m6 c6] 27)) [.string pk', .int .i64 hash', .slice x2' m2' c2', .slice x3' m3' c3', .slice x4' m4' c4', .slice x5' m5' c5', .slice x6' m6' c6'] 27
    rw [size_alloc] at this; exact this)
  by_cases ep : pk = pk'
  rotate_left
  · have HRR := Lib.hid (RR.out.symm.trans (dc_false (fun e => ep (congrArg Ob.pkg e))))
    obtain ⟨ne1, ne2, ne3, ne4⟩ := str_ne ep
    go_enter Try.func19, Try.ntmps19
    go_upto_region 1 with fail
    generalize ((w.alloc (.cells #[.string pk, .int .i64 hash, .slice x2 m2 c2, .slice x3 m3 c3, .slice x4 m4 c4, .slice x5 m5 c5, .slice x6 m6 c6] 27)).alloc (.cells #[.string pk', .int .i64 hash', .slice x2' m2' c2', .slice x3' m3' c3', .slice x4' m4' c4', .slice x5' m5' c5', .slice x6' m6' c6'] 27)) = w0 at *
    have cA := BA.out.cell
    have cB := BB.out.cell
    go_wp2_with fail
    go_returns
    exact ⟨by rw [HRR.out]; rfl, K0.out⟩
  subst ep
  by_cases eh : hash = hash'
  rotate_left
  · have HRR := Lib.hid (RR.out.symm.trans (dc_false (fun e => eh (congrArg Ob.hash e))))
    obtain ⟨ne1, ne2, ne3, ne4⟩ := int_ne eh
    go_enter Try.func19, Try.ntmps19
    go_upto_region 1 with fail
    generalize ((w.alloc (.cells #[.string pk, .int .i64 hash, .slice x2 m2 c2, .slice x3 m3 c3, .slice x4 m4 c4, .slice x5 m5 c5, .slice x6 m6 c6] 27)).alloc (.cells #[.string pk, .int .i64 hash', .slice x2' m2' c2', .slice x3' m3' c3', .slice x4' m4' c4', .slice x5' m5' c5', .slice x6' m6' c6'] 27)) = w0 at *
    have cA := BA.out.cell
    have cB := BB.out.cell
    go_wp2_with fail
    go_returns
    exact ⟨by rw [HRR.out]; rfl, K0.out⟩
  subst eh
  by_cases el : m2 = m2'
  rotate_left
  · have HRR := Lib.hid (RR.out.symm.trans (dc_false (fun e => el (by rw [E2.out, E2'.out]; exact congrArg (fun o : Ob => o.imports.length) e))))
    obtain ⟨ne1, ne2, ne3, ne4⟩ := nat_ne el
    go_enter Try.func19, Try.ntmps19
    go_upto_region 1 with fail
    generalize ((w.alloc (.cells #[.string pk, .int .i64 hash, .slice x2 m2 c2, .slice x3 m3 c3, .slice x4 m4 c4, .slice x5 m5 c5, .slice x6 m6 c6] 27)).alloc (.cells #[.string pk, .int .i64 hash, .slice x2' m2' c2', .slice x3' m3' c3', .slice x4' m4' c4', .slice x5' m5' c5', .slice x6' m6' c6'] 27)) = w0 at *
    have cA := BA.out.cell
    have cB := BB.out.cell
    go_wp2_with fail
    go_returns
    exact ⟨by rw [HRR.out]; rfl, K0.out⟩
  subst el
  by_cases el : m3 = m3'
  rotate_left
  · have HRR := Lib.hid (RR.out.symm.trans (dc_false (fun e => el (by rw [E3.out, E3'.out]; exact congrArg (fun o : Ob => o.syms.length) e))))
    obtain ⟨ne1, ne2, ne3, ne4⟩ := nat_ne el
    go_enter Try.func19, Try.ntmps19
    go_upto_region 1 with fail
    generalize ((w.alloc (.cells #[.string pk, .int .i64 hash, .slice x2 m2 c2, .slice x3 m3 c3, .slice x4 m4 c4, .slice x5 m5 c5, .slice x6 m6 c6] 27)).alloc (.cells #[.string pk, .int .i64 hash, .slice x2' m2 c2', .slice x3' m3' c3', .slice x4' m4' c4', .slice x5' m5' c5', .slice x6' m6' c6'] 27)) = w0 at *
    have cA := BA.out.cell
    have cB := BB.out.cell
    go_wp2_with fail
    go_returns
    exact ⟨by rw [HRR.out]; rfl, K0.out⟩
  subst el
  by_cases el : m4 = m4'
  rotate_left
  · have HRR := Lib.hid (RR.out.symm.trans (dc_false (fun e => el (by rw [E4.out, E4'.out]; exact congrArg (fun o : Ob => o.relocs.length) e))))
    obtain ⟨ne1, ne2, ne3, ne4⟩ := nat_ne el
    go_enter Try.func19, Try.ntmps19
    go_upto_region 1 with fail
    generalize ((w.alloc (.cells #[.string pk, .int .i64 hash, .slice x2 m2 c2, .slice x3 m3 c3, .slice x4 m4 c4, .slice x5 m5 c5, .slice x6 m6 c6] 27)).alloc (.cells #[.string pk, .int .i64 hash, .slice x2' m2 c2', .slice x3' m3 c3', .slice x4' m4' c4', .slice x5' m5' c5', .slice x6' m6' c6'] 27)) = w0 at *
    have cA := BA.out.cell
    have cB := BB.out.cell
    go_wp2_with fail
    go_returns
    exact ⟨by rw [HRR.out]; rfl, K0.out⟩
  subst el
  have W1 := Lib.hid (fun (wz : World) (hz : Nw w wz) => words28 code code' _ _ wz HCs.out HCs'.out (G.out.nw hz))
  have W2 := Lib.hid (fun (wz : World) (hz : Nw w wz) => words28 data data' _ _ wz HDs.out HDs'.out (G.out.nw hz))
  have W3 := Lib.hid (fun (wz : World) (hz : Nw w wz) => syms28 ss ss' _ _ wz HSs.out HSs'.out (G.out.nw hz))
  by_cases ec : code = code'
  rotate_left
  · have HRR := Lib.hid (RR.out.symm.trans (dc_false (fun e => ec (congrArg Ob.code e))))
    have D1 := Lib.hid (dc_false ec)
    go_enter Try.func19, Try.ntmps19
    go_upto_region 1 with fail
    generalize ((w.alloc (.cells #[.string pk, .int .i64 hash, .slice x2 m2 c2, .slice x3 m3 c3, .slice x4 m4 c4, .slice x5 m5 c5, .slice x6 m6 c6] 27)).alloc (.cells #[.string pk, .int .i64 hash, .slice x2' m2 c2', .slice x3' m3 c3', .slice x4' m4 c4', .slice x5' m5' c5', .slice x6' m6' c6'] 27)) = w0 at *
    have cA := BA.out.cell
    have cB := BB.out.cell
    go_wp2_with fail
    refine (W1.out _ K0.out).mono ?_
    rintro e1 w1 ⟨rfl, k1⟩
    rw [D1.out]
    have KF := Lib.hid ((K0.out).trans k1)
    have BA1 := Lib.hid (BA.out.nw k1)
    have BB1 := Lib.hid (BB.out.nw k1)
    clear k1 cA cB
    have cA := BA1.out.cell
    have cB := BB1.out.cell
    go_wp2_with fail
    go_returns
    exact ⟨by rw [HRR.out]; rfl, KF.out⟩
  have D1 := Lib.hid (dc_true ec)
  by_cases ed : data = data'
  rotate_left
  · have HRR := Lib.hid (RR.out.symm.trans (dc_false (fun e => ed (congrArg Ob.data e))))
    have D2 := Lib.hid (dc_false ed)
    go_enter Try.func19, Try.ntmps19
    go_upto_region 1 with fail
    generalize ((w.alloc (.cells #[.string pk, .int .i64 hash, .slice x2 m2 c2, .slice x3 m3 c3, .slice x4 m4 c4, .slice x5 m5 c5, .slice x6 m6 c6] 27)).alloc (.cells #[.string pk, .int .i64 hash, .slice x2' m2 c2', .slice x3' m3 c3', .slice x4' m4 c4', .slice x5' m5' c5', .slice x6' m6' c6'] 27)) = w0 at *
    have cA := BA.out.cell
    have cB := BB.out.cell
    go_wp2_with fail
    refine (W1.out _ K0.out).mono ?_
    rintro e1 w1 ⟨rfl, k1⟩
    rw [D1.out]
    have K1 := Lib.hid ((K0.out).trans k1)
    have BA1 := Lib.hid (BA.out.nw k1)
    have BB1 := Lib.hid (BB.out.nw k1)
    clear k1 cA cB
    have cA := BA1.out.cell
    have cB := BB1.out.cell
    go_wp2_with fail
    refine (W2.out _ K1.out).mono ?_
    rintro e2 w2 ⟨rfl, k2⟩
    rw [D2.out]
    have KF := Lib.hid ((K1.out).trans k2)
    have BA2 := Lib.hid (BA1.out.nw k2)
    have BB2 := Lib.hid (BB1.out.nw k2)
    clear k2 cA cB
    have cA := BA2.out.cell
    have cB := BB2.out.cell
    go_wp2_with fail
    go_returns
    exact ⟨by rw [HRR.out]; rfl, KF.out⟩
  have D2 := Lib.hid (dc_true ed)
  have EC := Lib.hid ec
  have ED := Lib.hid ed
  clear ec ed
  go_enter Try.func19, Try.ntmps19
  go_upto_region 1 with fail
  generalize ((w.alloc (.cells #[.string pk, .int .i64 hash, .slice x2 m2 c2, .slice x3 m3 c3, .slice x4 m4 c4, .slice x5 m5 c5, .slice x6 m6 c6] 27)).alloc (.cells #[.string pk, .int .i64 hash, .slice x2' m2 c2', .slice x3' m3 c3', .slice x4' m4 c4', .slice x5' m5' c5', .slice x6' m6' c6'] 27)) = w0 at *
  have cA := BA.out.cell
  have cB := BB.out.cell
  go_wp2_with fail
  refine (W1.out _ K0.out).mono ?_
  rintro e1 w1 ⟨rfl, k1⟩
  rw [D1.out]
  have K1 := Lib.hid ((K0.out).trans k1)
  have BA1 := Lib.hid (BA.out.nw k1)
  have BB1 := Lib.hid (BB.out.nw k1)
  clear k1 cA cB
  have cA := BA1.out.cell
  have cB := BB1.out.cell
  go_wp2_with fail
  refine (W2.out _ K1.out).mono ?_
  rintro e2 w2 ⟨rfl, k2⟩
  rw [D2.out]
  have K2 := Lib.hid ((K1.out).trans k2)
  have BA2 := Lib.hid (BA1.out.nw k2)
  have BB2 := Lib.hid (BB1.out.nw k2)
  clear k2 cA cB
  have cA := BA2.out.cell
  have cB := BB2.out.cell
  go_wp2_with fail
  go_loopw [5] (fun i wr => ∃ k : Nat, k ≤ m2 ∧ i = .int .i64 k ∧ Nw w2 wr ∧ is.take k = is'.take k) (fun i _ => m2 - (intOf i).toNat)
  case atStart => exact ⟨0, Nat.zero_le _, rfl, Nw.refl _, by simp⟩
  case round =>
    clear cA cB
    obtain ⟨k, hk0, rfl, g, htk⟩ := hrel
    have Gk := Lib.hid g
    have TK := Lib.hid htk
    have cA := (BA2.out.nw g).cell
    have cB := (BB2.out.nw g).cell
    clear g htk
    by_cases hlt : k < m2
    · skip
      have hkl : k < is.length := by rw [← E2.out]; exact hlt
      have hkl' : k < is'.length := by rw [← E2'.out]; exact hlt
      have hq0 : (0 : Int) ≤ (k : Int) := by omega
      have hq1 : (k : Int) < (m2 : Int) := by omega
      obtain ⟨b, o, rfl, hb, he⟩ := HI.out (by intro e; rw [e] at hkl; simp at hkl)
      obtain ⟨b', o', rfl, hb', he'⟩ := HI'.out (by intro e; rw [e] at hkl'; simp at hkl')
      obtain ⟨cs, hcl, hcc, hce⟩ := he k hkl
      obtain ⟨cs', hcl', hcc', hce'⟩ := he' k hkl'
      have HQ := Lib.hid (fun (e : is[k]'hkl = is'[k]'hkl') => take_eq hkl hkl' TK.out e)
      have HN := Lib.hid (fun (e : ¬ is[k]'hkl = is'[k]'hkl') => RR.out.symm.trans (dc_false (fun q => take_ne hkl hkl' e (congrArg Ob.imports q))))
      clear he he'
      generalize is[k]'hkl = y at *
      generalize is'[k]'hkl' = y' at *
      obtain ⟨a0, a1⟩ := y
      obtain ⟨b0, b1⟩ := y'
      obtain ⟨rfl, _⟩ := hce
      obtain ⟨rfl, _⟩ := hce'
      have f0 := ((G.out.nw (K2.out.trans Gk.out)).bel.cell (p := ⟨b, o + k * 2 + 0, none⟩) hb).trans (hcc 0 (by simp))
      have g0 := ((G.out.nw (K2.out.trans Gk.out)).bel.cell (p := ⟨b', o' + k * 2 + 0, none⟩) hb').trans (hcc' 0 (by simp))
      have f1 := ((G.out.nw (K2.out.trans Gk.out)).bel.cell (p := ⟨b, o + k * 2 + 1, none⟩) hb).trans (hcc 1 (by simp))
      have g1 := ((G.out.nw (K2.out.trans Gk.out)).bel.cell (p := ⟨b', o' + k * 2 + 1, none⟩) hb').trans (hcc' 1 (by simp))
      simp only [List.getElem?_cons_zero, List.getElem?_cons_succ, Nat.add_zero] at f0 g0 f1 g1
      clear hcc hcc'
      by_cases ey : Im.mk a0 a1 = Im.mk b0 b1
      · have HR := Lib.hid (HQ.out ey)
        have NQ := fun (wz : World) => im_neq wz a0 b0 a1 b1 true (dc_true ey)
        clear ey
        go_wp2_with fail
        go_quiet (fail)
        go_wp2_with fail
        go_roundw
        case rel => exact ⟨k + 1, by omega, by go_num, Gk.out.trans (nw_drewN _ _), HR.out⟩
        case measure => simp [intOf]; omega
      · have HR := Lib.hid (HN.out ey)
        have NQ := fun (wz : World) => im_neq wz a0 b0 a1 b1 false (dc_false ey)
        clear ey
        go_wp2_with fail
        go_quiet (fail)
        go_wp2_with fail
        go_returns
        exact ⟨by rw [HR.out]; rfl, (K2.out.trans Gk.out).trans (nw_drewN _ _)⟩
    · skip
      have EQ5 := Lib.hid (take_done (k := k) (by rw [← E2.out]; omega) (by rw [← E2'.out]; omega) TK.out)
      have KN5 := Lib.hid (K2.out.trans Gk.out)
      have BAN5 := Lib.hid (BA2.out.nw Gk.out)
      have BBN5 := Lib.hid (BB2.out.nw Gk.out)
      clear Gk TK
      go_wp2_with fail
      obtain ⟨wo, hwo⟩ : ∃ wo : World, wo = wr := ⟨_, rfl⟩
      subst hwo
      go_loopw [6] (fun i wr => ∃ k : Nat, k ≤ m4 ∧ i = .int .i64 k ∧ Nw wo wr ∧ rs.take k = rs'.take k) (fun i _ => m4 - (intOf i).toNat)
      case atStart => exact ⟨0, Nat.zero_le _, rfl, Nw.refl _, by simp⟩
      case round =>
        clear cA cB
        obtain ⟨k, hk0, rfl, g, htk⟩ := hrel
        have Gk := Lib.hid g
        have TK := Lib.hid htk
        have cA := (BAN5.out.nw g).cell
        have cB := (BBN5.out.nw g).cell
        clear g htk
        by_cases hlt : k < m4
        · skip
          have hkl : k < rs.length := by rw [← E4.out]; exact hlt
          have hkl' : k < rs'.length := by rw [← E4'.out]; exact hlt
          have hq0 : (0 : Int) ≤ (k : Int) := by omega
          have hq1 : (k : Int) < (m4 : Int) := by omega
          obtain ⟨b, o, rfl, hb, he⟩ := HR.out (by intro e; rw [e] at hkl; simp at hkl)
          obtain ⟨b', o', rfl, hb', he'⟩ := HR'.out (by intro e; rw [e] at hkl'; simp at hkl')
          obtain ⟨cs, hcl, hcc, hce⟩ := he k hkl
          obtain ⟨cs', hcl', hcc', hce'⟩ := he' k hkl'
          have HQ := Lib.hid (fun (e : rs[k]'hkl = rs'[k]'hkl') => take_eq hkl hkl' TK.out e)
          have HN := Lib.hid (fun (e : ¬ rs[k]'hkl = rs'[k]'hkl') => RR.out.symm.trans (dc_false (fun q => take_ne hkl hkl' e (congrArg Ob.relocs q))))
          clear he he'
          generalize rs[k]'hkl = y at *
          generalize rs'[k]'hkl' = y' at *
          obtain ⟨a0, a1, a2⟩ := y
          obtain ⟨b0, b1, b2⟩ := y'
          obtain ⟨rfl, _⟩ := hce
          obtain ⟨rfl, _⟩ := hce'
          have f0 := ((G.out.nw (KN5.out.trans Gk.out)).bel.cell (p := ⟨b, o + k * 3 + 0, none⟩) hb).trans (hcc 0 (by simp))
          have g0 := ((G.out.nw (KN5.out.trans Gk.out)).bel.cell (p := ⟨b', o' + k * 3 + 0, none⟩) hb').trans (hcc' 0 (by simp))
          have f1 := ((G.out.nw (KN5.out.trans Gk.out)).bel.cell (p := ⟨b, o + k * 3 + 1, none⟩) hb).trans (hcc 1 (by simp))
          have g1 := ((G.out.nw (KN5.out.trans Gk.out)).bel.cell (p := ⟨b', o' + k * 3 + 1, none⟩) hb').trans (hcc' 1 (by simp))
          have f2 := ((G.out.nw (KN5.out.trans Gk.out)).bel.cell (p := ⟨b, o + k * 3 + 2, none⟩) hb).trans (hcc 2 (by simp))
          have g2 := ((G.out.nw (KN5.out.trans Gk.out)).bel.cell (p := ⟨b', o' + k * 3 + 2, none⟩) hb').trans (hcc' 2 (by simp))
          simp only [List.getElem?_cons_zero, List.getElem?_cons_succ, Nat.add_zero] at f0 g0 f1 g1 f2 g2
          clear hcc hcc'
          by_cases ey : Re.mk a0 a1 a2 = Re.mk b0 b1 b2
          · have HR := Lib.hid (HQ.out ey)
            have NQ := fun (wz : World) => re_neq wz a0 b0 a1 b1 a2 b2 true (dc_true ey)
            clear ey
            go_wp2_with fail
            go_quiet (fail)
            go_wp2_with fail
            go_roundw
            case rel => exact ⟨k + 1, by omega, by go_num, Gk.out.trans (nw_drewN _ _), HR.out⟩
            case measure => simp [intOf]; omega
          · have HR := Lib.hid (HN.out ey)
            have NQ := fun (wz : World) => re_neq wz a0 b0 a1 b1 a2 b2 false (dc_false ey)
            clear ey
            go_wp2_with fail
            go_quiet (fail)
            go_wp2_with fail
            go_returns
            exact ⟨by rw [HR.out]; rfl, (KN5.out.trans Gk.out).trans (nw_drewN _ _)⟩
        · skip
          have EQ6 := Lib.hid (take_done (k := k) (by rw [← E4.out]; omega) (by rw [← E4'.out]; omega) TK.out)
          have KN6 := Lib.hid (KN5.out.trans Gk.out)
          have BAN6 := Lib.hid (BAN5.out.nw Gk.out)
          have BBN6 := Lib.hid (BBN5.out.nw Gk.out)
          clear Gk TK
          go_wp2_with fail
          refine (W3.out _ KN6.out).mono ?_
          rintro e3 w3 ⟨rfl, k3⟩
          have KF := Lib.hid (KN6.out.trans k3)
          have HRR := Lib.hid (show rr = dc (ss = ss') by
            rw [← RR.out]
            apply dc_congr
            rw [EQ5.out, EQ6.out, EC.out, ED.out]
            exact ⟨fun e => congrArg Ob.syms e, fun e => by rw [e]⟩)
          clear k3 cA cB
          go_wp2_with fail
          go_returns
          exact ⟨by rw [HRR.out]; rfl, KF.out⟩
end Go.Proofs.Ytfdjlicegfgodaa
