/- Symbols by the document; what may be mended. -/
import Derived.Test.YtfdjlicegfgodaaObj1
namespace Go.Proofs.Ytfdjlicegfgodaa
open Go.RowKit
set_option linter.unusedSimpArgs false
set_option linter.unusedVariables false

def symB (nc nd : Nat) (nm : ByteArray) (kind at_ size frame : Int) : Bool := nameB nm && liesB nc nd kind at_ size frame
def wordAt (l : List Int) (a : Int) : Option Int := if 0 ≤ a then l[a.toNat]? else none
def fixB (v : Int) : Bool := okW v && (immOf (opW v) && decide (nW v = 0))
def mendsB (code data : List Int) (d : Bool) (a : Int) : Bool := if d = true then decide (wordAt data a = some 0) else ((wordAt code a).map fixB).getD false
theorem wordAt_nat {l : List Int} {k : Nat} (h : k < l.length) : wordAt l (k : Int) = some l[k] := by
  unfold wordAt
  rw [if_pos (by omega), Int.toNat_natCast, List.getElem?_eq_getElem h]
theorem wordAt_neg {l : List Int} {a : Int} (h : a < 0) : wordAt l a = none := by unfold wordAt; rw [if_neg (by omega)]
theorem wordAt_far {l : List Int} {k : Nat} (h : l.length ≤ k) : wordAt l (k : Int) = none := by
  unfold wordAt
  rw [if_pos (by omega), Int.toNat_natCast, List.getElem?_eq_none h]
theorem opW_range (v : Int) : -9223372036854775808 ≤ opW v ∧ opW v ≤ 9223372036854775807 := by
  have := u64_lt v
  unfold opW; omega

theorem isaDecode_ok {w : World} {v : Int} (hv : I64 v) (h : okW v = true) :
    Calls Try.prog 56 #[.int .i64 v] w fun e w' => e = .returned (.tuple #[.agg #[.int .i64 (opW v), .int .i64 (aW v), .int .i64 (bW v), .int .i64 (cW v), .int .i64 (nW v)], .int .i64 0]) ∧ Nw w w' :=
  (isaDecode_any w v hv).mono fun e w' q => ⟨by rw [q.1, h]; rfl, q.2⟩
theorem isaDecode_no {w : World} {v : Int} (hv : I64 v) (h : okW v = false) :
    Calls Try.prog 56 #[.int .i64 v] w fun e w' => e = .returned (.tuple #[.agg #[.int .i64 0, .int .i64 0, .int .i64 0, .int .i64 0, .int .i64 0], .int .i64 4]) ∧ Nw w w' :=
  (isaDecode_any w v hv).mono fun e w' q => ⟨by rw [q.1, h]; rfl, q.2⟩
theorem rDecode_ok {w : World} {v : Int} (hv : I64 v) (h : okW v = true) :
    Calls Try.prog 58 #[.int .i64 v] w fun e w' => e = .returned (.tuple #[.agg #[.int .i64 (opW v), .int .i64 (aW v), .int .i64 (bW v), .int .i64 (cW v), .int .i64 (nW v)], .int .i64 0]) ∧ Nw w w' :=
  (rDecode_any w v hv).mono fun e w' q => ⟨by rw [q.1, h]; rfl, q.2⟩
theorem rDecode_no {w : World} {v : Int} (hv : I64 v) (h : okW v = false) :
    Calls Try.prog 58 #[.int .i64 v] w fun e w' => e = .returned (.tuple #[.agg #[.int .i64 0, .int .i64 0, .int .i64 0, .int .i64 0, .int .i64 0], .int .i64 4]) ∧ Nw w w' :=
  (rDecode_any w v hv).mono fun e w' q => ⟨by rw [q.1, h]; rfl, q.2⟩
theorem rUses_nw (w : World) (op : Int) (hop : -9223372036854775808 ≤ op ∧ op ≤ 9223372036854775807) :
    Calls Try.prog 59 #[.int .i64 op] w fun e w' => e = .returned (.tuple #[.int .i64 (regsOf op), .bool (immOf op), .bool (isOp op)]) ∧ Nw w w' :=
  (ruses_any w op).mono fun e w' q => ⟨q.1, by rw [← q.2]; exact Nw.refl _⟩
set_option maxRecDepth 100000 in
set_option maxHeartbeats 2000000 in
theorem symbol_any (w : World) (nm : ByteArray) (kind : Int) (wk : Bool) (at_ size frame : Int) (a0 a1 a2 a3 a4 : Value) (x5 : Option Addr) (nc c5 : Nat) (x6 : Option Addr) (nd c6 : Nat)
    (hc : nc ≤ 140737488355328) (hd : nd ≤ 140737488355328) :
    Calls Try.prog 31 #[.agg #[a0, a1, a2, a3, a4, .slice x5 nc c5, .slice x6 nd c6], .agg #[.string nm, .int .i64 kind, .bool wk, .int .i64 at_, .int .i64 size, .int .i64 frame]] w (BoolPost w (symB nc nd nm kind at_ size frame)) := by
  have N0 := Lib.hid (show Nw w ((w.alloc (.cells #[a0, a1, a2, a3, a4, .slice x5 nc c5, .slice x6 nd c6] 27)).alloc (.cells #[.string nm, .int .i64 kind, .bool wk, .int .i64 at_, .int .i64 size, .int .i64 frame] 44)) from ((Nw.refl w).alloc _).alloc _)
  have cA := ((Blk.new w [a0, a1, a2, a3, a4, .slice x5 nc c5, .slice x6 nd c6] 27).alloc (.cells #[.string nm, .int .i64 kind, .bool wk, .int .i64 at_, .int .i64 size, .int .i64 frame] 44)).cell
  have cB := (show Blk ((w.alloc (.cells #[a0, a1, a2, a3, a4, .slice x5 nc c5, .slice x6 nd c6] 27)).alloc (.cells #[.string nm, .int .i64 kind, .bool wk, .int .i64 at_, .int .i64 size, .int .i64 frame] 44)) (w.heap.size + 1) [.string nm, .int .i64 kind, .bool wk, .int .i64 at_, .int .i64 size, .int .i64 frame] 44 from by
    have := Blk.new (w.alloc (.cells #[a0, a1, a2, a3, a4, .slice x5 nc c5, .slice x6 nd c6] 27)) [.string nm, .int .i64 kind, .bool wk, .int .i64 at_, .int .i64 size, .int .i64 frame] 44
    rw [size_alloc] at this; exact this).cell
  have NM := Lib.hid (rname_is ((w.alloc (.cells #[a0, a1, a2, a3, a4, .slice x5 nc c5, .slice x6 nd c6] 27)).alloc (.cells #[.string nm, .int .i64 kind, .bool wk, .int .i64 at_, .int .i64 size, .int .i64 frame] 44)) nm)
  unfold symB
  cases hn : nameB nm with
  | false =>
    have HN := Lib.hid hn
    clear hn
    go_enter Try.func31, Try.ntmps31
    go_wp2_with fail
    refine NM.out.mono ?_
    rintro e1 w1 ⟨rfl, rfl⟩
    rw [HN.out]
    go_wp2_with fail
    go_returns
    first | exact ⟨rfl, N0.out⟩ | exact ⟨retB (by simp; omega), N0.out⟩
  | true =>
    have HN := Lib.hid hn
    clear hn
    by_cases hk : kind = 1
    · subst hk
      by_cases h1 : at_ < 0
      · have HR := Lib.hid (show liesB nc nd 1 at_ size frame = false from decide_eq_false (by unfold LiesP; omega))
        rw [HR.out]
        go_enter Try.func31, Try.ntmps31
        go_wp2_with fail
        refine NM.out.mono ?_
        rintro e1 w1 ⟨rfl, rfl⟩
        rw [HN.out]
        go_wp2_with fail
        go_returns
        first | exact ⟨rfl, N0.out⟩ | exact ⟨retB (by simp; omega), N0.out⟩
      by_cases h2 : size < 0
      · have HR := Lib.hid (show liesB nc nd 1 at_ size frame = false from decide_eq_false (by unfold LiesP; omega))
        rw [HR.out]
        go_enter Try.func31, Try.ntmps31
        go_wp2_with fail
        refine NM.out.mono ?_
        rintro e1 w1 ⟨rfl, rfl⟩
        rw [HN.out]
        go_wp2_with fail
        go_returns
        first | exact ⟨rfl, N0.out⟩ | exact ⟨retB (by simp; omega), N0.out⟩
      by_cases h3 : frame < 0
      · have HR := Lib.hid (show liesB nc nd 1 at_ size frame = false from decide_eq_false (by unfold LiesP; omega))
        rw [HR.out]
        go_enter Try.func31, Try.ntmps31
        go_wp2_with fail
        refine NM.out.mono ?_
        rintro e1 w1 ⟨rfl, rfl⟩
        rw [HN.out]
        go_wp2_with fail
        go_returns
        first | exact ⟨rfl, N0.out⟩ | exact ⟨retB (by simp; omega), N0.out⟩
      by_cases h4 : (262144 : Int) < frame
      · have HR := Lib.hid (show liesB nc nd 1 at_ size frame = false from decide_eq_false (by unfold LiesP; omega))
        rw [HR.out]
        go_enter Try.func31, Try.ntmps31
        go_wp2_with fail
        refine NM.out.mono ?_
        rintro e1 w1 ⟨rfl, rfl⟩
        rw [HN.out]
        go_wp2_with fail
        go_returns
        first | exact ⟨rfl, N0.out⟩ | exact ⟨retB (by simp; omega), N0.out⟩
      by_cases h5 : ¬ 1 ≤ size
      · have HR := Lib.hid (show liesB nc nd 1 at_ size frame = false from decide_eq_false (by unfold LiesP; omega))
        rw [HR.out]
        go_enter Try.func31, Try.ntmps31
        go_wp2_with fail
        refine NM.out.mono ?_
        rintro e1 w1 ⟨rfl, rfl⟩
        rw [HN.out]
        go_wp2_with fail
        go_returns
        first | exact ⟨rfl, N0.out⟩ | exact ⟨retB (by simp; omega), N0.out⟩
      by_cases h6 : (nc : Int) < size
      · have HR := Lib.hid (show liesB nc nd 1 at_ size frame = false from decide_eq_false (by unfold LiesP; omega))
        rw [HR.out]
        go_enter Try.func31, Try.ntmps31
        go_wp2_with fail
        refine NM.out.mono ?_
        rintro e1 w1 ⟨rfl, rfl⟩
        rw [HN.out]
        go_wp2_with fail
        go_returns
        first | exact ⟨rfl, N0.out⟩ | exact ⟨retB (by simp; omega), N0.out⟩
      have hw : wrap64 (((nc : Nat) : Int) - size) = ((nc : Nat) : Int) - size := w64_in (by omega)
      by_cases h7 : ¬ at_ ≤ (nc : Int) - size
      · have HR := Lib.hid (show liesB nc nd 1 at_ size frame = false from decide_eq_false (by unfold LiesP; omega))
        rw [HR.out]
        go_enter Try.func31, Try.ntmps31
        go_wp2_with fail
        refine NM.out.mono ?_
        rintro e1 w1 ⟨rfl, rfl⟩
        rw [HN.out]
        go_wp2_with fail
        go_returns
        first | exact ⟨rfl, N0.out⟩ | exact ⟨retB (by simp; omega), N0.out⟩
      have HR := Lib.hid (show liesB nc nd 1 at_ size frame = true from decide_eq_true (by unfold LiesP; omega))
      rw [HR.out]
      go_enter Try.func31, Try.ntmps31
      go_wp2_with fail
      refine NM.out.mono ?_
      rintro e1 w1 ⟨rfl, rfl⟩
      rw [HN.out]
      go_wp2_with fail
      go_returns
      first | exact ⟨rfl, N0.out⟩ | exact ⟨retB (by simp; omega), N0.out⟩
    · obtain ⟨kn1, kn2, kn3, kn4⟩ := int_ne hk
      by_cases h1 : at_ < 0
      · have HR := Lib.hid (show liesB nc nd kind at_ size frame = false from decide_eq_false (by unfold LiesP; omega))
        rw [HR.out]
        go_enter Try.func31, Try.ntmps31
        go_wp2_with fail
        refine NM.out.mono ?_
        rintro e1 w1 ⟨rfl, rfl⟩
        rw [HN.out]
        go_wp2_with fail
        go_returns
        first | exact ⟨rfl, N0.out⟩ | exact ⟨retB (by simp; omega), N0.out⟩
      by_cases h2 : size < 0
      · have HR := Lib.hid (show liesB nc nd kind at_ size frame = false from decide_eq_false (by unfold LiesP; omega))
        rw [HR.out]
        go_enter Try.func31, Try.ntmps31
        go_wp2_with fail
        refine NM.out.mono ?_
        rintro e1 w1 ⟨rfl, rfl⟩
        rw [HN.out]
        go_wp2_with fail
        go_returns
        first | exact ⟨rfl, N0.out⟩ | exact ⟨retB (by simp; omega), N0.out⟩
      by_cases h3 : frame < 0
      · have HR := Lib.hid (show liesB nc nd kind at_ size frame = false from decide_eq_false (by unfold LiesP; omega))
        rw [HR.out]
        go_enter Try.func31, Try.ntmps31
        go_wp2_with fail
        refine NM.out.mono ?_
        rintro e1 w1 ⟨rfl, rfl⟩
        rw [HN.out]
        go_wp2_with fail
        go_returns
        first | exact ⟨rfl, N0.out⟩ | exact ⟨retB (by simp; omega), N0.out⟩
      by_cases h4 : (262144 : Int) < frame
      · have HR := Lib.hid (show liesB nc nd kind at_ size frame = false from decide_eq_false (by unfold LiesP; omega))
        rw [HR.out]
        go_enter Try.func31, Try.ntmps31
        go_wp2_with fail
        refine NM.out.mono ?_
        rintro e1 w1 ⟨rfl, rfl⟩
        rw [HN.out]
        go_wp2_with fail
        go_returns
        first | exact ⟨rfl, N0.out⟩ | exact ⟨retB (by simp; omega), N0.out⟩
      by_cases hk2 : kind = 2
      · subst hk2
        by_cases hf : frame = 0
        · subst hf
          by_cases h6 : (nd : Int) < size
          · have HR := Lib.hid (show liesB nc nd 2 at_ size 0 = false from decide_eq_false (by unfold LiesP; omega))
            rw [HR.out]
            go_enter Try.func31, Try.ntmps31
            go_wp2_with fail
            refine NM.out.mono ?_
            rintro e1 w1 ⟨rfl, rfl⟩
            rw [HN.out]
            go_wp2_with fail
            go_returns
            first | exact ⟨rfl, N0.out⟩ | exact ⟨retB (by simp; omega), N0.out⟩
          have hw : wrap64 (((nd : Nat) : Int) - size) = ((nd : Nat) : Int) - size := w64_in (by omega)
          by_cases h7 : ¬ at_ ≤ (nd : Int) - size
          · have HR := Lib.hid (show liesB nc nd 2 at_ size 0 = false from decide_eq_false (by unfold LiesP; omega))
            rw [HR.out]
            go_enter Try.func31, Try.ntmps31
            go_wp2_with fail
            refine NM.out.mono ?_
            rintro e1 w1 ⟨rfl, rfl⟩
            rw [HN.out]
            go_wp2_with fail
            go_returns
            first | exact ⟨rfl, N0.out⟩ | exact ⟨retB (by simp; omega), N0.out⟩
          have HR := Lib.hid (show liesB nc nd 2 at_ size 0 = true from decide_eq_true (by unfold LiesP; omega))
          rw [HR.out]
          go_enter Try.func31, Try.ntmps31
          go_wp2_with fail
          refine NM.out.mono ?_
          rintro e1 w1 ⟨rfl, rfl⟩
          rw [HN.out]
          go_wp2_with fail
          go_returns
          first | exact ⟨rfl, N0.out⟩ | exact ⟨retB (by simp; omega), N0.out⟩
        · obtain ⟨fn1, fn2, fn3, fn4⟩ := int_ne hf
          have HR := Lib.hid (show liesB nc nd 2 at_ size frame = false from decide_eq_false (by unfold LiesP; omega))
          rw [HR.out]
          go_enter Try.func31, Try.ntmps31
          go_wp2_with fail
          refine NM.out.mono ?_
          rintro e1 w1 ⟨rfl, rfl⟩
          rw [HN.out]
          go_wp2_with fail
          go_returns
          first | exact ⟨rfl, N0.out⟩ | exact ⟨retB (by simp; omega), N0.out⟩
      · obtain ⟨ln1, ln2, ln3, ln4⟩ := int_ne hk2
        have HR := Lib.hid (show liesB nc nd kind at_ size frame = false from decide_eq_false (by unfold LiesP; omega))
        rw [HR.out]
        go_enter Try.func31, Try.ntmps31
        go_wp2_with fail
        refine NM.out.mono ?_
        rintro e1 w1 ⟨rfl, rfl⟩
        rw [HN.out]
        go_wp2_with fail
        go_returns
        first | exact ⟨rfl, N0.out⟩ | exact ⟨retB (by simp; omega), N0.out⟩
set_option maxRecDepth 100000 in
set_option maxHeartbeats 2000000 in
theorem mends_any {B : Nat} {W w : World} (h : In B W w) (dd : Bool) (at_ : Int) (nm : ByteArray) (a0 a1 a2 a3 a4 vc vd : Value) (code data : List Int) (hat : I64 at_) (hc : SlB B W 1 WdAt code vc) (hd : SlB B W 1 WdAt data vd) :
    Calls Try.prog 29 #[.agg #[.bool dd, .int .i64 at_, .string nm], .agg #[a0, a1, a2, a3, a4, vc, vd]] w (BoolPost w (mendsB code data dd at_)) := by
  obtain ⟨x5, c5, rfl, hcl, hce⟩ := hc
  obtain ⟨x6, c6, rfl, hdl, hde⟩ := hd
  obtain ⟨nc, e5⟩ : ∃ n, n = code.length := ⟨_, rfl⟩
  obtain ⟨nd, e6⟩ : ∃ n, n = data.length := ⟨_, rfl⟩
  rw [← e5] at hcl ⊢
  rw [← e6] at hdl ⊢
  have E5 := Lib.hid e5
  have E6 := Lib.hid e6
  have HC := Lib.hid hce
  have HD := Lib.hid hde
  have G := Lib.hid h
  clear e5 e6 hce hde h
  cases dd with
  | true =>
    by_cases h1 : at_ < 0
    · have HR := Lib.hid (show mendsB code data true at_ = false by simp [mendsB, wordAt_neg h1])
      rw [HR.out]
      have N0 := Lib.hid (show Nw w ((w.alloc (.cells #[.bool true, .int .i64 at_, .string nm] 64)).alloc (.cells #[a0, a1, a2, a3, a4, .slice x5 nc c5, .slice x6 nd c6] 27)) from ((Nw.refl w).alloc _).alloc _)
      have cA := ((Blk.new w [.bool true, .int .i64 at_, .string nm] 64).alloc (.cells #[a0, a1, a2, a3, a4, .slice x5 nc c5, .slice x6 nd c6] 27)).cell
      have cB := (show Blk ((w.alloc (.cells #[.bool true, .int .i64 at_, .string nm] 64)).alloc (.cells #[a0, a1, a2, a3, a4, .slice x5 nc c5, .slice x6 nd c6] 27)) (w.heap.size + 1) [a0, a1, a2, a3, a4, .slice x5 nc c5, .slice x6 nd c6] 27 from by
        have := Blk.new (w.alloc (.cells #[.bool true, .int .i64 at_, .string nm] 64)) [a0, a1, a2, a3, a4, .slice x5 nc c5, .slice x6 nd c6] 27
        rw [size_alloc] at this; exact this).cell
      have G0 := Lib.hid (G.out.nw N0.out)
      go_enter Try.func29, Try.ntmps29
      go_wp2_with fail
      go_returns
      exact ⟨rfl, N0.out⟩
    obtain ⟨k, rfl⟩ : ∃ k : Nat, at_ = k := ⟨at_.toNat, by omega⟩
    clear h1
    have N0 := Lib.hid (show Nw w ((w.alloc (.cells #[.bool true, .int .i64 (k : Int), .string nm] 64)).alloc (.cells #[a0, a1, a2, a3, a4, .slice x5 nc c5, .slice x6 nd c6] 27)) from ((Nw.refl w).alloc _).alloc _)
    have cA := ((Blk.new w [.bool true, .int .i64 (k : Int), .string nm] 64).alloc (.cells #[a0, a1, a2, a3, a4, .slice x5 nc c5, .slice x6 nd c6] 27)).cell
    have cB := (show Blk ((w.alloc (.cells #[.bool true, .int .i64 (k : Int), .string nm] 64)).alloc (.cells #[a0, a1, a2, a3, a4, .slice x5 nc c5, .slice x6 nd c6] 27)) (w.heap.size + 1) [a0, a1, a2, a3, a4, .slice x5 nc c5, .slice x6 nd c6] 27 from by
      have := Blk.new (w.alloc (.cells #[.bool true, .int .i64 (k : Int), .string nm] 64)) [a0, a1, a2, a3, a4, .slice x5 nc c5, .slice x6 nd c6] 27
      rw [size_alloc] at this; exact this).cell
    have G0 := Lib.hid (G.out.nw N0.out)
    by_cases h2 : nd ≤ k
    · have HR := Lib.hid (show mendsB code data true (k : Int) = false by simp [mendsB, wordAt_far (l := data) (k := k) (by rw [← E6.out]; exact h2)])
      rw [HR.out]
      go_enter Try.func29, Try.ntmps29
      go_wp2_with fail
      go_returns
      exact ⟨rfl, N0.out⟩
    have hkl : k < data.length := by rw [← E6.out]; omega
    obtain ⟨b, o, rfl, hb, he⟩ := HD.out (by intro e; rw [e] at hkl; simp at hkl)
    obtain ⟨cs, hcn, hcc, rfl, hv⟩ := he k hkl
    have f0 := (G0.out.bel.cell (p := ⟨b, o + k * 1 + 0, none⟩) hb).trans (hcc 0 (by simp))
    simp only [List.getElem?_cons_zero, Nat.add_zero, Nat.mul_one] at f0
    clear he hcc hcn
    have HW := Lib.hid (wordAt_nat hkl)
    generalize data[k]'hkl = v at *
    have hq0 : (0 : Int) ≤ (k : Int) := by omega
    have hq1 : (k : Int) < (nd : Int) := by omega
    by_cases h3 : v = 0
    · subst h3
      have HR := Lib.hid (show mendsB code data true (k : Int) = true by simp [mendsB, HW.out])
      rw [HR.out]
      go_enter Try.func29, Try.ntmps29
      go_wp2_with fail
      go_returns
      exact ⟨rfl, N0.out⟩
    · obtain ⟨vn1, vn2, vn3, vn4⟩ := int_ne h3
      have HR := Lib.hid (show mendsB code data true (k : Int) = false by simp [mendsB, HW.out, h3])
      rw [HR.out]
      go_enter Try.func29, Try.ntmps29
      go_wp2_with fail
      go_returns
      exact ⟨rfl, N0.out⟩
  | false =>
    by_cases h1 : at_ < 0
    · have HR := Lib.hid (show mendsB code data false at_ = false by simp [mendsB, wordAt_neg h1])
      rw [HR.out]
      have N0 := Lib.hid (show Nw w ((w.alloc (.cells #[.bool false, .int .i64 at_, .string nm] 64)).alloc (.cells #[a0, a1, a2, a3, a4, .slice x5 nc c5, .slice x6 nd c6] 27)) from ((Nw.refl w).alloc _).alloc _)
      have cA := ((Blk.new w [.bool false, .int .i64 at_, .string nm] 64).alloc (.cells #[a0, a1, a2, a3, a4, .slice x5 nc c5, .slice x6 nd c6] 27)).cell
      have cB := (show Blk ((w.alloc (.cells #[.bool false, .int .i64 at_, .string nm] 64)).alloc (.cells #[a0, a1, a2, a3, a4, .slice x5 nc c5, .slice x6 nd c6] 27)) (w.heap.size + 1) [a0, a1, a2, a3, a4, .slice x5 nc c5, .slice x6 nd c6] 27 from by
        have := Blk.new (w.alloc (.cells #[.bool false, .int .i64 at_, .string nm] 64)) [a0, a1, a2, a3, a4, .slice x5 nc c5, .slice x6 nd c6] 27
        rw [size_alloc] at this; exact this).cell
      have G0 := Lib.hid (G.out.nw N0.out)
      go_enter Try.func29, Try.ntmps29
      go_wp2_with fail
      go_returns
      exact ⟨rfl, N0.out⟩
    obtain ⟨k, rfl⟩ : ∃ k : Nat, at_ = k := ⟨at_.toNat, by omega⟩
    clear h1
    have N0 := Lib.hid (show Nw w ((w.alloc (.cells #[.bool false, .int .i64 (k : Int), .string nm] 64)).alloc (.cells #[a0, a1, a2, a3, a4, .slice x5 nc c5, .slice x6 nd c6] 27)) from ((Nw.refl w).alloc _).alloc _)
    have cA := ((Blk.new w [.bool false, .int .i64 (k : Int), .string nm] 64).alloc (.cells #[a0, a1, a2, a3, a4, .slice x5 nc c5, .slice x6 nd c6] 27)).cell
    have cB := (show Blk ((w.alloc (.cells #[.bool false, .int .i64 (k : Int), .string nm] 64)).alloc (.cells #[a0, a1, a2, a3, a4, .slice x5 nc c5, .slice x6 nd c6] 27)) (w.heap.size + 1) [a0, a1, a2, a3, a4, .slice x5 nc c5, .slice x6 nd c6] 27 from by
      have := Blk.new (w.alloc (.cells #[.bool false, .int .i64 (k : Int), .string nm] 64)) [a0, a1, a2, a3, a4, .slice x5 nc c5, .slice x6 nd c6] 27
      rw [size_alloc] at this; exact this).cell
    have G0 := Lib.hid (G.out.nw N0.out)
    by_cases h2 : nc ≤ k
    · have HR := Lib.hid (show mendsB code data false (k : Int) = false by simp [mendsB, wordAt_far (l := code) (k := k) (by rw [← E5.out]; exact h2)])
      rw [HR.out]
      go_enter Try.func29, Try.ntmps29
      go_wp2_with fail
      go_returns
      exact ⟨rfl, N0.out⟩
    have hkl : k < code.length := by rw [← E5.out]; omega
    obtain ⟨b, o, rfl, hb, he⟩ := HC.out (by intro e; rw [e] at hkl; simp at hkl)
    obtain ⟨cs, hcn, hcc, rfl, hv⟩ := he k hkl
    have f0 := (G0.out.bel.cell (p := ⟨b, o + k * 1 + 0, none⟩) hb).trans (hcc 0 (by simp))
    simp only [List.getElem?_cons_zero, Nat.add_zero, Nat.mul_one] at f0
    clear he hcc hcn
    have HW := Lib.hid (wordAt_nat hkl)
    generalize code[k]'hkl = v at *
    have hq0 : (0 : Int) ≤ (k : Int) := by omega
    have hq1 : (k : Int) < (nc : Int) := by omega
    cases hok : okW v with
    | false =>
      have DE := Lib.hid (isaDecode_no (w := (w.alloc (.cells #[.bool false, .int .i64 (k : Int), .string nm] 64)).alloc (.cells #[a0, a1, a2, a3, a4, .slice (some ⟨b, o, none⟩) nc c5, .slice x6 nd c6] 27)) hv hok)
      have HR := Lib.hid (show mendsB code data false (k : Int) = false by simp [mendsB, HW.out, fixB, hok])
      rw [HR.out]
      clear hok
      go_enter Try.func29, Try.ntmps29
      go_wp2_with fail
      refine DE.out.mono ?_
      rintro e6 w6 ⟨rfl, k6⟩
      have N6 := Lib.hid ((N0.out.trans k6).alloc (.cells #[.int .i64 0, .int .i64 0, .int .i64 0, .int .i64 0, .int .i64 0] 100))
      have BI := Lib.hid (Blk.new w6 [.int .i64 0, .int .i64 0, .int .i64 0, .int .i64 0, .int .i64 0] 100)
      clear k6 DE cA cB f0
      have US := Lib.hid (isaUses_any (w6.alloc (.cells #[.int .i64 0, .int .i64 0, .int .i64 0, .int .i64 0, .int .i64 0] 100)) 0 (by decide))
      have cI := BI.out.cell
      go_wp2_with fail
      refine US.out.mono ?_
      rintro e7 w7 ⟨rfl, k7⟩
      have N7 := Lib.hid (N6.out.trans k7)
      have cJ := (BI.out.nw k7).cell
      clear k7 US cI
      try rw [HIM.out]
      go_wp2_with fail
      go_returns
      exact ⟨rfl, N7.out⟩
    | true =>
      have DE := Lib.hid (isaDecode_ok (w := (w.alloc (.cells #[.bool false, .int .i64 (k : Int), .string nm] 64)).alloc (.cells #[a0, a1, a2, a3, a4, .slice (some ⟨b, o, none⟩) nc c5, .slice x6 nd c6] 27)) hv hok)
      have OPR := Lib.hid (opW_range v)
      have HFX := Lib.hid (show mendsB code data false (k : Int) = (immOf (opW v) && decide (nW v = 0)) by simp [mendsB, HW.out, fixB, hok])
      rw [HFX.out]
      clear hok
      generalize opW v = op at *
      generalize aW v = ra at *
      generalize bW v = rb at *
      generalize cW v = rc at *
      generalize nW v = im at *
      cases him : immOf op with
      | false =>
        have HIM := Lib.hid him
        clear him
        go_enter Try.func29, Try.ntmps29
        go_wp2_with fail
        refine DE.out.mono ?_
        rintro e6 w6 ⟨rfl, k6⟩
        have N6 := Lib.hid ((N0.out.trans k6).alloc (.cells #[.int .i64 op, .int .i64 ra, .int .i64 rb, .int .i64 rc, .int .i64 im] 100))
        have BI := Lib.hid (Blk.new w6 [.int .i64 op, .int .i64 ra, .int .i64 rb, .int .i64 rc, .int .i64 im] 100)
        clear k6 DE cA cB f0
        have US := Lib.hid (isaUses_any (w6.alloc (.cells #[.int .i64 op, .int .i64 ra, .int .i64 rb, .int .i64 rc, .int .i64 im] 100)) op (by exact OPR.out))
        have cI := BI.out.cell
        go_wp2_with fail
        refine US.out.mono ?_
        rintro e7 w7 ⟨rfl, k7⟩
        have N7 := Lib.hid (N6.out.trans k7)
        have cJ := (BI.out.nw k7).cell
        clear k7 US cI
        try rw [HIM.out]
        go_wp2_with fail
        go_returns
        exact ⟨rfl, N7.out⟩
      | true =>
        have HIM := Lib.hid him
        clear him
        by_cases hz : im = 0
        · subst hz
          go_enter Try.func29, Try.ntmps29
          go_wp2_with fail
          refine DE.out.mono ?_
          rintro e6 w6 ⟨rfl, k6⟩
          have N6 := Lib.hid ((N0.out.trans k6).alloc (.cells #[.int .i64 op, .int .i64 ra, .int .i64 rb, .int .i64 rc, .int .i64 0] 100))
          have BI := Lib.hid (Blk.new w6 [.int .i64 op, .int .i64 ra, .int .i64 rb, .int .i64 rc, .int .i64 0] 100)
          clear k6 DE cA cB f0
          have US := Lib.hid (isaUses_any (w6.alloc (.cells #[.int .i64 op, .int .i64 ra, .int .i64 rb, .int .i64 rc, .int .i64 0] 100)) op (by exact OPR.out))
          have cI := BI.out.cell
          go_wp2_with fail
          refine US.out.mono ?_
          rintro e7 w7 ⟨rfl, k7⟩
          have N7 := Lib.hid (N6.out.trans k7)
          have cJ := (BI.out.nw k7).cell
          clear k7 US cI
          try rw [HIM.out]
          go_wp2_with fail
          go_returns
          exact ⟨rfl, N7.out⟩
        · have HZ := Lib.hid (show decide (im = 0) = false from decide_eq_false hz)
          rw [HZ.out]
          obtain ⟨zn1, zn2, zn3, zn4⟩ := int_ne hz
          go_enter Try.func29, Try.ntmps29
          go_wp2_with fail
          refine DE.out.mono ?_
          rintro e6 w6 ⟨rfl, k6⟩
          have N6 := Lib.hid ((N0.out.trans k6).alloc (.cells #[.int .i64 op, .int .i64 ra, .int .i64 rb, .int .i64 rc, .int .i64 im] 100))
          have BI := Lib.hid (Blk.new w6 [.int .i64 op, .int .i64 ra, .int .i64 rb, .int .i64 rc, .int .i64 im] 100)
          clear k6 DE cA cB f0
          have US := Lib.hid (isaUses_any (w6.alloc (.cells #[.int .i64 op, .int .i64 ra, .int .i64 rb, .int .i64 rc, .int .i64 im] 100)) op (by exact OPR.out))
          have cI := BI.out.cell
          go_wp2_with fail
          refine US.out.mono ?_
          rintro e7 w7 ⟨rfl, k7⟩
          have N7 := Lib.hid (N6.out.trans k7)
          have cJ := (BI.out.nw k7).cell
          clear k7 US cI
          try rw [HIM.out]
          go_wp2_with fail
          go_returns
          exact ⟨rfl, N7.out⟩
set_option maxRecDepth 100000 in
set_option maxHeartbeats 2000000 in
theorem reloc_any {B : Nat} {W w : World} (h : In B W w) (dd : Bool) (at_ : Int) (nm : ByteArray) (a0 a1 a2 a3 a4 vc vd : Value) (code data : List Int) (hat : I64 at_) (hc : SlB B W 1 WdAt code vc) (hd : SlB B W 1 WdAt data vd) :
    Calls Try.prog 32 #[.agg #[a0, a1, a2, a3, a4, vc, vd], .agg #[.bool dd, .int .i64 at_, .string nm]] w (BoolPost w (nameB nm && mendsB code data dd at_)) := by
  obtain ⟨x5, c5, rfl, hcl, hce⟩ := hc
  obtain ⟨x6, c6, rfl, hdl, hde⟩ := hd
  obtain ⟨nc, e5⟩ : ∃ n, n = code.length := ⟨_, rfl⟩
  obtain ⟨nd, e6⟩ : ∃ n, n = data.length := ⟨_, rfl⟩
  rw [← e5] at hcl ⊢
  rw [← e6] at hdl ⊢
  have E5 := Lib.hid e5
  have E6 := Lib.hid e6
  have HC := Lib.hid hce
  have HD := Lib.hid hde
  have G := Lib.hid h
  clear e5 e6 hce hde h
  cases hn : nameB nm with
  | false =>
    have HN := Lib.hid hn
    clear hn
    have N0 := Lib.hid (show Nw w ((w.alloc (.cells #[a0, a1, a2, a3, a4, .slice x5 nc c5, .slice x6 nd c6] 27)).alloc (.cells #[.bool dd, .int .i64 at_, .string nm] 64)) from ((Nw.refl w).alloc _).alloc _)
    have cA := ((Blk.new w [a0, a1, a2, a3, a4, .slice x5 nc c5, .slice x6 nd c6] 27).alloc (.cells #[.bool dd, .int .i64 at_, .string nm] 64)).cell
    have cB := (show Blk ((w.alloc (.cells #[a0, a1, a2, a3, a4, .slice x5 nc c5, .slice x6 nd c6] 27)).alloc (.cells #[.bool dd, .int .i64 at_, .string nm] 64)) (w.heap.size + 1) [.bool dd, .int .i64 at_, .string nm] 64 from by
      have := Blk.new (w.alloc (.cells #[a0, a1, a2, a3, a4, .slice x5 nc c5, .slice x6 nd c6] 27)) [.bool dd, .int .i64 at_, .string nm] 64
      rw [size_alloc] at this; exact this).cell
    have G0 := Lib.hid (G.out.nw N0.out)
    have NM := Lib.hid (rname_is ((w.alloc (.cells #[a0, a1, a2, a3, a4, .slice x5 nc c5, .slice x6 nd c6] 27)).alloc (.cells #[.bool dd, .int .i64 at_, .string nm] 64)) nm)
    go_enter Try.func32, Try.ntmps32
    go_wp2_with fail
    refine NM.out.mono ?_
    rintro e1 w1 ⟨rfl, rfl⟩
    rw [HN.out]
    go_wp2_with fail
    go_returns
    exact ⟨rfl, N0.out⟩
  | true =>
    have HN := Lib.hid hn
    clear hn
    rw [Bool.true_and]
    cases dd with
    | true =>
      by_cases h1 : at_ < 0
      · have HR := Lib.hid (show mendsB code data true at_ = false by simp [mendsB, wordAt_neg h1])
        rw [HR.out]
        have N0 := Lib.hid (show Nw w ((w.alloc (.cells #[a0, a1, a2, a3, a4, .slice x5 nc c5, .slice x6 nd c6] 27)).alloc (.cells #[.bool true, .int .i64 at_, .string nm] 64)) from ((Nw.refl w).alloc _).alloc _)
        have cA := ((Blk.new w [a0, a1, a2, a3, a4, .slice x5 nc c5, .slice x6 nd c6] 27).alloc (.cells #[.bool true, .int .i64 at_, .string nm] 64)).cell
        have cB := (show Blk ((w.alloc (.cells #[a0, a1, a2, a3, a4, .slice x5 nc c5, .slice x6 nd c6] 27)).alloc (.cells #[.bool true, .int .i64 at_, .string nm] 64)) (w.heap.size + 1) [.bool true, .int .i64 at_, .string nm] 64 from by
          have := Blk.new (w.alloc (.cells #[a0, a1, a2, a3, a4, .slice x5 nc c5, .slice x6 nd c6] 27)) [.bool true, .int .i64 at_, .string nm] 64
          rw [size_alloc] at this; exact this).cell
        have G0 := Lib.hid (G.out.nw N0.out)
        have NM := Lib.hid (rname_is ((w.alloc (.cells #[a0, a1, a2, a3, a4, .slice x5 nc c5, .slice x6 nd c6] 27)).alloc (.cells #[.bool true, .int .i64 at_, .string nm] 64)) nm)
        go_enter Try.func32, Try.ntmps32
        go_wp2_with fail
        refine NM.out.mono ?_
        rintro e1 w1 ⟨rfl, rfl⟩
        rw [HN.out]
        go_wp2_with fail
        go_returns
        exact ⟨rfl, N0.out⟩
      obtain ⟨k, rfl⟩ : ∃ k : Nat, at_ = k := ⟨at_.toNat, by omega⟩
      clear h1
      have N0 := Lib.hid (show Nw w ((w.alloc (.cells #[a0, a1, a2, a3, a4, .slice x5 nc c5, .slice x6 nd c6] 27)).alloc (.cells #[.bool true, .int .i64 (k : Int), .string nm] 64)) from ((Nw.refl w).alloc _).alloc _)
      have cA := ((Blk.new w [a0, a1, a2, a3, a4, .slice x5 nc c5, .slice x6 nd c6] 27).alloc (.cells #[.bool true, .int .i64 (k : Int), .string nm] 64)).cell
      have cB := (show Blk ((w.alloc (.cells #[a0, a1, a2, a3, a4, .slice x5 nc c5, .slice x6 nd c6] 27)).alloc (.cells #[.bool true, .int .i64 (k : Int), .string nm] 64)) (w.heap.size + 1) [.bool true, .int .i64 (k : Int), .string nm] 64 from by
        have := Blk.new (w.alloc (.cells #[a0, a1, a2, a3, a4, .slice x5 nc c5, .slice x6 nd c6] 27)) [.bool true, .int .i64 (k : Int), .string nm] 64
        rw [size_alloc] at this; exact this).cell
      have G0 := Lib.hid (G.out.nw N0.out)
      have NM := Lib.hid (rname_is ((w.alloc (.cells #[a0, a1, a2, a3, a4, .slice x5 nc c5, .slice x6 nd c6] 27)).alloc (.cells #[.bool true, .int .i64 (k : Int), .string nm] 64)) nm)
      by_cases h2 : nd ≤ k
      · have HR := Lib.hid (show mendsB code data true (k : Int) = false by simp [mendsB, wordAt_far (l := data) (k := k) (by rw [← E6.out]; exact h2)])
        rw [HR.out]
        go_enter Try.func32, Try.ntmps32
        go_wp2_with fail
        refine NM.out.mono ?_
        rintro e1 w1 ⟨rfl, rfl⟩
        rw [HN.out]
        go_wp2_with fail
        go_returns
        exact ⟨rfl, N0.out⟩
      have hkl : k < data.length := by rw [← E6.out]; omega
      obtain ⟨b, o, rfl, hb, he⟩ := HD.out (by intro e; rw [e] at hkl; simp at hkl)
      obtain ⟨cs, hcn, hcc, rfl, hv⟩ := he k hkl
      have f0 := (G0.out.bel.cell (p := ⟨b, o + k * 1 + 0, none⟩) hb).trans (hcc 0 (by simp))
      simp only [List.getElem?_cons_zero, Nat.add_zero, Nat.mul_one] at f0
      clear he hcc hcn
      have HW := Lib.hid (wordAt_nat hkl)
      generalize data[k]'hkl = v at *
      have hq0 : (0 : Int) ≤ (k : Int) := by omega
      have hq1 : (k : Int) < (nd : Int) := by omega
      by_cases h3 : v = 0
      · subst h3
        have HR := Lib.hid (show mendsB code data true (k : Int) = true by simp [mendsB, HW.out])
        rw [HR.out]
        go_enter Try.func32, Try.ntmps32
        go_wp2_with fail
        refine NM.out.mono ?_
        rintro e1 w1 ⟨rfl, rfl⟩
        rw [HN.out]
        go_wp2_with fail
        go_returns
        exact ⟨rfl, N0.out⟩
      · obtain ⟨vn1, vn2, vn3, vn4⟩ := int_ne h3
        have HR := Lib.hid (show mendsB code data true (k : Int) = false by simp [mendsB, HW.out, h3])
        rw [HR.out]
        go_enter Try.func32, Try.ntmps32
        go_wp2_with fail
        refine NM.out.mono ?_
        rintro e1 w1 ⟨rfl, rfl⟩
        rw [HN.out]
        go_wp2_with fail
        go_returns
        exact ⟨rfl, N0.out⟩
    | false =>
      by_cases h1 : at_ < 0
      · have HR := Lib.hid (show mendsB code data false at_ = false by simp [mendsB, wordAt_neg h1])
        rw [HR.out]
        have N0 := Lib.hid (show Nw w ((w.alloc (.cells #[a0, a1, a2, a3, a4, .slice x5 nc c5, .slice x6 nd c6] 27)).alloc (.cells #[.bool false, .int .i64 at_, .string nm] 64)) from ((Nw.refl w).alloc _).alloc _)
        have cA := ((Blk.new w [a0, a1, a2, a3, a4, .slice x5 nc c5, .slice x6 nd c6] 27).alloc (.cells #[.bool false, .int .i64 at_, .string nm] 64)).cell
        have cB := (show Blk ((w.alloc (.cells #[a0, a1, a2, a3, a4, .slice x5 nc c5, .slice x6 nd c6] 27)).alloc (.cells #[.bool false, .int .i64 at_, .string nm] 64)) (w.heap.size + 1) [.bool false, .int .i64 at_, .string nm] 64 from by
          have := Blk.new (w.alloc (.cells #[a0, a1, a2, a3, a4, .slice x5 nc c5, .slice x6 nd c6] 27)) [.bool false, .int .i64 at_, .string nm] 64
          rw [size_alloc] at this; exact this).cell
        have G0 := Lib.hid (G.out.nw N0.out)
        have NM := Lib.hid (rname_is ((w.alloc (.cells #[a0, a1, a2, a3, a4, .slice x5 nc c5, .slice x6 nd c6] 27)).alloc (.cells #[.bool false, .int .i64 at_, .string nm] 64)) nm)
        go_enter Try.func32, Try.ntmps32
        go_wp2_with fail
        refine NM.out.mono ?_
        rintro e1 w1 ⟨rfl, rfl⟩
        rw [HN.out]
        go_wp2_with fail
        go_returns
        exact ⟨rfl, N0.out⟩
      obtain ⟨k, rfl⟩ : ∃ k : Nat, at_ = k := ⟨at_.toNat, by omega⟩
      clear h1
      have N0 := Lib.hid (show Nw w ((w.alloc (.cells #[a0, a1, a2, a3, a4, .slice x5 nc c5, .slice x6 nd c6] 27)).alloc (.cells #[.bool false, .int .i64 (k : Int), .string nm] 64)) from ((Nw.refl w).alloc _).alloc _)
      have cA := ((Blk.new w [a0, a1, a2, a3, a4, .slice x5 nc c5, .slice x6 nd c6] 27).alloc (.cells #[.bool false, .int .i64 (k : Int), .string nm] 64)).cell
      have cB := (show Blk ((w.alloc (.cells #[a0, a1, a2, a3, a4, .slice x5 nc c5, .slice x6 nd c6] 27)).alloc (.cells #[.bool false, .int .i64 (k : Int), .string nm] 64)) (w.heap.size + 1) [.bool false, .int .i64 (k : Int), .string nm] 64 from by
        have := Blk.new (w.alloc (.cells #[a0, a1, a2, a3, a4, .slice x5 nc c5, .slice x6 nd c6] 27)) [.bool false, .int .i64 (k : Int), .string nm] 64
        rw [size_alloc] at this; exact this).cell
      have G0 := Lib.hid (G.out.nw N0.out)
      have NM := Lib.hid (rname_is ((w.alloc (.cells #[a0, a1, a2, a3, a4, .slice x5 nc c5, .slice x6 nd c6] 27)).alloc (.cells #[.bool false, .int .i64 (k : Int), .string nm] 64)) nm)
      by_cases h2 : nc ≤ k
      · have HR := Lib.hid (show mendsB code data false (k : Int) = false by simp [mendsB, wordAt_far (l := code) (k := k) (by rw [← E5.out]; exact h2)])
        rw [HR.out]
        go_enter Try.func32, Try.ntmps32
        go_wp2_with fail
        refine NM.out.mono ?_
        rintro e1 w1 ⟨rfl, rfl⟩
        rw [HN.out]
        go_wp2_with fail
        go_returns
        exact ⟨rfl, N0.out⟩
      have hkl : k < code.length := by rw [← E5.out]; omega
      obtain ⟨b, o, rfl, hb, he⟩ := HC.out (by intro e; rw [e] at hkl; simp at hkl)
      obtain ⟨cs, hcn, hcc, rfl, hv⟩ := he k hkl
      have f0 := (G0.out.bel.cell (p := ⟨b, o + k * 1 + 0, none⟩) hb).trans (hcc 0 (by simp))
      simp only [List.getElem?_cons_zero, Nat.add_zero, Nat.mul_one] at f0
      clear he hcc hcn
      have HW := Lib.hid (wordAt_nat hkl)
      generalize code[k]'hkl = v at *
      have hq0 : (0 : Int) ≤ (k : Int) := by omega
      have hq1 : (k : Int) < (nc : Int) := by omega
      cases hok : okW v with
      | false =>
        have DE := Lib.hid (rDecode_no (w := (w.alloc (.cells #[a0, a1, a2, a3, a4, .slice (some ⟨b, o, none⟩) nc c5, .slice x6 nd c6] 27)).alloc (.cells #[.bool false, .int .i64 (k : Int), .string nm] 64)) hv hok)
        have HR := Lib.hid (show mendsB code data false (k : Int) = false by simp [mendsB, HW.out, fixB, hok])
        rw [HR.out]
        clear hok
        go_enter Try.func32, Try.ntmps32
        go_wp2_with fail
        refine NM.out.mono ?_
        rintro e1 w1 ⟨rfl, rfl⟩
        rw [HN.out]
        go_wp2_with fail
        refine DE.out.mono ?_
        rintro e6 w6 ⟨rfl, k6⟩
        have N6 := Lib.hid ((N0.out.trans k6).alloc (.cells #[.int .i64 0, .int .i64 0, .int .i64 0, .int .i64 0, .int .i64 0] 100))
        have BI := Lib.hid (Blk.new w6 [.int .i64 0, .int .i64 0, .int .i64 0, .int .i64 0, .int .i64 0] 100)
        clear k6 DE cA cB f0
        have US := Lib.hid (rUses_nw (w6.alloc (.cells #[.int .i64 0, .int .i64 0, .int .i64 0, .int .i64 0, .int .i64 0] 100)) 0 (by decide))
        have cI := BI.out.cell
        go_wp2_with fail
        refine US.out.mono ?_
        rintro e7 w7 ⟨rfl, k7⟩
        have N7 := Lib.hid (N6.out.trans k7)
        have cJ := (BI.out.nw k7).cell
        clear k7 US cI
        try rw [HIM.out]
        go_wp2_with fail
        go_returns
        exact ⟨rfl, N7.out⟩
      | true =>
        have DE := Lib.hid (rDecode_ok (w := (w.alloc (.cells #[a0, a1, a2, a3, a4, .slice (some ⟨b, o, none⟩) nc c5, .slice x6 nd c6] 27)).alloc (.cells #[.bool false, .int .i64 (k : Int), .string nm] 64)) hv hok)
        have OPR := Lib.hid (opW_range v)
        have HFX := Lib.hid (show mendsB code data false (k : Int) = (immOf (opW v) && decide (nW v = 0)) by simp [mendsB, HW.out, fixB, hok])
        rw [HFX.out]
        clear hok
        generalize opW v = op at *
        generalize aW v = ra at *
        generalize bW v = rb at *
        generalize cW v = rc at *
        generalize nW v = im at *
        cases him : immOf op with
        | false =>
          have HIM := Lib.hid him
          clear him
          go_enter Try.func32, Try.ntmps32
          go_wp2_with fail
          refine NM.out.mono ?_
          rintro e1 w1 ⟨rfl, rfl⟩
          rw [HN.out]
          go_wp2_with fail
          refine DE.out.mono ?_
          rintro e6 w6 ⟨rfl, k6⟩
          have N6 := Lib.hid ((N0.out.trans k6).alloc (.cells #[.int .i64 op, .int .i64 ra, .int .i64 rb, .int .i64 rc, .int .i64 im] 100))
          have BI := Lib.hid (Blk.new w6 [.int .i64 op, .int .i64 ra, .int .i64 rb, .int .i64 rc, .int .i64 im] 100)
          clear k6 DE cA cB f0
          have US := Lib.hid (rUses_nw (w6.alloc (.cells #[.int .i64 op, .int .i64 ra, .int .i64 rb, .int .i64 rc, .int .i64 im] 100)) op (by exact OPR.out))
          have cI := BI.out.cell
          go_wp2_with fail
          refine US.out.mono ?_
          rintro e7 w7 ⟨rfl, k7⟩
          have N7 := Lib.hid (N6.out.trans k7)
          have cJ := (BI.out.nw k7).cell
          clear k7 US cI
          try rw [HIM.out]
          go_wp2_with fail
          go_returns
          exact ⟨rfl, N7.out⟩
        | true =>
          have HIM := Lib.hid him
          clear him
          by_cases hz : im = 0
          · subst hz
            go_enter Try.func32, Try.ntmps32
            go_wp2_with fail
            refine NM.out.mono ?_
            rintro e1 w1 ⟨rfl, rfl⟩
            rw [HN.out]
            go_wp2_with fail
            refine DE.out.mono ?_
            rintro e6 w6 ⟨rfl, k6⟩
            have N6 := Lib.hid ((N0.out.trans k6).alloc (.cells #[.int .i64 op, .int .i64 ra, .int .i64 rb, .int .i64 rc, .int .i64 0] 100))
            have BI := Lib.hid (Blk.new w6 [.int .i64 op, .int .i64 ra, .int .i64 rb, .int .i64 rc, .int .i64 0] 100)
            clear k6 DE cA cB f0
            have US := Lib.hid (rUses_nw (w6.alloc (.cells #[.int .i64 op, .int .i64 ra, .int .i64 rb, .int .i64 rc, .int .i64 0] 100)) op (by exact OPR.out))
            have cI := BI.out.cell
            go_wp2_with fail
            refine US.out.mono ?_
            rintro e7 w7 ⟨rfl, k7⟩
            have N7 := Lib.hid (N6.out.trans k7)
            have cJ := (BI.out.nw k7).cell
            clear k7 US cI
            try rw [HIM.out]
            go_wp2_with fail
            go_returns
            exact ⟨rfl, N7.out⟩
          · have HZ := Lib.hid (show decide (im = 0) = false from decide_eq_false hz)
            rw [HZ.out]
            obtain ⟨zn1, zn2, zn3, zn4⟩ := int_ne hz
            go_enter Try.func32, Try.ntmps32
            go_wp2_with fail
            refine NM.out.mono ?_
            rintro e1 w1 ⟨rfl, rfl⟩
            rw [HN.out]
            go_wp2_with fail
            refine DE.out.mono ?_
            rintro e6 w6 ⟨rfl, k6⟩
            have N6 := Lib.hid ((N0.out.trans k6).alloc (.cells #[.int .i64 op, .int .i64 ra, .int .i64 rb, .int .i64 rc, .int .i64 im] 100))
            have BI := Lib.hid (Blk.new w6 [.int .i64 op, .int .i64 ra, .int .i64 rb, .int .i64 rc, .int .i64 im] 100)
            clear k6 DE cA cB f0
            have US := Lib.hid (rUses_nw (w6.alloc (.cells #[.int .i64 op, .int .i64 ra, .int .i64 rb, .int .i64 rc, .int .i64 im] 100)) op (by exact OPR.out))
            have cI := BI.out.cell
            go_wp2_with fail
            refine US.out.mono ?_
            rintro e7 w7 ⟨rfl, k7⟩
            have N7 := Lib.hid (N6.out.trans k7)
            have cJ := (BI.out.nw k7).cell
            clear k7 US cI
            try rw [HIM.out]
            go_wp2_with fail
            go_returns
            exact ⟨rfl, N7.out⟩
end Go.Proofs.Ytfdjlicegfgodaa
