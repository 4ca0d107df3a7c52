/- ObjectTurned: the law's walk. -/
import Derived.Test.YtfdjlicegfgodaaOTurn1
namespace Go.Proofs.Ytfdjlicegfgodaa
open Go.RowKit
set_option linter.unusedSimpArgs false
set_option linter.unusedVariables false

theorem own_empty (w : World) : (w.alloc (.cells #[] 5)).ownsRow w.heap.size 5 1 (.slice (some ⟨w.heap.size, 0, none⟩) 0 0) 0 [] :=
  ⟨rfl, .inr ⟨w.heap.size, 0, #[], rfl, Nat.le_refl _, by show (w.heap.push _)[w.heap.size]? = _; simp, Nat.le_refl _, Nat.zero_le _, rfl, rfl⟩⟩
theorem app_nothing (w : World) {gd n c : Nat} (hn : n ≤ c) : (Builtin.append_ #[34, 34] 34 #[.slice (some ⟨gd, 0, none⟩) n c, .slice none 0 0]).run Try.prog w = .ok (.slice (some ⟨gd, 0, none⟩) n c) w := by
  obtain ⟨i0, hi0, hz0, hz1, hz2⟩ := info_parts u8info
  simp [Builtin.append_, run_underlying Try.underlying34, sizeOf, typeInfo, hi0, hz1, Builtin.lenOf, Builtin.firstCells, loadCells, loadCellsFrom, storeCells, hn]
theorem own_addr {w : World} {base e n c : Nat} {x : Option Addr} {xs : List Value} (h : w.ownsRow base e 1 (.slice x n c) n xs) (hn : 0 < n) : ∃ g cur, x = some ⟨g, 0, none⟩ ∧ base ≤ g ∧ w.heap[g]? = some (.cells cur e (0, 0)) ∧ n ≤ c ∧ c ≤ maxLen ∧ cur.size = c ∧ cur.toList.take n = xs := by
  rcases h.2 with ⟨_, h⟩ | ⟨g, cap, cur, hv, h1, h2, h3, h4, h5, h6⟩
  · omega
  · injection hv with hv1 hv2 hv3
    subst hv3
    exact ⟨g, cur, hv1, h1, h2, h3, h4, by simpa using h5, by simpa using h6⟩
theorem byteV_get {l : List UInt8} {i : Nat} (h : i < l.length) : (byteV l)[i]? = some (.int .u8 (l[i].toNat : Int)) := by simp [byteV, h]
theorem own_cells {w : World} {base e n c g : Nat} {l : List UInt8} (h : w.ownsRow base e 1 (.slice (some ⟨g, 0, none⟩) n c) n (byteV l)) (hn : n = l.length) : ∀ j u, (byteV l)[j]? = some u → w.cell? ((⟨g, 0, none⟩ : Addr).add j) = some u := h.cells (g := g) rfl
theorem own_cell {w : World} {base e n c g : Nat} {l : List UInt8} (h : w.ownsRow base e 1 (.slice (some ⟨g, 0, none⟩) n c) n (byteV l)) {i : Nat} (hi : i < l.length) : w.cell? ⟨g, i, none⟩ = some (.int .u8 (l[i].toNat : Int)) := by
  have h1 := h.cells (g := g) rfl i _ (byteV_get hi)
  have e : (⟨g, 0, none⟩ : Addr).add i = ⟨g, 0 + i, none⟩ := by unfold Addr.add; split <;> simp_all
  rwa [e, Nat.zero_add] at h1
/-- a byte of a row of our own is laid anew -/
theorem own_turn {w : World} {base e n c g : Nat} {l : List UInt8} (h : w.ownsRow base e 1 (.slice (some ⟨g, 0, none⟩) n c) n (byteV l)) (hn : n = l.length) {k : Nat} (hk : k < l.length) (x : UInt8) :
    BytesAt (w.setCell ⟨g, k, none⟩ (.int .u8 (x.toNat : Int))) (.slice (some ⟨g, 0, none⟩) n c) (l.set k x) := by
  obtain ⟨g', cur, hx, _, hg, hc, hm, _, _⟩ := own_addr h (by omega)
  refine ⟨_, c, by rw [List.length_set, hn], by rw [List.length_set, ← hn]; exact hc, hm, fun _ => ⟨g, 0, rfl, fun i hi => ?_⟩⟩
  rw [List.length_set] at hi
  rw [Nat.zero_add]
  by_cases hik : i = k
  · subst hik
    rw [World.cell?_setCell_same w ⟨g, i, none⟩ _ (own_cell h hk)]
    simp
  · rw [World.cell?_setCell_other w ⟨g, k, none⟩ ⟨g, i, none⟩ _ (by intro e; injection e with _ e2; exact hik e2.symm), own_cell h hi]
    simp only [List.getElem_set]
    rw [if_neg (fun e => hik e.symm)]
theorem own_frozen {w : World} {base e n c g : Nat} {xs : List Value} (h : w.ownsRow base e 1 (.slice (some ⟨g, 0, none⟩) n c) n xs) (hn : 0 < n) (i : Nat) : w.frozen? ⟨g, i, none⟩ = false := by
  obtain ⟨g', cur, hx, _, hg, _⟩ := own_addr h hn
  injection hx with hx
  injection hx with hx
  subst hx
  simp [World.frozen?, hg]
theorem dec_no {w : World} {v : Value} {l : List UInt8} (hno : NoDec l) (h : BytesAt w v l) :
    Calls Try.prog 18 #[v] w fun e w' => e = .returned (.tuple #[.agg #[.string ⟨#[]⟩, .int .i64 0, .slice none 0 0, .slice none 0 0, .slice none 0 0, .slice none 0 0, .slice none 0 0], .int .i64 4]) ∧ Nw w w' := by
  refine (decode_any w v l h).mono ?_
  rintro e w' (⟨u, cs, rfl, hok, hcv, hen, hl, _, _⟩ | ⟨rfl, _, k⟩)
  · exact absurd hen (hno u hok hcv hl)
  · exact ⟨rfl, k⟩

set_option maxRecDepth 100000 in
set_option maxHeartbeats 4000000 in
theorem objectTurned_walk (u : Ob) (cs : List Value) (at_ wi : Int) (vm : Value) (more : List UInt8) (w : World) (hwi : 0 ≤ wi ∧ wi < 256) (hms : vm = .slice none 0 0 ∨ ∃ ad n c, vm = .slice (some ad) n c) (hm : BytesAt w vm more) (hx : ObAt w.heap.size w u cs) :
    Calls Try.prog 7 #[.agg cs.toArray, .int .i64 at_, .int .u8 wi, vm] w (BoolPost w true) := by
  obtain ⟨i0, hi0, hz0, hz1, hz2⟩ := info_parts u8info
  have HX := Lib.hid hx
  have HM := Lib.hid hm
  have GR := Lib.hid (fun (wz : World) (hz : Nw w wz) => great28_any (w := wz) u cs hx)
  have EN := Lib.hid (fun (wz : World) (hz : Nw w wz) (hb : codeV u = 0 → (encO u).length ≤ 140737488300000) => oencode_any u cs hx ((In.self w).nw hz) hb)
  obtain ⟨vi, vs, vr, vc, vd, rfl, hp, hh, hi, hs, hr, hc, hd⟩ := hx
  obtain ⟨x2, m2, c2, rfl⟩ := hi.slice
  obtain ⟨x3, m3, c3, rfl⟩ := hs.slice
  obtain ⟨x4, m4, c4, rfl⟩ := hr.slice
  obtain ⟨x5, m5, c5, rfl⟩ := hc.slice
  obtain ⟨x6, m6, c6, rfl⟩ := hd.slice
  obtain ⟨xm, cm, rfl, hmc, hmm, _⟩ := hm
  have HMS := Lib.hid hms
  clear hms
  obtain ⟨nm, hnm⟩ : ∃ nm, nm = more.length := ⟨_, rfl⟩
  rw [← hnm] at hmc HM HMS ⊢
  have NM := Lib.hid hnm
  have hmx : nm ≤ 9223372036854775807 := by unfold maxLen at hmm; omega
  clear hp hh hi hs hr hc hd hnm
  have BX := Lib.hid (Blk.new w [.string u.pkg, .int .i64 u.hash, .slice x2 m2 c2, .slice x3 m3 c3, .slice x4 m4 c4, .slice x5 m5 c5, .slice x6 m6 c6] 27)
  have N0 := Lib.hid (Nw.new w (.cells #[.string u.pkg, .int .i64 u.hash, .slice x2 m2 c2, .slice x3 m3 c3, .slice x4 m4 c4, .slice x5 m5 c5, .slice x6 m6 c6] 27))
  have sN : w.heap.size + 1 ≤ (w.alloc (.cells #[.string u.pkg, .int .i64 u.hash, .slice x2 m2 c2, .slice x3 m3 c3, .slice x4 m4 c4, .slice x5 m5 c5, .slice x6 m6 c6] 27)).heap.size := by simp
  by_cases hg : greatB u = true
  · have HG := Lib.hid hg
    clear hg
    go_enter Try.func7, Try.ntmps7
    go_wp2_with fail
    refine (GR.out _ N0.out).mono ?_
    rintro e1 w1 ⟨rfl, k1⟩
    rw [HG.out]
    have K1 := Lib.hid (N0.out.trans k1)
    clear k1
    go_wp2_with fail
    refine (awake28_any _).mono ?_
    rintro e2 w2 ⟨rfl, k2⟩
    have K2 := Lib.hid (K1.out.trans k2)
    clear k2
    go_wp2_with fail
    go_returns
    exact ⟨rfl, K2.out⟩
  · have HG := Lib.hid (show greatB u = false by simpa using hg)
    have GN := Lib.hid (great_no HG.out)
    clear hg
    by_cases hg2 : 1000 < nm
    · have hq : (1000 : Int) < (nm : Int) := by omega
      go_enter Try.func7, Try.ntmps7
      go_wp2_with fail
      refine (GR.out _ N0.out).mono ?_
      rintro e1 w1 ⟨rfl, k1⟩
      rw [HG.out]
      have K1 := Lib.hid (N0.out.trans k1)
      clear k1
      go_wp2_with fail
      refine (awake28_any _).mono ?_
      rintro e2 w2 ⟨rfl, k2⟩
      have K2 := Lib.hid (K1.out.trans k2)
      clear k2
      go_wp2_with fail
      go_returns
      exact ⟨rfl, K2.out⟩
    · have hq : ¬ (1000 : Int) < (nm : Int) := by omega
      go_enter Try.func7, Try.ntmps7
      go_wp2_with fail
      refine (GR.out _ N0.out).mono ?_
      rintro e1 w1 ⟨rfl, k1⟩
      rw [HG.out]
      have K1 := Lib.hid (N0.out.trans k1)
      have B1 := Lib.hid (BX.out.nw k1)
      have s1 := Nat.le_trans sN k1.size
      have q1 := B1.out.cell
      clear k1
      go_wp2_with fail
      refine (EN.out _ K1.out (fun hv => by have h1 := valid_len hv; have h2 := GN.out; omega)).mono ?_
      rintro e2 w2 ⟨a2, n2, z2, rfl, k2, hb2⟩
      have K2 := Lib.hid (K1.out.trans k2)
      have s2 := k2.size
      clear q1 k2
      by_cases h0 : codeO u = 0
      rotate_left
      · clear hb2
        obtain ⟨ne1, ne2, ne3, ne4⟩ := int_ne h0
        clear h0
        go_wp2_with fail
        refine (num28_any _ _).mono ?_
        rintro _ _ ⟨rfl, rfl⟩
        go_wp2_with fail
        refine (num28_any _ _).mono ?_
        rintro _ _ ⟨rfl, rfl⟩
        go_wp2_with fail
        refine (awake28_any _).mono ?_
        rintro e3 w3 ⟨rfl, k3⟩
        have K3 := Lib.hid (K2.out.trans k3)
        clear k3
        go_wp2_with fail
        go_returns
        exact ⟨rfl, K3.out⟩
      · rw [if_pos h0] at hb2
        rw [h0]
        have OKU := Lib.hid (okOb_of HX.out)
        have LEN := Lib.hid (codeO_zero h0).2
        clear h0
        have S2 := Lib.hid hb2.at
        obtain ⟨hnl, how, hgb⟩ := hb2
        have hn12 : 12 ≤ n2 := by have h1 := objB_length u; omega
        have hn26 : n2 ≤ 262144 := by have := LEN.out; omega
        obtain ⟨l, hl⟩ : ∃ l, l = objB u := ⟨_, rfl⟩
        rw [← hl] at hnl S2 LEN how
        have EL := Lib.hid hl.symm
        have OW := Lib.hid how
        have NL := Lib.hid hnl
        rcases how.2 with ⟨_, h⟩ | ⟨g, cap, cur, hv, _, hgc, hgn, hgm, hgs, _⟩
        · omega
        injection hv with hv1 hv2 hv3
        subst hv1
        subst hv3
        have hg2' : g < w2.heap.size := (Array.getElem?_eq_some_iff.1 hgc).1
        clear hl hnl how hgb hgc hgs hv2
        have hz12 : n2 ≤ z2 := hgn
        have hnz : ¬ n2 = 0 := by omega
        have hnz' : ¬ (n2 : Int) = 0 := by omega
        obtain ⟨ne1, ne2, ne3, ne4⟩ := int_ne hnz'
        go_wp2_with fail
        refine (num28_any _ _).mono ?_
        rintro _ _ ⟨rfl, rfl⟩
        obtain ⟨k, hkn, hk⟩ : ∃ k : Nat, k < n2 ∧ wrap64 ((IntKind.u64.wrap at_).tmod (n2 : Int)) = (k : Int) := by
          have h1 := u64_range at_
          have h2 : (IntKind.u64.wrap at_).tmod (n2 : Int) = (IntKind.u64.wrap at_) % (n2 : Int) := Int.tmod_eq_emod_of_nonneg h1.1
          have h3 := Int.emod_nonneg (IntKind.u64.wrap at_) (b := (n2 : Int)) (by omega)
          have h4 := Int.emod_lt_of_pos (IntKind.u64.wrap at_) (b := (n2 : Int)) (by omega)
          refine ⟨((IntKind.u64.wrap at_) % (n2 : Int)).toNat, by omega, ?_⟩
          rw [h2, show wrap64 ((IntKind.u64.wrap at_) % (n2 : Int)) = IntKind.i64.wrap ((IntKind.u64.wrap at_) % (n2 : Int)) by simp [wrap64, IntKind.wrap_i64], IntWalk.i64_in _ (by omega)]
          omega
        go_upto_region 7 with fail
        rw [hk]
        have hkl : k < l.length := by rw [← NL.out]; exact hkn
        obtain ⟨c0, hc0⟩ : ∃ c0, c0 = l[k] := ⟨_, rfl⟩
        obtain ⟨x, hxc, hbt⟩ := byte_turn c0 hwi
        have NO1 := Lib.hid (no_turned EL.out hkl (by rw [← hc0]; exact hxc))
        have C0 := Lib.hid hc0
        have NO2 := Lib.hid (no_prefix OKU.out EL.out hkl)
        have NO3 := Lib.hid (no_behind OKU.out EL.out (y := 0) (more := more))
        have HKL := Lib.hid hkl
        have hq0 : (0 : Int) ≤ (k : Int) := by omega
        have hq1 : (k : Int) < (n2 : Int) := by omega
        have hw0 : wi.tmod 255 = wi % 255 := Int.tmod_eq_emod_of_nonneg hwi.1
        have hw1 : IntKind.u8.wrap (1 + wi % 255) = 1 + wi % 255 := by simp only [IntKind.wrap, IntKind.bits, IntKind.signed]; simp; omega
        clear hk hxc hc0
        have OE := Lib.hid (own_empty w2)
        have KA := Lib.hid (show Kp (fun b => w2.heap.size ≤ b) w2 (w2.alloc (.cells #[] 5)) from (Kp.refl _ w2).alloc _)
        have HN := Lib.hid (own_cells (own_kp OW.out KA.out (fun g' hg' e => by simp only [Value.ownBlock, Option.some.injEq] at hg'; omega)) NL.out)
        have HN1 := Lib.hid (show ∀ u ∈ byteV l, u.oneCell' = true from fun u hu => by
          obtain ⟨y, _, rfl⟩ := List.mem_map.1 hu
          rfl)
        have HLN := Lib.hid (show (byteV l).length = n2 * 1 by rw [byteV_length, NL.out]; simp)
        have H63 := Lib.hid (show 0 + n2 ≤ maxLen by unfold maxLen; omega)
        have HBY := Lib.hid (show (0 + n2) * 1 ≤ 140737488355328 by omega)
        have HBS := Lib.hid (show w2.heap.size ≤ (w2.alloc (.cells #[] 5)).heap.size by simp)
        have STEP := Lib.hid (fun (x' : Option Addr) (c' : Nat) (w3 : World) (ho : w3.ownsRow w2.heap.size 5 1 (.slice x' (0 + n2) c') (0 + n2) ([] ++ byteV l)) (hgr : (w2.alloc (.cells #[] 5)).grownBy w3 (Value.slice (some ⟨w2.heap.size, 0, none⟩) 0 0).ownBlock) =>
          show ∃ gc, x' = some ⟨gc, 0, none⟩ ∧ w2.heap.size ≤ gc ∧ w3.cell? ⟨gc, k, none⟩ = some (.int .u8 (c0.toNat : Int)) ∧ w3.frozen? ⟨gc, k, none⟩ = false ∧ n2 ≤ c' ∧ Kp (fun b => w2.heap.size ≤ b) w2 w3 ∧ w3.ownsRow w2.heap.size 5 1 (.slice (some ⟨gc, 0, none⟩) n2 c') n2 (byteV l) from by
          rw [Nat.zero_add, List.nil_append] at ho
          obtain ⟨gc, cur, rfl, hgc, _, hc, _⟩ := own_addr ho (by omega)
          exact ⟨gc, rfl, hgc, by rw [C0.out]; exact own_cell ho HKL.out, own_frozen ho (by omega) k, hc, Kp.grown KA.out hgr (fun b hb _ => by simp only [Value.ownBlock, Option.some.injEq] at hb; omega), ho⟩)
        go_wp2_with (at_builtin; refine wpList_app _ rfl (.tmp 54) (.tmp 55) 34 rfl w2.heap.size 5 i0 (.int .u8 0) 1 1 Try.underlying34 hi0 hz0 hz1 hz2 rfl (by decide) _ 0 [] rfl OE.out ⟨g, 0, none⟩ n2 z2 (byteV l) rfl HLN.out HN.out HN1.out H63.out HBY.out HBS.out ?_; intro x' c' w3 ho hgr hl'; obtain ⟨gc, rfl, hgc, fc, zc, hcc, KB, OC⟩ := STEP.out x' c' w3 ho hgr; have KB3 := Lib.hid KB; have OC3 := Lib.hid OC; clear ho hgr hl' KB OC)
        have KB4 := Lib.hid (KB3.out.setCell (p := ⟨gc, k, none⟩) (fun _ => hgc) (.int .u8 (x.toNat : Int)))
        have D1 := Lib.hid (dec_no NO1.out (own_turn OC3.out NL.out HKL.out x))
        generalize w3.setCell ⟨gc, k, none⟩ (.int .u8 (x.toNat : Int)) = w4 at *
        clear fc zc
        refine (D1.out).mono ?_
        rintro e5 w5 ⟨rfl, k5⟩
        have KB5 := Lib.hid (KB4.out.trans k5 (fun _ _ x => x.elim))
        clear k5
        have KB6 := Lib.hid (KB5.out.alloc (.cells #[.string ⟨#[]⟩, .int .i64 0, .slice none 0 0, .slice none 0 0, .slice none 0 0, .slice none 0 0, .slice none 0 0] 27))
        have D2 := Lib.hid (dec_no NO2.out (BytesAt.take (bytesAt_kp S2.out KB6.out (fun b hb e => by omega)) (m := k) (by have := HKL.out; omega)))
        have hq2 : (k : Int) ≤ (z2 : Int) := by omega
        have hq3 : (k : Int) ≤ (n2 : Int) := by omega
        have hkz : ¬ z2 = k := by omega
        go_wp2_with fail
        refine (D2.out).mono ?_
        rintro e7 w7 ⟨rfl, k7⟩
        have KB7 := Lib.hid (KB6.out.trans k7 (fun _ _ x => x.elim))
        clear k7
        have KB8 := Lib.hid (KB7.out.alloc (.cells #[.string ⟨#[]⟩, .int .i64 0, .slice none 0 0, .slice none 0 0, .slice none 0 0, .slice none 0 0, .slice none 0 0] 27))
        have s8 := KB8.out.size
        go_upto_region 11 with fail
        generalize w7.alloc (.cells #[.string ⟨#[]⟩, .int .i64 0, .slice none 0 0, .slice none 0 0, .slice none 0 0, .slice none 0 0, .slice none 0 0] 27) = w8 at *
        clear OE KA HN HBS STEP
        have OE := Lib.hid (own_empty w8)
        have KA := Lib.hid (KB8.out.alloc (.cells #[] 5))
        have HN := Lib.hid (own_cells (own_kp OW.out KA.out (fun g' hg' e => by simp only [Value.ownBlock, Option.some.injEq] at hg'; omega)) NL.out)
        have HBS := Lib.hid (show w8.heap.size ≤ (w8.alloc (.cells #[] 5)).heap.size by simp)
        have STEP := Lib.hid (fun (x' : Option Addr) (c' : Nat) (w3 : World) (ho : w3.ownsRow w8.heap.size 5 1 (.slice x' (0 + n2) c') (0 + n2) ([] ++ byteV l)) (hgr : (w8.alloc (.cells #[] 5)).grownBy w3 (Value.slice (some ⟨w8.heap.size, 0, none⟩) 0 0).ownBlock) =>
          show ∃ gd, x' = some ⟨gd, 0, none⟩ ∧ w8.heap.size ≤ gd ∧ n2 ≤ c' ∧ Kp (fun b => w2.heap.size ≤ b) w2 w3 ∧ w3.ownsRow w8.heap.size 5 1 (.slice (some ⟨gd, 0, none⟩) n2 c') n2 (byteV l) ∧ w8.heap.size ≤ w3.heap.size from by
          rw [Nat.zero_add, List.nil_append] at ho
          obtain ⟨gd, cur, rfl, hgd, _, hc, _⟩ := own_addr ho (by omega)
          exact ⟨gd, rfl, hgd, hc, Kp.grown KA.out hgr (fun b hb _ => by simp only [Value.ownBlock, Option.some.injEq] at hb; omega), ho, by have := hgr.size; simp at this; omega⟩)
        go_upto_region 12 with (at_builtin; refine wpList_app _ rfl (.tmp 80) (.tmp 81) 34 rfl w8.heap.size 5 i0 (.int .u8 0) 1 1 Try.underlying34 hi0 hz0 hz1 hz2 rfl (by decide) _ 0 [] rfl OE.out ⟨g, 0, none⟩ n2 z2 (byteV l) rfl HLN.out HN.out HN1.out H63.out HBY.out HBS.out ?_; intro x' cd w9 ho hgr hl'; obtain ⟨gd, rfl, hgd, hcd, KB, OC, s9⟩ := STEP.out x' cd w9 ho hgr; have KB9 := Lib.hid KB; have OD9 := Lib.hid OC; clear ho hgr hl' KB OC)
        have KA9 := Lib.hid (KB9.out.alloc (.cells #[.int .u8 0] 5))
        have HOW := Lib.hid (OD9.out.alloc (.cells #[.int .u8 0] 5))
        have HM1 := Lib.hid (cell_one_new w9 (.int .u8 0) 5)
        have HM2 := Lib.hid (show ∀ u ∈ [Value.int .u8 0], u.oneCell' = true from by intro u hu; simp at hu; subst hu; rfl)
        have H63' := Lib.hid (show n2 + 1 ≤ maxLen by unfold maxLen; omega)
        have HBY' := Lib.hid (show (n2 + 1) * 1 ≤ 140737488355328 by omega)
        have HBS' := Lib.hid (show w8.heap.size ≤ (w9.alloc (.cells #[.int .u8 0] 5)).heap.size by simp; omega)
        have STEP' := Lib.hid (fun (x' : Option Addr) (c' : Nat) (w3 : World) (ho : w3.ownsRow w8.heap.size 5 1 (.slice x' (n2 + 1) c') (n2 + 1) (byteV l ++ [.int .u8 0])) (hgr : (w9.alloc (.cells #[.int .u8 0] 5)).grownBy w3 (Value.slice (some ⟨gd, 0, none⟩) n2 cd).ownBlock) =>
          show ∃ gf, x' = some ⟨gf, 0, none⟩ ∧ w8.heap.size ≤ gf ∧ n2 + 1 ≤ c' ∧ Kp (fun b => w2.heap.size ≤ b) w2 w3 ∧ w3.ownsRow w8.heap.size 5 1 (.slice (some ⟨gf, 0, none⟩) (n2 + 1) c') (n2 + 1) (byteV (l ++ [0])) ∧ w8.heap.size ≤ w3.heap.size from by
          have ho2 : w3.ownsRow w8.heap.size 5 1 (.slice x' (n2 + 1) c') (n2 + 1) (byteV (l ++ [0])) := by rw [byteV_append]; exact ho
          obtain ⟨gf, cur, rfl, hgf, _, hc, _⟩ := own_addr ho2 (by omega)
          exact ⟨gf, rfl, hgf, hc, Kp.grown KA9.out hgr (fun b hb _ => by simp only [Value.ownBlock, Option.some.injEq] at hb; omega), ho2, by have := hgr.size; simp at this; omega⟩)
        go_upto_region 13 with (at_builtin; refine wpList_app _ rfl (.tmp 83) (.tmp 84) 34 rfl w8.heap.size 5 i0 (.int .u8 0) 1 1 Try.underlying34 hi0 hz0 hz1 hz2 rfl (by decide) _ n2 (byteV l) rfl HOW.out ⟨w9.heap.size, 0, none⟩ 1 1 [.int .u8 0] rfl rfl HM1.out HM2.out H63'.out HBY'.out HBS'.out ?_; intro x' cf w12 ho hgr hl'; obtain ⟨gf, rfl, hgf, hcf, KB, OC, s12⟩ := STEP'.out x' cf w12 ho hgr; have KB12 := Lib.hid KB; have OF12 := Lib.hid OC; clear ho hgr hl' KB OC)
        have K12 := Lib.hid (show Nw w w12 from Kp.trans K2.out KB12.out (fun x hx h => by omega))
        have hl0 : (l ++ [0]).length = n2 + 1 := by rw [List.length_append, NL.out]; rfl
        rcases HMS.out with hms | ⟨ad, nm', cm', hms⟩
        · simp only [Value.slice.injEq] at hms
          obtain ⟨rfl, h1, rfl⟩ := hms
          have hmo : more = [] := List.eq_nil_of_length_eq_zero (by rw [← NM.out]; exact h1)
          subst h1
          have APP := app_nothing w12 (gd := gf) (n := n2 + 1) (c := cf) hcf
          have KB13 := Lib.hid KB12.out
          have D3 := Lib.hid (dec_no (w := w12) NO3.out (v := .slice (some ⟨gf, 0, none⟩) (n2 + 1) cf) (by
            rw [hmo]
            have h2 := OF12.out
            rw [← hl0] at h2 ⊢
            exact own_bytesAt h2))
          clear hmo
          go_wp2_with fail
          refine (D3.out).mono ?_
          rintro e14 w14 ⟨rfl, k14⟩
          have KB14 := Lib.hid (KB13.out.trans k14 (fun _ _ x => x.elim))
          clear k14
          go_wp2_with fail
          refine (num28_any _ _).mono ?_
          rintro _ _ ⟨rfl, rfl⟩
          go_wp2_with fail
          refine (num28_any _ _).mono ?_
          rintro _ _ ⟨rfl, rfl⟩
          go_wp2_with fail
          refine (num28_any _ _).mono ?_
          rintro _ _ ⟨rfl, rfl⟩
          have K15 := Lib.hid (show Nw w (w14.alloc (.cells #[.string ⟨#[]⟩, .int .i64 0, .slice none 0 0, .slice none 0 0, .slice none 0 0, .slice none 0 0, .slice none 0 0] 27)) from Kp.trans K2.out (KB14.out.alloc (.cells #[.string ⟨#[]⟩, .int .i64 0, .slice none 0 0, .slice none 0 0, .slice none 0 0, .slice none 0 0, .slice none 0 0] 27)) (fun x hx h => by omega))
          go_wp2_with fail
          refine (awake28_any _).mono ?_
          rintro e16 w16 ⟨rfl, k16⟩
          have K16 := Lib.hid (K15.out.trans k16)
          clear k16
          go_wp2_with fail
          go_returns
          exact ⟨rfl, K16.out⟩
        · simp only [Value.slice.injEq] at hms
          obtain ⟨rfl, hnm1, hcm1⟩ := hms
          subst hnm1
          subst hcm1
          have HC4 := Lib.hid (show ∀ j u, (byteV more)[j]? = some u → w12.cell? (ad.add j) = some u from by
            intro j u hj
            obtain ⟨x0, cap0, hv0, _, _, hcc⟩ := bytesAt_nw HM.out K12.out
            simp only [Value.slice.injEq] at hv0
            obtain ⟨rfl, _, _⟩ := hv0
            have hjl : j < more.length := by
              have := (List.getElem?_eq_some_iff.1 hj).1
              rwa [byteV_length] at this
            obtain ⟨b, o, hx0, hcell⟩ := hcc (by intro e; rw [e] at hjl; simp at hjl)
            injection hx0 with hx0
            subst hx0
            rw [byteV_get hjl] at hj
            injection hj with hj
            subst hj
            have e : (⟨b, o, none⟩ : Addr).add j = ⟨b, o + j, none⟩ := by unfold Addr.add; split <;> simp_all
            rw [e]; exact hcell j hjl)
          have HM4 := Lib.hid (show ∀ u ∈ byteV more, u.oneCell' = true from fun u hu => by
            obtain ⟨y, _, rfl⟩ := List.mem_map.1 hu
            rfl)
          have HL4 := Lib.hid (show (byteV more).length = nm * 1 by rw [byteV_length, NM.out]; simp)
          have H634 := Lib.hid (show n2 + 1 + nm ≤ maxLen by unfold maxLen; omega)
          have HBY4 := Lib.hid (show (n2 + 1 + nm) * 1 ≤ 140737488355328 by omega)
          have HBS4 := Lib.hid s12
          have STEP4 := Lib.hid (fun (x' : Option Addr) (c' : Nat) (w3 : World) (ho : w3.ownsRow w8.heap.size 5 1 (.slice x' (n2 + 1 + nm) c') (n2 + 1 + nm) (byteV (l ++ [0]) ++ byteV more)) (hgr : w12.grownBy w3 (Value.slice (some ⟨gf, 0, none⟩) (n2 + 1) cf).ownBlock) =>
            show Kp (fun b => w2.heap.size ≤ b) w2 w3 ∧ BytesAt w3 (.slice x' (n2 + 1 + nm) c') (l ++ 0 :: more) from by
            refine ⟨Kp.grown KB12.out hgr (fun b hb _ => by simp only [Value.ownBlock, Option.some.injEq] at hb; omega), ?_⟩
            have e : l ++ 0 :: more = (l ++ [0]) ++ more := by simp
            rw [e]
            rw [← byteV_append] at ho
            have hle : ((l ++ [0]) ++ more).length = n2 + 1 + nm := by rw [List.length_append, hl0, NM.out]
            rw [← hle] at ho ⊢
            exact own_bytesAt ho)
          go_wp2_with (at_builtin; refine wpList_app _ rfl (.tmp 86) (.tmp 87) 34 rfl w8.heap.size 5 i0 (.int .u8 0) 1 1 Try.underlying34 hi0 hz0 hz1 hz2 rfl (by decide) _ (n2 + 1) (byteV (l ++ [0])) rfl OF12.out ad nm cm (byteV more) rfl HL4.out HC4.out HM4.out H634.out HBY4.out HBS4.out ?_; intro x' ch w13 ho hgr hl'; obtain ⟨KB, BA⟩ := STEP4.out x' ch w13 ho hgr; have KB13 := Lib.hid KB; have D3 := Lib.hid (dec_no NO3.out BA); clear ho hgr hl' KB BA)
          refine (D3.out).mono ?_
          rintro e14 w14 ⟨rfl, k14⟩
          have KB14 := Lib.hid (KB13.out.trans k14 (fun _ _ x => x.elim))
          clear k14
          go_wp2_with fail
          refine (num28_any _ _).mono ?_
          rintro _ _ ⟨rfl, rfl⟩
          go_wp2_with fail
          refine (num28_any _ _).mono ?_
          rintro _ _ ⟨rfl, rfl⟩
          go_wp2_with fail
          refine (num28_any _ _).mono ?_
          rintro _ _ ⟨rfl, rfl⟩
          have K15 := Lib.hid (show Nw w (w14.alloc (.cells #[.string ⟨#[]⟩, .int .i64 0, .slice none 0 0, .slice none 0 0, .slice none 0 0, .slice none 0 0, .slice none 0 0] 27)) from Kp.trans K2.out (KB14.out.alloc (.cells #[.string ⟨#[]⟩, .int .i64 0, .slice none 0 0, .slice none 0 0, .slice none 0 0, .slice none 0 0, .slice none 0 0] 27)) (fun x hx h => by omega))
          go_wp2_with fail
          refine (awake28_any _).mono ?_
          rintro e16 w16 ⟨rfl, k16⟩
          have K16 := Lib.hid (K15.out.trans k16)
          clear k16
          go_wp2_with fail
          go_returns
          exact ⟨rfl, K16.out⟩
end Go.Proofs.Ytfdjlicegfgodaa
