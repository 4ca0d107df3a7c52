/- LinkOnes: of each name that is a symbol just one counts, which says where it lies. -/
import Derived.Test.YtfdjlicegfgodaaLk17
namespace Go.Proofs.Ytfdjlicegfgodaa
open Go.RowKit
set_option linter.unusedSimpArgs false
set_option linter.unusedVariables false

set_option maxRecDepth 100000 in
set_option maxHeartbeats 16000000 in
theorem linkOnes_walk {w : World} {os : List Ob} {bg : List ByteArray} {v vb : Value} (ho : SlB w.heap.size w 7 (ObAt w.heap.size w) os v) (hb : SlB w.heap.size w 1 StrAt2 bg vb) :
    Calls Try.prog 10 #[v, vb] w (BoolPost w true) := by
  have HV := Lib.hid (heavy30_any ho hb (In.self w))
  have LI := Lib.hid (fun (wz : World) (k : Nw w wz) (hl : Light os bg) => link_any ho hb ((In.self w).nw k) (by have := hl.1; omega) (by have := hl.2.1; omega) (by have := hl.occ; omega))
  have AW := Lib.hid awake30_any
  obtain ⟨x, cp, rfl, ho, hl⟩ := ho.sl
  obtain ⟨_, _, b, o, hx⟩ := ho.addr
  obtain ⟨xb, cb, rfl, hb, hlb⟩ := hb.sl
  have HO := Lib.hid ho
  have HX := Lib.hid hx
  obtain ⟨n, hn⟩ : ∃ n, n = os.length := ⟨_, rfl⟩
  rw [← hn] at hl HO HV LI ⊢
  obtain ⟨nb, hnb⟩ : ∃ n, n = bg.length := ⟨_, rfl⟩
  have HN := Lib.hid hn
  have HNB := Lib.hid hnb
  rw [← hnb] at hlb HV LI ⊢
  clear ho hx hb hn hnb
  go_enter Try.func10, Try.ntmps10
  go_wp2_with fail
  refine HV.out.mono ?_
  rintro e1 w1 ⟨r, rfl, hr, k1⟩
  have K1 := Lib.hid k1
  have HR := Lib.hid hr
  clear k1 hr HV
  cases r with
  | true =>
    clear HR
    go_wp2_with fail
    refine (AW.out _).mono ?_
    rintro ea wa ⟨rfl, ka⟩
    have KA := Lib.hid (K1.out.trans ka)
    clear ka
    go_wp2_with fail
    go_returns
    exact ⟨rfl, KA.out⟩
  | false =>
    have LT := Lib.hid (HR.out (by trivial))
    have LW := Lib.hid (LI.out _ K1.out LT.out)
    clear HR LI
    go_wp2_with fail
    refine LW.out.mono ?_
    rintro e2 w2 (⟨hbad, x1, c1, y1, d1, s1, q1, rfl, hoc, hod, hos, k2⟩ | ⟨hbad, rfl, k2⟩)
    rotate_left
    · have K2 := Lib.hid (K1.out.trans k2)
      have NX := Lib.hid (Nw.new w2 (.cells #[.slice none 0 0, .slice none 0 0, .int .i64 0] 53))
      have BX := Lib.hid (Blk.new w2 [.slice none 0 0, .slice none 0 0, .int .i64 0] 53)
      have cX := BX.out.cell
      generalize badV os bg = bv at *
      obtain ⟨m1, m2, m3, m4⟩ := int_ne hbad
      clear k2 LW
      go_wp2_with fail
      refine (num30_any _ _).mono ?_
      rintro e3 w3 ⟨rfl, rfl⟩
      go_wp2_with fail
      refine (AW.out _).mono ?_
      rintro ea wa ⟨rfl, ka⟩
      have KA := Lib.hid (K2.out.trans (NX.out.trans ka))
      clear ka
      go_wp2_with fail
      go_returns
      exact ⟨rfl, KA.out⟩
    · obtain ⟨hpk, hso, hlm⟩ := bad_parts hbad
      have VAL := Lib.hid (packV_zero hpk)
      have HLM := Lib.hid (show bg.length ≤ 1000 ∧ bg.length + 1 + sumC os ≤ 65536 ∧ 2 + sumD os ≤ 16384 by unfold limP at hlm; omega)
      obtain ⟨lc, hlc⟩ : ∃ lc, lc = (imgC os bg).length := ⟨_, rfl⟩
      obtain ⟨ld, hld⟩ : ∃ ld, ld = (imgD os bg).length := ⟨_, rfl⟩
      rw [← HNB.out] at hos ⊢
      obtain ⟨ls, hls⟩ : ∃ ls, ls = (countedL os nb).length := ⟨_, rfl⟩
      rw [← hls] at hos ⊢
      rw [← hlc] at hoc ⊢
      rw [← hld] at hod ⊢
      have HLC := Lib.hid hlc
      have HLD := Lib.hid hld
      have HLS := Lib.hid hls
      have hld2 : 2 ≤ ld := by rw [hld, imgD_len]; omega
      have lcb : (lc : Int) ≤ 65536 := by rw [hlc, imgC_len]; have := HLM.out; omega
      have ldb : (ld : Int) ≤ 16384 := by rw [hld, imgD_len]; have := HLM.out; omega
      have ldl : (2 : Int) ≤ (ld : Int) := by omega
      have lsb : (ls : Int) ≤ 2000 := by
        rw [hls]
        have h1 := cntP_le os nb (occs os)
        have h2 := LT.out.occ
        unfold countedL
        omega
      have NX := Lib.hid (Nw.new w2 (.cells #[.slice x1 lc c1, .slice y1 ld d1, .int .i64 0] 53))
      have BX := Lib.hid (Blk.new w2 [.slice x1 lc c1, .slice y1 ld d1, .int .i64 0] 53)
      have K2 := Lib.hid (K1.out.trans (k2.trans NX.out))
      have OD := Lib.hid (own_kp hod NX.out (fun _ _ x => x))
      have OS := Lib.hid (own_kp hos NX.out (fun _ _ x => x))
      have CLI := Lib.hid (fun (j : Nat) (hj : j < (countedL os nb).length) => (show ((countedL os nb)[j].kind = 1 → (nb : Int) < (countedL os nb)[j].at_ ∧ (countedL os nb)[j].at_ + (countedL os nb)[j].size ≤ (lc : Int)) ∧ ((countedL os nb)[j].kind = 2 → 2 ≤ (countedL os nb)[j].at_ ∧ (countedL os nb)[j].at_ + (countedL os nb)[j].size ≤ (ld : Int)) ∧ 0 ≤ (countedL os nb)[j].size ∧ 0 ≤ (countedL os nb)[j].at_ by
        have h := counted_lies (bg := bg) VAL.out (s := (countedL os nb)[j]) (by rw [← HNB.out]; exact List.getElem_mem hj)
        rw [← HNB.out, ← HLC.out, ← HLD.out] at h
        exact h))
      have CND := Lib.hid (fun (k i : Nat) (hk : k < (countedL os nb).length) (hi : i < (countedL os nb).length) (h : k < i) => (show ¬ (countedL os nb)[k].name = (countedL os nb)[i].name from List.pairwise_iff_getElem.1 (counted_nodup os nb) k i hk hi h))
      have CHS := Lib.hid (fun (x : Occ) (hx : x ∈ occs os) => (cntN_one (counted_nodup os nb) (counted_has hx) : cntN x.s.name (countedL os nb) = 1))
      clear hbad hpk hso hlm hlc hld hls hoc hod hos k2 LW
      go_upto_region 4 with fail
      generalize w2.alloc (.cells #[.slice x1 lc c1, .slice y1 ld d1, .int .i64 0] 53) = w3 at *
      generalize w2.heap.size = bx at *
      generalize countedL os nb = L at *
      clear NX
      go_wp2_with fail
      refine (num30_any _ _).mono ?_
      rintro e3 w3' ⟨rfl, rfl⟩
      go_upto_region 7 with fail
      go_loopw [8] (fun vi wr => ∃ i : Nat, i ≤ ls ∧ vi = .int .i64 (i : Int) ∧ Nw w3 wr) (fun vi _ => ls - (intOf vi).toNat)
      case atStart => exact ⟨0, Nat.zero_le _, rfl, Nw.refl _⟩
      case round =>
        obtain ⟨i, hi, rfl, g⟩ := hrel
        have GR := Lib.hid g
        clear g
        rename World => wo
        by_cases hlt : i < ls
        · have hil : i < L.length := by have := HLS.out; omega
          have hq0 : (0 : Int) ≤ (i : Int) := by omega
          have hq1 : (i : Int) < (ls : Int) := by omega
          obtain ⟨gs, rfl⟩ := own_some OS.out (by omega)
          go_upto_region 10 with fail
          go_loopw [9] (fun vk wr => ∃ k : Nat, k ≤ i ∧ vk = .int .i64 (k : Int) ∧ Nw w3 wr) (fun vk _ => i - (intOf vk).toNat)
          case atStart => exact ⟨0, Nat.zero_le _, rfl, GR.out⟩
          case round =>
            obtain ⟨k, hk, rfl, g⟩ := hrel
            have GK := Lib.hid g
            have OSK := Lib.hid (own_kp OS.out g (fun _ _ x => x))
            clear g
            obtain ⟨f0, f1, f2, f3, f4, f5⟩ := row_sy OSK.out HLS.out hil
            by_cases hkt : k < i
            · have hkl : k < L.length := by omega
              have hq2 : (0 : Int) ≤ (k : Int) := by omega
              have hq3 : (k : Int) < (i : Int) := by omega
              have hq4 : (k : Int) < (ls : Int) := by omega
              obtain ⟨g0, _, _, _, _, _⟩ := row_sy OSK.out HLS.out hkl
              obtain ⟨n1, n2, n3, n4⟩ := str_ne (CND.out k i hkl hil hkt)
              generalize L[k].name = nk at *
              generalize L[i].name = ni at *
              clear f1 f2 f3 f4 f5 CLI CND CHS
              go_wp2_with fail
              go_quiet (fail)
              go_wp2_with fail
              go_roundw
              case rel => exact ⟨k + 1, by omega, by go_num, by first | exact GK.out.drewN _ | exact GK.out.drew | exact GK.out⟩
              case measure => simp [intOf]; omega
            · have hq3 : ¬ (k : Int) < (i : Int) := by omega
              obtain ⟨h1, h2, h3, h4⟩ := CLI.out i hil
              have cX := (BX.out.nw GK.out).cell
              generalize L[i].name = ni at *
              generalize L[i].kind = kd at *
              generalize L[i].at_ = sat at *
              generalize L[i].size = ssz at *
              generalize L[i].weak = swk at *
              generalize L[i].frame = sfr at *
              clear f0 f2 f5 CLI CND CHS
              by_cases hk1 : kd = 1
              · obtain ⟨a1, a2⟩ := h1 hk1
                subst hk1
                have hw1 : IntKind.i64.wrap (sat + ssz) = sat + ssz := IntWalk.i64_in _ (by omega)
                have a3 : ¬ sat ≤ (nb : Int) := by omega
                have a4 : ¬ (lc : Int) < sat + ssz := by omega
                clear h1 h2
                go_wp2_with fail
                go_quiet (fail)
                go_wp2_with fail
                go_quiet (fail)
                clear hw1
                go_wp2_with fail
                go_roundw
                case rel => exact ⟨i + 1, by omega, by go_num, by first | exact (GK.out.drewN _).drewN _ | exact GK.out.drewN _⟩
                case measure => simp [intOf]; omega
              · obtain ⟨m1, m2, m3, m4⟩ := int_ne hk1
                by_cases hk2 : kd = 2
                · obtain ⟨a1, a2⟩ := h2 hk2
                  subst hk2
                  have hw1 : IntKind.i64.wrap (sat + ssz) = sat + ssz := IntWalk.i64_in _ (by omega)
                  have a3 : ¬ sat < 2 := by omega
                  have a4 : ¬ (ld : Int) < sat + ssz := by omega
                  clear h1 h2 m1 m2 m3 m4 hk1
                  go_wp2_with fail
                  go_quiet (fail)
                  go_wp2_with fail
                  go_quiet (fail)
                  clear hw1
                  go_wp2_with fail
                  go_roundw
                  case rel => exact ⟨i + 1, by omega, by go_num, by first | exact (GK.out.drewN _).drewN _ | exact GK.out.drewN _⟩
                  case measure => simp [intOf]; omega
                · obtain ⟨p1, p2, p3, p4⟩ := int_ne hk2
                  clear h1 h2
                  go_wp2_with fail
                  go_quiet (fail)
                  go_wp2_with fail
                  go_quiet (fail)
                  go_wp2_with fail
                  go_roundw
                  case rel => exact ⟨i + 1, by omega, by go_num, by first | exact (GK.out.drewN _).drewN _ | exact GK.out.drewN _⟩
                  case measure => simp [intOf]; omega
        · clear CLI CND
          go_upto_region 19 with fail
          go_loopw [10] (fun vi wr => ∃ i : Nat, i ≤ n ∧ vi = .int .i64 (i : Int) ∧ Nw w3 wr) (fun vi _ => n - (intOf vi).toNat)
          case atStart => exact ⟨0, Nat.zero_le _, rfl, GR.out⟩
          case round =>
            clear GR
            obtain ⟨a, ha, rfl, g⟩ := hrel
            have GA := Lib.hid g
            clear g
            rename World => wa
            by_cases hat : a < n
            · have hio : a < os.length := by have := HN.out; omega
              obtain ⟨u, hu⟩ : ∃ u, os[a]? = some u := ⟨_, List.getElem?_eq_getElem hio⟩
              have HU := Lib.hid hu
              have hq0 : (0 : Int) ≤ (a : Int) := by omega
              have hq1 : (a : Int) < (n : Int) := by omega
              obtain rfl : x = _ := HX.out (ne_nil_of_lt hio)
              obtain ⟨xi, ci', xs, cs, xr, cr, xc, cc, xd, cd, ob1⟩ := ob_read HO.out (((In.self w).nw K2.out).nw GA.out) hu
              have HS := Lib.hid ob1.hs
              obtain ⟨_, hsl, bs, os', hxs⟩ := ob1.hs.addr
              have HXS := Lib.hid hxs
              obtain ⟨ms, hms⟩ : ∃ ms, ms = u.syms.length := ⟨_, rfl⟩
              have HMS := Lib.hid hms
              have q3 := ob1.f3
              rw [← hms] at q3 hsl HS
              have Q3 := Lib.hid (fun (wz : World) (k : Nw wa wz) => k.keeps q3)
              have msb : (ms : Int) ≤ 200 := by
                have := (LT.out.2.2 u (List.mem_of_getElem? hu)).1
                omega
              clear ob1 hxs hms hio q3 hu
              go_upto_region 22 with fail
              go_loopw [11] (fun vk wr => ∃ k : Nat, k ≤ ms ∧ vk = .int .i64 (k : Int) ∧ Nw wa wr) (fun vk _ => ms - (intOf vk).toNat)
              case atStart => exact ⟨0, Nat.zero_le _, rfl, Nw.refl _⟩
              case round =>
                obtain ⟨k, hk, rfl, g⟩ := hrel
                have GK := Lib.hid g
                have q3 := Q3.out _ g
                clear g
                rename World => wb
                by_cases hkt : k < ms
                · have hks : k < u.syms.length := by have := HMS.out; omega
                  have hq2 : (0 : Int) ≤ (k : Int) := by omega
                  have hq3 : (k : Int) < (ms : Int) := by omega
                  obtain rfl : xs = _ := HXS.out (ne_nil_of_lt hks)
                  have sy := sy_read HS.out ((((In.self w).nw K2.out).nw GA.out).nw GK.out) hks
                  have s0 := sy.f0
                  have ONE := Lib.hid (CHS.out _ (occ_in HU.out hks))
                  clear sy
                  dsimp only at ONE
                  generalize u.syms[k].name = nm at *
                  have F0 := Lib.hid (fun (wz : World) (k : Nw wb wz) => (⟨k.keeps q3, k.keeps s0⟩ : _ ∧ _))
                  clear s0
                  go_upto_region 26 with fail
                  clear q3
                  go_loopw [12, 13] (fun vc vj wr => ∃ (j cn : Nat), j ≤ ls ∧ vj = .int .i64 (j : Int) ∧ vc = .int .i64 (cn : Int) ∧ cn = cntN nm (L.take j) ∧ cn ≤ j ∧ Nw wb wr) (fun _ vj _ => ls - (intOf vj).toNat)
                  case atStart => exact ⟨0, 0, Nat.zero_le _, rfl, rfl, by rw [List.take_zero]; rfl, Nat.le_refl _, Nw.refl _⟩
                  case round =>
                    obtain ⟨j, cn, hj, rfl, rfl, hcn, hcj, g⟩ := hrel
                    have GJ := Lib.hid g
                    have HCN := Lib.hid hcn
                    have OSJ := Lib.hid (own_kp OS.out (GA.out.trans (GK.out.trans g)) (fun _ _ x => x))
                    clear g hcn
                    by_cases hjt : j < ls
                    · have hjl : j < L.length := by have := HLS.out; omega
                      have hq4 : (0 : Int) ≤ (j : Int) := by omega
                      have hq5 : (j : Int) < (ls : Int) := by omega
                      obtain ⟨gs, rfl⟩ := own_some OS.out (by omega)
                      obtain ⟨g0, _, _, _, _, _⟩ := row_sy OSJ.out HLS.out hjl
                      have TK := Lib.hid (show cntN nm (L.take (j + 1)) = cntN nm (L.take j) + (if dc (L[j].name = nm) then 1 else 0) by rw [List.take_succ_eq_append_getElem hjl, cntN_snoc])
                      obtain ⟨q3, s0⟩ := F0.out _ GJ.out
                      generalize L[j].name = nj at *
                      by_cases hnm : nj = nm
                      · subst hnm
                        have CN2 := Lib.hid (show cn + 1 = cntN nj (L.take (j + 1)) by rw [TK.out, dc_true rfl, ← HCN.out]; rfl)
                        clear TK HCN ONE
                        go_wp2_with fail
                        go_quiet (fail)
                        go_wp2_with fail
                        go_roundw
                        case rel => exact ⟨j + 1, cn + 1, by omega, by go_num, by go_num, CN2.out, by omega, by first | exact GJ.out.drewN _ | exact GJ.out.drew | exact GJ.out⟩
                        case measure => simp [intOf]; omega
                      · obtain ⟨n1, n2, n3, n4⟩ := str_ne hnm
                        have CN2 := Lib.hid (show cn = cntN nm (L.take (j + 1)) by rw [TK.out, dc_false hnm, ← HCN.out]; rfl)
                        clear TK HCN ONE
                        go_wp2_with fail
                        go_quiet (fail)
                        go_wp2_with fail
                        go_roundw
                        case rel => exact ⟨j + 1, cn, by omega, by go_num, rfl, CN2.out, by omega, by first | exact GJ.out.drewN _ | exact GJ.out.drew | exact GJ.out⟩
                        case measure => simp [intOf]; omega
                    · have FN := Lib.hid (show cn = 1 by
                        have := HCN.out
                        rw [List.take_of_length_le (by have := HLS.out; omega), ONE.out] at this
                        exact this)
                      obtain rfl : cn = 1 := FN.out
                      clear HCN ONE
                      go_wp2_with fail
                      go_roundw
                      case rel => exact ⟨k + 1, by omega, by go_num, GK.out.trans GJ.out⟩
                      case measure => simp [intOf]; omega
                · have hq3 : ¬ (k : Int) < (ms : Int) := by omega
                  go_wp2_with fail
                  go_roundw
                  case rel => exact ⟨a + 1, by omega, by go_num, GA.out.trans GK.out⟩
                  case measure => simp [intOf]; omega
            · have hq1 : ¬ (a : Int) < (n : Int) := by omega
              obtain ⟨gd, rfl⟩ := own_some OD.out (by omega)
              have FC := Lib.hid (fun (wz : World) (k : Nw wa wz) => (show wz.cell? ⟨bx, 1, none⟩ = some (.slice (some ⟨gd, 0, none⟩) ld d1) ∧ wz.cell? ⟨bx, 2, none⟩ = some (.int .i64 0) ∧ wz.cell? ⟨gd, 1, none⟩ = some (.int .i64 (ld : Int)) from by
                refine ⟨(BX.out.nw (GA.out.trans k)).cell 1, (BX.out.nw (GA.out.trans k)).cell 2, ?_⟩
                have h := own_kp OD.out (GA.out.trans k) (fun _ _ x => x)
                rw [h.cellAt 1 (by omega)]
                unfold wdV
                rw [List.getElem?_map, imgD_one, HLD.out]
                rfl))
              have FIN := Lib.hid (fun (wz : World) (k : Nw wa wz) => (show BoolPost w true (.returned (.bool true)) wz from ⟨rfl, K2.out.trans (GA.out.trans k)⟩))
              have hl1 : (1 : Int) < (ld : Int) := by omega
              go_wp2_with fail
              go_region_held3 (fun wz => wz.cell? ⟨bx, 1, none⟩ = some (.slice (some ⟨gd, 0, none⟩) ld d1) ∧ wz.cell? ⟨bx, 2, none⟩ = some (.int .i64 0) ∧ wz.cell? ⟨gd, 1, none⟩ = some (.int .i64 (ld : Int)))
                (first | exact FC.out _ ((Nw.refl _).drew) | exact FC.out _ kk)
                (first
                  | (go_at_call 21; (with_reducible refine (AW.out _).mono ?_); rintro eg wg ⟨rfl, kd⟩; have kk : Nw wa wg := Nw.trans (by first | assumption | exact (Nw.refl _).drew | exact Nw.refl _) kd))
              all_goals
                go_wp2_with fail
                go_returns
                exact FIN.out _ kk
end Go.Proofs.Ytfdjlicegfgodaa
