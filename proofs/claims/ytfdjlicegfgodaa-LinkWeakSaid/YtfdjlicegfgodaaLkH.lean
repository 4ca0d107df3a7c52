/- LinkHashes: an object made against another hash is not linked. -/
import Derived.Test.YtfdjlicegfgodaaLkH1
namespace Go.Proofs.Ytfdjlicegfgodaa
open Go.RowKit
set_option linter.unusedSimpArgs false
set_option linter.unusedVariables false

theorem i64_of_wf {z : Int} (h : (Lit.int .i64 z).wf = true) : I64 z := by
  show -9223372036854775808 ≤ z ∧ z ≤ 9223372036854775807
  simpa [Lit.wf, IntKind.min, IntKind.max, IntKind.signed, IntKind.bits] using h
set_option maxRecDepth 100000 in
set_option maxHeartbeats 16000000 in
theorem linkHashes_walk {w : World} {os : List Ob} {bg : List ByteArray} {v vb : Value} (ho : SlB w.heap.size w 7 (ObAt w.heap.size w) os v) (hb : SlB w.heap.size w 1 StrAt2 bg vb) (at_ by_ : Int) (ha : I64 at_) (hy : I64 by_) :
    Calls Try.prog 8 #[v, vb, .int .i64 at_, .int .i64 by_] w (BoolPost w true) := by
  obtain ⟨i0, hi0, hz0, hz1, hz2⟩ := info_parts obInfo
  have HV := Lib.hid (linked_any ho hb (In.self w))
  have LI := Lib.hid (fun (wz : World) (k : Nw w wz) (os' : List Ob) (v' : Value) (ho' : SlB wz.heap.size wz 7 (ObAt wz.heap.size wz) os' v') (h1 : os'.length ≤ 100) (h2 : bg.length ≤ 100000) (h3 : (occs os').length ≤ 1000000) => link_any ho' (hb.self_nw k) (In.self wz) h1 h2 h3)
  have AW := Lib.hid awake30_any
  have HY := Lib.hid hy
  obtain ⟨x, cp, rfl, ho, hl⟩ := ho.sl
  obtain ⟨_, _, b, o, hx⟩ := ho.addr
  obtain ⟨xb, cb, rfl, hb, hlb⟩ := hb.sl
  have HO := Lib.hid ho
  have HX := Lib.hid hx
  obtain ⟨n, hn⟩ : ∃ n, n = os.length := ⟨_, rfl⟩
  rw [← hn] at hl HO HV ⊢
  have HN := Lib.hid hn
  clear ho hx hb hn ha hy
  go_enter Try.func8, Try.ntmps8
  go_wp2_with fail
  refine HV.out.mono ?_
  rintro e1 w1 ⟨r, rfl, hr, k1⟩
  have K1 := Lib.hid k1
  have HR := Lib.hid hr
  clear k1 hr HV
  cases r with
  | false =>
    clear HR
    go_wp2_with fail
    refine (AW.out _).mono ?_
    rintro ea wa ⟨rfl, ka⟩
    have KA := Lib.hid (K1.out.trans ka)
    clear ka
    go_wp2_with fail
    go_returns
    exact ⟨rfl, KA.out⟩
  | true =>
    have LT := Lib.hid (HR.out (by trivial)).1
    have BD := Lib.hid (HR.out (by trivial)).2
    clear HR
    by_cases hn0 : n = 0
    · subst hn0
      go_wp2_with fail
      refine (AW.out _).mono ?_
      rintro ea wa ⟨rfl, ka⟩
      have KA := Lib.hid (K1.out.trans ka)
      clear ka
      go_wp2_with fail
      go_returns
      exact ⟨rfl, KA.out⟩
    have hn0' : ¬ (n : Int) = 0 := by omega
    obtain ⟨ne1, ne2, ne3, ne4⟩ := int_ne hn0'
    by_cases hy0 : by_ = 0
    · subst hy0
      go_wp2_with fail
      refine (AW.out _).mono ?_
      rintro ea wa ⟨rfl, ka⟩
      have KA := Lib.hid (K1.out.trans ka)
      clear ka
      go_wp2_with fail
      go_returns
      exact ⟨rfl, KA.out⟩
    obtain ⟨ny1, ny2, ny3, ny4⟩ := int_ne hy0
    have H10 := Lib.hid (show n ≤ 10 by have := LT.out.1; have := HN.out; omega)
    obtain ⟨k, hkn, hk⟩ := at_mod at_ (show 0 < n by omega) (by have := H10.out; omega)
    obtain ⟨u, hu⟩ : ∃ u, os[k]? = some u := ⟨_, List.getElem?_eq_getElem (by have := HN.out; omega)⟩
    have HU := Lib.hid hu
    obtain rfl : x = _ := HX.out (ne_nil_of_lt (i := k) (by have := HN.out; omega))
    obtain ⟨news, hnl, hnc, hn1, hro⟩ := rows_ob HO.out ((In.self w).nw (K1.out.trans (Nw.new w1 (.cells #[] 27)))) n (by have := HN.out; omega)
    have RO := Lib.hid hro
    have NC := Lib.hid (show ∀ j u, news[j]? = some u → (w1.alloc (.cells #[] 27)).cell? ((⟨b, o, none⟩ : Addr).add j) = some u from fun j u h => by
      have e2 : (⟨b, o, none⟩ : Addr).add j = ⟨b, o + j, none⟩ := by unfold Addr.add; split <;> simp_all
      rw [e2]; exact hnc j u h)
    have N1 := Lib.hid hn1
    have NL := Lib.hid hnl
    clear hro hnc hn1 hnl hu hn0
    have h10 := H10.out
    go_upto_region 4 with fail
    rw [hk]
    have hq0 : (0 : Int) ≤ (k : Int) := by omega
    have hq1 : (k : Int) < (n : Int) := by omega
    clear hk
    have OE := Lib.hid (own_emptyO w1)
    have H63 := Lib.hid (show 0 + n ≤ maxLen by have := H10.out; unfold maxLen; omega)
    have HBY := Lib.hid (show (0 + n) * 144 ≤ 140737488355328 by have := H10.out; omega)
    have HBS := Lib.hid (show w1.heap.size ≤ (w1.alloc (.cells #[] 27)).heap.size by simp)
    have STEP := Lib.hid (fun (x' : Option Addr) (c' : Nat) (w3 : World) (ho : w3.ownsRow w1.heap.size 27 7 (.slice x' (0 + n) c') (0 + n) ([] ++ news)) (hgr : (w1.alloc (.cells #[] 27)).grownBy w3 (Value.slice (some ⟨w1.heap.size, 0, none⟩) 0 0).ownBlock) =>
      show ∃ gc, x' = some ⟨gc, 0, none⟩ ∧ w1.heap.size ≤ gc ∧ gc < w3.heap.size ∧ Nw w1 w3 ∧ w3.ownsRow w1.heap.size 27 7 (.slice (some ⟨gc, 0, none⟩) n c') n news from by
      rw [Nat.zero_add, List.nil_append] at ho
      obtain ⟨gc, rfl⟩ := own_some ho (by omega)
      have h3 := ho.lt gc rfl
      exact ⟨gc, rfl, h3.1, h3.2, Kp.grown (Nw.new w1 _) hgr (fun b hb _ => by simp only [Value.ownBlock, Option.some.injEq] at hb; omega), ho⟩)
    go_upto_region 5 with (at_builtin; refine wpList_app _ rfl (.tmp 39) (.tmp 40) 47 rfl w1.heap.size 27 i0 (.agg #[.string ⟨#[]⟩, .int .i64 0, .slice none 0 0, .slice none 0 0, .slice none 0 0, .slice none 0 0, .slice none 0 0]) 7 144 Try.underlying47 hi0 hz0 hz1 hz2 rfl (by decide) _ 0 [] rfl OE.out ⟨b, o, none⟩ n cp news rfl NL.out NC.out N1.out H63.out HBY.out HBS.out ?_; intro x' c' w3 ho hgr hl'; obtain ⟨gc, rfl, hgc, hgl, KB, OC⟩ := STEP.out x' c' w3 ho hgr; have K3 := Lib.hid KB; have OC3 := Lib.hid OC; clear ho hgr hl' KB OC)
    have hkos : k < os.length := by have := HN.out; omega
    obtain ⟨csu, hob, hcs⟩ := RO.out k hkos hkn
    obtain rfl : os[k] = u := by have := HU.out; rw [List.getElem?_eq_getElem hkos] at this; injection this
    obtain ⟨u, hud⟩ : ∃ u, u = os[k] := ⟨_, rfl⟩
    rw [← hud] at hob HU
    have OBU := Lib.hid hob
    obtain ⟨vi, vs, vr, vc, vd, rfl, hp, hh, hi, hs, hr, hc, hd⟩ := hob
    obtain ⟨x2, m2, c2, rfl⟩ := hi.slice
    obtain ⟨x3, m3, c3, rfl⟩ := hs.slice
    obtain ⟨x4, m4, c4, rfl⟩ := hr.slice
    obtain ⟨x5, m5, c5, rfl⟩ := hc.slice
    obtain ⟨x6, m6, c6, rfl⟩ := hd.slice
    have HH := Lib.hid hh
    have hcc : ∀ j, j < 7 → w3.cell? ⟨gc, k * 7 + j, none⟩ = _ := fun j hj => (OC3.out.cellAt (k * 7 + j) (by omega)).trans (hcs j hj)
    have f0 := hcc 0 (by omega)
    have f1 := hcc 1 (by omega)
    have f2 := hcc 2 (by omega)
    have f3 := hcc 3 (by omega)
    have f4 := hcc 4 (by omega)
    have f5 := hcc 5 (by omega)
    have f6 := hcc 6 (by omega)
    simp only [Nat.add_zero, List.getElem?_cons_zero, List.getElem?_cons_succ] at f0 f1 f2 f3 f4 f5 f6
    clear hp hh hi hs hr hc hd hcs hcc
    obtain ⟨up, hup⟩ : ∃ up, up = u.pkg := ⟨_, rfl⟩
    obtain ⟨uh, huh⟩ : ∃ uh, uh = u.hash := ⟨_, rfl⟩
    rw [← hup] at OBU f0
    rw [← huh] at OBU HH f1
    have HUP := Lib.hid hup
    have HUH := Lib.hid huh
    have HUD := Lib.hid hud
    clear hup huh hud
    go_upto_region 7 with fail
    have XI := Lib.hid (xor_i64 uh by_)
    have XN := Lib.hid (xor_ne HH.out HY.out hy0)
    generalize bits BinOp.xor IntKind.i64 uh by_ = h' at *
    have N4 := Lib.hid (Nw.new w3 (.cells #[.string up, .int .i64 h', .slice x2 m2 c2, .slice x3 m3 c3, .slice x4 m4 c4, .slice x5 m5 c5, .slice x6 m6 c6] 27))
    have BX := Lib.hid (Blk.new w3 [.string up, .int .i64 h', .slice x2 m2 c2, .slice x3 m3 c3, .slice x4 m4 c4, .slice x5 m5 c5, .slice x6 m6 c6] 27)
    have OC4 := Lib.hid (own_kp OC3.out N4.out (fun _ _ x => x))
    have f0 := N4.out.keeps f0
    have f1 := N4.out.keeps f1
    have f2 := N4.out.keeps f2
    have f3 := N4.out.keeps f3
    have f4 := N4.out.keeps f4
    have f5 := N4.out.keeps f5
    have f6 := N4.out.keeps f6
    generalize w3.alloc (.cells #[.string up, .int .i64 h', .slice x2 m2 c2, .slice x3 m3 c3, .slice x4 m4 c4, .slice x5 m5 c5, .slice x6 m6 c6] 27) = w4 at *
    have hgx : gc < w3.heap.size := hgl
    have hgx2 : w3.heap.size < w4.heap.size := BX.out.lt
    generalize w3.heap.size = bx at *
    have cX := BX.out.cell
    have zf := OC4.out.frozenAt
    go_upto_region 8 with fail
    generalize hz : (((((((w4.setCell ⟨gc, k * 7, none⟩ (.string up)).setCell ⟨gc, k * 7 + 1, none⟩ (.int .i64 h')).setCell ⟨gc, k * 7 + 2, none⟩ (.slice x2 m2 c2)).setCell ⟨gc, k * 7 + 3, none⟩ (.slice x3 m3 c3)).setCell ⟨gc, k * 7 + 4, none⟩ (.slice x4 m4 c4)).setCell ⟨gc, k * 7 + 5, none⟩ (.slice x5 m5 c5)).setCell ⟨gc, k * 7 + 6, none⟩ (.slice x6 m6 c6)) = w5
    have hz7 : w5 = set7 w4 gc (k * 7) (.string up) (.int .i64 h') (.slice x2 m2 c2) (.slice x3 m3 c3) (.slice x4 m4 c4) (.slice x5 m5 c5) (.slice x6 m6 c6) := hz.symm
    have K4 := Lib.hid (K1.out.trans (K3.out.trans N4.out))
    have K5 := Lib.hid (show Nw w w5 by
      rw [hz7]
      exact set7_kp K4.out (fun hlt => by have := K1.out.size; omega))
    have HOL := Lib.hid (show SlB w5.heap.size w5 7 (ObAt w5.heap.size w5) (os.set k (reh u h')) (.slice (some ⟨gc, 0, none⟩) n c') from
      rows_set (by rw [← HN.out]; exact RO.out) OC4.out HN.out ((In.self w).nw K5.out) (OBU.out.reh XI.out) (by have := (Kp.refl (fun _ => True) w4); rw [hz7]; have := (set7_kp (o := k * 7) (a0 := .string up) (a1 := .int .i64 h') (a2 := .slice x2 m2 c2) (a3 := .slice x3 m3 c3) (a4 := .slice x4 m4 c4) (a5 := .slice x5 m5 c5) (a6 := .slice x6 m6 c6) this (g := gc) (fun _ => trivial)).size; omega) (by omega)
        (fun j hj => by rw [hz7]; exact set7_other hj) (fun j hj => by rw [hz7]; exact set7_own OC4.out (by omega) j hj))
    have BX5 := Lib.hid (show Blk w5 bx [.string up, .int .i64 h', .slice x2 m2 c2, .slice x3 m3 c3, .slice x4 m4 c4, .slice x5 m5 c5, .slice x6 m6 c6] 27 by
      rw [hz7]
      exact BX.out.setsO (b' := gc) (by omega) (k * 7) [.string up, .int .i64 h', .slice x2 m2 c2, .slice x3 m3 c3, .slice x4 m4 c4, .slice x5 m5 c5, .slice x6 m6 c6])
    obtain ⟨g1, g2, g3, g4, g5⟩ := reh_law (h' := h') HU.out BD.out (by rw [← HUH.out]; exact XN.out) LT.out
    rw [← HUP.out] at g2 g3
    obtain ⟨ol, hol⟩ : ∃ ol, ol = os.set k (reh u h') := ⟨_, rfl⟩
    rw [← hol] at g1 g2 g3 g4 g5 HOL
    have B10 := Lib.hid g2
    have B0 := Lib.hid g3
    have OCL := Lib.hid g4
    have IM50 := Lib.hid g5
    have NOL := Lib.hid (g1.trans HN.out.symm)
    have LK := Lib.hid (fun (wz : World) (k : Nw w5 wz) => LI.out wz (K5.out.trans k) ol _ (obs_nw HOL.out k) (by rw [NOL.out]; omega) (by have := LT.out.2.1; omega) (by have := OCL.out; omega))
    have FB := Lib.hid (fun (wz : World) (k : Nw w5 wz) => (show wz.cell? ⟨bx, 0, none⟩ = some (.string up) from (BX5.out.nw k).cell 0))
    clear g1 g2 g3 g4 g5 hol hz hz7 f0 f1 f2 f3 f4 f5 f6 zf cX BX BX5 OC4 OC3 N4 LI OBU K4 XI XN HH HUP HUH HUD RO NC N1 NL OE H63 HBY HBS STEP ho HO HU
    go_upto_region 10 with fail
    go_loopw [12, 13] (fun vw vi wr => ∃ (i : Nat) (wb : Bool), i ≤ n ∧ vi = .int .i64 (i : Int) ∧ vw = .bool wb ∧ WantB ol up i 0 wb ∧ Nw w5 wr) (fun _ vi _ => n - (intOf vi).toNat)
    case atStart => exact ⟨0, false, Nat.zero_le _, rfl, rfl, want0, Nw.refl _⟩
    case round =>
      obtain ⟨i, wb, hi, rfl, rfl, hw, g⟩ := hrel
      have GR := Lib.hid g
      have HW := Lib.hid hw
      clear g hw
      rename World => wo
      by_cases hlt : i < n
      · have hio : i < ol.length := by have := NOL.out; omega
        obtain ⟨u2, hu2⟩ : ∃ u2, ol[i]? = some u2 := ⟨_, List.getElem?_eq_getElem hio⟩
        have HU2 := Lib.hid hu2
        have hp0 : (0 : Int) ≤ (i : Int) := by omega
        have hp1 : (i : Int) < (n : Int) := by omega
        obtain ⟨xi, ci, xs, cs, xr, cr, xc, cc, xd, cd, ob1⟩ := ob_read HOL.out ((In.self w5).nw GR.out) hu2
        have HI := Lib.hid ob1.hi
        obtain ⟨_, hil, bi, oi, hxi⟩ := ob1.hi.addr
        have HXI := Lib.hid hxi
        obtain ⟨mi, hmi⟩ : ∃ mi, mi = u2.imports.length := ⟨_, rfl⟩
        have HMI := Lib.hid hmi
        have q2 := ob1.f2
        rw [← hmi] at q2 hil HI
        rw [Nat.zero_add] at q2
        have Q2 := Lib.hid (fun (wz : World) (k : Nw wo wz) => k.keeps q2)
        have mib : (mi : Int) ≤ 50 := by
          have := IM50.out u2 (List.mem_of_getElem? hu2)
          omega
        clear ob1 hxi hmi hio q2 hu2
        go_upto_region 13 with fail
        go_loopw [12, 14] (fun vw vj wr => ∃ (j : Nat) (wb : Bool), j ≤ mi ∧ vj = .int .i64 (j : Int) ∧ vw = .bool wb ∧ WantB ol up i j wb ∧ Nw wo wr) (fun _ vj _ => mi - (intOf vj).toNat)
        case atStart => exact ⟨0, wb, Nat.zero_le _, rfl, rfl, HW.out, Nw.refl _⟩
        case round =>
          clear HW
          obtain ⟨j, wb2, hj, rfl, rfl, hw, g⟩ := hrel
          have GK := Lib.hid g
          have HW2 := Lib.hid hw
          have q2 := Q2.out _ g
          have f0 := FB.out _ (GR.out.trans g)
          clear g hw
          rename World => wp
          by_cases hjt : j < mi
          · have hji : j < u2.imports.length := by have := HMI.out; omega
            have hp2 : (0 : Int) ≤ (j : Int) := by omega
            have hp3 : (j : Int) < (mi : Int) := by omega
            obtain rfl : xi = _ := HXI.out (ne_nil_of_lt hji)
            have im := im_read HI.out (((In.self w5).nw GR.out).nw GK.out) hji
            have s0 := im.f0
            have WH := Lib.hid (fun (e : u2.imports[j].name = up) => want_hit HU2.out hji e)
            have WM := Lib.hid (fun (e : ¬ u2.imports[j].name = up) (h : WantB ol up i j false) => want_miss HU2.out hji e h)
            clear im
            generalize u2.imports[j].name = nm at *
            cases wb2 with
            | true =>
              have W2 := Lib.hid (want_keep HW2.out)
              clear WH WM HW2
              go_wp2_with fail
              go_quiet (fail)
              go_wp2_with fail
              go_roundw
              case rel => exact ⟨j + 1, true, by omega, by go_num, rfl, W2.out, by first | exact GK.out.drewN _ | exact GK.out.drew | exact GK.out⟩
              case measure => simp [intOf]; omega
            | false =>
              by_cases hnm : nm = up
              · subst hnm
                have W2 := Lib.hid (WH.out rfl)
                clear WH WM HW2
                go_wp2_with fail
                go_quiet (fail)
                go_wp2_with fail
                go_roundw
                case rel => exact ⟨j + 1, true, by omega, by go_num, rfl, W2.out, by first | exact GK.out.drewN _ | exact GK.out.drew | exact GK.out⟩
                case measure => simp [intOf]; omega
              · obtain ⟨n1, n2, n3, n4⟩ := str_ne hnm
                have W2 := Lib.hid (WM.out hnm HW2.out)
                clear WH WM HW2
                go_wp2_with fail
                go_quiet (fail)
                go_wp2_with fail
                go_roundw
                case rel => exact ⟨j + 1, false, by omega, by go_num, rfl, W2.out, by first | exact GK.out.drewN _ | exact GK.out.drew | exact GK.out⟩
                case measure => simp [intOf]; omega
          · have hp3 : ¬ (j : Int) < (mi : Int) := by omega
            have W2 := Lib.hid (want_nextB HU2.out (by have := HMI.out; omega) HW2.out)
            clear HW2
            go_wp2_with fail
            go_roundw
            case rel => exact ⟨i + 1, wb2, by omega, by go_num, rfl, W2.out, GR.out.trans GK.out⟩
            case measure => simp [intOf]; omega
      · have hp1 : ¬ (i : Int) < (n : Int) := by omega
        have WE := Lib.hid (want_end (by rw [NOL.out]; omega) HW.out)
        have LW := Lib.hid (LK.out _ GR.out)
        clear HW LK FB
        cases wb with
        | true =>
          have hb10 := B10.out (WE.out.1 (by trivial))
          go_wp2_with fail
          refine LW.out.mono ?_
          rintro e2 w6 (⟨hbad, _⟩ | ⟨hbad, rfl, k2⟩)
          · exact absurd (hbad.symm.trans hb10) (by decide)
          rw [hb10]
          have K6 := Lib.hid (K5.out.trans (GR.out.trans k2))
          have NX := Lib.hid (Nw.new w6 (.cells #[.slice none 0 0, .slice none 0 0, .int .i64 0] 53))
          have cX := (Blk.new w6 [.slice none 0 0, .slice none 0 0, .int .i64 0] 53).cell
          clear k2 LW hbad hb10
          go_wp2_with fail
          refine (num30_any _ _).mono ?_
          rintro e3 w7 ⟨rfl, rfl⟩
          go_wp2_with fail
          refine (AW.out _).mono ?_
          rintro ea wa ⟨rfl, ka⟩
          have KA := Lib.hid (K6.out.trans (NX.out.trans ka))
          clear ka
          go_wp2_with fail
          go_returns
          exact ⟨rfl, KA.out⟩
        | false =>
          have hb0 := B0.out (WE.out.2 (by trivial))
          go_wp2_with fail
          refine LW.out.mono ?_
          rintro e2 w6 (⟨hbad, x1, c1, y1, d1, s1, q1, rfl, hoc, hod, hos, k2⟩ | ⟨hbad, rfl, k2⟩)
          rotate_left
          · exact absurd hb0 hbad
          generalize (imgC ol bg).length = lc at *
          generalize (imgD ol bg).length = ld at *
          generalize (countedL ol bg.length).length = ls at *
          have K6 := Lib.hid (K5.out.trans (GR.out.trans k2))
          have NX := Lib.hid (Nw.new w6 (.cells #[.slice x1 lc c1, .slice y1 ld d1, .int .i64 0] 53))
          clear k2 LW hbad hb0 hoc hod hos
          go_wp2_with fail
          refine (num30_any _ _).mono ?_
          rintro e3 w7 ⟨rfl, rfl⟩
          go_wp2_with fail
          refine (AW.out _).mono ?_
          rintro ea wa ⟨rfl, ka⟩
          have KA := Lib.hid (K6.out.trans (NX.out.trans ka))
          clear ka
          go_wp2_with fail
          go_returns
          exact ⟨rfl, KA.out⟩
end Go.Proofs.Ytfdjlicegfgodaa
