/- Linking: the document's Bad. -/
import Derived.Test.YtfdjlicegfgodaaLk4
namespace Go.Proofs.Ytfdjlicegfgodaa
open Go.RowKit
set_option linter.unusedSimpArgs false
set_option linter.unusedVariables false

theorem objP_same {os : List Ob} {i : Nat} {u : Ob} {r : Int} (hu : os[i]? = some u) (h : ObjP os u.pkg r) (hr : r = (i : Int)) : u.pkg ∉ pkgs (os.take i) := by
  rcases h with ⟨j, u2, h1, h2, h3, h4⟩ | ⟨h1, h2⟩
  · have : j = i := by omega
    subst this
    exact h4
  · omega
theorem objP_other {os : List Ob} {i : Nat} {u : Ob} {r : Int} (hu : os[i]? = some u) (h : ObjP os u.pkg r) (hr : ¬ r = (i : Int)) : ¬ (pkgs os).Nodup := by
  rcases h with ⟨j, u2, h1, h2, h3, h4⟩ | ⟨h1, h2⟩
  · intro hn
    have e1 : (pkgs os)[i]? = some u.pkg := by unfold pkgs; rw [List.getElem?_map, hu]; rfl
    have e2 : (pkgs os)[j]? = some u.pkg := by unfold pkgs; rw [List.getElem?_map, h2]; simp [h3]
    obtain ⟨b1, b2⟩ := List.getElem?_eq_some_iff.1 e1
    obtain ⟨b3, b4⟩ := List.getElem?_eq_some_iff.1 e2
    have := (List.getElem_inj hn).1 (b2.trans b4.symm)
    omega
  · exact absurd (List.mem_map.2 ⟨u, List.mem_of_getElem? hu, rfl⟩) h2
theorem pack4 {os : List Ob} {o : Ob} (h : o ∈ os) (hc : codeV o ≠ 0) : packV os = 4 := by unfold packV; rw [dc_true ⟨o, h, hc⟩]; rfl
theorem pack7 {os : List Ob} (hv : ∀ o ∈ os, codeV o = 0) (hn : ¬ (pkgs os).Nodup) : packV os = 7 := by
  unfold packV; rw [dc_false (by rintro ⟨o, h1, h2⟩; exact h2 (hv o h1)), dc_true hn]; rfl
theorem packI {os : List Ob} (hv : ∀ o ∈ os, codeV o = 0) (hn : (pkgs os).Nodup) : packV os = impV os := by
  unfold packV; rw [dc_false (by rintro ⟨o, h1, h2⟩; exact h2 (hv o h1)), dc_false (fun hh => hh hn)]; rfl
theorem bad_pack {os : List Ob} {bg : List ByteArray} (h : packV os ≠ 0) : badV os bg = packV os := if_neg h
theorem bad11 {os : List Ob} {bg : List ByteArray} (h : packV os = 0) (hs : ¬ symsOK os bg) : badV os bg = 11 := by unfold badV; rw [if_pos h, dc_false hs]; rfl
theorem bad12 {os : List Ob} {bg : List ByteArray} (h : packV os = 0) (hs : symsOK os bg) (hl : limP os bg.length) : badV os bg = 12 := by unfold badV; rw [if_pos h, dc_true hs, dc_true hl]; rfl
theorem bad0 {os : List Ob} {bg : List ByteArray} (h : packV os = 0) (hs : symsOK os bg) (hl : ¬ limP os bg.length) : badV os bg = 0 := by unfold badV; rw [if_pos h, dc_true hs, dc_false hl]; rfl
theorem sumC_snoc {os : List Ob} {i : Nat} {u : Ob} (hu : os[i]? = some u) : sumC (os.take (i + 1)) = sumC (os.take i) + u.code.length := by
  obtain ⟨hi, rfl⟩ := List.getElem?_eq_some_iff.1 hu
  unfold sumC
  rw [List.take_succ_eq_append_getElem hi, List.map_append, List.sum_append]
  simp
theorem sumD_snoc {os : List Ob} {i : Nat} {u : Ob} (hu : os[i]? = some u) : sumD (os.take (i + 1)) = sumD (os.take i) + u.data.length := by
  obtain ⟨hi, rfl⟩ := List.getElem?_eq_some_iff.1 hu
  unfold sumD
  rw [List.take_succ_eq_append_getElem hi, List.map_append, List.sum_append]
  simp
theorem codeV_len {o : Ob} (h : codeV o = 0) : o.code.length ≤ 65536 ∧ o.data.length ≤ 16384 := by
  unfold codeV at h
  split at h
  · cases h
  · omega
theorem take_mem_snoc {os : List Ob} {i : Nat} {u : Ob} (hu : os[i]? = some u) {P : Ob → Prop} (h : ∀ o ∈ os.take i, P o) (hp : P u) : ∀ o ∈ os.take (i + 1), P o := by
  obtain ⟨hi, rfl⟩ := List.getElem?_eq_some_iff.1 hu
  intro o ho
  rw [List.take_succ_eq_append_getElem hi] at ho
  rcases List.mem_append.1 ho with ho | ho
  · exact h o ho
  · rw [List.mem_singleton.1 ho]; exact hp
set_option maxRecDepth 100000 in
set_option maxHeartbeats 8000000 in
theorem bad_any {B : Nat} {W w : World} {os : List Ob} {bg : List ByteArray} {v vb : Value} (ho : SlB B W 7 (ObAt B W) os v) (hb : SlB B W 1 StrAt2 bg vb) (h : In B W w) (hs1 : os.length ≤ 100) (hs2 : bg.length ≤ 100000) :
    Calls Try.prog 48 #[v, vb] w (CodePost w (badV os bg)) := by
  obtain ⟨x, cp, rfl, ho, hl⟩ := ho.sl
  obtain ⟨_, _, b, o, hx⟩ := ho.addr
  obtain ⟨xb, cb, rfl, hb, hlb⟩ := hb.sl
  have HO := Lib.hid ho
  have HX := Lib.hid hx
  have HB := Lib.hid hb
  have G := Lib.hid h
  obtain ⟨n, hn⟩ : ∃ n, n = os.length := ⟨_, rfl⟩
  rw [← hn] at hl HO hs1 ⊢
  obtain ⟨nb, hnb⟩ : ∃ n, n = bg.length := ⟨_, rfl⟩
  rw [← hnb] at hlb HB hs2 ⊢
  have HN := Lib.hid hn
  have HNB := Lib.hid hnb
  have OC := Lib.hid (fun (wz : World) (k : Nw w wz) (nm : ByteArray) => object_any HO.out (h.nw k) nm)
  have IC := Lib.hid (fun (wz : World) (k : Nw w wz) (hh : (pkgs os).Nodup) => imports_any HO.out (h.nw k) hh)
  have SC := Lib.hid (fun (wz : World) (k : Nw w wz) => symbols_any HO.out HB.out (h.nw k))
  obtain ⟨rv, hrv⟩ : ∃ rv, rv = badV os bg := ⟨_, rfl⟩
  rw [← hrv]
  have RV := Lib.hid hrv
  clear ho hx h hn hrv hb hnb
  have hnbi : (nb : Int) ≤ 100000 := by omega
  go_enter Try.func48, Try.ntmps48
  go_upto_region 3 with fail
  go_loopw [5, 6, 7] (fun vc vd vi wr => ∃ (i : Nat) (ci di : Int), i ≤ n ∧ vi = .int .i64 (i : Int) ∧ vc = .int .i64 ci ∧ vd = .int .i64 di ∧ ci = ((nb + 1 + sumC (os.take i) : Nat) : Int) ∧ di = ((2 + sumD (os.take i) : Nat) : Int) ∧ sumC (os.take i) ≤ 65536 * i ∧ sumD (os.take i) ≤ 65536 * i ∧ (∀ o ∈ os.take i, codeV o = 0) ∧ Nw w wr) (fun _ _ vi _ => n - (intOf vi).toNat)
  case atStart => exact ⟨0, (nb : Int) + 1, 2, Nat.zero_le _, rfl, by go_num, rfl, by simp [sumC], by simp [sumD], by simp [sumC], by simp [sumD], by simp, Nw.refl _⟩
  case round =>
    obtain ⟨i, ci, di, hi, rfl, rfl, rfl, hci, hdi, hbc, hbd, hval, g⟩ := hrel
    have GR := Lib.hid g
    have HCI := Lib.hid hci
    have HDI := Lib.hid hdi
    have HVAL := Lib.hid hval
    have b1 : 0 ≤ ci ∧ ci ≤ 10000000 := by omega
    have b2 : 0 ≤ di ∧ di ≤ 10000000 := by omega
    have HBC := Lib.hid hbc
    have HBD := Lib.hid hbd
    obtain ⟨b3, b4⟩ := b1
    obtain ⟨b5, b6⟩ := b2
    clear g hci hdi hval hbc hbd
    rename World => wo
    by_cases hlt : i < n
    · have hio : i < os.length := by have := HN.out; omega
      obtain ⟨u, hu⟩ : ∃ u, os[i]? = some u := ⟨_, List.getElem?_eq_getElem hio⟩
      have HU := Lib.hid hu
      have hq0 : (0 : Int) ≤ (i : Int) := by omega
      have hq1 : (i : Int) < (n : Int) := by omega
      obtain rfl : x = _ := HX.out (ne_nil_of_lt hio)
      obtain ⟨xi, ci', xs, cs, xr, cr, xc, cc, xd, cd, ob1⟩ := ob_read HO.out (G.out.nw GR.out) hu
      have VC := Lib.hid (rvalid_any u _ ob1.ob (G.out.nw GR.out))
      have q0 := ob1.f0
      have q1 := ob1.f1
      have q2 := ob1.f2
      have q3 := ob1.f3
      have q4 := ob1.f4
      have q5 := ob1.f5
      have q6 := ob1.f6
      have MU := Lib.hid (List.mem_of_getElem? hu)
      clear ob1 hio hu
      have SN1 := Lib.hid (sumC_snoc HU.out)
      have SN2 := Lib.hid (sumD_snoc HU.out)
      have LEN := Lib.hid (fun (hh : codeV u = 0) => codeV_len hh)
      have VS := Lib.hid (fun (hh : codeV u = 0) => take_mem_snoc HU.out HVAL.out hh)
      have CVZ := Lib.hid (fun (hh : ¬ codeV u = 0) => (show rv = 4 by rw [RV.out, bad_pack (by rw [pack4 MU.out hh]; decide), pack4 MU.out hh]))
      obtain ⟨cv, hcv⟩ : ∃ cv, cv = codeV u := ⟨_, rfl⟩
      rw [← hcv] at VC LEN VS CVZ
      generalize u.pkg = upk at *
      generalize u.hash = uh at *
      generalize u.imports.length = m2 at *
      generalize u.syms.length = m3 at *
      generalize u.relocs.length = m4 at *
      obtain ⟨mc, hmc⟩ : ∃ mc, mc = u.code.length := ⟨_, rfl⟩
      obtain ⟨md, hmd⟩ : ∃ md, md = u.data.length := ⟨_, rfl⟩
      rw [← hmc, ← hmd] at LEN
      rw [← hmc] at q5 VC SN1
      rw [← hmd] at q6 VC SN2
      clear hmc hmd hcv
      go_wp2_with fail
      refine VC.out.mono ?_
      rintro e1 w1 ⟨rfl, k1⟩
      have K1 := Lib.hid k1
      have q5 := k1.keeps q5
      have q6 := k1.keeps q6
      clear k1 VC
      by_cases hcv : cv = 0
      · subst hcv
        obtain ⟨l1, l2⟩ := LEN.out rfl
        have V2 := Lib.hid (VS.out rfl)
        have l3 : (mc : Int) ≤ 65536 := by omega
        have l4 : (md : Int) ≤ 16384 := by omega
        have l5 : ¬ (1099511627776 : Int) < ci + (mc : Int) := by omega
        have l6 : ¬ (1099511627776 : Int) < di + (md : Int) := by omega
        have NC := Lib.hid (show ci + (mc : Int) = ((nb + 1 + sumC (os.take (i + 1)) : Nat) : Int) by rw [HCI.out, SN1.out]; omega)
        have NDD := Lib.hid (show di + (md : Int) = ((2 + sumD (os.take (i + 1)) : Nat) : Int) by rw [HDI.out, SN2.out]; omega)
        have NB1 := Lib.hid (show sumC (os.take (i + 1)) ≤ 65536 * (i + 1) by rw [SN1.out]; have := HBC.out; omega)
        have NB2 := Lib.hid (show sumD (os.take (i + 1)) ≤ 65536 * (i + 1) by rw [SN2.out]; have := HBD.out; omega)
        clear LEN VS CVZ l1 l2
        go_wp2_with fail
        go_roundw
        case rel => exact ⟨i + 1, ci + mc, di + md, by omega, by go_num, by go_num, by go_num, NC.out, NDD.out, NB1.out, NB2.out, V2.out, GR.out.trans K1.out⟩
        case measure => simp [intOf]; omega
      · have FN := Lib.hid (CVZ.out hcv)
        obtain ⟨m1, m2, m3, m4⟩ := int_ne hcv
        obtain rfl : rv = 4 := FN.out
        clear LEN VS CVZ
        go_wp2_with fail
        go_returns
        exact ⟨rfl, GR.out.trans K1.out⟩
    · have VAL := Lib.hid (show ∀ o ∈ os, codeV o = 0 by have := HVAL.out; rw [List.take_of_length_le (by have := HN.out; omega)] at this; exact this)
      have HC2 := Lib.hid (show ci = ((nb + 1 + sumC os : Nat) : Int) by have := HCI.out; rw [List.take_of_length_le (by have := HN.out; omega)] at this; exact this)
      have HD2 := Lib.hid (show di = ((2 + sumD os : Nat) : Int) by have := HDI.out; rw [List.take_of_length_le (by have := HN.out; omega)] at this; exact this)
      clear HVAL HCI HDI HBC HBD
      go_upto_region 10 with fail
      go_loopw [8] (fun vk wr => ∃ k : Nat, k ≤ n ∧ vk = .int .i64 (k : Int) ∧ (pkgs (os.take k)).Nodup ∧ Nw wo wr) (fun vk _ => n - (intOf vk).toNat)
      case atStart => exact ⟨0, Nat.zero_le _, rfl, by simp [pkgs], Nw.refl _⟩
      case round =>
        obtain ⟨j, hj, rfl, hnd, g⟩ := hrel
        have GJ := Lib.hid g
        have HND := Lib.hid hnd
        clear g hnd
        by_cases hjt : j < n
        · have hjo : j < os.length := by have := HN.out; omega
          obtain ⟨u, hu⟩ : ∃ u, os[j]? = some u := ⟨_, List.getElem?_eq_getElem hjo⟩
          have HU := Lib.hid hu
          have hq0 : (0 : Int) ≤ (j : Int) := by omega
          have hq1 : (j : Int) < (n : Int) := by omega
          obtain rfl : x = _ := HX.out (ne_nil_of_lt hjo)
          obtain ⟨xi, ci', xs, cs, xr, cr, xc, cc, xd, cd, ob1⟩ := ob_read HO.out ((G.out.nw GR.out).nw GJ.out) hu
          have q0 := ob1.f0
          have SN := Lib.hid (pkgs_snoc hu)
          have OS := Lib.hid (fun (r : Int) (hr : ObjP os u.pkg r) (e : r = (j : Int)) => objP_same hu hr e)
          have OO := Lib.hid (fun (r : Int) (hr : ObjP os u.pkg r) (e : ¬ r = (j : Int)) => (show rv = 7 by
            have := pack7 VAL.out (objP_other hu hr e)
            rw [RV.out, bad_pack (by rw [this]; decide), this]))
          clear ob1 hu hjo
          generalize u.pkg = upk at *
          have OW := Lib.hid (OC.out _ (GR.out.trans GJ.out) upk)
          go_wp2_with fail
          refine OW.out.mono ?_
          rintro e1 w1 ⟨r, rfl, hr, k1⟩
          have K1 := Lib.hid k1
          clear k1 OW
          by_cases hrj : r = (j : Int)
          · have NN := Lib.hid (show (pkgs (os.take (j + 1))).Nodup by
              rw [SN.out, List.nodup_append]
              have h1 := OS.out r hr hrj
              exact ⟨HND.out, by simp, fun a ha b hb e => h1 (by simp at hb; rw [← hb, ← e]; exact ha)⟩)
            subst hrj
            clear hr OS OO
            go_wp2_with fail
            go_roundw
            case rel => exact ⟨j + 1, by omega, by go_num, NN.out, GJ.out.trans K1.out⟩
            case measure => simp [intOf]; omega
          · have FN := Lib.hid (OO.out r hr hrj)
            obtain ⟨m1, m2, m3, m4⟩ := int_ne hrj
            obtain rfl : rv = 7 := FN.out
            clear hr OS OO
            go_wp2_with fail
            go_returns
            exact ⟨rfl, GR.out.trans (GJ.out.trans K1.out)⟩
        · have ND := Lib.hid (show (pkgs os).Nodup by have := HND.out; rw [List.take_of_length_le (by have := HN.out; omega)] at this; exact this)
          have PI := Lib.hid (packI VAL.out ND.out)
          have IW := Lib.hid (IC.out _ (GR.out.trans GJ.out) ND.out)
          have BI := Lib.hid (fun (hh : ¬ impV os = 0) => (show rv = impV os by rw [RV.out, bad_pack (by rw [PI.out]; exact hh), PI.out]))
          have B11 := Lib.hid (fun (hh : impV os = 0) (hs : ¬ symsOK os bg) => (show rv = 11 by rw [RV.out]; exact bad11 (PI.out.trans hh) hs))
          have B12 := Lib.hid (fun (hh : impV os = 0) (hs : symsOK os bg) (hl : limP os nb) => (show rv = 12 by rw [RV.out]; exact bad12 (PI.out.trans hh) hs (by rw [← HNB.out]; exact hl)))
          have B0 := Lib.hid (fun (hh : impV os = 0) (hs : symsOK os bg) (hl : ¬ limP os nb) => (show rv = 0 by rw [RV.out]; exact bad0 (PI.out.trans hh) hs (by rw [← HNB.out]; exact hl)))
          clear HND
          generalize impV os = iv at *
          go_wp2_with fail
          refine IW.out.mono ?_
          rintro e1 w1 ⟨rfl, k1⟩
          have K1 := Lib.hid k1
          clear k1 IW
          by_cases hiv : iv = 0
          · subst hiv
            have SW := Lib.hid (SC.out _ (GR.out.trans (GJ.out.trans K1.out)))
            by_cases hso : symsOK os bg
            · rw [dc_true hso] at SW
              have HSO := Lib.hid hso
              clear hso
              go_wp2_with fail
              refine SW.out.mono ?_
              rintro e2 w2 ⟨rfl, k2⟩
              have K2 := Lib.hid (K1.out.trans k2)
              clear k2 SW
              by_cases hl : limP os nb
              · have FN := Lib.hid (B12.out (by trivial) HSO.out hl)
                obtain rfl : rv = 12 := FN.out
                have HL := Lib.hid hl
                clear hl
                by_cases c1 : (65536 : Int) < ci
                · go_wp2_with fail
                  go_returns
                  exact ⟨rfl, GR.out.trans (GJ.out.trans K2.out)⟩
                · by_cases c2 : (16384 : Int) < di
                  · go_wp2_with fail
                    go_returns
                    exact ⟨rfl, GR.out.trans (GJ.out.trans K2.out)⟩
                  · have c3 : (1000 : Int) < (nb : Int) := by
                      have h1 := HL.out; have h2 := HC2.out; have h3 := HD2.out
                      unfold limP at h1
                      omega
                    go_wp2_with fail
                    go_returns
                    exact ⟨rfl, GR.out.trans (GJ.out.trans K2.out)⟩
              · have FN := Lib.hid (B0.out (by trivial) HSO.out hl)
                obtain rfl : rv = 0 := FN.out
                have hh : ¬ (65536 : Int) < ci ∧ ¬ (16384 : Int) < di ∧ ¬ (1000 : Int) < (nb : Int) := by
                  have h2 := HC2.out; have h3 := HD2.out
                  unfold limP at hl
                  omega
                obtain ⟨c1, c2, c3⟩ := hh
                clear hl
                go_wp2_with fail
                go_returns
                exact ⟨rfl, GR.out.trans (GJ.out.trans K2.out)⟩
            · rw [dc_false hso] at SW
              have FN := Lib.hid (B11.out (by trivial) hso)
              obtain rfl : rv = 11 := FN.out
              clear hso
              go_wp2_with fail
              refine SW.out.mono ?_
              rintro e2 w2 ⟨rfl, k2⟩
              have K2 := Lib.hid (K1.out.trans k2)
              clear k2 SW
              go_wp2_with fail
              go_returns
              exact ⟨rfl, GR.out.trans (GJ.out.trans K2.out)⟩
          · have FN := Lib.hid (BI.out hiv)
            obtain ⟨m1, m2, m3, m4⟩ := int_ne hiv
            obtain rfl : rv = iv := FN.out
            clear BI B11 B12 B0
            go_wp2_with fail
            go_returns
            exact ⟨rfl, GR.out.trans (GJ.out.trans K1.out)⟩
end Go.Proofs.Ytfdjlicegfgodaa
