/- Linking: packages. -/
import Derived.Test.YtfdjlicegfgodaaLk5
namespace Go.Proofs.Ytfdjlicegfgodaa
open Go.RowKit
set_option linter.unusedSimpArgs false
set_option linter.unusedVariables false

theorem zeroI64 (u : World) : (zeroValue 2).run Try.prog u = .ok (.int .i64 0) u := by kernel_rfl
/-- the map of hashes -/
noncomputable def hmF (os : List Ob) : ByteArray → Option Value := fun s => (hashF os s).map (Value.int .i64)
theorem hmF_nil : hmF [] = fun _ => none := rfl
theorem hmF_snoc {os : List Ob} {i : Nat} {u : Ob} (hu : os[i]? = some u) : hmF (os.take (i + 1)) = upd (hmF (os.take i)) u.pkg (.int .i64 u.hash) := by
  obtain ⟨hi, rfl⟩ := List.getElem?_eq_some_iff.1 hu
  funext s
  unfold hmF
  rw [List.take_succ_eq_append_getElem hi, hashF_snoc]
  by_cases e : s = os[i].pkg
  · rw [e, upd_self, upd_self]; rfl
  · rw [upd_other _ _ e, upd_other _ _ e]
theorem hmF_none {os : List Ob} {s : ByteArray} (h : s ∉ pkgs os) : hmF os s = none := by unfold hmF; rw [hashF_none.2 h]; rfl
theorem hmF_some {os : List Ob} {s : ByteArray} {v : Int} (h : hashF os s = some v) : hmF os s = some (.int .i64 v) := by unfold hmF; rw [h]; rfl
theorem hashF_mem {os : List Ob} {s : ByteArray} (h : s ∈ pkgs os) : ∃ v, hashF os s = some v := by
  cases hc : hashF os s with
  | none => exact absurd h (hashF_none.1 hc)
  | some v => exact ⟨v, rfl⟩
theorem impV6 {os : List Ob} {m : Im} (h : m ∈ allI os) (hn : hashF os m.name = none) : impV os = 6 := by unfold impV; rw [dc_true ⟨m, h, hn⟩]; rfl
theorem impV10 {os : List Ob} (hm : ¬ missP os (allI os)) {m : Im} (h : m ∈ allI os) (hn : hashF os m.name ≠ some m.hash) : impV os = 10 := by unfold impV; rw [dc_false hm, dc_true ⟨m, h, hn⟩]; rfl
theorem impV0 {os : List Ob} (hm : ¬ missP os (allI os)) (h : ¬ misP os (allI os)) : impV os = 0 := by unfold impV; rw [dc_false hm, dc_false h]; rfl
theorem nw_setNew {w w' w'' : World} {b : Nat} (h : Nw w w') (hb : w.heap.size ≤ b) (k : Kp (fun j => j = b) w' w'') : Nw w w'' := Kp.trans h k (fun x hx e => by
  have e : x = b := e
  omega)
set_option maxRecDepth 100000 in
set_option maxHeartbeats 8000000 in
theorem packages_any {B : Nat} {W w : World} {os : List Ob} {v : Value} {p : Nat} (ho : SlB B W 7 (ObAt B W) os v) (h : In B W w) (hc0 : w.cell? ⟨p, 0, none⟩ = some v) :
    Calls Try.prog 50 #[.pointer (some ⟨p, 0, none⟩)] w (CodePost w (packV os)) := by
  obtain ⟨x, cp, rfl, ho, hl⟩ := ho.sl
  obtain ⟨_, _, b, o, hx⟩ := ho.addr
  have HO := Lib.hid ho
  have HX := Lib.hid hx
  have G := Lib.hid h
  obtain ⟨n, hn⟩ : ∃ n, n = os.length := ⟨_, rfl⟩
  rw [← hn] at hl HO hc0
  have HN := Lib.hid hn
  have N0 := Lib.hid (Nw.new w (.map #[] 0))
  have S0 := Lib.hid (SMap.made w)
  have C0 := Lib.hid (fun (wz : World) (k : Nw w wz) => k.keeps hc0)
  obtain ⟨rv, hrv⟩ : ∃ rv, rv = packV os := ⟨_, rfl⟩
  rw [← hrv]
  have P4 := Lib.hid (fun (o : Ob) (h1 : o ∈ os) (h2 : ¬ codeV o = 0) => (show rv = 4 by rw [hrv]; exact pack4 h1 h2))
  have P7 := Lib.hid (fun (h1 : ∀ o ∈ os, codeV o = 0) (h2 : ¬ (pkgs os).Nodup) => (show rv = 7 by rw [hrv]; exact pack7 h1 h2))
  have PI := Lib.hid (fun (h1 : ∀ o ∈ os, codeV o = 0) (h2 : (pkgs os).Nodup) => (show rv = impV os by rw [hrv]; exact packI h1 h2))
  have hmm := @run_makeMap Try.prog
  clear ho hx h hn hc0 hrv
  go_enter Try.func50, Try.ntmps50
  go_upto_region 2 with fail
  generalize w.alloc (.map #[] 0) = wM at *
  obtain ⟨mb, hmb⟩ : ∃ mb, mb = w.heap.size := ⟨_, rfl⟩
  rw [← hmb] at S0 ⊢
  have MB := Lib.hid (show w.heap.size ≤ mb by omega)
  clear hmb hmm
  have c0 := C0.out _ N0.out
  go_upto_region 3 with fail
  go_loopw [26] (fun vi wr => ∃ i : Nat, i ≤ n ∧ vi = .int .i64 (i : Int) ∧ (∀ o ∈ os.take i, codeV o = 0) ∧ Nw wM wr) (fun vi _ => n - (intOf vi).toNat)
  case atStart => exact ⟨0, Nat.zero_le _, rfl, by simp, Nw.refl _⟩
  case round =>
    clear c0
    obtain ⟨i, hi, rfl, hval, g⟩ := hrel
    have GR := Lib.hid g
    have HVAL := Lib.hid hval
    clear g hval
    rename World => wo
    by_cases hlt : i < n
    · have hio : i < os.length := by have := HN.out; omega
      obtain ⟨u, hu⟩ : ∃ u, os[i]? = some u := ⟨_, List.getElem?_eq_getElem hio⟩
      have HU := Lib.hid hu
      have hq0 : (0 : Int) ≤ (i : Int) := by omega
      have hq1 : (i : Int) < (n : Int) := by omega
      obtain rfl : x = _ := HX.out (ne_nil_of_lt hio)
      obtain ⟨xi, ci', xs, cs, xr, cr, xc, cc, xd, cd, ob1⟩ := ob_read HO.out ((G.out.nw N0.out).nw GR.out) hu
      have VC := Lib.hid (fun (wz : World) (k : Nw wo wz) => valid_any u _ ob1.ob (((G.out.nw N0.out).nw GR.out).nw k))
      have q0 := ob1.f0
      have q1 := ob1.f1
      have q2 := ob1.f2
      have q3 := ob1.f3
      have q4 := ob1.f4
      have q5 := ob1.f5
      have q6 := ob1.f6
      have MU := Lib.hid (List.mem_of_getElem? hu)
      clear ob1 hio hu
      have VS := Lib.hid (fun (hh : codeV u = 0) => take_mem_snoc HU.out HVAL.out hh)
      have CVZ := Lib.hid (fun (hh : ¬ codeV u = 0) => P4.out u MU.out hh)
      obtain ⟨cv, hcv⟩ : ∃ cv, cv = codeV u := ⟨_, rfl⟩
      rw [← hcv] at VC VS CVZ
      generalize u.pkg = upk at *
      generalize u.hash = uh at *
      generalize u.imports.length = m2 at *
      generalize u.syms.length = m3 at *
      generalize u.relocs.length = m4 at *
      generalize u.code.length = m5 at *
      generalize u.data.length = m6 at *
      clear hcv
      have NA := Lib.hid (Nw.new wo (.cells #[.string upk, .int .i64 uh, .slice xi m2 ci', .slice xs m3 cs, .slice xr m4 cr, .slice xc m5 cc, .slice xd m6 cd] 27))
      have cA := (Blk.new wo [.string upk, .int .i64 uh, .slice xi m2 ci', .slice xs m3 cs, .slice xr m4 cr, .slice xc m5 cc, .slice xd m6 cd] 27).cell
      have VA := Lib.hid (VC.out _ NA.out)
      go_wp2_with fail
      refine VA.out.mono ?_
      rintro e1 w1 ⟨rfl, k1⟩
      have K1 := Lib.hid (NA.out.trans k1)
      clear k1 VC VA cA q0 q1 q2 q3 q4 q5 q6
      by_cases hcv : cv = 0
      · subst hcv
        have V2 := Lib.hid (VS.out rfl)
        clear VS CVZ
        go_wp2_with fail
        go_roundw
        case rel => exact ⟨i + 1, by omega, by go_num, V2.out, GR.out.trans K1.out⟩
        case measure => simp [intOf]; omega
      · have FN := Lib.hid (CVZ.out hcv)
        obtain ⟨m1, m2, m3, m4⟩ := int_ne hcv
        obtain rfl : rv = 4 := FN.out
        clear VS CVZ P4 P7 PI
        go_wp2_with fail
        go_returns
        exact ⟨rfl, N0.out.trans (GR.out.trans K1.out)⟩
    · have VAL := Lib.hid (show ∀ o ∈ os, codeV o = 0 by have := HVAL.out; rw [List.take_of_length_le (by have := HN.out; omega)] at this; exact this)
      have N1 := Lib.hid (N0.out.trans GR.out)
      have S1 := Lib.hid (S0.out.nw GR.out)
      have c0 := C0.out _ N1.out
      clear HVAL P4 GR N0 S0
      go_upto_region 9 with fail
      go_loopw [39] (fun vk wr => ∃ k : Nat, k ≤ n ∧ vk = .int .i64 (k : Int) ∧ (pkgs (os.take k)).Nodup ∧ Nw w wr ∧ SMap wr mb (hmF (os.take k))) (fun vk _ => n - (intOf vk).toNat)
      case atStart => exact ⟨0, Nat.zero_le _, rfl, by simp [pkgs], N1.out, by rw [List.take_zero, hmF_nil]; exact S1.out⟩
      case round =>
        clear c0 N1 S1
        obtain ⟨j, hj, rfl, hnd, g, sm⟩ := hrel
        have GJ := Lib.hid g
        have HND := Lib.hid hnd
        have SM := Lib.hid sm
        clear g hnd sm
        rename World => wo2
        by_cases hjt : j < n
        · have hjo : j < os.length := by have := HN.out; omega
          obtain ⟨u, hu⟩ : ∃ u, os[j]? = some u := ⟨_, List.getElem?_eq_getElem hjo⟩
          have HU := Lib.hid hu
          have hq0 : (0 : Int) ≤ (j : Int) := by omega
          have hq1 : (j : Int) < (n : Int) := by omega
          obtain rfl : x = _ := HX.out (ne_nil_of_lt hjo)
          obtain ⟨xi, ci', xs, cs, xr, cr, xc, cc, xd, cd, ob1⟩ := ob_read HO.out (G.out.nw GJ.out) hu
          have q0 := ob1.f0
          have q1 := ob1.f1
          have q2 := ob1.f2
          have q3 := ob1.f3
          have q4 := ob1.f4
          have q5 := ob1.f5
          have q6 := ob1.f6
          have HFIT := Lib.hid ob1.hp
          have SN := Lib.hid (pkgs_snoc hu)
          have HM := Lib.hid (hmF_snoc hu)
          have PM := Lib.hid (show u.pkg ∈ pkgs os from List.mem_map.2 ⟨u, List.mem_of_getElem? hu, rfl⟩)
          have NDU := Lib.hid (fun (hh : u.pkg ∈ pkgs (os.take j)) (hn : (pkgs os).Nodup) => (show False by
            have e1 : (pkgs os)[j]? = some u.pkg := by unfold pkgs; rw [List.getElem?_map, hu]; rfl
            have e3 : pkgs (os.take j) = (pkgs os).take j := by unfold pkgs; rw [List.map_take]
            rw [e3] at hh
            obtain ⟨a, ha, e2⟩ := List.getElem_of_mem hh
            have ha2 : a < j := by rw [List.length_take] at ha; omega
            rw [List.getElem_take] at e2
            obtain ⟨b1, b2⟩ := List.getElem?_eq_some_iff.1 e1
            have := (List.getElem_inj hn).1 (e2.trans b2.symm)
            omega))
          clear ob1 hu hjo
          generalize u.pkg = upk at *
          generalize u.hash = uh at *
          generalize u.imports.length = m2 at *
          generalize u.syms.length = m3 at *
          generalize u.relocs.length = m4 at *
          generalize u.code.length = m5 at *
          generalize u.data.length = m6 at *
          have NA := Lib.hid (Nw.new wo2 (.cells #[.string upk, .int .i64 uh, .slice xi m2 ci', .slice xs m3 cs, .slice xr m4 cr, .slice xc m5 cc, .slice xd m6 cd] 27))
          have BA := Lib.hid (Blk.new wo2 [.string upk, .int .i64 uh, .slice xi m2 ci', .slice xs m3 cs, .slice xr m4 cr, .slice xc m5 cc, .slice xd m6 cd] 27)
          have cA := BA.out.cell
          have SA := Lib.hid (SM.out.nw NA.out)
          have ELK := Lib.hid (SA.out.lookOk Try.underlying116 (zeroI64 _) HFIT.out)
          by_cases hin : upk ∈ pkgs (os.take j)
          · obtain ⟨hv, hhv⟩ := hashF_mem hin
            have FN := Lib.hid (P7.out VAL.out (fun hn => NDU.out hin hn))
            rw [hmF_some hhv] at ELK
            simp only [Option.getD_some, Option.isSome_some] at ELK
            obtain rfl : rv = 7 := FN.out
            clear hin hhv P7 PI NDU HM SN
            go_wp2_with (at_lookup; refine wpList_lookOk_run _ rfl _ _ _ rfl _ _ _ rfl rfl ELK.out ?_)
            go_returns
            exact ⟨rfl, GJ.out.trans NA.out⟩
          · rw [hmF_none hin] at ELK
            simp only [Option.getD_none, Option.isSome_none] at ELK
            obtain ⟨w5, eUP, sm5, k5⟩ := SA.out.store Try.underlying116 HFIT.out (.int .i64 uh)
            have EUP := Lib.hid eUP
            have SM5 := Lib.hid (show SMap w5 mb (hmF (os.take (j + 1))) by rw [HM.out]; exact sm5)
            have N5 := Lib.hid (nw_setNew (GJ.out.trans NA.out) MB.out k5)
            have ND5 := Lib.hid (show (pkgs (os.take (j + 1))).Nodup by
              rw [SN.out, List.nodup_append]
              exact ⟨HND.out, by simp, fun a ha b hb e => hin (by simp at hb; rw [← hb, ← e]; exact ha)⟩)
            clear eUP sm5 k5 hin NDU HM SN
            go_wp2_with (first | (at_lookup; refine wpList_lookOk_run _ rfl _ _ _ rfl _ _ _ rfl rfl ELK.out ?_) | (at_mapUpdate; refine wpList_upd_run _ rfl _ _ _ _ rfl _ _ _ _ rfl rfl rfl EUP.out ?_))
            go_roundw
            case rel => exact ⟨j + 1, by omega, by go_num, ND5.out, N5.out, SM5.out⟩
            case measure => simp [intOf]; omega
        · have ND := Lib.hid (show (pkgs os).Nodup by have := HND.out; rw [List.take_of_length_le (by have := HN.out; omega)] at this; exact this)
          have SF := Lib.hid (show SMap wo2 mb (hmF os) by have := SM.out; rw [List.take_of_length_le (by have := HN.out; omega)] at this; exact this)
          have RVI := Lib.hid (PI.out VAL.out ND.out)
          have c0 := C0.out _ GJ.out
          clear HND SM PI P7
          go_upto_region 17 with fail
          go_loopw [62] (fun vi wr => ∃ i : Nat, i ≤ n ∧ vi = .int .i64 (i : Int) ∧ ¬ missP os (flP Ob.imports os i 0) ∧ Nw wo2 wr) (fun vi _ => n - (intOf vi).toNat)
          case atStart => exact ⟨0, Nat.zero_le _, rfl, by rw [flP_zero]; rintro ⟨m, hm, _⟩; simp at hm, Nw.refl _⟩
          case round =>
            clear c0
            obtain ⟨i, hi, rfl, hno, g⟩ := hrel
            have GR := Lib.hid g
            have NO := Lib.hid hno
            clear g hno
            rename World => wo3
            by_cases hlt : i < n
            · skip
              have hio : i < os.length := by have := HN.out; omega
              obtain ⟨u, hu⟩ : ∃ u, os[i]? = some u := ⟨_, List.getElem?_eq_getElem hio⟩
              have HU := Lib.hid hu
              have hq0 : (0 : Int) ≤ (i : Int) := by omega
              have hq1 : (i : Int) < (n : Int) := by omega
              obtain rfl : x = _ := HX.out (ne_nil_of_lt hio)
              obtain ⟨xi, ci', xs, cs, xr, cr, xc, cc, xd, cd, ob1⟩ := ob_read HO.out ((G.out.nw GJ.out).nw GR.out) hu
              have q0 := ob1.f0
              have q1 := ob1.f1
              have q2 := ob1.f2
              have q3 := ob1.f3
              have q4 := ob1.f4
              have q5 := ob1.f5
              have q6 := ob1.f6
              have HS := Lib.hid ob1.hi
              obtain ⟨_, hsl, bs, os', hxs⟩ := ob1.hi.addr
              have HXS := Lib.hid hxs
              obtain ⟨m2, hm2⟩ : ∃ m2, m2 = u.imports.length := ⟨_, rfl⟩
              rw [← hm2] at q2 HS hsl
              have HM2 := Lib.hid hm2
              clear ob1 hio hu hxs hm2
              generalize u.pkg = upk at *
              generalize u.hash = uh at *
              generalize u.syms.length = m3 at *
              generalize u.relocs.length = m4 at *
              generalize u.code.length = m5 at *
              generalize u.data.length = m6 at *
              have NA := Lib.hid (Nw.new wo3 (.cells #[.string upk, .int .i64 uh, .slice xi m2 ci', .slice xs m3 cs, .slice xr m4 cr, .slice xc m5 cc, .slice xd m6 cd] 27))
              have BA := Lib.hid (Blk.new wo3 [.string upk, .int .i64 uh, .slice xi m2 ci', .slice xs m3 cs, .slice xr m4 cr, .slice xc m5 cc, .slice xd m6 cd] 27)
              have cA := BA.out.cell
              go_upto_region 20 with fail
              have NWA := Lib.hid (GR.out.trans NA.out)
              have SA := Lib.hid (SF.out.nw (GR.out.trans NA.out))
              generalize wo3.alloc (.cells #[.string upk, .int .i64 uh, .slice xi m2 ci', .slice xs m3 cs, .slice xr m4 cr, .slice xc m5 cc, .slice xd m6 cd] 27) = wA at *
              clear cA q0 q1 q2 q3 q4 q5 q6 NA BA
              go_loopw [69] (fun vk wr => ∃ k : Nat, k ≤ m2 ∧ vk = .int .i64 (k : Int) ∧ ¬ missP os (flP Ob.imports os i k) ∧ Nw wA wr) (fun vk _ => m2 - (intOf vk).toNat)
              case atStart => exact ⟨0, Nat.zero_le _, rfl, NO.out, Nw.refl _⟩
              case round =>
                clear NO
                obtain ⟨k, hk, rfl, hno, g⟩ := hrel
                have GK := Lib.hid g
                have NO := Lib.hid hno
                clear g hno
                by_cases hkt : k < m2
                · have hks : k < u.imports.length := by have := HM2.out; omega
                  have hq2 : (0 : Int) ≤ (k : Int) := by omega
                  have hq3 : (k : Int) < (m2 : Int) := by omega
                  obtain rfl : xi = _ := HXS.out (ne_nil_of_lt hks)
                  have sy := im_read HS.out ((G.out.nw GJ.out).nw (NWA.out.trans GK.out)) hks
                  have s0 := sy.f0
                  have s1 := sy.f1
                  have HFIT := Lib.hid sy.hn
                  have ST := Lib.hid (flP_step (f := Ob.imports) HU.out hks)
                  have MM := Lib.hid (show u.imports[k] ∈ allI os from flP_sub HU.out (List.getElem_mem hks))
                  clear sy
                  generalize u.imports[k] = s at *
                  obtain ⟨snm, sh⟩ := s
                  dsimp only at s0 s1 HFIT
                  have NB := Lib.hid (Nw.new wr (.cells #[.string snm, .int .i64 sh] 51))
                  have BB := Lib.hid (Blk.new wr [.string snm, .int .i64 sh] 51)
                  have cB := BB.out.cell
                  have ELK := Lib.hid ((SA.out.nw (GK.out.trans NB.out)).lookOk Try.underlying116 (zeroI64 _) HFIT.out)
                  by_cases hin : snm ∈ pkgs os
                  · obtain ⟨hv, hhv⟩ := hashF_mem hin
                    have NO2 := Lib.hid (show ¬ missP os (flP Ob.imports os i (k + 1)) by
                      rw [ST.out, missP_snoc]
                      exact fun hh => hh.elim NO.out (fun e => by rw [show (⟨snm, sh⟩ : Im).name = snm from rfl, hhv] at e; cases e))
                    rw [hmF_some hhv] at ELK
                    simp only [Option.getD_some, Option.isSome_some] at ELK
                    clear hin hhv NO ST MM
                    go_wp2_with (at_lookup; refine wpList_lookOk_run _ rfl _ _ _ rfl _ _ _ rfl rfl ELK.out ?_)
                    go_roundw
                    case rel => exact ⟨k + 1, by omega, by go_num, NO2.out, GK.out.trans NB.out⟩
                    case measure => simp [intOf]; omega
                  · have FN := Lib.hid (RVI.out.trans (impV6 MM.out (hashF_none.2 hin)))
                    rw [hmF_none hin] at ELK
                    simp only [Option.getD_none, Option.isSome_none] at ELK
                    obtain rfl : rv = 6 := FN.out
                    clear hin NO ST MM RVI
                    go_wp2_with (at_lookup; refine wpList_lookOk_run _ rfl _ _ _ rfl _ _ _ rfl rfl ELK.out ?_)
                    go_returns
                    exact ⟨rfl, GJ.out.trans (NWA.out.trans (GK.out.trans NB.out))⟩
                · obtain rfl : k = m2 := by omega
                  have NO2 := Lib.hid (show ¬ missP os (flP Ob.imports os (i + 1) 0) by rw [flP_next (f := Ob.imports) HU.out (Nat.le_of_eq HM2.out.symm)]; exact NO.out)
                  clear NO
                  go_wp2_with fail
                  go_roundw
                  case rel => exact ⟨i + 1, by omega, by go_num, NO2.out, NWA.out.trans GK.out⟩
                  case measure => simp [intOf]; omega
            · skip
              have NOM := Lib.hid (show ¬ missP os (allI os) by have := NO.out; rw [flP_all (by have := HN.out; omega)] at this; exact this)
              have N3 := Lib.hid (GJ.out.trans GR.out)
              have SF3 := Lib.hid (SF.out.nw GR.out)
              have c0 := C0.out _ N3.out
              clear NO
              go_upto_region 28 with fail
              go_loopw [89] (fun vi wr => ∃ i : Nat, i ≤ n ∧ vi = .int .i64 (i : Int) ∧ ¬ misP os (flP Ob.imports os i 0) ∧ Nw wo3 wr) (fun vi _ => n - (intOf vi).toNat)
              case atStart => exact ⟨0, Nat.zero_le _, rfl, by rw [flP_zero]; rintro ⟨m, hm, _⟩; simp at hm, Nw.refl _⟩
              case round =>
                clear c0
                obtain ⟨i, hi, rfl, hno, g⟩ := hrel
                have GR4 := Lib.hid g
                have NO := Lib.hid hno
                clear g hno
                rename World => wo4
                by_cases hlt4 : i < n
                · skip
                  have hio : i < os.length := by have := HN.out; omega
                  obtain ⟨u, hu⟩ : ∃ u, os[i]? = some u := ⟨_, List.getElem?_eq_getElem hio⟩
                  have HU := Lib.hid hu
                  have hq0 : (0 : Int) ≤ (i : Int) := by omega
                  have hq1 : (i : Int) < (n : Int) := by omega
                  obtain rfl : x = _ := HX.out (ne_nil_of_lt hio)
                  obtain ⟨xi, ci', xs, cs, xr, cr, xc, cc, xd, cd, ob1⟩ := ob_read HO.out ((G.out.nw N3.out).nw GR4.out) hu
                  have q0 := ob1.f0
                  have q1 := ob1.f1
                  have q2 := ob1.f2
                  have q3 := ob1.f3
                  have q4 := ob1.f4
                  have q5 := ob1.f5
                  have q6 := ob1.f6
                  have HS := Lib.hid ob1.hi
                  obtain ⟨_, hsl, bs, os', hxs⟩ := ob1.hi.addr
                  have HXS := Lib.hid hxs
                  obtain ⟨m2, hm2⟩ : ∃ m2, m2 = u.imports.length := ⟨_, rfl⟩
                  rw [← hm2] at q2 HS hsl
                  have HM2 := Lib.hid hm2
                  clear ob1 hio hu hxs hm2
                  generalize u.pkg = upk at *
                  generalize u.hash = uh at *
                  generalize u.syms.length = m3 at *
                  generalize u.relocs.length = m4 at *
                  generalize u.code.length = m5 at *
                  generalize u.data.length = m6 at *
                  have NA := Lib.hid (Nw.new wo4 (.cells #[.string upk, .int .i64 uh, .slice xi m2 ci', .slice xs m3 cs, .slice xr m4 cr, .slice xc m5 cc, .slice xd m6 cd] 27))
                  have BA := Lib.hid (Blk.new wo4 [.string upk, .int .i64 uh, .slice xi m2 ci', .slice xs m3 cs, .slice xr m4 cr, .slice xc m5 cc, .slice xd m6 cd] 27)
                  have cA := BA.out.cell
                  go_upto_region 31 with fail
                  have NWA := Lib.hid (GR4.out.trans NA.out)
                  have SA := Lib.hid (SF3.out.nw (GR4.out.trans NA.out))
                  generalize wo4.alloc (.cells #[.string upk, .int .i64 uh, .slice xi m2 ci', .slice xs m3 cs, .slice xr m4 cr, .slice xc m5 cc, .slice xd m6 cd] 27) = wA at *
                  clear cA q0 q1 q2 q3 q4 q5 q6 NA BA
                  go_loopw [96] (fun vk wr => ∃ k : Nat, k ≤ m2 ∧ vk = .int .i64 (k : Int) ∧ ¬ misP os (flP Ob.imports os i k) ∧ Nw wA wr) (fun vk _ => m2 - (intOf vk).toNat)
                  case atStart => exact ⟨0, Nat.zero_le _, rfl, NO.out, Nw.refl _⟩
                  case round =>
                    clear NO
                    obtain ⟨k, hk, rfl, hno, g⟩ := hrel
                    have GK := Lib.hid g
                    have NO := Lib.hid hno
                    clear g hno
                    by_cases hkt : k < m2
                    · have hks : k < u.imports.length := by have := HM2.out; omega
                      have hq2 : (0 : Int) ≤ (k : Int) := by omega
                      have hq3 : (k : Int) < (m2 : Int) := by omega
                      obtain rfl : xi = _ := HXS.out (ne_nil_of_lt hks)
                      have sy := im_read HS.out ((G.out.nw N3.out).nw (NWA.out.trans GK.out)) hks
                      have s0 := sy.f0
                      have s1 := sy.f1
                      have HFIT := Lib.hid sy.hn
                      have ST := Lib.hid (flP_step (f := Ob.imports) HU.out hks)
                      have MM := Lib.hid (show u.imports[k] ∈ allI os from flP_sub HU.out (List.getElem_mem hks))
                      clear sy
                      generalize u.imports[k] = s at *
                      obtain ⟨snm, sh⟩ := s
                      dsimp only at s0 s1 HFIT
                      have NB := Lib.hid (Nw.new wr (.cells #[.string snm, .int .i64 sh] 51))
                      have BB := Lib.hid (Blk.new wr [.string snm, .int .i64 sh] 51)
                      have cB := BB.out.cell
                      have hin : snm ∈ pkgs os := by
                        by_cases hin : snm ∈ pkgs os
                        · exact hin
                        · exact absurd ⟨_, MM.out, hashF_none.2 hin⟩ NOM.out
                      obtain ⟨hv, hhv⟩ := hashF_mem hin
                      have ELK := Lib.hid ((SA.out.nw (GK.out.trans NB.out)).look Try.underlying116 (zeroI64 _) HFIT.out)
                      rw [hmF_some hhv] at ELK
                      simp only [Option.getD_some] at ELK
                      have cB0 := BB.out.cell 0
                      have cB1 := BB.out.cell 1
                      simp only [List.getElem?_cons_zero, List.getElem?_cons_succ] at cB0 cB1
                      by_cases hhe : hv = sh
                      · subst hhe
                        have NO2 := Lib.hid (show ¬ misP os (flP Ob.imports os i (k + 1)) by
                          rw [ST.out, misP_snoc]
                          exact fun hh => hh.elim NO.out (fun e => e hhv))
                        clear hin hhv NO ST MM
                        go_wp2_with (at_lookup; refine wpList_look_run _ rfl _ _ _ rfl _ _ _ rfl rfl ELK.out ?_)
                        go_roundw
                        case rel => exact ⟨k + 1, by omega, by go_num, NO2.out, GK.out.trans NB.out⟩
                        case measure => simp [intOf]; omega
                      · have FN := Lib.hid (RVI.out.trans (impV10 NOM.out MM.out (by rw [show (⟨snm, sh⟩ : Im).name = snm from rfl, hhv]; intro e; injection e with e; exact hhe e)))
                        obtain ⟨m1, m2', m3', m4'⟩ := int_ne hhe
                        obtain rfl : rv = 10 := FN.out
                        clear hin hhv NO ST MM RVI
                        go_wp2_with (at_lookup; refine wpList_look_run _ rfl _ _ _ rfl _ _ _ rfl rfl ELK.out ?_)
                        go_returns
                        exact ⟨rfl, N3.out.trans (NWA.out.trans (GK.out.trans NB.out))⟩
                    · obtain rfl : k = m2 := by omega
                      have NO2 := Lib.hid (show ¬ misP os (flP Ob.imports os (i + 1) 0) by rw [flP_next (f := Ob.imports) HU.out (Nat.le_of_eq HM2.out.symm)]; exact NO.out)
                      clear NO
                      go_wp2_with fail
                      go_roundw
                      case rel => exact ⟨i + 1, by omega, by go_num, NO2.out, NWA.out.trans GK.out⟩
                      case measure => simp [intOf]; omega
                · have FN := Lib.hid (show rv = 0 from RVI.out.trans (impV0 NOM.out (by have := NO.out; rw [flP_all (by have := HN.out; omega)] at this; exact this)))
                  obtain rfl : rv = 0 := FN.out
                  clear RVI NO
                  go_wp2_with fail
                  go_returns
                  exact ⟨rfl, N3.out.trans GR4.out⟩
end Go.Proofs.Ytfdjlicegfgodaa
