/- Linking: what is refused, as plain words; the document's object and imports. -/
import Derived.Test.YtfdjlicegfgodaaLk2
namespace Go.Proofs.Ytfdjlicegfgodaa
open Go.RowKit
set_option linter.unusedSimpArgs false
set_option linter.unusedVariables false

/-- what has come of lists in objects, ahead of part k of object i -/
def flP {β : Type} (f : Ob → List β) (os : List Ob) (i k : Nat) : List β := (os.take i).flatMap f ++ (((os[i]?).map f).getD []).take k
section
variable {β : Type} {f : Ob → List β} {os : List Ob} {i k : Nat} {u : Ob}
theorem flP_zero : flP f os 0 0 = [] := by simp [flP]
theorem flP_step (hu : os[i]? = some u) (hk : k < (f u).length) : flP f os i (k + 1) = flP f os i k ++ [(f u)[k]] := by
  unfold flP
  rw [hu]
  simp only [Option.map_some, Option.getD_some]
  rw [List.take_succ_eq_append_getElem hk, List.append_assoc]
theorem flP_next (hu : os[i]? = some u) (hk : (f u).length ≤ k) : flP f os (i + 1) 0 = flP f os i k := by
  obtain ⟨hi, rfl⟩ := List.getElem?_eq_some_iff.1 hu
  unfold flP
  rw [List.getElem?_eq_getElem hi]
  simp only [Option.map_some, Option.getD_some]
  rw [List.take_of_length_le hk, List.take_succ_eq_append_getElem hi, List.flatMap_append]
  simp only [List.flatMap_cons, List.flatMap_nil, List.append_nil, List.take_zero]
theorem flP_all (hi : os.length ≤ i) (k : Nat) : flP f os i k = os.flatMap f := by
  unfold flP
  rw [List.take_of_length_le hi, List.getElem?_eq_none hi]
  simp
theorem flP_sub {x : β} (hu : os[i]? = some u) (h : x ∈ (f u)) : x ∈ os.flatMap f := List.mem_flatMap.2 ⟨u, List.mem_of_getElem? hu, h⟩
end
def pkgs (os : List Ob) : List ByteArray := os.map Ob.pkg
noncomputable def hashF (os : List Ob) : ByteArray → Option Int := os.foldl (fun f o => upd f o.pkg o.hash) (fun _ => none)
theorem hashF_nil : hashF [] = fun _ => none := rfl
theorem hashF_snoc (os : List Ob) (o : Ob) : hashF (os ++ [o]) = upd (hashF os) o.pkg o.hash := by simp [hashF]
theorem hashF_none {n : ByteArray} : ∀ {os : List Ob}, hashF os n = none ↔ n ∉ pkgs os := by
  intro os
  induction os using rev_ind with
  | h0 => simp [hashF, pkgs]
  | h1 l x ih =>
    rw [hashF_snoc]
    by_cases h : n = x.pkg
    · subst h
      rw [upd_self]
      simp [pkgs]
    · rw [upd_other _ _ h, ih]
      simp [pkgs, h]
theorem hashF_nodup : ∀ {os : List Ob} {i : Nat} {u : Ob}, (pkgs os).Nodup → os[i]? = some u → hashF os u.pkg = some u.hash := by
  intro os
  induction os using rev_ind with
  | h0 => intro i u _ h; simp at h
  | h1 l x ih =>
    intro i u hn hu
    have hn' := hn
    unfold pkgs at hn
    rw [List.map_append, List.nodup_append] at hn
    rw [hashF_snoc]
    by_cases hi : i < l.length
    · rw [List.getElem?_append_left hi] at hu
      rw [upd_other]
      · exact ih hn.1 hu
      · intro e
        exact hn.2.2 u.pkg (List.mem_map.2 ⟨u, List.mem_of_getElem? hu, rfl⟩) x.pkg (by simp) e
    · rw [List.getElem?_append_right (by omega)] at hu
      obtain ⟨h1, h2⟩ := List.getElem?_eq_some_iff.1 hu
      have : i - l.length = 0 := by simp at h1; omega
      simp only [this, List.getElem_cons_zero] at h2
      subst h2
      rw [upd_self]
def allI (os : List Ob) : List Im := os.flatMap Ob.imports
def missP (os : List Ob) (l : List Im) : Prop := ∃ m ∈ l, hashF os m.name = none
def misP (os : List Ob) (l : List Im) : Prop := ∃ m ∈ l, hashF os m.name ≠ some m.hash
theorem missP_snoc {os : List Ob} {l : List Im} {x : Im} : missP os (l ++ [x]) ↔ missP os l ∨ hashF os x.name = none := by
  unfold missP
  constructor
  · rintro ⟨m, hm, h⟩
    rcases List.mem_append.1 hm with hm | hm
    · exact .inl ⟨m, hm, h⟩
    · rw [List.mem_singleton.1 hm] at h; exact .inr h
  · rintro (⟨m, hm, h⟩ | h)
    · exact ⟨m, List.mem_append_left _ hm, h⟩
    · exact ⟨x, by simp, h⟩
theorem misP_snoc {os : List Ob} {l : List Im} {x : Im} : misP os (l ++ [x]) ↔ misP os l ∨ hashF os x.name ≠ some x.hash := by
  unfold misP
  constructor
  · rintro ⟨m, hm, h⟩
    rcases List.mem_append.1 hm with hm | hm
    · exact .inl ⟨m, hm, h⟩
    · rw [List.mem_singleton.1 hm] at h; exact .inr h
  · rintro (⟨m, hm, h⟩ | h)
    · exact ⟨m, List.mem_append_left _ hm, h⟩
    · exact ⟨x, by simp, h⟩
noncomputable def impV (os : List Ob) : Int := if dc (missP os (allI os)) then 6 else if dc (misP os (allI os)) then 10 else 0
noncomputable def packV (os : List Ob) : Int := if dc (∃ o ∈ os, codeV o ≠ 0) then 4 else if dc (¬ (pkgs os).Nodup) then 7 else impV os
def symsOK (os : List Ob) (bg : List ByteArray) : Prop :=
  (∀ n c, cnF n (occs os) = some c → c.twice = false) ∧ (∀ r ∈ os.flatMap Ob.relocs, ∃ c, cnF r.name (occs os) = some c) ∧ (∀ b ∈ bg, ∃ c, cnF b (occs os) = some c ∧ c.sym.kind = 1)
def sumC (os : List Ob) : Nat := (os.map (fun o => o.code.length)).sum
def sumD (os : List Ob) : Nat := (os.map (fun o => o.data.length)).sum
def limP (os : List Ob) (nb : Nat) : Prop := 1000 < nb ∨ 65536 < nb + 1 + sumC os ∨ 16384 < 2 + sumD os
noncomputable def badV (os : List Ob) (bg : List ByteArray) : Int := if packV os = 0 then (if dc (symsOK os bg) then (if dc (limP os bg.length) then 12 else 0) else 11) else packV os
/-- the first object of a package -/
def ObjP (os : List Ob) (n : ByteArray) (r : Int) : Prop :=
  (∃ i u, r = ((i : Nat) : Int) ∧ os[i]? = some u ∧ u.pkg = n ∧ n ∉ pkgs (os.take i)) ∨ (r = -1 ∧ n ∉ pkgs os)
theorem pkgs_snoc {os : List Ob} {i : Nat} {u : Ob} (hu : os[i]? = some u) : pkgs (os.take (i + 1)) = pkgs (os.take i) ++ [u.pkg] := by
  obtain ⟨hi, rfl⟩ := List.getElem?_eq_some_iff.1 hu
  unfold pkgs
  rw [List.take_succ_eq_append_getElem hi, List.map_append]
  rfl
set_option maxRecDepth 100000 in
set_option maxHeartbeats 4000000 in
theorem object_any {B : Nat} {W w : World} {os : List Ob} {v : Value} (ho : SlB B W 7 (ObAt B W) os v) (h : In B W w) (nm : ByteArray) :
    Calls Try.prog 69 #[v, .string nm] w fun e w' => ∃ r, e = .returned (.int .i64 r) ∧ ObjP os nm r ∧ Nw w w' := by
  obtain ⟨x, cp, rfl, ho, hl⟩ := ho.sl
  obtain ⟨_, _, b, o, hx⟩ := ho.addr
  have HO := Lib.hid ho
  have HX := Lib.hid hx
  have G := Lib.hid h
  obtain ⟨n, hn⟩ : ∃ n, n = os.length := ⟨_, rfl⟩
  rw [← hn] at hl HO ⊢
  have HN := Lib.hid hn
  clear ho hx h hn
  go_enter Try.func69, Try.ntmps69
  go_upto_region 2 with fail
  go_loopw [5] (fun vi wr => ∃ i : Nat, i ≤ n ∧ vi = .int .i64 (i : Int) ∧ nm ∉ pkgs (os.take i) ∧ Nw w wr) (fun vi _ => n - (intOf vi).toNat)
  case atStart => exact ⟨0, Nat.zero_le _, rfl, by simp [pkgs], Nw.refl _⟩
  case round =>
    obtain ⟨i, hi, rfl, hno, g⟩ := hrel
    have GR := Lib.hid g
    have NO := Lib.hid hno
    clear g hno
    by_cases hlt : i < n
    · have hio : i < os.length := by rw [← HN.out]; exact hlt
      obtain ⟨u, hu⟩ : ∃ u, os[i]? = some u := ⟨_, List.getElem?_eq_getElem hio⟩
      have HU := Lib.hid hu
      have hq0 : (0 : Int) ≤ (i : Int) := by omega
      have hq1 : (i : Int) < (n : Int) := by omega
      obtain rfl : x = _ := HX.out (ne_nil_of_lt hio)
      obtain ⟨xi, ci, xs, cs, xr, cr, xc, cc, xd, cd, ob⟩ := ob_read HO.out (G.out.nw GR.out) hu
      have q0 := ob.f0
      clear ob hu hio
      obtain ⟨pk, hpk⟩ : ∃ pk, pk = u.pkg := ⟨_, rfl⟩
      rw [← hpk] at q0
      have HPK := Lib.hid hpk
      clear hpk
      by_cases hnm : pk = nm
      · subst hnm
        have FIN := Lib.hid (show ∃ r : Int, Ending.returned (.int .i64 (i : Int)) = .returned (.int .i64 r) ∧ ObjP os pk r ∧ Nw w wr from ⟨_, rfl, .inl ⟨i, u, rfl, HU.out, HPK.out.symm, NO.out⟩, GR.out⟩)
        go_wp2_with fail
        go_returns
        exact FIN.out
      · obtain ⟨n1, n2, n3, n4⟩ := str_ne hnm
        have NO2 := Lib.hid (show nm ∉ pkgs (os.take (i + 1)) by
          rw [pkgs_snoc HU.out, List.mem_append, List.mem_singleton, ← HPK.out]
          exact fun hh => hh.elim NO.out (fun e => hnm e.symm))
        go_wp2_with fail
        go_roundw
        case rel => exact ⟨i + 1, by omega, by go_num, NO2.out, GR.out⟩
        case measure => simp [intOf]; omega
    · obtain rfl : i = n := by omega
      have FIN := Lib.hid (show ∃ r : Int, Ending.returned (.int .i64 (-1)) = .returned (.int .i64 r) ∧ ObjP os nm r ∧ Nw w wr from ⟨_, rfl, .inr ⟨rfl, by have := NO.out; rw [List.take_of_length_le (Nat.le_of_eq HN.out.symm)] at this; exact this⟩, GR.out⟩)
      go_wp2_with fail
      go_returns
      exact FIN.out
set_option maxRecDepth 100000 in
set_option maxHeartbeats 4000000 in
theorem imports_any {B : Nat} {W w : World} {os : List Ob} {v : Value} (ho : SlB B W 7 (ObAt B W) os v) (h : In B W w) (hnd : (pkgs os).Nodup) :
    Calls Try.prog 70 #[v] w (CodePost w (impV os)) := by
  obtain ⟨x, cp, rfl, ho, hl⟩ := ho.sl
  obtain ⟨_, _, b, o, hx⟩ := ho.addr
  have HO := Lib.hid ho
  have HX := Lib.hid hx
  have G := Lib.hid h
  have ND := Lib.hid hnd
  obtain ⟨n, hn⟩ : ∃ n, n = os.length := ⟨_, rfl⟩
  rw [← hn] at hl HO ⊢
  have HN := Lib.hid hn
  have OC := Lib.hid (fun (wz : World) (k : Nw w wz) (nm : ByteArray) => object_any HO.out (h.nw k) nm)
  obtain ⟨iv, hiv⟩ : ∃ iv, iv = impV os := ⟨_, rfl⟩
  rw [← hiv]
  have IV := Lib.hid hiv
  clear ho hx h hn hnd hiv
  go_enter Try.func70, Try.ntmps70
  go_upto_region 3 with fail
  go_loopw [3, 4] (fun ve vi wr => ∃ (i : Nat) (er : Int), i ≤ n ∧ vi = .int .i64 (i : Int) ∧ ve = .int .i64 er ∧ er = (if dc (misP os (flP Ob.imports os i 0)) then 10 else 0) ∧ ¬ missP os (flP Ob.imports os i 0) ∧ Nw w wr) (fun _ vi _ => n - (intOf vi).toNat)
  case atStart => exact ⟨0, 0, Nat.zero_le _, rfl, rfl, by rw [flP_zero, dc_false (by rintro ⟨m, hm, _⟩; simp at hm)]; rfl, by rw [flP_zero]; rintro ⟨m, hm, _⟩; simp at hm, Nw.refl _⟩
  case round =>
    obtain ⟨i, er, hi, rfl, rfl, her, hno, g⟩ := hrel
    have GR := Lib.hid g
    have NO := Lib.hid hno
    have HER := Lib.hid her
    clear g hno her
    rename World => wo
    by_cases hlt : i < n
    · have hio : i < os.length := by rw [← HN.out]; exact hlt
      obtain ⟨u, hu⟩ : ∃ u, os[i]? = some u := ⟨_, List.getElem?_eq_getElem hio⟩
      have HU := Lib.hid hu
      have hq0 : (0 : Int) ≤ (i : Int) := by omega
      have hq1 : (i : Int) < (n : Int) := by omega
      obtain rfl : x = _ := HX.out (ne_nil_of_lt hio)
      obtain ⟨xi, ci, xs, cs, xr, cr, xc, cc, xd, cd, ob⟩ := ob_read HO.out (G.out.nw GR.out) hu
      have HS := Lib.hid ob.hi
      obtain ⟨_, hsl, bs, os', hxs⟩ := ob.hi.addr
      have HXS := Lib.hid hxs
      obtain ⟨ms, hms⟩ : ∃ ms, ms = u.imports.length := ⟨_, rfl⟩
      have HMS := Lib.hid hms
      have q3 := ob.f2
      rw [← hms] at q3 hsl HS
      have Q3 := Lib.hid (fun (wz : World) (k : Nw wo wz) => k.keeps q3)
      clear ob hxs hms hio q3 hu
      go_upto_region 6 with fail
      go_loopw [3, 5] (fun ve vk wr => ∃ (k : Nat) (er : Int), k ≤ ms ∧ vk = .int .i64 (k : Int) ∧ ve = .int .i64 er ∧ er = (if dc (misP os (flP Ob.imports os i k)) then 10 else 0) ∧ ¬ missP os (flP Ob.imports os i k) ∧ Nw wo wr) (fun _ vk _ => ms - (intOf vk).toNat)
      case atStart => exact ⟨0, er, Nat.zero_le _, rfl, rfl, HER.out, NO.out, Nw.refl _⟩
      case round =>
        clear HER NO
        obtain ⟨k, er2, hk, rfl, rfl, her, hno, g⟩ := hrel
        have GZ := Lib.hid g
        have NO := Lib.hid hno
        have HER := Lib.hid her
        have q3 := Q3.out _ g
        clear g her hno
        by_cases hkt : k < ms
        · have hks : k < u.imports.length := by rw [← HMS.out]; exact hkt
          have hq2 : (0 : Int) ≤ (k : Int) := by omega
          have hq3 : (k : Int) < (ms : Int) := by omega
          obtain rfl : xi = _ := HXS.out (ne_nil_of_lt hks)
          have sy := im_read HS.out ((G.out.nw GR.out).nw GZ.out) hks
          have s0 := sy.f0
          have s1 := sy.f1
          have ST := Lib.hid (flP_step (f := Ob.imports) HU.out hks)
          have MM := Lib.hid (show u.imports[k] ∈ allI os from flP_sub HU.out (List.getElem_mem hks))
          clear sy
          generalize u.imports[k] = s at *
          obtain ⟨snm, sh⟩ := s
          dsimp only at s0 s1
          go_wp2_with fail
          refine (OC.out _ (GR.out.trans GZ.out) _).mono ?_
          rintro e1 w1 ⟨r, rfl, hr, k1⟩
          have K1 := Lib.hid k1
          rcases hr with ⟨j, u2, rfl, hu2, hpk, _⟩ | ⟨rfl, hnone⟩
          · have HF := Lib.hid (show hashF os snm = some u2.hash by rw [← hpk]; exact hashF_nodup ND.out hu2)
            have hj : j < os.length := (List.getElem?_eq_some_iff.1 hu2).1
            have hz1 : ¬ ((j : Nat) : Int) < 0 := by omega
            have hz2 : (0 : Int) ≤ (j : Int) := by omega
            have hz3 : (j : Int) < (n : Int) := by have := HN.out; omega
            have IN2 := Lib.hid ((((G.out.nw GR.out).nw GZ.out).nw k1))
            obtain ⟨yi, di, ys, ds, yr, dr, yc, dc', yd, dd, ob2⟩ := ob_read HO.out IN2.out hu2
            have t1 := ob2.f1
            have q3 := k1.keeps q3
            have s0 := k1.keeps s0
            have s1 := k1.keeps s1
            have NO2 := Lib.hid (show ¬ missP os (flP Ob.imports os i (k + 1)) by
              rw [ST.out, missP_snoc, HF.out]
              exact fun hh => hh.elim NO.out (fun e => by cases e))
            clear ob2 hpk hu2 hj k1
            generalize u2.hash = h2 at *
            by_cases hhe : h2 = sh
            · subst hhe
              have ER := Lib.hid (show er2 = (if dc (misP os (flP Ob.imports os i (k + 1))) then 10 else 0) by
                have e : misP os (flP Ob.imports os i k ++ [⟨snm, h2⟩]) ↔ misP os (flP Ob.imports os i k) := by
                  rw [misP_snoc, HF.out]
                  exact ⟨fun hh => hh.elim id (fun hh => absurd rfl hh), .inl⟩
                rw [HER.out, ST.out, dc_congr e])
              go_wp2_with fail
              go_region
              all_goals
                go_wp2_with fail
                go_roundw
                case rel => exact ⟨k + 1, er2, by omega, by go_num, rfl, ER.out, NO2.out, by first | exact (GZ.out.trans K1.out).drewN _ | exact (GZ.out.trans K1.out).drew | exact GZ.out.trans K1.out⟩
                case measure => simp [intOf]; omega
            · obtain ⟨m1, m2, m3, m4⟩ := int_ne hhe
              have ER := Lib.hid (show (10 : Int) = (if dc (misP os (flP Ob.imports os i (k + 1))) then 10 else 0) by
                rw [ST.out, dc_true (misP_snoc.2 (.inr (by rw [HF.out]; intro e; injection e with e; exact hhe e)))]
                rfl)
              go_wp2_with fail
              go_region
              all_goals
                go_wp2_with fail
                go_roundw
                case rel => exact ⟨k + 1, 10, by omega, by go_num, rfl, ER.out, NO2.out, by first | exact (GZ.out.trans K1.out).drewN _ | exact (GZ.out.trans K1.out).drew | exact GZ.out.trans K1.out⟩
                case measure => simp [intOf]; omega
          · have RV := Lib.hid (show iv = 6 by
              rw [IV.out]; unfold impV
              rw [dc_true ⟨_, MM.out, hashF_none.2 hnone⟩]; rfl)
            obtain rfl : iv = 6 := RV.out
            go_wp2_with fail
            go_returns
            exact ⟨rfl, GR.out.trans (GZ.out.trans K1.out)⟩
        · obtain rfl : k = ms := by omega
          have RV := Lib.hid (flP_next (f := Ob.imports) HU.out (Nat.le_of_eq HMS.out.symm))
          go_wp2_with fail
          go_roundw
          case rel => exact ⟨i + 1, er2, by omega, by go_num, rfl, by rw [RV.out]; exact HER.out, by rw [RV.out]; exact NO.out, GR.out.trans GZ.out⟩
          case measure => simp [intOf]; omega
    · obtain rfl : i = n := by omega
      have RV := Lib.hid (show iv = er by
        have h1 := HER.out
        have h2 := NO.out
        rw [flP_all (Nat.le_of_eq HN.out.symm)] at h1 h2
        rw [IV.out, h1]; unfold impV
        rw [dc_false (p := missP os (allI os)) h2]; rfl)
      obtain rfl : iv = er := RV.out
      go_wp2_with fail
      go_returns
      exact ⟨rfl, GR.out⟩
end Go.Proofs.Ytfdjlicegfgodaa
