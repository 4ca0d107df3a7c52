/- The law's own functions: heavy, linked. -/
import Derived.Test.YtfdjlicegfgodaaLk15
namespace Go.Proofs.Ytfdjlicegfgodaa
open Go.RowKit
set_option linter.unusedSimpArgs false
set_option linter.unusedVariables false

/-- no more than is gone through -/
def Light (os : List Ob) (bg : List ByteArray) : Prop := os.length ≤ 10 ∧ bg.length ≤ 1100 ∧ ∀ o ∈ os, o.syms.length ≤ 200 ∧ o.relocs.length ≤ 400 ∧ o.imports.length ≤ 50
def HeavyP (os : List Ob) (bg : List ByteArray) (w : World) (e : Ending) (w' : World) : Prop := ∃ r, e = .returned (.bool r) ∧ (r = false → Light os bg) ∧ Nw w w'
def LinkedP (os : List Ob) (bg : List ByteArray) (w : World) (e : Ending) (w' : World) : Prop := ∃ r, e = .returned (.bool r) ∧ (r = true → Light os bg ∧ badV os bg = 0) ∧ Nw w w'
theorem fromS_len : ∀ (l : List Sy) (i k : Nat), (fromS i k l).length = l.length
  | [], _, _ => rfl
  | _ :: r, i, k => by simp [fromS, fromS_len r i (k + 1)]
theorem fromO_len {c : Nat} : ∀ (l : List Ob) (i : Nat), (∀ o ∈ l, o.syms.length ≤ c) → (fromO i l).length ≤ c * l.length
  | [], _, _ => by simp [fromO]
  | o :: r, i, h => by
    have h1 := h o (by simp)
    have h2 := fromO_len r (i + 1) (fun x hx => h x (List.mem_cons_of_mem _ hx))
    simp only [fromO, List.length_append, fromS_len, List.length_cons, Nat.mul_succ]
    omega
theorem Light.occ {os : List Ob} {bg : List ByteArray} (h : Light os bg) : (occs os).length ≤ 2000 := by
  have h1 := fromO_len (c := 200) os 0 (fun o ho => (h.2.2 o ho).1)
  have h2 := h.1
  unfold occs
  omega
set_option maxRecDepth 100000 in
set_option maxHeartbeats 4000000 in
theorem heavy30_any {B : Nat} {W w : World} {os : List Ob} {bg : List ByteArray} {v vb : Value} (ho : SlB B W 7 (ObAt B W) os v) (hb : SlB B W 1 StrAt2 bg vb) (h : In B W w) :
    Calls Try.prog 26 #[v, vb] w (HeavyP os bg w) := by
  obtain ⟨x, cp, rfl, ho, hl⟩ := ho.sl
  obtain ⟨_, _, b, o, hx⟩ := ho.addr
  obtain ⟨xb, cb, rfl, hb, hlb⟩ := hb.sl
  have HO := Lib.hid ho
  have HX := Lib.hid hx
  have G := Lib.hid h
  obtain ⟨n, hn⟩ : ∃ n, n = os.length := ⟨_, rfl⟩
  rw [← hn] at hl HO ⊢
  obtain ⟨nb, hnb⟩ : ∃ n, n = bg.length := ⟨_, rfl⟩
  rw [← hnb] at hlb hb ⊢
  have HN := Lib.hid hn
  have HNB := Lib.hid hnb
  have GA := Lib.hid (fun (u : Ob) (cs : List Value) (wz : World) (hx : ObAt B W u cs) => great28_any (w := wz) u cs hx)
  clear ho hx h hn hnb hb
  by_cases h1 : (10 : Int) < (n : Int)
  · go_enter Try.func26, Try.ntmps26
    go_wp2_with fail
    go_returns
    exact ⟨true, rfl, fun e => (by cases e), Nw.refl _⟩
  by_cases h2 : (1100 : Int) < (nb : Int)
  · go_enter Try.func26, Try.ntmps26
    go_wp2_with fail
    go_returns
    exact ⟨true, rfl, fun e => (by cases e), Nw.refl _⟩
  have H1 := Lib.hid (show n ≤ 10 ∧ nb ≤ 1100 by omega)
  go_enter Try.func26, Try.ntmps26
  go_upto_region 5 with fail
  go_loopw [5, 6] (fun vn vi wr => ∃ (i : Nat) (nn : Int), i ≤ n ∧ vi = .int .i64 (i : Int) ∧ vn = .int .i64 nn ∧ 0 ≤ nn ∧ nn ≤ 600 * (i : Int) ∧ (∀ o ∈ os.take i, o.syms.length ≤ 200 ∧ o.relocs.length ≤ 400 ∧ o.imports.length ≤ 50) ∧ Nw w wr) (fun _ vi _ => n - (intOf vi).toNat)
  case atStart => exact ⟨0, 0, Nat.zero_le _, rfl, rfl, by omega, by omega, by simp, Nw.refl _⟩
  case round =>
    obtain ⟨i, nn, hi, rfl, rfl, hn0, hn1, hs, g⟩ := hrel
    have GR := Lib.hid g
    have HS := Lib.hid hs
    clear g hs
    rename World => wo
    by_cases hlt : i < n
    · have hio : i < os.length := by have := HN.out; omega
      obtain ⟨u, hu⟩ : ∃ u, os[i]? = some u := ⟨_, List.getElem?_eq_getElem hio⟩
      have HU := Lib.hid hu
      have hq0 : (0 : Int) ≤ (i : Int) := by omega
      have hq1 : (i : Int) < (n : Int) := by omega
      have hi10 : (i : Int) ≤ 10 := by have := H1.out.1; omega
      obtain rfl : x = _ := HX.out (ne_nil_of_lt hio)
      obtain ⟨xi, ci, xs, cs, xr, cr, xc, cc, xd, cd, ob1⟩ := ob_read HO.out (G.out.nw GR.out) hu
      have VC := Lib.hid (GA.out u _ wo ob1.ob)
      have q0 := ob1.f0
      have q1 := ob1.f1
      have q2 := ob1.f2
      have q3 := ob1.f3
      have q4 := ob1.f4
      have q5 := ob1.f5
      have q6 := ob1.f6
      clear ob1 hio hu
      have GN := Lib.hid (fun (hh : greatB u = false) => great_no hh)
      have TS := Lib.hid (fun (hh : u.syms.length ≤ 200 ∧ u.relocs.length ≤ 400 ∧ u.imports.length ≤ 50) => take_mem_snoc HU.out (P := fun o => o.syms.length ≤ 200 ∧ o.relocs.length ≤ 400 ∧ o.imports.length ≤ 50) HS.out hh)
      generalize u.pkg = upk at *
      generalize u.hash = uh at *
      generalize u.imports.length = m2 at *
      generalize u.syms.length = m3 at *
      generalize u.relocs.length = m4 at *
      generalize u.code.length = m5 at *
      generalize u.data.length = m6 at *
      generalize greatB u = gb at *
      go_wp2_with fail
      refine VC.out.mono ?_
      rintro e1 w1 ⟨rfl, k1⟩
      have K1 := Lib.hid k1
      have q3 := k1.keeps q3
      have q4 := k1.keeps q4
      clear k1 VC
      cases gb with
      | true =>
        clear GN TS
        go_wp2_with fail
        go_returns
        exact ⟨true, rfl, fun e => (by cases e), GR.out.trans K1.out⟩
      | false =>
        have GN2 := Lib.hid (GN.out (by trivial))
        have b3 : (m3 : Int) ≤ 200 := by have := GN2.out; omega
        have b4 : (m4 : Int) ≤ 400 := by have := GN2.out; omega
        have TS2 := Lib.hid (TS.out GN2.out)
        clear GN TS
        have FC := Lib.hid (fun (wz : World) (k : Nw w1 wz) => (⟨k.keeps q3, k.keeps q4⟩ : _ ∧ _))
        have hb5 : 0 ≤ nn + (m3 : Int) := by omega
        have hb6 : nn + (m3 : Int) + (m4 : Int) ≤ 600 * ((i : Int) + 1) := by omega
        have hw1 : IntKind.i64.wrap (nn + (m3 : Int)) = nn + (m3 : Int) := IntWalk.i64_in _ (by omega)
        have hw2 : IntKind.i64.wrap (nn + (m3 : Int) + (m4 : Int)) = nn + (m3 : Int) + (m4 : Int) := IntWalk.i64_in _ (by omega)
        go_wp2_with fail
        go_region_held3 (fun wz => wz.cell? ⟨b, o + i * 7 + 3, none⟩ = some (.slice xs m3 cs) ∧ wz.cell? ⟨b, o + i * 7 + 4, none⟩ = some (.slice xr m4 cr))
          (exact FC.out _ (by first | assumption | exact (Nw.refl _).drew | exact Nw.refl _))
          (fail)
        clear hw1 hw2
        go_wp2_with fail
        go_roundw
        case rel => exact ⟨i + 1, nn + m3 + m4, by omega, by go_num, rfl, by omega, by omega, TS2.out, (GR.out.trans K1.out).drew⟩
        case measure => simp [intOf]; omega
    · have FN := Lib.hid (show Light os bg from ⟨by have := H1.out; have := HN.out; omega, by have := H1.out; have := HNB.out; omega, by have := HS.out; rw [List.take_of_length_le (by have := HN.out; omega)] at this; exact this⟩)
      clear HS
      by_cases h5 : (1000 : Int) < nn
      · go_wp2_with fail
        go_returns
        exact ⟨true, rfl, fun _ => FN.out, GR.out⟩
      · go_wp2_with fail
        go_returns
        exact ⟨false, rfl, fun _ => FN.out, GR.out⟩
set_option maxRecDepth 100000 in
set_option maxHeartbeats 1000000 in
theorem linked_any {B : Nat} {W w : World} {os : List Ob} {bg : List ByteArray} {v vb : Value} (ho : SlB B W 7 (ObAt B W) os v) (hb : SlB B W 1 StrAt2 bg vb) (h : In B W w) :
    Calls Try.prog 20 #[v, vb] w (LinkedP os bg w) := by
  have HV := Lib.hid (heavy30_any ho hb h)
  have BA := Lib.hid (fun (wz : World) (k : Nw w wz) (hl : Light os bg) => bad_any ho hb (h.nw k) (by have := hl.1; omega) (by have := hl.2.1; omega))
  obtain ⟨x, n, c, rfl⟩ := ho.slice
  obtain ⟨xb, nb, cb, rfl⟩ := hb.slice
  clear ho hb h
  obtain ⟨bv, hbv⟩ : ∃ bv, bv = badV os bg := ⟨_, rfl⟩
  rw [← hbv] at BA
  have HBV := Lib.hid hbv
  clear hbv
  go_enter Try.func20, Try.ntmps20
  go_wp2_with fail
  refine HV.out.mono ?_
  rintro e1 w1 ⟨r, rfl, hr, k1⟩
  have K1 := Lib.hid k1
  have HR := Lib.hid hr
  clear k1 hr HV
  cases r with
  | true =>
    clear HR
    go_wp2_with fail
    go_returns
    exact ⟨false, rfl, fun e => (by cases e), K1.out⟩
  | false =>
    have LT := Lib.hid (HR.out (by trivial))
    have BW := Lib.hid (BA.out _ K1.out LT.out)
    clear HR BA
    go_wp2_with fail
    refine BW.out.mono ?_
    rintro e2 w2 ⟨rfl, k2⟩
    have K2 := Lib.hid (K1.out.trans k2)
    clear k2 BW
    by_cases hb : bv = 0
    · subst hb
      have FN := Lib.hid (show LinkedP os bg w (.returned (.bool true)) w2 from ⟨true, rfl, fun _ => ⟨LT.out, HBV.out.symm⟩, K2.out⟩)
      go_wp2_with fail
      go_returns
      exact FN.out
    · obtain ⟨m1, m2, m3, m4⟩ := int_ne hb
      have FN := Lib.hid (show LinkedP os bg w (.returned (.bool false)) w2 from ⟨false, rfl, fun e => (by cases e), K2.out⟩)
      go_wp2_with fail
      go_returns
      exact FN.out
end Go.Proofs.Ytfdjlicegfgodaa
