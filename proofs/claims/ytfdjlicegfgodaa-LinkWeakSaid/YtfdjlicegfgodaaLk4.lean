/- Linking: the document's symbols. -/
import Derived.Test.YtfdjlicegfgodaaLk3
namespace Go.Proofs.Ytfdjlicegfgodaa
open Go.RowKit
set_option linter.unusedSimpArgs false
set_option linter.unusedVariables false

/-- the strong ones count where they lie -/
def stA (os : List Ob) (l : List Occ) : Prop := ∀ x ∈ l, x.s.weak = false → ∃ c, cnF x.s.name (occs os) = some c ∧ c.obj = x.i ∧ c.pos = x.k
def stB (os : List Ob) (l : List Re) : Prop := ∀ r ∈ l, ∃ c, cnF r.name (occs os) = some c
def stC (os : List Ob) (l : List ByteArray) : Prop := ∀ b ∈ l, ∃ c, cnF b (occs os) = some c ∧ c.sym.kind = 1
theorem symsOK_iff (os : List Ob) (bg : List ByteArray) : symsOK os bg ↔ stA os (occs os) ∧ stB os (os.flatMap Ob.relocs) ∧ stC os bg := by
  unfold symsOK
  rw [twice_iff]
  exact Iff.rfl
theorem stA_snoc {os : List Ob} {l : List Occ} {x : Occ} (h : stA os l) (hx : x.s.weak = false → ∃ c, cnF x.s.name (occs os) = some c ∧ c.obj = x.i ∧ c.pos = x.k) : stA os (l ++ [x]) := by
  intro y hy
  rcases List.mem_append.1 hy with hy | hy
  · exact h y hy
  · rw [List.mem_singleton.1 hy]; exact hx
theorem stB_snoc {os : List Ob} {l : List Re} {x : Re} (h : stB os l) (hx : ∃ c, cnF x.name (occs os) = some c) : stB os (l ++ [x]) := by
  intro y hy
  rcases List.mem_append.1 hy with hy | hy
  · exact h y hy
  · rw [List.mem_singleton.1 hy]; exact hx
theorem stC_snoc {os : List Ob} {l : List ByteArray} {x : ByteArray} (h : stC os l) (hx : ∃ c, cnF x (occs os) = some c ∧ c.sym.kind = 1) : stC os (l ++ [x]) := by
  intro y hy
  rcases List.mem_append.1 hy with hy | hy
  · exact h y hy
  · rw [List.mem_singleton.1 hy]; exact hx
theorem occ_in {os : List Ob} {i k : Nat} {u : Ob} (hu : os[i]? = some u) (hk : k < u.syms.length) : (⟨i, k, u.syms[k]⟩ : Occ) ∈ occs os := by
  obtain ⟨hi, rfl⟩ := List.getElem?_eq_some_iff.1 hu
  exact mem_occ.2 ⟨hi, hk, rfl⟩
theorem cn_some {os : List Ob} {x : Occ} (hx : x ∈ occs os) : ∃ c, cnF x.s.name (occs os) = some c := by
  cases hc : cnF x.s.name (occs os) with
  | none => exact absurd rfl (cnF_none.1 hc x hx)
  | some c => exact ⟨c, rfl⟩
set_option maxRecDepth 100000 in
set_option maxHeartbeats 8000000 in
theorem symbols_any {B : Nat} {W w : World} {os : List Ob} {bg : List ByteArray} {v vb : Value} (ho : SlB B W 7 (ObAt B W) os v) (hb : SlB B W 1 StrAt2 bg vb) (h : In B W w) :
    Calls Try.prog 71 #[v, vb] w (BoolPost w (dc (symsOK os bg))) := by
  obtain ⟨x, cp, rfl, ho, hl⟩ := ho.sl
  obtain ⟨_, _, b, o, hx⟩ := ho.addr
  obtain ⟨xb, cb, rfl, hb, hlb⟩ := hb.sl
  obtain ⟨_, _, bb, ob, hxb⟩ := hb.addr
  have HO := Lib.hid ho
  have HX := Lib.hid hx
  have HB := Lib.hid hb
  have HXB := Lib.hid hxb
  have G := Lib.hid h
  obtain ⟨n, hn⟩ : ∃ n, n = os.length := ⟨_, rfl⟩
  rw [← hn] at hl HO ⊢
  obtain ⟨nb, hnb⟩ : ∃ n, n = bg.length := ⟨_, rfl⟩
  rw [← hnb] at hlb HB ⊢
  have HN := Lib.hid hn
  have HNB := Lib.hid hnb
  have OC := Lib.hid (fun (wz : World) (k : Nw w wz) (nm : ByteArray) => owner_any HO.out (h.nw k) nm)
  obtain ⟨rv, hrv⟩ : ∃ rv, rv = dc (symsOK os bg) := ⟨_, rfl⟩
  rw [← hrv]
  have RV := Lib.hid hrv
  have NOA := Lib.hid (show ∀ y, y ∈ occs os → y.s.weak = false → (¬ ∃ c, cnF y.s.name (occs os) = some c ∧ c.obj = y.i ∧ c.pos = y.k) → rv = false from fun y h1 h2 h3 => by
    rw [hrv]; exact dc_false (fun hh => h3 (((symsOK_iff os bg).1 hh).1 y h1 h2)))
  have NOB := Lib.hid (show ∀ r, r ∈ os.flatMap Ob.relocs → cnF r.name (occs os) = none → rv = false from fun r h1 h2 => by
    rw [hrv]; exact dc_false (fun hh => by obtain ⟨c, hc⟩ := ((symsOK_iff os bg).1 hh).2.1 r h1; rw [h2] at hc; cases hc))
  have NOC := Lib.hid (show ∀ y, y ∈ bg → (¬ ∃ c, cnF y (occs os) = some c ∧ c.sym.kind = 1) → rv = false from fun y h1 h2 => by
    rw [hrv]; exact dc_false (fun hh => h2 (((symsOK_iff os bg).1 hh).2.2 y h1)))
  clear ho hx h hn hrv hb hxb hnb
  go_enter Try.func71, Try.ntmps71
  go_upto_region 2 with fail
  go_loopw [5] (fun vi wr => ∃ i : Nat, i ≤ n ∧ vi = .int .i64 (i : Int) ∧ stA os (occP os i 0) ∧ stB os (flP Ob.relocs os i 0) ∧ Nw w wr) (fun vi _ => n - (intOf vi).toNat)
  case atStart => exact ⟨0, Nat.zero_le _, rfl, by rw [occP_zero]; intro y hy; simp at hy, by rw [flP_zero]; intro y hy; simp at hy, Nw.refl _⟩
  case round =>
    obtain ⟨i, hi, rfl, ha, hbb, g⟩ := hrel
    have GR := Lib.hid g
    have HA := Lib.hid ha
    have HBB := Lib.hid hbb
    clear g ha hbb
    rename World => wo
    by_cases hlt : i < n
    · have hio : i < os.length := by have := HN.out; omega
      obtain ⟨u, hu⟩ : ∃ u, os[i]? = some u := ⟨_, List.getElem?_eq_getElem hio⟩
      have HU := Lib.hid hu
      have hq0 : (0 : Int) ≤ (i : Int) := by omega
      have hq1 : (i : Int) < (n : Int) := by omega
      obtain rfl : x = _ := HX.out (ne_nil_of_lt hio)
      obtain ⟨xi, ci, xs, cs, xr, cr, xc, cc, xd, cd, ob1⟩ := ob_read HO.out (G.out.nw GR.out) hu
      have HS := Lib.hid ob1.hs
      obtain ⟨_, hsl, bs, os', hxs⟩ := ob1.hs.addr
      have HXS := Lib.hid hxs
      have HR := Lib.hid ob1.hr
      obtain ⟨_, hrl, br, or', hxr⟩ := ob1.hr.addr
      have HXR := Lib.hid hxr
      obtain ⟨ms, hms⟩ : ∃ ms, ms = u.syms.length := ⟨_, rfl⟩
      have HMS := Lib.hid hms
      obtain ⟨mr, hmr⟩ : ∃ mr, mr = u.relocs.length := ⟨_, rfl⟩
      have HMR := Lib.hid hmr
      have q3 := ob1.f3
      have q4 := ob1.f4
      rw [← hms] at q3 hsl HS
      rw [← hmr] at q4 hrl HR
      have Q3 := Lib.hid (fun (wz : World) (k : Nw wo wz) => k.keeps q3)
      have Q4 := Lib.hid (fun (wz : World) (k : Nw wo wz) => k.keeps q4)
      clear ob1 hxs hxr hms hmr hio q3 q4 hu
      go_upto_region 5 with fail
      go_loopw [6] (fun vk wr => ∃ k : Nat, k ≤ ms ∧ vk = .int .i64 (k : Int) ∧ stA os (occP os i k) ∧ Nw wo wr) (fun vk _ => ms - (intOf vk).toNat)
      case atStart => exact ⟨0, Nat.zero_le _, rfl, HA.out, Nw.refl _⟩
      case round =>
        clear HA
        obtain ⟨k, hk, rfl, ha, g⟩ := hrel
        have GZ := Lib.hid g
        have HA := Lib.hid ha
        have q3 := Q3.out _ g
        clear g ha
        by_cases hkt : k < ms
        · have hks : k < u.syms.length := by have := HMS.out; omega
          have hq2 : (0 : Int) ≤ (k : Int) := by omega
          have hq3 : (k : Int) < (ms : Int) := by omega
          obtain rfl : xs = _ := HXS.out (ne_nil_of_lt hks)
          have sy := sy_read HS.out ((G.out.nw GR.out).nw GZ.out) hks
          have s0 := sy.f0
          have s1 := sy.f1
          have s2 := sy.f2
          have s3 := sy.f3
          have s4 := sy.f4
          have s5 := sy.f5
          have ST := Lib.hid (occ_step HU.out hks)
          have MI := Lib.hid (occ_in HU.out hks)
          clear sy
          generalize u.syms[k] = s at *
          obtain ⟨snm, sk, sw, sa, sz, sf⟩ := s
          dsimp only at s0 s1 s2 s3 s4 s5
          have NA := Lib.hid (Nw.new wr (.cells #[.string snm, .int .i64 sk, .bool sw, .int .i64 sa, .int .i64 sz, .int .i64 sf] 44))
          have BA := Lib.hid (Blk.new wr [.string snm, .int .i64 sk, .bool sw, .int .i64 sa, .int .i64 sz, .int .i64 sf] 44)
          have cA := BA.out.cell
          obtain ⟨c, hc⟩ : ∃ c, cnF snm (occs os) = some c := cn_some MI.out
          have HC := Lib.hid hc
          have OW := Lib.hid (OC.out _ (GR.out.trans (GZ.out.trans NA.out)) snm)
          rw [hc] at OW
          clear hc
          go_wp2_with fail
          refine OW.out.mono ?_
          rintro e1 w1 ⟨rfl, k1⟩
          have K1 := Lib.hid k1
          have cB := (BA.out.nw k1).cell
          have NX := Lib.hid (GZ.out.trans (NA.out.trans k1))
          clear k1 cA OW s0 s1 s2 s3 s4 s5 q3
          obtain ⟨co, cpos, csy, ctw⟩ := c
          try simp only [oA, oB]
          cases sw with
          | true =>
            have HA2 := Lib.hid (show stA os (occP os i (k + 1)) by rw [ST.out]; exact stA_snoc HA.out (fun e => by cases e))
            clear MI HC
            go_wp2_with fail
            go_roundw
            case rel => exact ⟨k + 1, by omega, by go_num, HA2.out, NX.out⟩
            case measure => simp [intOf]; omega
          | false =>
            by_cases h1 : co = i
            · subst h1
              by_cases h2 : cpos = k
              · subst h2
                have HA2 := Lib.hid (show stA os (occP os co (cpos + 1)) by rw [ST.out]; exact stA_snoc HA.out (fun _ => ⟨_, HC.out, rfl, rfl⟩))
                clear MI HC
                go_wp2_with fail
                go_roundw
                case rel => exact ⟨cpos + 1, by omega, by go_num, HA2.out, NX.out⟩
                case measure => simp [intOf]; omega
              · obtain ⟨m1, m2, m3, m4⟩ := int_ne (show ¬ ((cpos : Nat) : Int) = (k : Int) by omega)
                have FN := Lib.hid (NOA.out _ MI.out rfl (by rintro ⟨c, g1, g2, g3⟩; rw [HC.out] at g1; injection g1 with g1; subst g1; exact h2 g3))
                obtain rfl : rv = false := FN.out
                clear MI HC NOA NOB NOC
                go_wp2_with fail
                go_returns
                exact ⟨rfl, GR.out.trans NX.out⟩
            · obtain ⟨m1, m2, m3, m4⟩ := int_ne (show ¬ ((co : Nat) : Int) = (i : Int) by omega)
              have FN := Lib.hid (NOA.out _ MI.out rfl (by rintro ⟨c, g1, g2, g3⟩; rw [HC.out] at g1; injection g1 with g1; subst g1; exact h1 g2))
              obtain rfl : rv = false := FN.out
              clear MI HC NOA NOB NOC
              go_wp2_with fail
              go_returns
              exact ⟨rfl, GR.out.trans NX.out⟩
        · obtain rfl : k = ms := by omega
          have HA2 := Lib.hid (show stA os (occP os (i + 1) 0) by rw [occ_next HU.out (Nat.le_of_eq HMS.out.symm)]; exact HA.out)
          clear HA
          rename World => wy
          go_upto_region 12 with fail
          go_loopw [10] (fun vk wr => ∃ k : Nat, k ≤ mr ∧ vk = .int .i64 (k : Int) ∧ stB os (flP Ob.relocs os i k) ∧ Nw wy wr) (fun vk _ => mr - (intOf vk).toNat)
          case atStart => exact ⟨0, Nat.zero_le _, rfl, HBB.out, Nw.refl _⟩
          case round =>
            clear HBB
            obtain ⟨j, hj, rfl, hbb, g⟩ := hrel
            have GJ := Lib.hid g
            have HBB := Lib.hid hbb
            have q4 := Q4.out _ (GZ.out.trans g)
            clear g hbb
            by_cases hjt : j < mr
            · have hjs : j < u.relocs.length := by have := HMR.out; omega
              have hq2 : (0 : Int) ≤ (j : Int) := by omega
              have hq3 : (j : Int) < (mr : Int) := by omega
              obtain rfl : xr = _ := HXR.out (ne_nil_of_lt hjs)
              have sy := re_read HR.out ((G.out.nw GR.out).nw (GZ.out.trans GJ.out)) hjs
              have s2 := sy.f2
              have ST := Lib.hid (flP_step (f := Ob.relocs) HU.out hjs)
              have MI := Lib.hid (flP_sub (f := Ob.relocs) HU.out (List.getElem_mem hjs))
              clear sy
              generalize u.relocs[j] = s at *
              obtain ⟨rd, ra, rn⟩ := s
              dsimp only at s2
              have OW := Lib.hid (OC.out _ (GR.out.trans (GZ.out.trans GJ.out)) rn)
              cases hc : cnF rn (occs os) with
              | none =>
                rw [hc] at OW
                have FN := Lib.hid (NOB.out _ MI.out hc)
                obtain rfl : rv = false := FN.out
                clear hc NOA NOB NOC MI
                go_wp2_with fail
                refine OW.out.mono ?_
                rintro e1 w1 ⟨rfl, k1⟩
                have K1 := Lib.hid k1
                clear k1
                try simp only [oA, oB]
                go_wp2_with fail
                go_returns
                exact ⟨rfl, GR.out.trans (GZ.out.trans (GJ.out.trans K1.out))⟩
              | some c =>
                rw [hc] at OW
                have HB2 := Lib.hid (show stB os (flP Ob.relocs os i (j + 1)) by rw [ST.out]; exact stB_snoc HBB.out ⟨_, hc⟩)
                obtain ⟨co, cpos, csy, ctw⟩ := c
                try simp only [oA, oB] at OW
                have hz1 : ¬ ((co : Nat) : Int) < 0 := by omega
                clear hc MI HBB
                go_wp2_with fail
                refine OW.out.mono ?_
                rintro e1 w1 ⟨rfl, k1⟩
                have K1 := Lib.hid k1
                clear k1
                go_wp2_with fail
                go_roundw
                case rel => exact ⟨j + 1, by omega, by go_num, HB2.out, GJ.out.trans K1.out⟩
                case measure => simp [intOf]; omega
            · obtain rfl : j = mr := by omega
              have HB2 := Lib.hid (show stB os (flP Ob.relocs os (i + 1) 0) by rw [flP_next (f := Ob.relocs) HU.out (Nat.le_of_eq HMR.out.symm)]; exact HBB.out)
              clear HBB
              go_wp2_with fail
              go_roundw
              case rel => exact ⟨i + 1, by omega, by go_num, HA2.out, HB2.out, GR.out.trans (GZ.out.trans GJ.out)⟩
              case measure => simp [intOf]; omega
    · have HA2 := Lib.hid (show stA os (occs os) by have := HA.out; rw [occP_all (by have := HN.out; omega)] at this; exact this)
      have HB2 := Lib.hid (show stB os (os.flatMap Ob.relocs) by have := HBB.out; rw [flP_all (by have := HN.out; omega)] at this; exact this)
      clear HA HBB
      go_upto_region 18 with fail
      go_loopw [13] (fun vk wr => ∃ k : Nat, k ≤ nb ∧ vk = .int .i64 (k : Int) ∧ stC os (bg.take k) ∧ Nw wo wr) (fun vk _ => nb - (intOf vk).toNat)
      case atStart => exact ⟨0, Nat.zero_le _, rfl, by intro y hy; simp at hy, Nw.refl _⟩
      case round =>
        obtain ⟨j, hj, rfl, hcc, g⟩ := hrel
        have GJ := Lib.hid g
        have HCC := Lib.hid hcc
        clear g hcc
        by_cases hjt : j < nb
        · have hjs : j < bg.length := by have := HNB.out; omega
          have hq2 : (0 : Int) ≤ (j : Int) := by omega
          have hq3 : (j : Int) < (nb : Int) := by omega
          obtain rfl : xb = _ := HXB.out (ne_nil_of_lt hjs)
          have s0 := (str_read HB.out ((G.out.nw GR.out).nw GJ.out) hjs).1
          have ST := Lib.hid (List.take_succ_eq_append_getElem hjs)
          have MI := Lib.hid (List.getElem_mem hjs)
          generalize bg[j] = bn at *
          have OW := Lib.hid (OC.out _ (GR.out.trans GJ.out) bn)
          cases hc : cnF bn (occs os) with
          | none =>
            rw [hc] at OW
            have FN := Lib.hid (NOC.out _ MI.out (by rintro ⟨c, g1, _⟩; rw [hc] at g1; cases g1))
            obtain rfl : rv = false := FN.out
            clear hc NOA NOB NOC MI
            go_wp2_with fail
            refine OW.out.mono ?_
            rintro e1 w1 ⟨rfl, k1⟩
            have K1 := Lib.hid k1
            clear k1
            try simp only [oA, oB]
            go_wp2_with fail
            go_returns
            exact ⟨rfl, GR.out.trans (GJ.out.trans K1.out)⟩
          | some c =>
            rw [hc] at OW
            have NC := Lib.hid (fun (hk : ¬ c.sym.kind = 1) => NOC.out _ MI.out (by rintro ⟨c', g1, g2⟩; rw [hc] at g1; injection g1 with g1; subst g1; exact hk g2))
            have HC2 := Lib.hid (fun (hk : c.sym.kind = 1) => (show stC os (bg.take (j + 1)) by rw [ST.out]; exact stC_snoc HCC.out ⟨c, hc, hk⟩))
            obtain ⟨v, hv, h1, h2, h3⟩ := cn_at_all hc
            obtain ⟨co, cpos, csy, ctw⟩ := c
            dsimp only at hv h1 h2 h3 NC HC2
            have hz1 : ¬ ((co : Nat) : Int) < 0 := by omega
            have hz2 : (0 : Int) ≤ (co : Int) := by omega
            have hz3 : (co : Int) < (n : Int) := by have := HN.out; omega
            have hz4 : (0 : Int) ≤ (cpos : Int) := by omega
            have hz5 : (cpos : Int) < (v.syms.length : Int) := by omega
            obtain rfl : x = _ := HX.out (ne_nil_of_lt h1)
            obtain ⟨yi, di, ys, ds, yr, dr, yc, dc', yd, dd, ob2⟩ := ob_read HO.out ((G.out.nw GR.out).nw GJ.out) hv
            obtain ⟨_, hsl2, b2, o2, hx2⟩ := ob2.hs.addr
            obtain rfl : ys = _ := hx2 (ne_nil_of_lt h2)
            have sy2 := sy_read ob2.hs ((G.out.nw GR.out).nw GJ.out) h2
            rw [h3] at sy2
            have t3 := ob2.f3
            have t1 := sy2.f1
            clear ob2 sy2 hx2 h3 hc MI HCC hv h2
            generalize v.syms.length = l2 at *
            generalize csy.kind = kd at *
            clear h1
            go_wp2_with fail
            refine OW.out.mono ?_
            rintro e1 w1 ⟨rfl, k1⟩
            have K1 := Lib.hid k1
            have t3 := k1.keeps t3
            have t1 := k1.keeps t1
            clear k1
            simp only [oA, oB]
            by_cases hk1 : kd = 1
            · have HC3 := Lib.hid (HC2.out hk1)
              subst hk1
              go_wp2_with fail
              go_roundw
              case rel => exact ⟨j + 1, by omega, by go_num, HC3.out, GJ.out.trans K1.out⟩
              case measure => simp [intOf]; omega
            · have FN := Lib.hid (NC.out hk1)
              obtain ⟨m1, m2, m3, m4⟩ := int_ne hk1
              obtain rfl : rv = false := FN.out
              clear NC HC2 NOA NOB NOC
              go_wp2_with fail
              go_returns
              exact ⟨rfl, GR.out.trans (GJ.out.trans K1.out)⟩
        · have FN := Lib.hid (show rv = true by
            rw [RV.out]
            refine dc_true ((symsOK_iff os bg).2 ⟨HA2.out, HB2.out, ?_⟩)
            have := HCC.out
            rw [List.take_of_length_le (by have := HNB.out; omega)] at this
            exact this)
          obtain rfl : rv = true := FN.out
          clear NOA NOB NOC HCC HA2 HB2
          go_wp2_with fail
          go_returns
          exact ⟨rfl, GR.out.trans GJ.out⟩
end Go.Proofs.Ytfdjlicegfgodaa
