/- Linking: the program's symbols, large. -/
import Derived.Test.YtfdjlicegfgodaaLk8
import Derived.Maps.RangeRun
namespace Go.Proofs.Ytfdjlicegfgodaa
open Go.RowKit
set_option linter.unusedSimpArgs false
set_option linter.unusedVariables false

theorem LkAt.nw {w w' : World} {p mb nb : Nat} {v vb : Value} (h : LkAt w p v vb mb nb) (k : Nw w w') : LkAt w' p v vb mb nb := Blk.nw h k
/-- an entry of the map, laid open -/
theorem Coll.entry {os : List Ob} {nb base : Nat} {w : World} {mb : Nat} {ptr : ByteArray → Option Nat} {l : List Occ} (h : Coll os nb base w mb ptr l) {s : ByteArray} {v : Value} (hv : ptrV ptr s = some v) :
    ∃ b c, v = .pointer (some ⟨b, 0, none⟩) ∧ ptr s = some b ∧ cnF s l = some c ∧ Blk w b (cnCs os nb c) 121 := by
  unfold ptrV at hv
  cases hp : ptr s with
  | none => rw [hp] at hv; cases hv
  | some b =>
    rw [hp] at hv
    injection hv with hv
    obtain ⟨c, h1, h2, _⟩ := h.blk s b hp
    exact ⟨b, c, hv.symm, rfl, h1, h2⟩
theorem Coll.value {os : List Ob} {nb base : Nat} {w : World} {mb : Nat} {ptr : ByteArray → Option Nat} {l : List Occ} (h : Coll os nb base w mb ptr l) {s : ByteArray} {c : Cn} (hc : cnF s l = some c) :
    ∃ b, ptr s = some b ∧ Blk w b (cnCs os nb c) 121 := by
  cases hp : ptr s with
  | none => rw [h.no s hp] at hc; cases hc
  | some b =>
    obtain ⟨c', h1, h2, _⟩ := h.blk s b hp
    rw [hc] at h1
    injection h1 with h1
    subst h1
    exact ⟨b, rfl, h2⟩
theorem Coll.absent {os : List Ob} {nb base : Nat} {w : World} {mb : Nat} {ptr : ByteArray → Option Nat} {l : List Occ} (h : Coll os nb base w mb ptr l) {s : ByteArray} (hc : cnF s l = none) : ptr s = none := by
  cases hp : ptr s with
  | none => rfl
  | some b => obtain ⟨c', h1, _⟩ := h.blk s b hp; rw [hc] at h1; cases h1
/-- m[s] of the collected -/
theorem Coll.look {os : List Ob} {nb base : Nat} {w : World} {mb : Nat} {ptr : ByteArray → Option Nat} {l : List Occ} (h : Coll os nb base w mb ptr l) {s : ByteArray} (hs : Fits s) {o : Option Nat} (ho : ptr s = o) :
    (Instr.lookup 93 (.map (some mb)) (.string s) false).run Try.prog w = .ok (.pointer (o.map fun b => ⟨b, 0, none⟩)) w := by
  have := h.map.look Try.underlying93 (zeroPtr w) hs
  unfold ptrV at this
  rw [ho] at this
  cases o <;> exact this
set_option maxRecDepth 100000 in
set_option maxHeartbeats 8000000 in
theorem psymbols_any {B : Nat} {W w : World} {os : List Ob} {bg : List ByteArray} {v vb : Value} {p mb nb base : Nat} {ptr : ByteArray → Option Nat} (ho : SlB B W 7 (ObAt B W) os v) (hb : SlB B W 1 StrAt2 bg vb) (h : In B W w) (hL : LkAt w p v vb mb nb) (hcl : Coll os nb base w mb ptr (occs os)) :
    Calls Try.prog 52 #[.pointer (some ⟨p, 0, none⟩)] w (CodePost w (if dc (symsOK os bg) then 0 else 11)) := by
  obtain ⟨x, cp, rfl, ho, hl⟩ := ho.sl
  obtain ⟨_, _, b, o, hx⟩ := ho.addr
  obtain ⟨xb, cb, rfl, hb, hlb⟩ := hb.sl
  obtain ⟨_, _, bb, ob, hxb⟩ := hb.addr
  have HO := Lib.hid ho
  have HX := Lib.hid hx
  have HB := Lib.hid hb
  have HXB := Lib.hid hxb
  have G := Lib.hid h
  have CL := Lib.hid hcl
  obtain ⟨n, hn⟩ : ∃ n, n = os.length := ⟨_, rfl⟩
  rw [← hn] at hl HO hL
  obtain ⟨nbb, hnb⟩ : ∃ n, n = bg.length := ⟨_, rfl⟩
  rw [← hnb] at hlb HB hL
  have HN := Lib.hid hn
  have HNB := Lib.hid hnb
  have LK := Lib.hid (fun (wz : World) (k : Nw w wz) => hL.nw k)
  obtain ⟨rv, hrv⟩ : ∃ rv : Int, rv = if dc (symsOK os bg) then 0 else 11 := ⟨_, rfl⟩
  rw [← hrv]
  have RV := Lib.hid (fun (h1 : ∀ n c, cnF n (occs os) = some c → c.twice = false) (h2 : stB os (os.flatMap Ob.relocs)) (h3 : stC os bg) => (show rv = 0 by rw [hrv, dc_true ⟨h1, h2, h3⟩]; rfl))
  have NOA := Lib.hid (fun (n : ByteArray) (c : Cn) (h1 : cnF n (occs os) = some c) (h2 : c.twice = true) => (show rv = 11 by
    rw [hrv, dc_false (fun hh => by have := hh.1 n c h1; rw [h2] at this; cases this)]; rfl))
  have NOB := Lib.hid (fun (r : Re) (h1 : r ∈ os.flatMap Ob.relocs) (h2 : cnF r.name (occs os) = none) => (show rv = 11 by
    rw [hrv, dc_false (fun hh => by obtain ⟨c, hc⟩ := hh.2.1 r h1; rw [h2] at hc; cases hc)]; rfl))
  have NOC := Lib.hid (fun (y : ByteArray) (h1 : y ∈ bg) (h2 : ¬ ∃ c, cnF y (occs os) = some c ∧ c.sym.kind = 1) => (show rv = 11 by
    rw [hrv, dc_false (fun hh => h2 (hh.2.2 y h1))]; rfl))
  obtain ⟨es, clock, hbm, hst, hes, hall⟩ := hcl.map
  have hrg := run_range_map (P := Try.prog) w 93 9 118 mb es clock Try.underlying93 hbm
  have HBM := Lib.hid (fun (wz : World) (k : Nw w wz) => (show wz.heap[mb]? = some (.map es clock) from (k.block mb (Array.getElem?_eq_some_iff.1 hbm).1 (fun x => x)).trans hbm))
  have HST := Lib.hid hst
  have HES := Lib.hid hes
  have HALL := Lib.hid hall
  obtain ⟨r, hr⟩ : ∃ r, r = w.heap.size := ⟨_, rfl⟩
  have NI := Lib.hid (Nw.new w (.mapIter (some mb) clock #[] clock))
  have IT := Lib.hid (show (w.alloc (.mapIter (some mb) clock #[] clock)).heap[r]? = some (.mapIter (some mb) clock #[] clock) by rw [hr]; exact heap_alloc_new w _)
  have c2 : w.cell? ⟨p, 2, none⟩ = some (.map (some mb)) := hL.cell 2
  rw [← hr] at hrg
  have HR := Lib.hid (show w.heap.size ≤ r by omega)
  clear ho hx h hn hrv hb hxb hnb hcl hbm hst hes hall hL hr
  go_enter Try.func52, Try.ntmps52
  go_upto_region 2 with fail
  generalize w.alloc (.mapIter (some mb) clock #[] clock) = wI at *
  clear hrg c2
  go_loopw [] (fun wr => ∃ seen, wr.heap[r]? = some (.mapIter (some mb) clock seen clock) ∧ (∀ x ∈ es.toList, seen.contains x.born = true → ∀ s c, x.key = .string s → cnF s (occs os) = some c → c.twice = false) ∧ Nw w wr) (fun wr => (leftOf es (wr.iterSeen r)).size)
  case atStart => exact ⟨#[], IT.out, fun x _ h => by simp at h, NI.out⟩
  case round =>
    obtain ⟨seen, hit, hno, g⟩ := hrel
    have GR := Lib.hid g
    have NO := Lib.hid hno
    have law := run_next_at (P := Try.prog) wr 0 r mb clock clock seen es clock hit (HBM.out _ g) HST.out.1 (Nat.le_refl _)
    have HIT := Lib.hid hit
    have ISN := Lib.hid (show wr.iterSeen r = seen by unfold World.iterSeen; rw [hit])
    clear g hno hit
    rename World => wo
    rcases law with ⟨h0, hrun⟩ | ⟨e, he, w1, hw1, hrun⟩
    · have hnx : ∀ ty, (Instr.next (.pointer (some ⟨r, 0, none⟩)) false ty).run Try.prog wo = .ok (.tuple #[.bool false]) wo := fun _ => hrun
      have TW := Lib.hid (show ∀ n c, cnF n (occs os) = some c → c.twice = false from fun n c hc => by
        obtain ⟨b1, hp, _⟩ := (CL.out.nw GR.out).value hc
        obtain ⟨e, he, hk⟩ := HALL.out n (.pointer (some ⟨b1, 0, none⟩)) (by unfold ptrV; rw [hp]; rfl)
        exact NO.out e he (all_seen es seen h0 e he) n c hk hc)
      have c0 : wo.cell? ⟨p, 0, none⟩ = some (.slice x n cp) := (LK.out _ GR.out).cell 0
      clear h0 hrun NO
      go_upto_region 7 with fail
      clear hnx
      go_loopw [30] (fun vi wr => ∃ i : Nat, i ≤ n ∧ vi = .int .i64 (i : Int) ∧ stB os (flP Ob.relocs os i 0) ∧ Nw w wr) (fun vi _ => n - (intOf vi).toNat)
      case atStart => exact ⟨0, Nat.zero_le _, rfl, by rw [flP_zero]; intro y hy; simp at hy, GR.out⟩
      case round =>
        clear c0
        obtain ⟨i, hi, rfl, hbb, g⟩ := hrel
        have GI := Lib.hid g
        have HBB := Lib.hid hbb
        clear g hbb
        rename World => wo2
        by_cases hlt : i < n
        · have hio : i < os.length := by have := HN.out; omega
          obtain ⟨u, hu⟩ : ∃ u, os[i]? = some u := ⟨_, List.getElem?_eq_getElem hio⟩
          have HU := Lib.hid hu
          have hq0 : (0 : Int) ≤ (i : Int) := by omega
          have hq1 : (i : Int) < (n : Int) := by omega
          obtain rfl : x = _ := HX.out (ne_nil_of_lt hio)
          obtain ⟨xi, ci', xs, cs, xr, cr, xc, cc, xd, cd, ob1⟩ := ob_read HO.out (G.out.nw GI.out) hu
          have q0 := ob1.f0
          have q1 := ob1.f1
          have q2 := ob1.f2
          have q3 := ob1.f3
          have q4 := ob1.f4
          have q5 := ob1.f5
          have q6 := ob1.f6
          have HRL := Lib.hid ob1.hr
          obtain ⟨_, hrl, br, or', hxr⟩ := ob1.hr.addr
          have HXR := Lib.hid hxr
          obtain ⟨mr, hmr⟩ : ∃ mr, mr = u.relocs.length := ⟨_, rfl⟩
          rw [← hmr] at q4 hrl HRL
          have HMR := Lib.hid hmr
          clear ob1 hio hu hxr hmr
          generalize u.pkg = upk at *
          generalize u.hash = uh at *
          generalize u.imports.length = m2 at *
          generalize u.syms.length = m3 at *
          generalize u.code.length = m5 at *
          generalize u.data.length = m6 at *
          have NA := Lib.hid (Nw.new wo2 (.cells #[.string upk, .int .i64 uh, .slice xi m2 ci', .slice xs m3 cs, .slice xr mr cr, .slice xc m5 cc, .slice xd m6 cd] 27))
          have cA := (Blk.new wo2 [.string upk, .int .i64 uh, .slice xi m2 ci', .slice xs m3 cs, .slice xr mr cr, .slice xc m5 cc, .slice xd m6 cd] 27).cell
          go_upto_region 10 with fail
          have GA := Lib.hid (GI.out.trans NA.out)
          generalize wo2.alloc (.cells #[.string upk, .int .i64 uh, .slice xi m2 ci', .slice xs m3 cs, .slice xr mr cr, .slice xc m5 cc, .slice xd m6 cd] 27) = wA at *
          clear cA q0 q1 q2 q3 q4 q5 q6 NA
          go_loopw [37] (fun vk wr => ∃ k : Nat, k ≤ mr ∧ vk = .int .i64 (k : Int) ∧ stB os (flP Ob.relocs os i k) ∧ Nw w wr) (fun vk _ => mr - (intOf vk).toNat)
          case atStart => exact ⟨0, Nat.zero_le _, rfl, HBB.out, GA.out⟩
          case round =>
            clear HBB GA
            obtain ⟨j, hj, rfl, hbb, g⟩ := hrel
            have GJ := Lib.hid g
            have HBB := Lib.hid hbb
            clear g hbb
            by_cases hjt : j < mr
            · have hjs : j < u.relocs.length := by have := HMR.out; omega
              have hq2 : (0 : Int) ≤ (j : Int) := by omega
              have hq3 : (j : Int) < (mr : Int) := by omega
              obtain rfl : xr = _ := HXR.out (ne_nil_of_lt hjs)
              have sy := re_read HRL.out (G.out.nw GJ.out) hjs
              have s0 := sy.f0
              have s1 := sy.f1
              have s2 := sy.f2
              have HFIT := Lib.hid sy.hn
              have ST := Lib.hid (flP_step (f := Ob.relocs) HU.out hjs)
              have MI := Lib.hid (flP_sub (f := Ob.relocs) HU.out (List.getElem_mem hjs))
              clear sy
              generalize u.relocs[j] = s at *
              obtain ⟨rd, ra, rn⟩ := s
              dsimp only at s0 s1 s2 HFIT
              have NB := Lib.hid (Nw.new wr (.cells #[.bool rd, .int .i64 ra, .string rn] 64))
              have BB := Lib.hid (Blk.new wr [.bool rd, .int .i64 ra, .string rn] 64)
              have GB := Lib.hid (GJ.out.trans NB.out)
              go_upto_region 12 with fail
              generalize wr.heap.size = bx at *
              generalize wr.alloc (.cells #[.bool rd, .int .i64 ra, .string rn] 64) = wB at *
              have F0 := Lib.hid (fun (wz : World) (k : Nw wB wz) => (⟨(LK.out _ (GB.out.trans k)).cell 2, (BB.out.nw k).cell 2⟩ : wz.cell? ⟨p, 2, none⟩ = some (.map (some mb)) ∧ wz.cell? ⟨bx, 2, none⟩ = some (.string rn)))
              clear s0 s1 s2
              cases hc : cnF rn (occs os) with
              | none =>
                have FN := Lib.hid (NOB.out _ MI.out hc)
                have FC := Lib.hid (fun (wz : World) (k : Nw wB wz) => (⟨(F0.out wz k).1, (F0.out wz k).2, (CL.out.nw (GB.out.trans k)).look HFIT.out ((CL.out.nw (GB.out.trans k)).absent hc)⟩ : wz.cell? ⟨p, 2, none⟩ = some (.map (some mb)) ∧ wz.cell? ⟨bx, 2, none⟩ = some (.string rn) ∧ (Instr.lookup 93 (.map (some mb)) (.string rn) false).run Try.prog wz = .ok (.pointer none) wz))
                obtain rfl : rv = 11 := FN.out
                clear hc MI ST NOA NOB NOC RV
                go_wp2_with fail
                go_region_held3 (fun wz => wz.cell? ⟨p, 2, none⟩ = some (.map (some mb)) ∧ wz.cell? ⟨bx, 2, none⟩ = some (.string rn) ∧ (Instr.lookup 93 (.map (some mb)) (.string rn) false).run Try.prog wz = .ok (.pointer none) wz)
                  (exact FC.out _ (by first | assumption | exact (Nw.refl _).drew | exact Nw.refl _))
                  (fail)
                go_wp2_with fail
                go_returns
                exact ⟨rfl, GB.out.drew⟩
              | some c =>
                have HB2 := Lib.hid (show stB os (flP Ob.relocs os i (j + 1)) by rw [ST.out]; exact stB_snoc HBB.out ⟨_, hc⟩)
                obtain ⟨b1, hp, _⟩ := CL.out.value hc
                have FC := Lib.hid (fun (wz : World) (k : Nw wB wz) => (⟨(F0.out wz k).1, (F0.out wz k).2, (CL.out.nw (GB.out.trans k)).look HFIT.out hp⟩ : wz.cell? ⟨p, 2, none⟩ = some (.map (some mb)) ∧ wz.cell? ⟨bx, 2, none⟩ = some (.string rn) ∧ (Instr.lookup 93 (.map (some mb)) (.string rn) false).run Try.prog wz = .ok (.pointer (some ⟨b1, 0, none⟩)) wz))
                clear hc MI ST HBB hp
                go_wp2_with fail
                go_region_held3 (fun wz => wz.cell? ⟨p, 2, none⟩ = some (.map (some mb)) ∧ wz.cell? ⟨bx, 2, none⟩ = some (.string rn) ∧ (Instr.lookup 93 (.map (some mb)) (.string rn) false).run Try.prog wz = .ok (.pointer (some ⟨b1, 0, none⟩)) wz)
                  (exact FC.out _ (by first | assumption | exact (Nw.refl _).drew | exact Nw.refl _))
                  (fail)
                go_wp2_with fail
                go_roundw
                case rel => exact ⟨j + 1, by omega, by go_num, HB2.out, GB.out.drew⟩
                case measure => simp [intOf]; omega
            · obtain rfl : j = mr := by omega
              have HB2 := Lib.hid (show stB os (flP Ob.relocs os (i + 1) 0) by rw [flP_next (f := Ob.relocs) HU.out (Nat.le_of_eq HMR.out.symm)]; exact HBB.out)
              clear HBB
              go_wp2_with fail
              go_roundw
              case rel => exact ⟨i + 1, by omega, by go_num, HB2.out, GJ.out⟩
              case measure => simp [intOf]; omega
        · have HB2 := Lib.hid (show stB os (os.flatMap Ob.relocs) by have := HBB.out; rw [flP_all (by have := HN.out; omega)] at this; exact this)
          have c1 : wo2.cell? ⟨p, 1, none⟩ = some (.slice xb nbb cb) := (LK.out _ GI.out).cell 1
          clear HBB
          go_upto_region 17 with fail
          clear c1
          go_loopw [56] (fun vk wr => ∃ k : Nat, k ≤ nbb ∧ vk = .int .i64 (k : Int) ∧ stC os (bg.take k) ∧ Nw w wr) (fun vk _ => nbb - (intOf vk).toNat)
          case atStart => exact ⟨0, Nat.zero_le _, rfl, by intro y hy; simp at hy, GI.out⟩
          case round =>
            obtain ⟨j, hj, rfl, hcc, g⟩ := hrel
            have GJ := Lib.hid g
            have HCC := Lib.hid hcc
            clear g hcc
            by_cases hjt : j < nbb
            · have hjs : j < bg.length := by have := HNB.out; omega
              have hq2 : (0 : Int) ≤ (j : Int) := by omega
              have hq3 : (j : Int) < (nbb : Int) := by omega
              obtain rfl : xb = _ := HXB.out (ne_nil_of_lt hjs)
              obtain ⟨s0, hfit⟩ := str_read HB.out (G.out.nw GJ.out) hjs
              have ST := Lib.hid (List.take_succ_eq_append_getElem hjs)
              have MI := Lib.hid (List.getElem_mem hjs)
              generalize bg[j] = bn at *
              have c2 : wr.cell? ⟨p, 2, none⟩ = some (.map (some mb)) := (LK.out _ GJ.out).cell 2
              cases hc : cnF bn (occs os) with
              | none =>
                have ELK := Lib.hid ((CL.out.nw GJ.out).look hfit ((CL.out.nw GJ.out).absent hc))
                have FN := Lib.hid (NOC.out _ MI.out (by rintro ⟨c, g1, _⟩; rw [hc] at g1; cases g1))
                obtain rfl : rv = 11 := FN.out
                simp only [Option.map_none] at ELK
                clear hc NOA NOB NOC MI RV hfit
                go_wp2_with (at_lookup; refine wpList_look_run _ rfl _ _ _ rfl _ _ _ rfl rfl ELK.out ?_)
                go_returns
                exact ⟨rfl, GJ.out⟩
              | some c =>
                obtain ⟨b1, hp, hbk⟩ := (CL.out.nw GJ.out).value hc
                have ELK := Lib.hid ((CL.out.nw GJ.out).look hfit hp)
                simp only [Option.map_some] at ELK
                have k1 : wr.cell? ⟨b1, 1, none⟩ = some (.int .i64 c.sym.kind) := hbk.cell 1
                have NC := Lib.hid (fun (hk : ¬ c.sym.kind = 1) => NOC.out _ MI.out (by rintro ⟨c', g1, g2⟩; rw [hc] at g1; injection g1 with g1; subst g1; exact hk g2))
                have HC2 := Lib.hid (fun (hk : c.sym.kind = 1) => (show stC os (bg.take (j + 1)) by rw [ST.out]; exact stC_snoc HCC.out ⟨c, hc, hk⟩))
                clear hc MI HCC ST hfit hbk hp
                generalize c.sym.kind = kd at *
                by_cases hk1 : kd = 1
                · have HC3 := Lib.hid (HC2.out hk1)
                  subst hk1
                  clear NC HC2
                  go_wp2_with (at_lookup; refine wpList_look_run _ rfl _ _ _ rfl _ _ _ rfl rfl ELK.out ?_)
                  go_roundw
                  case rel => exact ⟨j + 1, by omega, by go_num, HC3.out, GJ.out⟩
                  case measure => simp [intOf]; omega
                · have FN := Lib.hid (NC.out hk1)
                  obtain ⟨m1, m2, m3, m4⟩ := int_ne hk1
                  obtain rfl : rv = 11 := FN.out
                  clear NC HC2 NOA NOB NOC RV
                  go_wp2_with (at_lookup; refine wpList_look_run _ rfl _ _ _ rfl _ _ _ rfl rfl ELK.out ?_)
                  go_returns
                  exact ⟨rfl, GJ.out⟩
            · have FN := Lib.hid (RV.out TW.out HB2.out (by have := HCC.out; rw [List.take_of_length_le (by have := HNB.out; omega)] at this; exact this))
              obtain rfl : rv = 0 := FN.out
              clear NOA NOB NOC HCC HB2 TW RV
              go_wp2_with fail
              go_returns
              exact ⟨rfl, GJ.out⟩
    · obtain ⟨s, hks, hfs, hfv⟩ := HES.out e (mem_left he).1
      obtain ⟨b1, c, hval, hp, hcn, hbk⟩ := CL.out.entry hfv
      rw [hval] at hrun
      have NW1 := Lib.hid (show Nw wo w1 by
        rcases hw1 with e | e
        · rw [e]; exact Nw.refl _
        · rw [e]; exact (Nw.refl _).drew)
      have hlt : r < w1.heap.size := Nat.lt_of_lt_of_le (Array.getElem?_eq_some_iff.1 HIT.out).1 NW1.out.size
      have NW2 := Lib.hid (show Nw w (ChangeMaps.setBlock w1 r (.mapIter (some mb) clock (seen.push e.born) clock)) from nw_setNew (GR.out.trans NW1.out) HR.out (kp_setBlock _ _ _))
      have IT2 := Lib.hid (at_setBlock hlt (.mapIter (some mb) clock (seen.push e.born) clock))
      have hnx : ∀ ty, (Instr.next (.pointer (some ⟨r, 0, none⟩)) false ty).run Try.prog wo = .ok (.tuple #[.bool true, e.key, .pointer (some ⟨b1, 0, none⟩)]) (ChangeMaps.setBlock w1 r (.mapIter (some mb) clock (seen.push e.born) clock)) := fun _ => hrun
      have hen := run_entry_at (P := Try.prog) (ChangeMaps.setBlock w1 r (.mapIter (some mb) clock (seen.push e.born) clock)) r mb clock seen es clock e IT2.out (HBM.out _ NW2.out) (mem_left he).1 HST.out.2.1
      rw [hval] at hen
      have c8 : (ChangeMaps.setBlock w1 r (.mapIter (some mb) clock (seen.push e.born) clock)).cell? ⟨b1, 8, none⟩ = some (.bool c.twice) := (hbk.nw NW2.out).cell 8
      have SHR := Lib.hid (left_shrinks es seen e he)
      have NO2 := Lib.hid (fun (ht : c.twice = false) => (show ∀ x ∈ es.toList, (seen.push e.born).contains x.born = true → ∀ s c, x.key = .string s → cnF s (occs os) = some c → c.twice = false from fun x hx hcx s' c' h1 h2 => by
        rw [contains_push] at hcx
        rw [Bool.or_eq_true] at hcx
        rcases hcx with h3 | h3
        · exact NO.out x hx h3 s' c' h1 h2
        · have : x = e := born_inj HST.out.2.1 hx (mem_left he).1 (beq_iff_eq.1 h3)
          subst this
          rw [hks] at h1
          injection h1 with h1
          subst h1
          rw [hcn] at h2
          injection h2 with h2
          subst h2
          exact ht))
      have NT := Lib.hid (fun (ht : c.twice = true) => NOA.out s c hcn ht)
      have ISN2 := Lib.hid (show (ChangeMaps.setBlock w1 r (.mapIter (some mb) clock (seen.push e.born) clock)).iterSeen r = seen.push e.born by unfold World.iterSeen; rw [IT2.out])
      generalize ChangeMaps.setBlock w1 r (.mapIter (some mb) clock (seen.push e.born) clock) = w2 at *
      generalize c.twice = tw at *
      clear hrun hbk hp hcn hval hfv hfs hks he hw1 hlt
      cases tw with
      | true =>
        have FN := Lib.hid (NT.out (by trivial))
        obtain rfl : rv = 11 := FN.out
        clear NT NO2 NO NOA NOB NOC RV
        go_wp2_with fail
        go_returns
        exact ⟨rfl, NW2.out⟩
      | false =>
        have NO3 := Lib.hid (NO2.out (by trivial))
        clear NT NO2 NO
        go_wp2_with fail
        go_roundw
        case rel => exact ⟨_, IT2.out, NO3.out, NW2.out⟩
        case measure => rw [ISN.out, ISN2.out]; exact SHR.out
set_option maxRecDepth 100000 in
set_option maxHeartbeats 4000000 in
theorem large_any {B : Nat} {W w : World} {os : List Ob} {v : Value} {xb : Option Addr} {nb cb p mb : Nat} (ho : SlB B W 7 (ObAt B W) os v) (h : In B W w) (hL : LkAt w p v (.slice xb nb cb) mb nb) (hval : ∀ o ∈ os, codeV o = 0) (hs1 : os.length ≤ 100) (hs2 : nb ≤ 100000) :
    Calls Try.prog 53 #[.pointer (some ⟨p, 0, none⟩)] w (BoolPost w (dc (limP os nb))) := by
  obtain ⟨x, cp, rfl, ho, hl⟩ := ho.sl
  obtain ⟨_, _, b, o, hx⟩ := ho.addr
  have HO := Lib.hid ho
  have HX := Lib.hid hx
  have G := Lib.hid h
  have VAL := Lib.hid hval
  obtain ⟨n, hn⟩ : ∃ n, n = os.length := ⟨_, rfl⟩
  rw [← hn] at hl HO hL hs1
  have HN := Lib.hid hn
  have LK := Lib.hid (fun (wz : World) (k : Nw w wz) => hL.nw k)
  have c0 : w.cell? ⟨p, 0, none⟩ = some (.slice x n cp) := hL.cell 0
  have c3 : w.cell? ⟨p, 3, none⟩ = some (.int .i64 ((nb : Int) + 1)) := hL.cell 3
  have hnbi : (nb : Int) ≤ 100000 := by omega
  obtain ⟨rv, hrv⟩ : ∃ rv, rv = dc (limP os nb) := ⟨_, rfl⟩
  rw [← hrv]
  have RV := Lib.hid hrv
  clear ho hx h hn hL hval hrv
  go_enter Try.func53, Try.ntmps53
  go_upto_region 3 with fail
  clear c0 c3
  go_loopw [3, 4, 16] (fun vc vd vi wr => ∃ (i : Nat) (ci di : Int), i ≤ n ∧ vi = .int .i64 (i : Int) ∧ vc = .int .i64 ci ∧ vd = .int .i64 di ∧ ci = ((nb + 1 + sumC (os.take i) : Nat) : Int) ∧ di = ((2 + sumD (os.take i) : Nat) : Int) ∧ sumC (os.take i) ≤ 65536 * i ∧ sumD (os.take i) ≤ 65536 * i ∧ Nw w wr) (fun _ _ vi _ => n - (intOf vi).toNat)
  case atStart => exact ⟨0, (nb : Int) + 1, 2, Nat.zero_le _, rfl, by go_num, rfl, by simp [sumC], by simp [sumD], by simp [sumC], by simp [sumD], Nw.refl _⟩
  case round =>
    obtain ⟨i, ci, di, hi, rfl, rfl, rfl, hci, hdi, hbc, hbd, g⟩ := hrel
    have GR := Lib.hid g
    have HCI := Lib.hid hci
    have HDI := Lib.hid hdi
    have b1 : 0 ≤ ci ∧ ci ≤ 10000000 := by omega
    have b2 : 0 ≤ di ∧ di ≤ 10000000 := by omega
    have HBC := Lib.hid hbc
    have HBD := Lib.hid hbd
    obtain ⟨b3, b4⟩ := b1
    obtain ⟨b5, b6⟩ := b2
    clear g hci hdi hbc hbd
    rename World => wo
    by_cases hlt : i < n
    · have hio : i < os.length := by have := HN.out; omega
      obtain ⟨u, hu⟩ : ∃ u, os[i]? = some u := ⟨_, List.getElem?_eq_getElem hio⟩
      have hq0 : (0 : Int) ≤ (i : Int) := by omega
      have hq1 : (i : Int) < (n : Int) := by omega
      obtain rfl : x = _ := HX.out (ne_nil_of_lt hio)
      obtain ⟨xi, ci', xs, cs, xr, cr, xc, cc, xd, cd, ob1⟩ := ob_read HO.out (G.out.nw GR.out) hu
      have q0 := ob1.f0
      have q1 := ob1.f1
      have q2 := ob1.f2
      have q3 := ob1.f3
      have q4 := ob1.f4
      have q5 := ob1.f5
      have q6 := ob1.f6
      have LEN := Lib.hid (codeV_len (VAL.out u (List.mem_of_getElem? hu)))
      have SN1 := Lib.hid (sumC_snoc hu)
      have SN2 := Lib.hid (sumD_snoc hu)
      clear ob1 hio hu
      obtain ⟨m5, hm5⟩ : ∃ m5, m5 = u.code.length := ⟨_, rfl⟩
      obtain ⟨m6, hm6⟩ : ∃ m6, m6 = u.data.length := ⟨_, rfl⟩
      rw [← hm5, ← hm6] at LEN
      rw [← hm5] at q5 SN1
      rw [← hm6] at q6 SN2
      have l5 : (m5 : Int) ≤ 65536 := by have := LEN.out; omega
      have l6 : (m6 : Int) ≤ 16384 := by have := LEN.out; omega
      clear hm5 hm6
      generalize u.pkg = upk at *
      generalize u.hash = uh at *
      generalize u.imports.length = m2 at *
      generalize u.syms.length = m3 at *
      generalize u.relocs.length = m4 at *
      have NA := Lib.hid (Nw.new wo (.cells #[.string upk, .int .i64 uh, .slice xi m2 ci', .slice xs m3 cs, .slice xr m4 cr, .slice xc m5 cc, .slice xd m6 cd] 27))
      have cA := (Blk.new wo [.string upk, .int .i64 uh, .slice xi m2 ci', .slice xs m3 cs, .slice xr m4 cr, .slice xc m5 cc, .slice xd m6 cd] 27).cell
      have NC := Lib.hid (show ci + (m5 : Int) = ((nb + 1 + sumC (os.take (i + 1)) : Nat) : Int) by rw [HCI.out, SN1.out]; omega)
      have NDD := Lib.hid (show di + (m6 : Int) = ((2 + sumD (os.take (i + 1)) : Nat) : Int) by rw [HDI.out, SN2.out]; omega)
      have NB1 := Lib.hid (show sumC (os.take (i + 1)) ≤ 65536 * (i + 1) by rw [SN1.out]; have := HBC.out; have := LEN.out; omega)
      have NB2 := Lib.hid (show sumD (os.take (i + 1)) ≤ 65536 * (i + 1) by rw [SN2.out]; have := HBD.out; have := LEN.out; omega)
      go_wp2_with fail
      go_roundw
      case rel => exact ⟨i + 1, ci + m5, di + m6, by omega, by go_num, by go_num, by go_num, NC.out, NDD.out, NB1.out, NB2.out, GR.out.trans NA.out⟩
      case measure => simp [intOf]; omega
    · have HC2 := Lib.hid (show ci = ((nb + 1 + sumC os : Nat) : Int) by have := HCI.out; rw [List.take_of_length_le (by have := HN.out; omega)] at this; exact this)
      have HD2 := Lib.hid (show di = ((2 + sumD os : Nat) : Int) by have := HDI.out; rw [List.take_of_length_le (by have := HN.out; omega)] at this; exact this)
      have c1 : wo.cell? ⟨p, 1, none⟩ = some (.slice xb nb cb) := (LK.out _ GR.out).cell 1
      clear HCI HDI HBC HBD
      by_cases h1 : (1000 : Int) < (nb : Int)
      · have FN := Lib.hid (show rv = true by rw [RV.out]; exact dc_true (.inl (by omega)))
        obtain rfl : rv = true := FN.out
        clear RV
        go_wp2_with fail
        go_returns
        exact ⟨rfl, GR.out⟩
      by_cases h2 : (65536 : Int) < ci
      · have FN := Lib.hid (show rv = true by rw [RV.out]; exact dc_true (.inr (.inl (by have := HC2.out; omega))))
        obtain rfl : rv = true := FN.out
        clear RV
        go_wp2_with fail
        go_returns
        exact ⟨rfl, GR.out⟩
      by_cases h3 : (16384 : Int) < di
      · have FN := Lib.hid (show rv = true by rw [RV.out]; exact dc_true (.inr (.inr (by have := HD2.out; omega))))
        obtain rfl : rv = true := FN.out
        clear RV
        go_wp2_with fail
        go_returns
        exact ⟨rfl, GR.out⟩
      · have FN := Lib.hid (show rv = false by
          rw [RV.out]
          refine dc_false ?_
          unfold limP
          have := HC2.out
          have := HD2.out
          omega)
        obtain rfl : rv = false := FN.out
        clear RV
        go_wp2_with fail
        go_returns
        exact ⟨rfl, GR.out⟩
end Go.Proofs.Ytfdjlicegfgodaa
