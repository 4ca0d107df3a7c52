/- Linking: Link. -/
import Derived.Test.YtfdjlicegfgodaaLk13
namespace Go.Proofs.Ytfdjlicegfgodaa
open Go.RowKit
set_option linter.unusedSimpArgs false
set_option linter.unusedVariables false

theorem link_res {tmps : Array Value} {w : World} {q : Nat} {a b c d k : Value} (h4 : tmps[4]?.getD undef = .pointer (some ⟨q, 0, none⟩)) (h5 : tmps[5]?.getD undef = d) (h6 : tmps[6]?.getD undef = k) (hb : Blk w q [a, b, c] 53) :
    (results Try.f22 tmps).run Try.prog w = .ok (.tuple #[.agg #[a, b, c], d, k]) w := by
  have f0 := hb.cell 0
  have f1 := hb.cell 1
  have f2 := hb.cell 2
  simp only [List.getElem?_cons_zero, List.getElem?_cons_succ] at f0 f1 f2
  simp [results, Try.results22, go_sem, h4, h5, h6, f0, f1, f2]
/-- objects are linked -/
def LinkOK (os : List Ob) (bg : List ByteArray) (w : World) (e : Ending) (w' : World) : Prop :=
  ∃ x c y d s k, e = .returned (.tuple #[.agg #[.slice x (imgC os bg).length c, .slice y (imgD os bg).length d, .int .i64 0], .slice s (countedL os bg.length).length k, .int .i64 0]) ∧
    w'.ownsRow w.heap.size 2 1 (.slice x (imgC os bg).length c) (imgC os bg).length (wdV (imgC os bg)) ∧ w'.ownsRow w.heap.size 2 1 (.slice y (imgD os bg).length d) (imgD os bg).length (wdV (imgD os bg)) ∧
    w'.ownsRow w.heap.size 44 6 (.slice s (countedL os bg.length).length k) (countedL os bg.length).length ((countedL os bg.length).flatMap syCs) ∧ Nw w w'
/-- they are refused -/
def LinkNo (n : Int) (w : World) (e : Ending) (w' : World) : Prop :=
  e = .returned (.tuple #[.agg #[.slice none 0 0, .slice none 0 0, .int .i64 0], .slice none 0 0, .int .i64 n]) ∧ Nw w w'
def LinkP (os : List Ob) (bg : List ByteArray) (w : World) (e : Ending) (w' : World) : Prop := (badV os bg = 0 ∧ LinkOK os bg w e w') ∨ (¬ badV os bg = 0 ∧ LinkNo (badV os bg) w e w')
theorem packV_zero {os : List Ob} (h : packV os = 0) : (∀ o ∈ os, codeV o = 0) := by
  intro o ho
  by_cases hc : codeV o = 0
  · exact hc
  · rw [pack4 ho hc] at h
    cases h
set_option maxRecDepth 100000 in
set_option maxHeartbeats 8000000 in
theorem link_any {B : Nat} {W w : World} {os : List Ob} {bg : List ByteArray} {v vb : Value} (ho : SlB B W 7 (ObAt B W) os v) (hb : SlB B W 1 StrAt2 bg vb) (h : In B W w) (hs1 : os.length ≤ 100) (hs2 : bg.length ≤ 100000) (hs3 : (occs os).length ≤ 1000000) :
    Calls Try.prog 22 #[v, vb] w (LinkP os bg w) := by
  obtain ⟨xb, cb, evb, hb, hlb⟩ := hb.sl
  subst evb
  obtain ⟨nb, hnb⟩ : ∃ n, n = bg.length := ⟨_, rfl⟩
  have HNB := Lib.hid hnb
  rw [← hnb] at hb hs2 ⊢
  have hnbi : (nb : Int) ≤ 100000 := by omega
  have HB := Lib.hid hb
  have HO := Lib.hid ho
  have HS1 := Lib.hid hs1
  have HS3 := Lib.hid hs3
  have N1 := Lib.hid (((Nw.refl w).alloc (.cells #[.slice none 0 0, .slice none 0 0, .int .i64 0] 53)).alloc (.map #[] 0))
  have BR := Lib.hid ((((Blk.new w [.slice none 0 0, .slice none 0 0, .int .i64 0] 53).alloc (.map #[] 0)).alloc (.cells #[v, .slice xb nb cb, .map (some (w.heap.size + 1)), .int .i64 ((nb : Int) + 1)] 95)))
  have SM := Lib.hid (show SMap (((w.alloc (.cells #[.slice none 0 0, .slice none 0 0, .int .i64 0] 53)).alloc (.map #[] 0)).alloc (.cells #[v, .slice xb nb cb, .map (some (w.heap.size + 1)), .int .i64 ((nb : Int) + 1)] 95)) (w.heap.size + 1) (fun _ => none) from by
    have := (SMap.made (w.alloc (.cells #[.slice none 0 0, .slice none 0 0, .int .i64 0] 53))).nw (Nw.new _ (.cells #[v, .slice xb nb cb, .map (some (w.heap.size + 1)), .int .i64 ((nb : Int) + 1)] 95))
    rw [size_alloc] at this
    exact this)
  have BL := Lib.hid (show LkAt (((w.alloc (.cells #[.slice none 0 0, .slice none 0 0, .int .i64 0] 53)).alloc (.map #[] 0)).alloc (.cells #[v, .slice xb nb cb, .map (some (w.heap.size + 1)), .int .i64 ((nb : Int) + 1)] 95)) (w.heap.size + 2) v (.slice xb nb cb) (w.heap.size + 1) nb from by
    have := Blk.new ((w.alloc (.cells #[.slice none 0 0, .slice none 0 0, .int .i64 0] 53)).alloc (.map #[] 0)) [v, .slice xb nb cb, .map (some (w.heap.size + 1)), .int .i64 ((nb : Int) + 1)] 95
    rw [size_alloc, size_alloc] at this
    exact this)
  have NL := Lib.hid (N1.out.alloc (.cells #[v, .slice xb nb cb, .map (some (w.heap.size + 1)), .int .i64 ((nb : Int) + 1)] 95))
  have GL := Lib.hid (h.nw NL.out)
  have HBW := Lib.hid (show B ≤ w.heap.size from h.le)
  have hmm := @run_makeMap Try.prog
  obtain ⟨xo, no, co, hvo⟩ := ho.slice
  clear ho hb h hnb hs1 hs3
  subst hvo
  go_enter Try.func22, Try.ntmps22
  go_upto_region 2 with fail
  generalize ((w.alloc (.cells #[.slice none 0 0, .slice none 0 0, .int .i64 0] 53)).alloc (.map #[] 0)).alloc (.cells #[.slice xo no co, .slice xb nb cb, .map (some (w.heap.size + 1)), .int .i64 ((nb : Int) + 1)] 95) = wL at *
  obtain ⟨r, hr⟩ : ∃ r, r = w.heap.size := ⟨_, rfl⟩
  obtain ⟨mb, hmb⟩ : ∃ mb, mb = w.heap.size + 1 := ⟨_, rfl⟩
  obtain ⟨p, hp⟩ : ∃ p, p = w.heap.size + 2 := ⟨_, rfl⟩
  rw [← hmb] at SM BL
  rw [← hp] at BL ⊢
  rw [← hmb]
  rw [← hr] at BR ⊢
  have HR := Lib.hid hr
  have HMB := Lib.hid hmb
  have HP := Lib.hid hp
  have NRM := Lib.hid (show r ≠ mb by omega)
  clear hr hmb hp hmm N1
  have PK := Lib.hid (packages_any HO.out GL.out (BL.out.cell 0))
  have cR := BR.out.cell
  have zR := BR.out.frozen
  go_wp2_with fail
  refine PK.out.mono ?_
  rintro e1 w1 ⟨rfl, k1⟩
  have BR1 := Lib.hid (BR.out.nw k1)
  have BL1 := Lib.hid (BL.out.nw k1)
  have SM1 := Lib.hid (SM.out.nw k1)
  have N1 := Lib.hid (NL.out.trans k1)
  have G1 := Lib.hid (GL.out.nw k1)
  clear k1 cR zR BR BL SM NL GL PK
  by_cases hpk : packV os = 0
  rotate_left
  · have BV := Lib.hid (bad_pack (bg := bg) hpk)
    have HPK := Lib.hid hpk
    have cR := BR1.out.cell
    have zR := BR1.out.frozen
    have BZ := Lib.hid (BR1.out.sets 0 [.slice none 0 0, .slice none 0 0, .int .i64 0])
    have NZ := Lib.hid (show Nw w (lays w1 r 0 [.slice none 0 0, .slice none 0 0, .int .i64 0]) from nw_setNew N1.out (Nat.le_of_eq HR.out.symm) ((Kp.refl (fun j => j = r) w1).sets (fun _ => rfl) 0 _))
    have FIN := Lib.hid (fun (k : Int) (hk : k = packV os) => (show LinkP os bg w (.returned (.tuple #[.agg #[.slice none 0 0, .slice none 0 0, .int .i64 0], .slice none 0 0, .int .i64 k])) (lays w1 r 0 [.slice none 0 0, .slice none 0 0, .int .i64 0]) from .inr ⟨by rw [BV.out]; exact HPK.out, by rw [BV.out, hk], NZ.out⟩))
    generalize packV os = pk at *
    obtain ⟨m1, m2, m3, m4⟩ := int_ne hpk
    clear hpk
    go_wp2_with fail
    exact bodyPost_ret (v := .tuple #[.agg #[.slice none 0 0, .slice none 0 0, .int .i64 0], .slice none 0 0, .int .i64 pk]) (link_res rfl rfl rfl BZ.out) rfl (FIN.out _ rfl)
  have VAL := Lib.hid (packV_zero hpk)
  have HPK := Lib.hid hpk
  rw [hpk]
  clear hpk
  have CO := Lib.hid (collect_any HO.out G1.out BL1.out (by have := HBW.out; have := HMB.out; omega) VAL.out HS1.out hs2 SM1.out)
  go_wp2_with fail
  refine CO.out.mono ?_
  rintro e2 w2 ⟨rfl, ⟨ptr, hcl⟩, k2⟩
  have CL := Lib.hid hcl
  have BR2 := Lib.hid (BR1.out.kp k2 (fun e => NRM.out e))
  have BL2 := Lib.hid (show LkAt w2 p (.slice xo no co) (.slice xb nb cb) mb nb from Blk.kp BL1.out k2 (fun e => by have := HP.out; have := HMB.out; omega))
  have N2 := Lib.hid (nw_setNew N1.out (by have := HMB.out; omega) k2)
  have G2 := Lib.hid (G1.out.kp k2 (fun x hx e => by have := HBW.out; have := HMB.out; have e : x = mb := e; omega))
  clear hcl k2 CO BR1 BL1 SM1 N1 G1
  have PS := Lib.hid (psymbols_any HO.out HB.out G2.out BL2.out CL.out)
  by_cases hso : symsOK os bg
  rotate_left
  · rw [dc_false hso] at PS
    have BV := Lib.hid (bad11 HPK.out hso)
    clear hso
    go_wp2_with fail
    refine PS.out.mono ?_
    rintro e3 w3 ⟨rfl, k3⟩
    have BR3 := Lib.hid (BR2.out.nw k3)
    have N3 := Lib.hid (N2.out.trans k3)
    clear k3
    have cR := BR3.out.cell
    have zR := BR3.out.frozen
    have BZ := Lib.hid (BR3.out.sets 0 [.slice none 0 0, .slice none 0 0, .int .i64 0])
    have NZ := Lib.hid (show Nw w (lays w3 r 0 [.slice none 0 0, .slice none 0 0, .int .i64 0]) from nw_setNew N3.out (Nat.le_of_eq HR.out.symm) ((Kp.refl (fun j => j = r) w3).sets (fun _ => rfl) 0 _))
    have FIN := Lib.hid (show LinkP os bg w (.returned (.tuple #[.agg #[.slice none 0 0, .slice none 0 0, .int .i64 0], .slice none 0 0, .int .i64 11])) (lays w3 r 0 [.slice none 0 0, .slice none 0 0, .int .i64 0]) from .inr ⟨by rw [BV.out]; decide, by rw [BV.out], NZ.out⟩)
    go_wp2_with fail
    exact bodyPost_ret (v := .tuple #[.agg #[.slice none 0 0, .slice none 0 0, .int .i64 0], .slice none 0 0, .int .i64 11]) (link_res rfl rfl rfl BZ.out) rfl FIN.out
  rw [dc_true hso] at PS
  have HSO := Lib.hid hso
  clear hso
  go_wp2_with fail
  refine PS.out.mono ?_
  rintro e3 w3 ⟨rfl, k3⟩
  have BR3 := Lib.hid (BR2.out.nw k3)
  have BL3 := Lib.hid (BL2.out.nw k3)
  have CL3 := Lib.hid (CL.out.nw k3)
  have N3 := Lib.hid (N2.out.trans k3)
  have G3 := Lib.hid (G2.out.nw k3)
  clear k3 PS BR2 BL2 CL N2 G2
  have LA := Lib.hid (large_any HO.out G3.out BL3.out VAL.out HS1.out hs2)
  by_cases hlm : limP os nb
  · rw [dc_true hlm] at LA
    have BV := Lib.hid (bad12 HPK.out HSO.out (by rw [← HNB.out]; exact hlm))
    clear hlm
    go_wp2_with fail
    refine LA.out.mono ?_
    rintro e4 w4 ⟨rfl, k4⟩
    have BR4 := Lib.hid (BR3.out.nw k4)
    have N4 := Lib.hid (N3.out.trans k4)
    clear k4
    have cR := BR4.out.cell
    have zR := BR4.out.frozen
    have BZ := Lib.hid (BR4.out.sets 0 [.slice none 0 0, .slice none 0 0, .int .i64 0])
    have NZ := Lib.hid (show Nw w (lays w4 r 0 [.slice none 0 0, .slice none 0 0, .int .i64 0]) from nw_setNew N4.out (Nat.le_of_eq HR.out.symm) ((Kp.refl (fun j => j = r) w4).sets (fun _ => rfl) 0 _))
    have FIN := Lib.hid (show LinkP os bg w (.returned (.tuple #[.agg #[.slice none 0 0, .slice none 0 0, .int .i64 0], .slice none 0 0, .int .i64 12])) (lays w4 r 0 [.slice none 0 0, .slice none 0 0, .int .i64 0]) from .inr ⟨by rw [BV.out]; decide, by rw [BV.out], NZ.out⟩)
    go_wp2_with fail
    exact bodyPost_ret (v := .tuple #[.agg #[.slice none 0 0, .slice none 0 0, .int .i64 0], .slice none 0 0, .int .i64 12]) (link_res rfl rfl rfl BZ.out) rfl FIN.out
  rw [dc_false hlm] at LA
  have BV := Lib.hid (bad0 HPK.out HSO.out (by rw [← HNB.out]; exact hlm))
  have HLM := Lib.hid hlm
  clear hlm
  go_wp2_with fail
  refine LA.out.mono ?_
  rintro e4 w4 ⟨rfl, k4⟩
  have BR4 := Lib.hid (BR3.out.nw k4)
  have BL4 := Lib.hid (BL3.out.nw k4)
  have CL4 := Lib.hid (CL3.out.nw k4)
  have N4 := Lib.hid (N3.out.trans k4)
  have G4 := Lib.hid (G3.out.nw k4)
  clear k4 LA BR3 BL3 CL3 N3 G3
  have IM := Lib.hid (image_any HO.out HB.out G4.out (by rw [← HNB.out]; exact BL4.out) (by rw [← HNB.out]; exact CL4.out) VAL.out HSO.out (by rw [← HNB.out]; exact HLM.out))
  go_wp2_with fail
  refine IM.out.mono ?_
  rintro e5 w5 ⟨x, c, y, d, rfl, hoc, hod, k5⟩
  have OC := Lib.hid hoc
  have OD := Lib.hid hod
  obtain ⟨lc, hlc⟩ : ∃ lc, lc = (imgC os bg).length := ⟨_, rfl⟩
  obtain ⟨ld, hld⟩ : ∃ ld, ld = (imgD os bg).length := ⟨_, rfl⟩
  rw [← hlc, ← hld]
  have HLC := Lib.hid hlc
  have HLD := Lib.hid hld
  have NX := Lib.hid (k5.alloc (.cells #[.slice x lc c, .slice y ld d, .int .i64 0] 53))
  have BI := Lib.hid (Blk.new w5 [.slice x lc c, .slice y ld d, .int .i64 0] 53)
  have NX5 := Lib.hid (Nw.new w5 (.cells #[.slice x lc c, .slice y ld d, .int .i64 0] 53))
  have K5 := Lib.hid k5
  clear hoc hod hlc hld k5 IM
  go_upto_region 12 with fail
  have HBI := Lib.hid (show r < w5.heap.size from Nat.lt_of_lt_of_le BR4.out.lt K5.out.size)
  generalize w5.alloc (.cells #[.slice x lc c, .slice y ld d, .int .i64 0] 53) = wI at *
  generalize w5.heap.size = bi at *
  have CT := Lib.hid (fun (wz : World) (k : Nw wI wz) => counted_any HO.out (G4.out.nw (NX.out.trans k)) (BL4.out.nw (NX.out.trans k)) (CL4.out.nw (NX.out.trans k)) HS3.out)
  have FB := Lib.hid (fun (wz : World) (k : Nw wI wz) => (BR4.out.nw (NX.out.trans k)))
  have FC := Lib.hid (fun (wz : World) (k : Nw wI wz) => (⟨(BI.out.nw k).cell 0, (BI.out.nw k).cell 1, (BI.out.nw k).cell 2⟩ : wz.cell? ⟨bi, 0, none⟩ = some (.slice x lc c) ∧ wz.cell? ⟨bi, 1, none⟩ = some (.slice y ld d) ∧ wz.cell? ⟨bi, 2, none⟩ = some (.int .i64 0)))
  have FP := Lib.hid (fun (w6 : World) (k : Nw wI w6) => (show ∀ wz, wz = lays w6 r 0 [.slice x lc c, .slice y ld d, .int .i64 0] → wz.cell? ⟨bi, 0, none⟩ = some (.slice x lc c) ∧ wz.cell? ⟨bi, 1, none⟩ = some (.slice y ld d) ∧ wz.cell? ⟨bi, 2, none⟩ = some (.int .i64 0) by
    intro wz e
    rw [e]
    have := (BI.out.nw k).setsO (b' := r) (by have := HBI.out; omega) 0 [.slice x lc c, .slice y ld d, .int .i64 0]
    exact ⟨this.cell 0, this.cell 1, this.cell 2⟩))
  obtain ⟨ls, hls⟩ : ∃ ls, ls = (countedL os nb).length := ⟨_, rfl⟩
  have HLS := Lib.hid hls
  have FINL := Lib.hid (fun (w6 : World) (wz : World) (s : Option Addr) (k : Nat) (kn : Nw wI wz) (k6 : Nw wz w6) (hsn : SymsNew wz w6 (.slice s ls k) (countedL os nb)) => (show Blk (lays w6 r 0 [.slice x lc c, .slice y ld d, .int .i64 0]) r [.slice x lc c, .slice y ld d, .int .i64 0] 53 ∧ LinkP os bg w (.returned (.tuple #[.agg #[.slice x lc c, .slice y ld d, .int .i64 0], .slice s ls k, .int .i64 0])) (lays w6 r 0 [.slice x lc c, .slice y ld d, .int .i64 0]) from by
    have kr : Kp (fun j => j = r) w6 (lays w6 r 0 [.slice x lc c, .slice y ld d, .int .i64 0]) := (Kp.refl (fun j => j = r) w6).sets (fun _ => rfl) 0 _
    have kk := NX5.out.trans (kn.trans k6)
    have hrl := BR4.out.lt
    have sz1 := N4.out.size
    have sz2 := (NX.out.trans kn).size
    refine ⟨(FB.out w6 (kn.trans k6)).sets 0 _, .inl ⟨BV.out, x, c, y, d, s, k, ?_, ?_, ?_, ?_, ?_⟩⟩
    · rw [← HLC.out, ← HLD.out, ← HNB.out, ← HLS.out]
    · exact own_weaken (own_kp (own_kp OC.out kk (fun _ _ x => x)) kr (fun g hg e => by have := own_block OC.out g hg; have e : g = r := e; omega)) sz1
    · exact own_weaken (own_kp (own_kp OD.out kk (fun _ _ x => x)) kr (fun g hg e => by have := own_block OD.out g hg; have e : g = r := e; omega)) sz1
    · rw [← HNB.out, ← HLS.out]
      unfold SymsNew at hsn
      rw [← HLS.out] at hsn
      exact own_weaken (own_kp hsn kr (fun g hg e => by have := own_block hsn g hg; have e : g = r := e; omega)) (by omega)
    · exact nw_setNew (N4.out.trans (NX.out.trans (kn.trans k6))) (Nat.le_of_eq HR.out.symm) kr))
  rw [← hls] at CT
  clear hls OC OD BV HPK HSO HLM VAL
  go_wp2_with fail
  go_region_held3 (fun wz => wz.cell? ⟨bi, 0, none⟩ = some (.slice x lc c) ∧ wz.cell? ⟨bi, 1, none⟩ = some (.slice y ld d) ∧ wz.cell? ⟨bi, 2, none⟩ = some (.int .i64 0))
    (first | exact FC.out _ ((Nw.refl _).drew) | exact FC.out _ kk | exact FP.out _ kk _ rfl)
    (first
      | (go_at_call 55; (with_reducible refine (CT.out _ (by first | assumption | exact (Nw.refl _).drew | exact Nw.refl _)).mono ?_); rintro e6 w6 ⟨s, k, rfl, hsn, k6⟩; obtain ⟨hbz, hfz⟩ := FINL.out w6 _ s k (by first | assumption | exact (Nw.refl _).drew | exact Nw.refl _) k6 hsn; have kk : Nw wI w6 := Nw.trans (by first | assumption | exact (Nw.refl _).drew | exact Nw.refl _) k6; have HBZ := Lib.hid hbz; have HFZ := Lib.hid hfz; have cR := (FB.out w6 kk).cell; have zR := (FB.out w6 kk).frozen; clear hsn k6 hbz hfz))
  all_goals
    go_wp2_with fail
    exact bodyPost_ret (v := .tuple #[.agg #[.slice x lc c, .slice y ld d, .int .i64 0], .slice s ls k, .int .i64 0]) (link_res rfl rfl rfl HBZ.out) rfl HFZ.out
end Go.Proofs.Ytfdjlicegfgodaa
