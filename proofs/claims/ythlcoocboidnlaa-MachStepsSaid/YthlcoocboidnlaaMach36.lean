/- MachSteps: step by step place, registers, words and end are the document's. -/
import Derived.Test.YthlcoocboidnlaaMach35
import Derived.RegionTactic
namespace Go.Proofs.Ythlcoocboidnlaa
open Go.RowKit
set_option linter.unusedSimpArgs false
set_option linter.unusedVariables false

set_option maxRecDepth 100000 in
set_option maxHeartbeats 8000000 in
theorem machSteps_walk {R R' : Nat → Prop} {W : World} {xc xd xi : Option Addr} {nc cc nd cd ni ci : Nat} {entry : Int} {m : Img} {inp : List UInt8} (h : ImgAt R W xc xd nc cc nd cd entry m) (hi : BytesR R' W (.slice xi ni ci) inp) (hr : ∀ b, R' b → b < W.heap.size) (hli : inp.length ≤ 9223372036854775807)
    (mem n at_ : Int) (hn : I64 n) (hat : I64 at_) :
    Calls Try.prog 10 #[.agg #[.slice xc nc cc, .slice xd nd cd, .int .i64 entry], .int .i64 mem, .slice xi ni ci, .int .i64 n, .int .i64 at_] W (BoolPost W true) := by
  have N0 := Lib.hid (Nw.new W (.cells #[.slice xc nc cc, .slice xd nd cd, .int .i64 entry] 29))
  have IM0 := Lib.hid (h.nw N0.out)
  have BI := Lib.hid (Blk.new W [.slice xc nc cc, .slice xd nd cd, .int .i64 entry] 29)
  have IN0 := Lib.hid (hi.kp N0.out (fun _ _ x => x))
  have HRI := Lib.hid (fun b (hb : R' b) => Nat.lt_of_lt_of_le (hr b hb) N0.out.size)
  have HLI := Lib.hid hli
  have HCI := Lib.hid h.ci
  have AW := Lib.hid awake_any
  have HV := Lib.hid (fun (wz : World) => heavy_any wz xc xd xi nc cc nd cd ni ci entry mem n (by rw [h.code.len]; exact h.lc) (by rw [h.data.len]; exact h.ld) (by rw [hi.len]; exact hli))
  have NA := Lib.hid (fun (wz : World) (k : Nw (W.alloc (.cells #[.slice xc nc cc, .slice xd nd cd, .int .i64 entry] 29)) wz) => new_anyB (IM0.out.nw k) (IN0.out.kp k (fun _ _ x => x)) (fun b hb => Nat.lt_of_lt_of_le (HRI.out b hb) k.size) HLI.out mem)
  have NB := Lib.hid (fun (wz : World) (k : Nw (W.alloc (.cells #[.slice xc nc cc, .slice xd nd cd, .int .i64 entry] 29)) wz) => dnew_any (IM0.out.nw k) (IN0.out.kp k (fun _ _ x => x)) (fun b hb => Nat.lt_of_lt_of_le (HRI.out b hb) k.size) HLI.out mem)
  have HAT := Lib.hid hat
  clear h hi hr hli hn hat
  go_enter Try.func10, Try.ntmps10
  go_upto_region 1 with fail
  generalize W.alloc (.cells #[.slice xc nc cc, .slice xd nd cd, .int .i64 entry] 29) = w0 at *
  generalize W.heap.size = bi at *
  have i0 := BI.out.cell 0
  have i1 := BI.out.cell 1
  have i2 := BI.out.cell 2
  simp only [List.getElem?_cons_zero, List.getElem?_cons_succ] at i0 i1 i2
  go_wp2_with fail
  refine (HV.out _).mono ?_
  rintro e1 w1 ⟨rfl, k1⟩
  have K1 := Lib.hid k1
  have i0 := k1.keeps i0
  have i1 := k1.keeps i1
  have i2 := k1.keeps i2
  clear k1 HV BI
  by_cases hv : heavyB nc nd ni mem n = true
  · rw [hv]
    go_wp2_with fail
    refine (AW.out _).mono ?_
    rintro ea wa ⟨rfl, ka⟩
    go_wp2_with fail
    go_returns
    exact ⟨rfl, N0.out.trans (K1.out.trans ka)⟩
  have hv : heavyB nc nd ni mem n = false := by simpa using hv
  rw [hv]
  clear hv
  go_wp2_with fail
  refine (NA.out _ K1.out).mono ?_
  rintro e2 w2 (⟨he, pp, R1, L, rfl, hm, hk, hr1⟩ | ⟨he, rfl, hk⟩)
  rotate_left
  · have K2 := Lib.hid (K1.out.trans hk)
    have i0 := hk.keeps i0
    have i1 := hk.keeps i1
    have i2 := hk.keeps i2
    clear hk NA
    have ND := Lib.hid (NB.out _ K2.out)
    have EN := Lib.hid he
    go_wp2_with fail
    refine ND.out.mono ?_
    rintro e3 w3 ⟨cs, rfl, hl, ho, hk, _⟩
    have LN := Lib.hid (laid_new (w1 := w3) hl)
    have LT := Lib.hid (laid_there (w1 := w3) hl)
    have LI := Lib.hid (cs_info hl)
    have LO := Lib.hid ho
    have K3 := Lib.hid (K2.out.trans hk)
    clear hl ho hk ND
    generalize m.err mem inp = er at *
    have en := EN.out
    obtain ⟨ne1, ne2, ne3, ne4⟩ := int_ne en
    go_wp2_with (refine wpList_store_mid rfl 51 (.tmp 13) (.tmp 37) rfl w3.heap.size 0 cs.toArray rfl rfl LT.out LI.out LO.out ?_; rw [setCells_lays, toL]; (simp only [Act.put, List.setIfInBounds_toArray, List.set_cons_zero, List.set_cons_succ]); (generalize hwf : lays (w3.alloc (.cells #[.slice none 0 0, .slice none 0 0, .int .i64 0, .int .i64 0, .int .i64 0, .int .i64 0, .int .i64 0, .int .i64 0, .int .i64 0, .int .i64 0, .int .i64 0, .int .i64 0, .int .i64 0, .int .i64 0, .int .i64 0, .int .i64 0, .int .i64 0, .int .i64 0, .int .i64 0, .slice none 0 0, .int .i64 0, .int .i64 0, .int .i64 0, .slice none 0 0, .int .i64 0] 51)) w3.heap.size 0 cs = wf); obtain ⟨hb9, hn9⟩ := LN.out wf hwf.symm; have BF := Lib.hid hb9; have NF := Lib.hid hn9; clear hwf hb9 hn9 LN LT LI LO)
    refine (num_any _ _).mono ?_
    rintro e4 w4 ⟨rfl, rfl⟩
    have K4 := Lib.hid (K3.out.trans NF.out)
    go_wp2_with fail
    refine (num_any _ _).mono ?_
    rintro e5 w5 ⟨rfl, rfl⟩
    go_wp2_with fail
    refine (AW.out _).mono ?_
    rintro ea wa ⟨rfl, ka⟩
    go_wp2_with fail
    go_returns
    exact ⟨rfl, N0.out.trans (K4.out.trans ka)⟩
  have K2 := Lib.hid (K1.out.trans hk)
  have KA := Lib.hid hk
  have MX := Lib.hid hm
  have HR1 := Lib.hid hr1
  have i0 := hk.keeps i0
  have i1 := hk.keeps i1
  have i2 := hk.keeps i2
  clear hk NA hm hr1
  have ND := Lib.hid (NB.out _ K2.out)
  go_wp2_with fail
  refine ND.out.mono ?_
  rintro e3 w3 ⟨cs, rfl, hl, ho, hk, hv⟩
  have LN := Lib.hid (laid_new (w1 := w3) hl)
  have LT := Lib.hid (laid_there (w1 := w3) hl)
  have LI := Lib.hid (cs_info hl)
  have LO := Lib.hid ho
  have K3 := Lib.hid hk
  have HVV := Lib.hid (hv he)
  have HE := Lib.hid he
  clear hl ho hk ND hv
  rw [he]
  clear he
  go_wp2_with (refine wpList_store_mid rfl 51 (.tmp 13) (.tmp 37) rfl w3.heap.size 0 cs.toArray rfl rfl LT.out LI.out LO.out ?_; rw [setCells_lays, toL]; (simp only [Act.put, List.setIfInBounds_toArray, List.set_cons_zero, List.set_cons_succ]); (generalize hwf : lays (w3.alloc (.cells #[.slice none 0 0, .slice none 0 0, .int .i64 0, .int .i64 0, .int .i64 0, .int .i64 0, .int .i64 0, .int .i64 0, .int .i64 0, .int .i64 0, .int .i64 0, .int .i64 0, .int .i64 0, .int .i64 0, .int .i64 0, .int .i64 0, .int .i64 0, .int .i64 0, .int .i64 0, .slice none 0 0, .int .i64 0, .int .i64 0, .int .i64 0, .slice none 0 0, .int .i64 0] 51)) w3.heap.size 0 cs = wf); obtain ⟨hb9, hn9⟩ := LN.out wf hwf.symm; have BF := Lib.hid hb9; have NF := Lib.hid hn9; clear hwf hb9 hn9 LN LT LI LO)
  obtain ⟨q, hq⟩ : ∃ q, q = w3.heap.size := ⟨_, rfl⟩
  obtain ⟨R2, t0⟩ : ∃ R2, Two w1 wf.heap.size wf R1 R2 pp q (m.ms mem inp) (m.ms mem inp) := by
    obtain ⟨bm, x1, c1, x2, c2, rfl, v⟩ := HVV.out
    obtain ⟨d, dr⟩ := datl_new (B := w2.heap.size) v HE.out HCI.out (Nat.le_refl _) (NF.out.mono (fun _ _ x => x.elim)) K3.out.size (.inr (Nat.le_refl _)) BF.out
    have ma := MX.out.nw (K3.out.trans NF.out)
    have lt := MX.out.all_lt
    subst hq
    refine ⟨_, Two.made (KA.out.trans (K3.out.trans NF.out)) (Nat.le_refl _) KA.out.size ma d ?_ ?_⟩
    · intro x hx e
      have := lt x hx
      have := d.ft_ge x e
      omega
    · intro x hx e
      have := lt x (.inr e)
      have : w2.heap.size ≤ x := hx.elim (dr x) (d.ft_ge x)
      omega
  have T0 := Lib.hid t0
  rw [← hq]
  have K1F := Lib.hid (K1.out)
  clear t0 hq i0 i1 i2 BF NF K2 K3 KA MX HR1 HVV HE NB IM0 IN0 HRI HLI HCI K1
  generalize m.ms mem inp = s0 at *
  have FIN := Lib.hid (fun (wz : World) (k : Nw w1 wz) => (show BoolPost W true (.returned (.bool true)) wz from ⟨rfl, N0.out.trans (K1F.out.trans k)⟩))
  refine (num_any _ _).mono ?_
  rintro e4 w4 ⟨rfl, rfl⟩
  go_upto_region 8 with fail
  go_loopw [15] (fun i wr => ∃ (j : Nat), i = .int .i64 (j : Int) ∧ j ≤ 300 ∧ Two w1 wr.heap.size wr R1 R2 pp q (s0.runN j) (s0.runN j)) (fun i _ => 300 - (intOf i).toNat)
  case atStart => exact ⟨0, rfl, Nat.zero_le _, T0.out⟩
  case round =>
    obtain ⟨j, rfl, hj, t⟩ := hrel
    have TR := Lib.hid t
    clear t T0
    rename World => wo
    by_cases c12 : (j : Int) < n ∧ (j : Int) < 300
    · obtain ⟨c1, c2⟩ := c12
      have SJ := Lib.hid (runN_succ s0 j)
      generalize s0.runN j = sj at *
      obtain ⟨sn, hsn⟩ : ∃ sn, sn = sj.step := ⟨_, rfl⟩
      obtain ⟨bk, hbk⟩ : ∃ bk, bk = decide (sj.kind = 0) := ⟨_, rfl⟩
      have SA := Lib.hid (fun (wz : World) (k : Nw wo wz) => two_m (TR.out.nw k))
      have SB := Lib.hid (fun (wz : World) (c : Nat) (t : Two w1 c wz R1 R2 pp q sn sj) => two_d t)
      rw [← hsn] at SJ
      rw [← hsn, ← hbk] at SA
      rw [← hsn, ← hbk] at SB
      obtain ⟨pcv, hpc⟩ : ∃ v, v = sn.pc := ⟨_, rfl⟩
      have CP := Lib.hid (fun (wz : World) (c : Nat) (t : Two w1 c wz R1 R2 pp q sn sn) => two_pc t)
      have CC := Lib.hid (fun (wz : World) (c : Nat) (t : Two w1 c wz R1 R2 pp q sn sn) => two_cells t)
      rw [← hpc] at CP
      rw [← hpc] at CC
      clear hsn hbk hpc
      go_wp2_with fail
      go_region_with
        (first
          | (go_at_call 24; (with_reducible refine (SA.out _ (by first | assumption | exact (Nw.refl _).drew | exact Nw.refl _)).mono ?_); rintro e6 w6 ⟨rfl, t6⟩; have T6 := Lib.hid t6; clear t6)
          | (go_at_call 27; (with_reducible refine (SB.out _ _ T6.out).mono ?_); rintro e7 w7 ⟨rfl, t7⟩; obtain ⟨bm, cm, p18, preg, p1, pl, pm⟩ := CC.out _ _ t7; have T7 := Lib.hid t7; have PREG := Lib.hid preg; have PM := Lib.hid pm; clear t7 preg pm)
          | (go_at_call 26; (with_reducible refine (CP.out _ _ T7.out).mono ?_); rintro e8 w8 ⟨rfl, rfl⟩))
      all_goals
        go_upto_region 13 with fail
        go_loopw [16] (fun i wr => ∃ (k : Nat), i = .int .i64 (k : Int) ∧ k ≤ 16 ∧ Nw w7 wr) (fun i _ => 16 - (intOf i).toNat)
        case atStart => exact ⟨0, rfl, Nat.zero_le _, Nw.refl _⟩
        case round =>
          obtain ⟨k, rfl, hk, g⟩ := hrel
          have GZ := Lib.hid g
          clear g
          by_cases hkt : k < 16
          · have hq0 : (0 : Int) ≤ (k : Int) := by omega
            have hq1 : (k : Int) < 16 := by omega
            have cr := GZ.out.keeps (PREG.out k hkt)
            have CR := Lib.hid (fun (wz : World) (g : Nw wr wz) => two_reg (T7.out.nw (GZ.out.trans g)) (k : Int))
            have FC := Lib.hid (fun (wz : World) (g : Nw wr wz) => g.keeps cr)
            generalize sn.regAt (k : Int) = rv at *
            go_wp2_with fail
            go_region_held3 (fun wz => wz.cell? ⟨q, 2 + k, none⟩ = some (.int .i64 rv))
              (exact FC.out _ (by first | assumption | exact (Nw.refl _).drew | exact Nw.refl _))
              (first
                | (go_at_call 16; (with_reducible refine (CR.out _ (by first | assumption | exact (Nw.refl _).drew | exact Nw.refl _)).mono ?_); rintro e9 w9 ⟨rfl, rfl⟩))
            all_goals
              go_wp2_with fail
              go_roundw
              case rel => exact ⟨k + 1, by go_num, by omega, by first | exact GZ.out.drewN _ | exact GZ.out.drew | exact GZ.out⟩
              case measure => simp [intOf]; omega
          · have hq1 : ¬ (k : Int) < 16 := by omega
            have p1 := GZ.out.keeps p1
            have TZ := Lib.hid (T7.out.nw GZ.out)
            have CM := Lib.hid (fun (wz : World) (g : Nw wr wz) => two_mem (T7.out.nw (GZ.out.trans g)) at_)
            have CO := Lib.hid (fun (wz : World) (g : Nw wr wz) => two_out (TZ.out.up.nw g))
            have CU := Lib.hid (fun (wz : World) (t : Two w1 wr.heap.size wz R1 R2 pp q sn sn) (v : Value) (l : List UInt8) (hv : wz.ownsRow wr.heap.size 5 1 v l.length (byteV l)) => two_run0 t hv)
            generalize sn.oc = oc at *
            by_cases hat : 0 ≤ at_ ∧ at_ < (sn.mem.length : Int)
            · obtain ⟨ha0, ha1⟩ := hat
              obtain ⟨ak, rfl⟩ := Int.eq_ofNat_of_zero_le ha0
              have hak : ak < sn.mem.length := by omega
              have cm2 := GZ.out.keeps (PM.out ak hak)
              generalize sn.memAt (ak : Int) = mv at *
              generalize sn.mem.length = ml at *
              clear hak
              go_wp2_with fail
              refine (CM.out _ (Nw.refl _)).mono ?_
              rintro e9 w9 ⟨rfl, rfl⟩
              go_wp2_with fail
              refine (CO.out _ (Nw.refl _)).mono ?_
              rintro ea wa ⟨x, z, rfl, ho, ka⟩
              have KA := Lib.hid ka
              have OA := Lib.hid ho
              clear ka ho
              go_wp2_with fail
              refine (CU.out _ (TZ.out.up.nw KA.out) _ _ OA.out).mono ?_
              rintro eb wb ⟨x2, z2, rfl, hb1, hb2, tb⟩
              have TB := Lib.hid tb
              have O1 := Lib.hid hb1
              have O2 := Lib.hid hb2
              clear tb hb1 hb2
              go_wp2_with fail
              refine (same_agg _ oc x x2 z z2 O2.out O1.out).mono ?_
              rintro ec wc ⟨rfl, kc⟩
              have TC := Lib.hid (show Two w1 wc.heap.size wc R1 R2 pp q sn sn from (TB.out.nw kc).up)
              clear kc
              go_wp2_with fail
              go_roundw
              case rel => exact ⟨j + 1, by go_num, by omega, by rw [SJ.out]; exact TC.out⟩
              case measure => simp [intOf]; omega
            · have hm0 : sn.memAt at_ = 0 := memAt_out sn (by omega)
              rw [hm0] at CM
              clear hm0
              generalize sn.mem.length = ml at *
              by_cases ha0 : 0 ≤ at_
              · have ha1 : ¬ at_ < (ml : Int) := by omega
                go_wp2_with fail
                refine (CM.out _ (Nw.refl _)).mono ?_
                rintro e9 w9 ⟨rfl, rfl⟩
                go_wp2_with fail
                refine (CO.out _ (Nw.refl _)).mono ?_
                rintro ea wa ⟨x, z, rfl, ho, ka⟩
                have KA := Lib.hid ka
                have OA := Lib.hid ho
                clear ka ho
                go_wp2_with fail
                refine (CU.out _ (TZ.out.up.nw KA.out) _ _ OA.out).mono ?_
                rintro eb wb ⟨x2, z2, rfl, hb1, hb2, tb⟩
                have TB := Lib.hid tb
                have O1 := Lib.hid hb1
                have O2 := Lib.hid hb2
                clear tb hb1 hb2
                go_wp2_with fail
                refine (same_agg _ oc x x2 z z2 O2.out O1.out).mono ?_
                rintro ec wc ⟨rfl, kc⟩
                have TC := Lib.hid (show Two w1 wc.heap.size wc R1 R2 pp q sn sn from (TB.out.nw kc).up)
                clear kc
                go_wp2_with fail
                go_roundw
                case rel => exact ⟨j + 1, by go_num, by omega, by rw [SJ.out]; exact TC.out⟩
                case measure => simp [intOf]; omega
              · go_wp2_with fail
                refine (CM.out _ (Nw.refl _)).mono ?_
                rintro e9 w9 ⟨rfl, rfl⟩
                go_wp2_with fail
                refine (CO.out _ (Nw.refl _)).mono ?_
                rintro ea wa ⟨x, z, rfl, ho, ka⟩
                have KA := Lib.hid ka
                have OA := Lib.hid ho
                clear ka ho
                go_wp2_with fail
                refine (CU.out _ (TZ.out.up.nw KA.out) _ _ OA.out).mono ?_
                rintro eb wb ⟨x2, z2, rfl, hb1, hb2, tb⟩
                have TB := Lib.hid tb
                have O1 := Lib.hid hb1
                have O2 := Lib.hid hb2
                clear tb hb1 hb2
                go_wp2_with fail
                refine (same_agg _ oc x x2 z z2 O2.out O1.out).mono ?_
                rintro ec wc ⟨rfl, kc⟩
                have TC := Lib.hid (show Two w1 wc.heap.size wc R1 R2 pp q sn sn from (TB.out.nw kc).up)
                clear kc
                go_wp2_with fail
                go_roundw
                case rel => exact ⟨j + 1, by go_num, by omega, by rw [SJ.out]; exact TC.out⟩
                case measure => simp [intOf]; omega
    · generalize s0.runN j = sn at *
      obtain ⟨bm, cm, p18, preg, p1, pl, pm⟩ := two_cells TR.out
      have PM := Lib.hid pm
      have Q1 := Lib.hid p1
      have CM := Lib.hid (fun (wz : World) (g : Nw wo wz) (i : Int) => two_mem (TR.out.nw g) i)
      have CR := Lib.hid (fun (wz : World) (g : Nw wo wz) (i : Int) => two_reg (TR.out.nw g) i)
      clear p18 preg pm p1
      obtain ⟨ml, hml⟩ : ∃ ml, ml = sn.mem.length := ⟨_, rfl⟩
      rw [← hml] at PM Q1 pl
      have MO := Lib.hid (show sn.memAt (ml : Int) = 0 from memAt_out sn (by omega))
      have RO1 := Lib.hid (show sn.regAt 16 = 0 from regAt_out sn (by omega))
      have RO2 := Lib.hid (show sn.regAt (-1) = 0 from regAt_out sn (by omega))
      clear hml
      have hlm : (ml : Int) ≤ 262144 := by omega
      by_cases c1 : (j : Int) < n
      · have c2 : ¬ (j : Int) < 300 := fun hh => c12 ⟨c1, hh⟩
        clear c12
        go_upto_region 23 with fail
        go_loopw [18] (fun i wr => ∃ (k : Nat), i = .int .i64 (k : Int) ∧ k ≤ ml ∧ Nw wo wr) (fun i _ => ml - (intOf i).toNat)
        case atStart => exact ⟨0, rfl, Nat.zero_le _, Nw.refl _⟩
        case round =>
          obtain ⟨k, rfl, hk, g⟩ := hrel
          have GZ := Lib.hid g
          clear g
          by_cases hkt : k < ml
          · have hq0 : (0 : Int) ≤ (k : Int) := by omega
            have hq1 : (k : Int) < (ml : Int) := by omega
            have p1 := GZ.out.keeps Q1.out
            have cr := GZ.out.keeps (PM.out k hkt)
            have CK := Lib.hid (fun (wz : World) (g : Nw wr wz) => CM.out wz (GZ.out.trans g) (k : Int))
            have FC := Lib.hid (fun (wz : World) (g : Nw wr wz) => (⟨g.keeps p1, g.keeps cr⟩ : _ ∧ _))
            clear CM
            generalize sn.memAt (k : Int) = mv at *
            go_wp2_with fail
            go_region_held3 (fun wz => wz.cell? ⟨q, 1, none⟩ = some (.slice (some ⟨bm, 0, none⟩) ml cm) ∧ wz.cell? ⟨bm, k, none⟩ = some (.int .i64 mv))
              (exact FC.out _ (by first | assumption | exact (Nw.refl _).drew | exact Nw.refl _))
              (first
                | (go_at_call 28; (with_reducible refine (CK.out _ (by first | assumption | exact (Nw.refl _).drew | exact Nw.refl _)).mono ?_); rintro e9 w9 ⟨rfl, rfl⟩))
            all_goals
              go_wp2_with fail
              go_roundw
              case rel => exact ⟨k + 1, by go_num, by omega, by first | exact GZ.out.drewN _ | exact GZ.out.drew | exact GZ.out⟩
              case measure => simp [intOf]; omega
          · obtain rfl : k = ml := by omega
            have p1 := GZ.out.keeps Q1.out
            have C1 := Lib.hid (CR.out _ GZ.out 16)
            have C2 := Lib.hid (CR.out _ GZ.out (-1))
            have C3 := Lib.hid (CM.out _ GZ.out (k : Int))
            rw [RO1.out] at C1
            rw [RO2.out] at C2
            rw [MO.out] at C3
            have FN := Lib.hid (fun (wz : World) (g : Nw wr wz) => FIN.out wz (TR.out.base.trans (GZ.out.trans g)))
            go_wp2_with fail
            refine C1.out.mono ?_
            rintro e9 w9 ⟨rfl, rfl⟩
            go_wp2_with fail
            refine C2.out.mono ?_
            rintro e9 w9 ⟨rfl, rfl⟩
            go_wp2_with fail
            refine C3.out.mono ?_
            rintro e9 w9 ⟨rfl, rfl⟩
            go_wp2_with fail
            refine (AW.out _).mono ?_
            rintro ea wa ⟨rfl, ka⟩
            go_wp2_with fail
            go_returns
            exact FN.out _ ka
      · clear c12
        go_upto_region 23 with fail
        go_loopw [18] (fun i wr => ∃ (k : Nat), i = .int .i64 (k : Int) ∧ k ≤ ml ∧ Nw wo wr) (fun i _ => ml - (intOf i).toNat)
        case atStart => exact ⟨0, rfl, Nat.zero_le _, Nw.refl _⟩
        case round =>
          obtain ⟨k, rfl, hk, g⟩ := hrel
          have GZ := Lib.hid g
          clear g
          by_cases hkt : k < ml
          · have hq0 : (0 : Int) ≤ (k : Int) := by omega
            have hq1 : (k : Int) < (ml : Int) := by omega
            have p1 := GZ.out.keeps Q1.out
            have cr := GZ.out.keeps (PM.out k hkt)
            have CK := Lib.hid (fun (wz : World) (g : Nw wr wz) => CM.out wz (GZ.out.trans g) (k : Int))
            have FC := Lib.hid (fun (wz : World) (g : Nw wr wz) => (⟨g.keeps p1, g.keeps cr⟩ : _ ∧ _))
            clear CM
            generalize sn.memAt (k : Int) = mv at *
            go_wp2_with fail
            go_region_held3 (fun wz => wz.cell? ⟨q, 1, none⟩ = some (.slice (some ⟨bm, 0, none⟩) ml cm) ∧ wz.cell? ⟨bm, k, none⟩ = some (.int .i64 mv))
              (exact FC.out _ (by first | assumption | exact (Nw.refl _).drew | exact Nw.refl _))
              (first
                | (go_at_call 28; (with_reducible refine (CK.out _ (by first | assumption | exact (Nw.refl _).drew | exact Nw.refl _)).mono ?_); rintro e9 w9 ⟨rfl, rfl⟩))
            all_goals
              go_wp2_with fail
              go_roundw
              case rel => exact ⟨k + 1, by go_num, by omega, by first | exact GZ.out.drewN _ | exact GZ.out.drew | exact GZ.out⟩
              case measure => simp [intOf]; omega
          · obtain rfl : k = ml := by omega
            have p1 := GZ.out.keeps Q1.out
            have C1 := Lib.hid (CR.out _ GZ.out 16)
            have C2 := Lib.hid (CR.out _ GZ.out (-1))
            have C3 := Lib.hid (CM.out _ GZ.out (k : Int))
            rw [RO1.out] at C1
            rw [RO2.out] at C2
            rw [MO.out] at C3
            have FN := Lib.hid (fun (wz : World) (g : Nw wr wz) => FIN.out wz (TR.out.base.trans (GZ.out.trans g)))
            go_wp2_with fail
            refine C1.out.mono ?_
            rintro e9 w9 ⟨rfl, rfl⟩
            go_wp2_with fail
            refine C2.out.mono ?_
            rintro e9 w9 ⟨rfl, rfl⟩
            go_wp2_with fail
            refine C3.out.mono ?_
            rintro e9 w9 ⟨rfl, rfl⟩
            go_wp2_with fail
            refine (AW.out _).mono ?_
            rintro ea wa ⟨rfl, ka⟩
            go_wp2_with fail
            go_returns
            exact FN.out _ ka
end Go.Proofs.Ythlcoocboidnlaa
