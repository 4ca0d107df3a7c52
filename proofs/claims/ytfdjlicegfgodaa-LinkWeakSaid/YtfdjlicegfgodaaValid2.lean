/- Which objects may be: object.Valid. -/
import Derived.Test.YtfdjlicegfgodaaValid1
import Derived.Maps.OwnOps
import Derived.RegionTactic
import Derived.ChangeAlike
import Derived.BigRegion
namespace Go.Proofs.Ytfdjlicegfgodaa
open Go.RowKit
set_option linter.unusedSimpArgs false
set_option linter.unusedVariables false

theorem zeroInt (u : World) : (zeroValue 3).run Try.prog u = .ok (.int .i64 0) u := by kernel_rfl
section
variable {P : Program} (w : World) {ops : Array Oper} {rest : List Oper} {o : Oper} {a : Act} {Q : Exit → Act → World → Prop}
theorem wpList_look_run (hg : o.guard = none) (m x : Operand) (t : TypeId) (hop : o.op = Op.lookup t m x false) (mv key v : Value) (hm : a.eval m = mv) (hx : a.eval x = key)
    (hrun : (Instr.lookup t mv key false).run P w = .ok v w) (hK : wpList P ops Q rest (a.put o.dst v) w) : wpList P ops Q (o :: rest) a w := by
  refine wpList_plain hg fun K' hK' => ?_
  unfold Oper.wp
  simp [execOp, hop, hm, hx, hrun, Result.andThen]
  exact hK' _ _ hK
theorem wpList_upd_run (hg : o.guard = none) (m x v : Operand) (t : TypeId) (hop : o.op = Op.mapUpdate t m x v) (mv key val : Value) (w' : World) (hm : a.eval m = mv) (hx : a.eval x = key) (hv : a.eval v = val)
    (hrun : (Instr.mapUpdate t mv key val).run P w = .ok () w') (hK : wpList P ops Q rest (a.put o.dst undef) w') : wpList P ops Q (o :: rest) a w := by
  refine wpList_plain hg fun K' hK' => ?_
  unfold Oper.wp
  simp [execOp, hop, hm, hx, hv, hrun, Result.andThen]
  exact hK' _ _ hK
end
theorem wpList_clear_run {P : Program} (w : World) {ops : Array Oper} {rest : List Oper} {o : Oper} {a : Act} {Q : Exit → Act → World → Prop} (hg : o.guard = none) (m : Operand) (t : TypeId) (hop : o.op = .call { callee := .builtin .clear, args := #[m], argTypes := #[t] }) (mv v : Value) (w' : World) (hm : a.eval m = mv)
    (hrun : (Builtin.clear_ #[t] o.type #[mv]).run P w = .ok v w') (hK : wpList P ops Q rest (a.put o.dst v) w') : wpList P ops Q (o :: rest) a w := by
  refine wpList_plain hg fun K' hK' => ?_
  unfold Oper.wp execOp
  simp only [hop, resolve, invoke, builtin, Sem.run_bind, Sem.run_pure, Result.andThen_ok, List.map_toArray, List.map_cons, List.map_nil, hm, hrun]
  exact hK' _ _ hK
theorem keysRev {α : Type} (f : α → Value) (l : List α) (k : Nat) (h : k < l.length) : ((l.take (k + 1)).map f).reverse = f l[k] :: ((l.take k).map f).reverse := by
  rw [List.take_succ_eq_append_getElem h, List.map_append, List.reverse_append]; rfl
theorem cnt_dc {α : Type} (l : List α) (f : α → ByteArray) (x : ByteArray) : cntV (.string x) ((l.map (fun i => Value.string (f i))).reverse) = 0 ↔ x ∉ l.map f := by
  rw [cntV_zero]
  simp
theorem cnt_sp (l : List Re) (d : Bool) (a : Int) : cntV (.agg #[.bool d, .int .i64 a]) ((l.map (fun r => Value.agg #[.bool r.data, .int .i64 r.at_])).reverse) = 0 ↔ (d, a) ∉ l.map (fun r => (r.data, r.at_)) := by
  rw [cntV_zero]
  simp
theorem vo_step {p q n d ok ok' : Bool} (h1 : ok = (p && q)) (h2 : ok' = (q && (n && d))) : (p && ok') = (ok && (n && d)) := by
  subst h1; subst h2; cases p <;> cases q <;> rfl
set_option maxRecDepth 100000 in
set_option maxHeartbeats 4000000 in
theorem valid_any {B : Nat} {W w : World} (o : Ob) (cs : List Value) (hx : ObAt B W o cs) (h : In B W w) :
    Calls Try.prog 14 #[.agg cs.toArray] w (CodePost w (codeV o)) := by
  obtain ⟨pk, hash, is, ss, rs, code, data⟩ := o
  obtain ⟨vi, vs, vr, vc, vd, rfl, hp, hh, hi, hs, hr, hc, hd⟩ := hx
  have HCs := Lib.hid hc
  have HDs := Lib.hid hd
  obtain ⟨x2, c2, rfl, hil, hie⟩ := hi
  obtain ⟨x3, c3, rfl, hsl, hse⟩ := hs
  obtain ⟨x4, c4, rfl, hrl, hre⟩ := hr
  obtain ⟨x5, c5, rfl, hcl, hce⟩ := hc
  obtain ⟨x6, c6, rfl, hdl, hde⟩ := hd
  have G := Lib.hid h
  have HI := Lib.hid hie
  have HS := Lib.hid hse
  have HR := Lib.hid hre
  clear h hie hse hre hce hde
  obtain ⟨m2, e2⟩ : ∃ n, n = is.length := ⟨_, rfl⟩
  obtain ⟨m3, e3⟩ : ∃ n, n = ss.length := ⟨_, rfl⟩
  obtain ⟨m4, e4⟩ : ∃ n, n = rs.length := ⟨_, rfl⟩
  obtain ⟨m5, e5⟩ : ∃ n, n = code.length := ⟨_, rfl⟩
  obtain ⟨m6, e6⟩ : ∃ n, n = data.length := ⟨_, rfl⟩
  obtain ⟨cv, ecv⟩ : ∃ n, n = codeV ⟨pk, hash, is, ss, rs, code, data⟩ := ⟨_, rfl⟩
  dsimp only at hil hsl hrl hcl hdl HCs HDs hp hh ⊢
  rw [← ecv]
  rw [← e2] at hil ⊢
  rw [← e3] at hsl ⊢
  rw [← e4] at hrl ⊢
  rw [← e5] at hcl HCs ⊢
  rw [← e6] at hdl HDs ⊢
  have CV := Lib.hid ecv
  have E2 := Lib.hid e2
  have E3 := Lib.hid e3
  have E4 := Lib.hid e4
  have E5 := Lib.hid e5
  have E6 := Lib.hid e6
  clear e2 e3 e4 e5 e6 ecv
  have BO := Lib.hid (Blk.new w [.string pk, .int .i64 hash, .slice x2 m2 c2, .slice x3 m3 c3, .slice x4 m4 c4, .slice x5 m5 c5, .slice x6 m6 c6] 27)
  have N0 := Lib.hid (Nw.new w (.cells #[.string pk, .int .i64 hash, .slice x2 m2 c2, .slice x3 m3 c3, .slice x4 m4 c4, .slice x5 m5 c5, .slice x6 m6 c6] 27))
  have hmm := @run_makeMap Try.prog
  by_cases h5 : (65536 : Int) < (m5 : Int)
  · have X := Lib.hid (show cv = 12 by rw [CV.out]; unfold codeV; rw [if_pos (.inl (by dsimp only; rw [← E5.out]; omega))])
    rw [X.out]
    go_enter Try.func14, Try.ntmps14
    go_upto_region 1 with fail
    generalize w.alloc (.cells #[.string pk, .int .i64 hash, .slice x2 m2 c2, .slice x3 m3 c3, .slice x4 m4 c4, .slice x5 m5 c5, .slice x6 m6 c6] 27) = wO at *
    have cO := BO.out.cell
    go_wp2_with fail
    go_returns
    exact ⟨rfl, N0.out⟩
  by_cases h6 : (16384 : Int) < (m6 : Int)
  · have X := Lib.hid (show cv = 12 by rw [CV.out]; unfold codeV; rw [if_pos (.inr (by dsimp only; rw [← E6.out]; omega))])
    rw [X.out]
    go_enter Try.func14, Try.ntmps14
    go_upto_region 1 with fail
    generalize w.alloc (.cells #[.string pk, .int .i64 hash, .slice x2 m2 c2, .slice x3 m3 c3, .slice x4 m4 c4, .slice x5 m5 c5, .slice x6 m6 c6] 27) = wO at *
    have cO := BO.out.cell
    go_wp2_with fail
    go_returns
    exact ⟨rfl, N0.out⟩
  have CW := Lib.hid (show cv = if (nameB pk && (impsB is && (symsB m5 m6 ss && relsB code data rs))) = true then 0 else 4 by
    rw [CV.out, E5.out, E6.out]; unfold codeV; rw [if_neg (by dsimp only; rw [← E5.out, ← E6.out]; omega)]; rfl)
  clear CV
  go_enter Try.func14, Try.ntmps14
  go_upto_region 1 with fail
  have BM := Lib.hid (show ∀ u : World, Nw u u from Nw.refl)
  have hlt0 := BO.out.lt
  generalize w.alloc (.cells #[.string pk, .int .i64 hash, .slice x2 m2 c2, .slice x3 m3 c3, .slice x4 m4 c4, .slice x5 m5 c5, .slice x6 m6 c6] 27) = wO at *
  have cO := BO.out.cell
  have N1 := Lib.hid (N0.out.alloc (.map #[] 0))
  have C1 := Lib.hid (CntAt.made 9 wO)
  have B1 := Lib.hid (BO.out.alloc (.map #[] 0))
  go_upto_region 4 with fail
  generalize wO.alloc (.map #[] 0) = wM at *
  generalize wO.heap.size = mb at *
  have MB := Lib.hid hlt0
  clear cO BO N0 hlt0 BM
  have cO := B1.out.cell
  have NM := Lib.hid (name_is wM pk)
  go_wp2_with fail
  refine NM.out.mono ?_
  rintro e1 w1 ⟨rfl, rfl⟩
  clear NM
  go_wp2_with fail
  go_loopw [4, 30] (fun vo i wr => ∃ k : Nat, k ≤ m2 ∧ i = .int .i64 k ∧ vo = .bool (nameB pk && impsB (is.take k)) ∧ Nw w wr ∧ Blk wr w.heap.size [.string pk, .int .i64 hash, .slice x2 m2 c2, .slice x3 m3 c3, .slice x4 m4 c4, .slice x5 m5 c5, .slice x6 m6 c6] 27 ∧
    CntAt 9 wr mb (((is.take k).map (fun i => Value.string i.name)).reverse)) (fun _ i _ => m2 - (intOf i).toNat)
  case atStart => exact ⟨0, Nat.zero_le _, rfl, by simp [impsB, okPre_nil], N1.out, B1.out, C1.out⟩
  case round =>
    clear cO
    obtain ⟨k, hk0, rfl, rfl, g, bl, cn⟩ := hrel
    have CNk := Lib.hid cn
    have BLk := Lib.hid bl
    have NGk := Lib.hid g
    clear g bl cn
    by_cases hlt : k < m2
    · have hkl : k < is.length := by rw [← E2.out]; exact hlt
      have hq0 : (0 : Int) ≤ (k : Int) := by omega
      have hq1 : (k : Int) < (m2 : Int) := by omega
      obtain ⟨b, o, rfl, hb, he⟩ := HI.out (by intro e; rw [e] at hkl; simp at hkl)
      obtain ⟨cs, hcl2, hcc, rfl, hf1, hf2⟩ := he k hkl
      have f0 := ((G.out.nw NGk.out).bel.cell (p := ⟨b, o + k * 2 + 0, none⟩) hb).trans (hcc 0 (by simp))
      have f1 := ((G.out.nw NGk.out).bel.cell (p := ⟨b, o + k * 2 + 1, none⟩) hb).trans (hcc 1 (by simp))
      simp only [List.getElem?_cons_zero, List.getElem?_cons_succ, Nat.add_zero] at f0 f1
      have KR := Lib.hid (keysRev (fun i => Value.string i.name) is k hkl)
      have SN := Lib.hid (okPre_snoc (fun i : Im => nameB i.name) Im.name hkl)
      clear he hcc hcl2
      generalize is[k]'hkl = y at *
      obtain ⟨nm, hsh⟩ := y
      dsimp only at *
      have NS := Lib.hid (NGk.out.alloc (.cells #[.string nm, .int .i64 hsh] 51))
      have BS := Lib.hid (Blk.new wr [.string nm, .int .i64 hsh] 51)
      have BLS := Lib.hid (BLk.out.alloc (.cells #[.string nm, .int .i64 hsh] 51))
      have CS := Lib.hid (CNk.out.nw (Nw.new wr (.cells #[.string nm, .int .i64 hsh] 51)))
      obtain ⟨lx, hlx⟩ := keyOf_str nm hf1
      have ELK := Lib.hid (CS.out.look strKeyed Try.underlying59 zeroInt hlx)
      obtain ⟨w5, eUP, cn5, k5⟩ := CS.out.store strKeyed Try.underlying59 hlx
      have EUP := Lib.hid eUP
      have CN5 := Lib.hid cn5
      have K5 := Lib.hid k5
      have ELK5 := Lib.hid (cn5.look strKeyed Try.underlying59 zeroInt hlx)
      rw [cntV_self] at ELK5
      have CB := Lib.hid (cntV_le (.string nm) (List.map (fun i => Value.string i.name) (is.take k)).reverse)
      have CZ := Lib.hid (cnt_dc (is.take k) Im.name nm)
      generalize cntV (.string nm) (List.map (fun i => Value.string i.name) (is.take k)).reverse = c at *
      have HW := Lib.hid (show wrap64 ((c : Int) + 1) = (c : Int) + 1 from w64_in (by
        have := CB.out
        simp only [List.length_reverse, List.length_map, List.length_take] at this
        omega))
      have EUP2 := Lib.hid (show (Instr.mapUpdate 59 (.map (some mb)) (.string nm) (.int .i64 (wrap64 ((c : Int) + 1)))).run Try.prog (wr.alloc (.cells #[.string nm, .int .i64 hsh] 51)) = .ok () w5 by rw [HW.out]; exact EUP.out)
      have hmb := CNk.out.lt
      have hmb2 := MB.out
      have N5 := Lib.hid (show Nw w w5 from Kp.trans NS.out K5.out (fun x hx e => absurd e (by omega)))
      have BL5 := Lib.hid (BLS.out.kp K5.out (fun e => absurd e (by omega)))
      have BS5 := Lib.hid (BS.out.kp K5.out (fun e => absurd e (by omega)))
      have f20 := BS.out.cell 0
      have f25 := BS5.out.cell 0
      simp only [List.getElem?_cons_zero] at f20 f25
      have NM5 := Lib.hid (name_is w5 nm)
      have CN6 := Lib.hid (show CntAt 9 w5 mb (((is.take (k + 1)).map (fun i => Value.string i.name)).reverse) by rw [KR.out]; exact CN5.out)
      clear eUP cn5 k5 EUP CN5 K5 NS BLS BS KR CS CB CNk BLk NGk HW
      obtain ⟨d, hd⟩ : ∃ d : Int, d = ((c + 1 : Nat) : Int) := ⟨_, rfl⟩
      rw [← hd] at ELK5
      have DZ := Lib.hid (show d = 1 ↔ nm ∉ (is.take k).map Im.name by rw [← CZ.out]; omega)
      clear hd CZ
      obtain ⟨ok, hok⟩ : ∃ b, b = (nameB pk && impsB (is.take k)) := ⟨_, rfl⟩
      rw [← hok]
      have VS := Lib.hid (fun n d (hn : n = nameB nm) (hd : d = dc (nm ∉ (is.take k).map Im.name)) => vo_step (n := n) (d := d) hok (show impsB (is.take (k + 1)) = _ by unfold impsB; rw [SN.out, hn, hd]))
      clear hok SN
      cases ok with
      | false =>
        have RV := Lib.hid (show (nameB pk && impsB (is.take (k + 1))) = false by rw [VS.out _ _ rfl rfl]; rfl)
        clear VS
        go_wp2_with (first | (at_lookup; refine wpList_look_run _ rfl _ _ _ rfl _ _ _ rfl rfl ELK.out ?_) | (at_mapUpdate; refine wpList_upd_run _ rfl _ _ _ _ rfl _ _ _ _ rfl rfl rfl EUP2.out ?_))
        go_roundw
        case rel => exact ⟨k + 1, by omega, by go_num, by rw [RV.out], N5.out, BL5.out, CN6.out⟩
        case measure => simp [intOf]; omega
      | true =>
        cases hn : nameB nm with
        | false =>
          have HN := Lib.hid hn
          have RV := Lib.hid (show (nameB pk && impsB (is.take (k + 1))) = false by rw [VS.out _ _ rfl rfl, hn]; rfl)
          clear VS hn
          go_wp2_with (first | (at_lookup; refine wpList_look_run _ rfl _ _ _ rfl _ _ _ rfl rfl ELK.out ?_) | (at_mapUpdate; refine wpList_upd_run _ rfl _ _ _ _ rfl _ _ _ _ rfl rfl rfl EUP2.out ?_))
          refine NM5.out.mono ?_
          rintro e5 w6 ⟨rfl, rfl⟩
          rw [HN.out]
          go_wp2_with fail
          go_roundw
          case rel => exact ⟨k + 1, by omega, by go_num, by rw [RV.out], N5.out, BL5.out, CN6.out⟩
          case measure => simp [intOf]; omega
        | true =>
          have HN := Lib.hid hn
          by_cases hd1 : d = 1
          · have RV := Lib.hid (show (nameB pk && impsB (is.take (k + 1))) = true by rw [VS.out _ _ rfl rfl, hn, dc_true (DZ.out.1 hd1)]; rfl)
            subst hd1
            clear VS hn DZ
            have eLK5 := ELK5.out
            go_wp2_with (first | (at_lookup; refine wpList_look_run _ rfl _ _ _ rfl _ _ _ rfl rfl ELK.out ?_) | (at_mapUpdate; refine wpList_upd_run _ rfl _ _ _ _ rfl _ _ _ _ rfl rfl rfl EUP2.out ?_))
            refine NM5.out.mono ?_
            rintro e5 w6 ⟨rfl, rfl⟩
            rw [HN.out]
            go_wp2_with fail
            go_roundw
            case rel => exact ⟨k + 1, by omega, by go_num, by rw [RV.out], N5.out, BL5.out, CN6.out⟩
            case measure => simp [intOf]; omega
          · have RV := Lib.hid (show (nameB pk && impsB (is.take (k + 1))) = false by rw [VS.out _ false rfl (dc_false (fun h => hd1 (DZ.out.2 h))).symm]; simp)
            have eLK5 := ELK5.out
            obtain ⟨cn1, cn2, cn3, cn4⟩ := int_ne hd1
            clear VS hn DZ
            go_wp2_with (first | (at_lookup; refine wpList_look_run _ rfl _ _ _ rfl _ _ _ rfl rfl ELK.out ?_) | (at_mapUpdate; refine wpList_upd_run _ rfl _ _ _ _ rfl _ _ _ _ rfl rfl rfl EUP2.out ?_))
            refine NM5.out.mono ?_
            rintro e5 w6 ⟨rfl, rfl⟩
            rw [HN.out]
            go_wp2_with fail
            go_roundw
            case rel => exact ⟨k + 1, by omega, by go_num, by rw [RV.out], N5.out, BL5.out, CN6.out⟩
            case measure => simp [intOf]; omega
    · have HB := Lib.hid (show (nameB pk && impsB (is.take k)) = (nameB pk && impsB is) by unfold impsB; rw [okPre_all _ _ (by rw [← E2.out]; omega)])
      rw [HB.out]
      clear HB
      obtain ⟨bs, hbs⟩ : ∃ bs, bs = (nameB pk && impsB is) := ⟨_, rfl⟩
      rw [← hbs]
      have HBS := Lib.hid hbs
      clear hbs
      obtain ⟨wc, eCL, cnc, kc⟩ := CNk.out.clear Try.underlying59 (ty := 0)
      have ECL := Lib.hid eCL
      have hmb2 := MB.out
      have NC := Lib.hid (show Nw w wc from Kp.trans NGk.out kc (fun x hx e => absurd e (by omega)))
      have BLC := Lib.hid (BLk.out.kp kc (fun e => absurd e (by omega)))
      have CNC := Lib.hid cnc
      clear eCL cnc kc NGk BLk CNk
      have cO := BLC.out.cell
      have eCL := ECL.out
      go_wp2_with fail
      go_loopw [4, 57] (fun vo i wr => ∃ k : Nat, k ≤ m3 ∧ i = .int .i64 k ∧ vo = .bool (bs && symsB m5 m6 (ss.take k)) ∧ Nw w wr ∧ Blk wr w.heap.size [.string pk, .int .i64 hash, .slice x2 m2 c2, .slice x3 m3 c3, .slice x4 m4 c4, .slice x5 m5 c5, .slice x6 m6 c6] 27 ∧
        CntAt 9 wr mb (((ss.take k).map (fun i => Value.string i.name)).reverse)) (fun _ i _ => m3 - (intOf i).toNat)
      case atStart => exact ⟨0, Nat.zero_le _, rfl, by simp [symsB, okPre_nil], NC.out, BLC.out, CNC.out⟩
      case round =>
        clear cO
        obtain ⟨k, hk0, rfl, rfl, g, bl, cn⟩ := hrel
        have CNk := Lib.hid cn
        have BLk := Lib.hid bl
        have NGk := Lib.hid g
        clear g bl cn
        by_cases hlt : k < m3
        · have hkl : k < ss.length := by rw [← E3.out]; exact hlt
          have hq0 : (0 : Int) ≤ (k : Int) := by omega
          have hq1 : (k : Int) < (m3 : Int) := by omega
          obtain ⟨b, o, rfl, hb, he⟩ := HS.out (by intro e; rw [e] at hkl; simp at hkl)
          obtain ⟨cs, hcl2, hcc, rfl, hf1, hf2, hf3, hf4, hf5⟩ := he k hkl
          have f0 := ((G.out.nw NGk.out).bel.cell (p := ⟨b, o + k * 6 + 0, none⟩) hb).trans (hcc 0 (by simp))
          have f1 := ((G.out.nw NGk.out).bel.cell (p := ⟨b, o + k * 6 + 1, none⟩) hb).trans (hcc 1 (by simp))
          have f2 := ((G.out.nw NGk.out).bel.cell (p := ⟨b, o + k * 6 + 2, none⟩) hb).trans (hcc 2 (by simp))
          have f3 := ((G.out.nw NGk.out).bel.cell (p := ⟨b, o + k * 6 + 3, none⟩) hb).trans (hcc 3 (by simp))
          have f4 := ((G.out.nw NGk.out).bel.cell (p := ⟨b, o + k * 6 + 4, none⟩) hb).trans (hcc 4 (by simp))
          have f5 := ((G.out.nw NGk.out).bel.cell (p := ⟨b, o + k * 6 + 5, none⟩) hb).trans (hcc 5 (by simp))
          simp only [List.getElem?_cons_zero, List.getElem?_cons_succ, Nat.add_zero] at f0 f1 f2 f3 f4 f5
          have KR := Lib.hid (keysRev (fun i => Value.string i.name) ss k hkl)
          have SN := Lib.hid (okPre_snoc (fun s : Sy => symB m5 m6 s.name s.kind s.at_ s.size s.frame) Sy.name hkl)
          clear he hcc hcl2
          generalize ss[k]'hkl = y at *
          obtain ⟨nm, kind, wk, at_, size, frame⟩ := y
          dsimp only at *
          have NS := Lib.hid (NGk.out.alloc (.cells #[.string nm, .int .i64 kind, .bool wk, .int .i64 at_, .int .i64 size, .int .i64 frame] 44))
          have BS := Lib.hid (Blk.new wr [.string nm, .int .i64 kind, .bool wk, .int .i64 at_, .int .i64 size, .int .i64 frame] 44)
          have BLS := Lib.hid (BLk.out.alloc (.cells #[.string nm, .int .i64 kind, .bool wk, .int .i64 at_, .int .i64 size, .int .i64 frame] 44))
          have CS := Lib.hid (CNk.out.nw (Nw.new wr (.cells #[.string nm, .int .i64 kind, .bool wk, .int .i64 at_, .int .i64 size, .int .i64 frame] 44)))
          obtain ⟨lx, hlx⟩ := keyOf_str nm hf1
          have ELK := Lib.hid (CS.out.look strKeyed Try.underlying59 zeroInt hlx)
          obtain ⟨w5, eUP, cn5, k5⟩ := CS.out.store strKeyed Try.underlying59 hlx
          have EUP := Lib.hid eUP
          have CN5 := Lib.hid cn5
          have K5 := Lib.hid k5
          have ELK5 := Lib.hid (cn5.look strKeyed Try.underlying59 zeroInt hlx)
          rw [cntV_self] at ELK5
          have CB := Lib.hid (cntV_le (.string nm) (List.map (fun i => Value.string i.name) (ss.take k)).reverse)
          have CZ := Lib.hid (cnt_dc (ss.take k) Sy.name nm)
          generalize cntV (.string nm) (List.map (fun i => Value.string i.name) (ss.take k)).reverse = c at *
          have HW := Lib.hid (show wrap64 ((c : Int) + 1) = (c : Int) + 1 from w64_in (by
            have := CB.out
            simp only [List.length_reverse, List.length_map, List.length_take] at this
            omega))
          have EUP2 := Lib.hid (show (Instr.mapUpdate 59 (.map (some mb)) (.string nm) (.int .i64 (wrap64 ((c : Int) + 1)))).run Try.prog (wr.alloc (.cells #[.string nm, .int .i64 kind, .bool wk, .int .i64 at_, .int .i64 size, .int .i64 frame] 44)) = .ok () w5 by rw [HW.out]; exact EUP.out)
          have hmb := CNk.out.lt
          have hmb2 := MB.out
          have N5 := Lib.hid (show Nw w w5 from Kp.trans NS.out K5.out (fun x hx e => absurd e (by omega)))
          have BL5 := Lib.hid (BLS.out.kp K5.out (fun e => absurd e (by omega)))
          have BS5 := Lib.hid (BS.out.kp K5.out (fun e => absurd e (by omega)))
          have f20 := BS.out.cell 0
          have f25 := BS5.out.cell
          have cO5 := BL5.out.cell
          simp only [List.getElem?_cons_zero] at f20
          have NM5 := Lib.hid (name_is w5 nm)
          have LS5 := Lib.hid (lies_any w5 nm kind wk at_ size frame (.string pk) (.int .i64 hash) (.slice x2 m2 c2) (.slice (some ⟨b, o, none⟩) m3 c3) (.slice x4 m4 c4) x5 m5 c5 x6 m6 c6 hcl hdl)
          have CN6 := Lib.hid (show CntAt 9 w5 mb (((ss.take (k + 1)).map (fun i => Value.string i.name)).reverse) by rw [KR.out]; exact CN5.out)
          clear eUP cn5 k5 EUP CN5 K5 NS BLS BS KR CS CB CNk BLk NGk HW
          obtain ⟨d, hd⟩ : ∃ d : Int, d = ((c + 1 : Nat) : Int) := ⟨_, rfl⟩
          rw [← hd] at ELK5
          have DZ := Lib.hid (show d = 1 ↔ nm ∉ (ss.take k).map Sy.name by rw [← CZ.out]; omega)
          clear hd CZ
          obtain ⟨ok, hok⟩ : ∃ b, b = (bs && symsB m5 m6 (ss.take k)) := ⟨_, rfl⟩
          rw [← hok]
          have VS := Lib.hid (fun n d (hn : n = symB m5 m6 nm kind at_ size frame) (hd : d = dc (nm ∉ (ss.take k).map Sy.name)) => vo_step (n := n) (d := d) hok (show symsB m5 m6 (ss.take (k + 1)) = _ by unfold symsB; rw [SN.out, hn, hd]))
          clear hok SN
          cases ok with
          | false =>
            have RV := Lib.hid (show (bs && symsB m5 m6 (ss.take (k + 1))) = false by rw [VS.out _ _ rfl rfl]; rfl)
            clear VS
            go_wp2_with (first | (at_lookup; refine wpList_look_run _ rfl _ _ _ rfl _ _ _ rfl rfl ELK.out ?_) | (at_mapUpdate; refine wpList_upd_run _ rfl _ _ _ _ rfl _ _ _ _ rfl rfl rfl EUP2.out ?_))
            go_roundw
            case rel => exact ⟨k + 1, by omega, by go_num, by rw [RV.out], N5.out, BL5.out, CN6.out⟩
            case measure => simp [intOf]; omega
          | true =>
            cases hn : nameB nm with
            | false =>
              have HN := Lib.hid hn
              have RV := Lib.hid (show (bs && symsB m5 m6 (ss.take (k + 1))) = false by rw [VS.out false _ (by unfold symB; rw [hn]; rfl) rfl]; rfl)
              clear VS hn
              go_wp2_with (first | (at_lookup; refine wpList_look_run _ rfl _ _ _ rfl _ _ _ rfl rfl ELK.out ?_) | (at_mapUpdate; refine wpList_upd_run _ rfl _ _ _ _ rfl _ _ _ _ rfl rfl rfl EUP2.out ?_))
              refine NM5.out.mono ?_
              rintro e5 w6 ⟨rfl, rfl⟩
              rw [HN.out]
              go_wp2_with fail
              go_roundw
              case rel => exact ⟨k + 1, by omega, by go_num, by rw [RV.out], N5.out, BL5.out, CN6.out⟩
              case measure => simp [intOf]; omega
            | true =>
              have HN := Lib.hid hn
              by_cases hd1 : d = 1
              · have RV := Lib.hid (show (bs && symsB m5 m6 (ss.take (k + 1))) = liesB m5 m6 kind at_ size frame by rw [VS.out (liesB m5 m6 kind at_ size frame) true (by unfold symB; rw [hn]; rfl) (dc_true (DZ.out.1 hd1)).symm]; simp)
                subst hd1
                clear VS hn DZ
                have eLK5 := ELK5.out
                go_wp2_with (first | (at_lookup; refine wpList_look_run _ rfl _ _ _ rfl _ _ _ rfl rfl ELK.out ?_) | (at_mapUpdate; refine wpList_upd_run _ rfl _ _ _ _ rfl _ _ _ _ rfl rfl rfl EUP2.out ?_))
                refine NM5.out.mono ?_
                rintro e5 w6 ⟨rfl, rfl⟩
                rw [HN.out]
                go_wp2_with fail
                refine LS5.out.mono ?_
                rintro e7 w7 ⟨rfl, k7⟩
                have K7 := Lib.hid k7
                clear k7 f25 cO5 eLK5
                go_wp2_with fail
                go_roundw
                case rel => exact ⟨k + 1, by omega, by go_num, by rw [RV.out], (N5.out.trans K7.out), (BL5.out.nw K7.out), (CN6.out.nw K7.out)⟩
                case measure => simp [intOf]; omega
              · have RV := Lib.hid (show (bs && symsB m5 m6 (ss.take (k + 1))) = false by rw [VS.out _ false rfl (dc_false (fun h => hd1 (DZ.out.2 h))).symm]; simp)
                have eLK5 := ELK5.out
                obtain ⟨cn1, cn2, cn3, cn4⟩ := int_ne hd1
                clear VS hn DZ
                go_wp2_with (first | (at_lookup; refine wpList_look_run _ rfl _ _ _ rfl _ _ _ rfl rfl ELK.out ?_) | (at_mapUpdate; refine wpList_upd_run _ rfl _ _ _ _ rfl _ _ _ _ rfl rfl rfl EUP2.out ?_))
                refine NM5.out.mono ?_
                rintro e5 w6 ⟨rfl, rfl⟩
                rw [HN.out]
                go_wp2_with fail
                go_roundw
                case rel => exact ⟨k + 1, by omega, by go_num, by rw [RV.out], N5.out, BL5.out, CN6.out⟩
                case measure => simp [intOf]; omega
        · have HB := Lib.hid (show (bs && symsB m5 m6 (ss.take k)) = (bs && symsB m5 m6 ss) by unfold symsB; rw [okPre_all _ _ (by rw [← E3.out]; omega)])
          rw [HB.out]
          clear HB
          obtain ⟨bs2, hbs2⟩ : ∃ b, b = (bs && symsB m5 m6 ss) := ⟨_, rfl⟩
          rw [← hbs2]
          have HBS2 := Lib.hid hbs2
          clear hbs2
          have N3 := Lib.hid (NGk.out.alloc (.map #[] 0))
          have C3 := Lib.hid (CntAt.made 66 wr)
          have B3 := Lib.hid (BLk.out.alloc (.map #[] 0))
          have hlt3 := Nat.lt_of_lt_of_le BLk.out.lt (Nat.le_refl _)
          clear NGk CNk BLk
          go_upto_region 19 with fail
          generalize wr.alloc (.map #[] 0) = wS at *
          generalize wr.heap.size = sb at *
          have SB := Lib.hid hlt3
          clear hlt3
          have cO := B3.out.cell
          go_wp2_with fail
          go_loopw [4, 89] (fun vo i wr => ∃ k : Nat, k ≤ m4 ∧ i = .int .i64 k ∧ vo = .bool (bs2 && relsB code data (rs.take k)) ∧ Nw w wr ∧ Blk wr w.heap.size [.string pk, .int .i64 hash, .slice x2 m2 c2, .slice x3 m3 c3, .slice x4 m4 c4, .slice x5 m5 c5, .slice x6 m6 c6] 27 ∧
            CntAt 66 wr sb (((rs.take k).map (fun r => Value.agg #[.bool r.data, .int .i64 r.at_])).reverse)) (fun _ i _ => m4 - (intOf i).toNat)
          case atStart => exact ⟨0, Nat.zero_le _, rfl, by simp [relsB, okPre_nil], N3.out, B3.out, C3.out⟩
          case round =>
            clear cO
            obtain ⟨k, hk0, rfl, rfl, g, bl, cn⟩ := hrel
            have CNk := Lib.hid cn
            have BLk := Lib.hid bl
            have NGk := Lib.hid g
            clear g bl cn
            by_cases hlt : k < m4
            · have hkl : k < rs.length := by rw [← E4.out]; exact hlt
              have hq0 : (0 : Int) ≤ (k : Int) := by omega
              have hq1 : (k : Int) < (m4 : Int) := by omega
              obtain ⟨b, o, rfl, hb, he⟩ := HR.out (by intro e; rw [e] at hkl; simp at hkl)
              obtain ⟨cs, hcl2, hcc, rfl, hf1, hf2⟩ := he k hkl
              have f0 := ((G.out.nw NGk.out).bel.cell (p := ⟨b, o + k * 3 + 0, none⟩) hb).trans (hcc 0 (by simp))
              have f1 := ((G.out.nw NGk.out).bel.cell (p := ⟨b, o + k * 3 + 1, none⟩) hb).trans (hcc 1 (by simp))
              have f2 := ((G.out.nw NGk.out).bel.cell (p := ⟨b, o + k * 3 + 2, none⟩) hb).trans (hcc 2 (by simp))
              simp only [List.getElem?_cons_zero, List.getElem?_cons_succ, Nat.add_zero] at f0 f1 f2
              have KR := Lib.hid (keysRev (fun r => Value.agg #[.bool r.data, .int .i64 r.at_]) rs k hkl)
              have SN := Lib.hid (okPre_snoc (fun r : Re => nameB r.name && mendsB code data r.data r.at_) (fun r => (r.data, r.at_)) hkl)
              clear he hcc hcl2
              generalize rs[k]'hkl = y at *
              obtain ⟨dd, at_, nm⟩ := y
              dsimp only at *
              have hat := Lib.hid hf1
              have NS := Lib.hid ((NGk.out.alloc (.cells #[.bool dd, .int .i64 at_, .string nm] 64)).alloc (.cells #[.bool dd, .int .i64 at_] 66))
              have BS := Lib.hid ((Blk.new wr [.bool dd, .int .i64 at_, .string nm] 64).alloc (.cells #[.bool dd, .int .i64 at_] 66))
              have BK := Lib.hid (Blk.new (wr.alloc (.cells #[.bool dd, .int .i64 at_, .string nm] 64)) [.bool dd, .int .i64 at_] 66)
              have BLS := Lib.hid ((BLk.out.alloc (.cells #[.bool dd, .int .i64 at_, .string nm] 64)).alloc (.cells #[.bool dd, .int .i64 at_] 66))
              have CS := Lib.hid ((CNk.out.nw (Nw.new wr (.cells #[.bool dd, .int .i64 at_, .string nm] 64))).nw (Nw.new (wr.alloc (.cells #[.bool dd, .int .i64 at_, .string nm] 64)) (.cells #[.bool dd, .int .i64 at_] 66)))
              have hrb := CNk.out.lt
              have hrz : wr.heap.size < ((wr.alloc (.cells #[.bool dd, .int .i64 at_, .string nm] 64)).alloc (.cells #[.bool dd, .int .i64 at_] 66)).heap.size := by simp; omega
              have hrk : (wr.alloc (.cells #[.bool dd, .int .i64 at_, .string nm] 64)).heap.size = wr.heap.size + 1 := size_alloc _ _
              rw [hrk] at BK
              clear hrk
              have hsb := SB.out
              go_upto_region 23 with fail
              generalize ((wr.alloc (.cells #[.bool dd, .int .i64 at_, .string nm] 64)).alloc (.cells #[.bool dd, .int .i64 at_] 66)) = wv at *
              generalize wr.heap.size = rb at *
              obtain ⟨lx, hlx⟩ := keyOf_spot dd at_ hf1
              have CZ := Lib.hid (cnt_sp (rs.take k) dd at_)
              have CB := Lib.hid (cntV_le (.agg #[.bool dd, .int .i64 at_]) (List.map (fun r => Value.agg #[.bool r.data, .int .i64 r.at_]) (rs.take k)).reverse)
              obtain ⟨w5, st, eME, cnE, kE, hES⟩ := (show CntAt 66 wv.drew sb _ from CS.out).entry spotKeyed Try.underlying62 zeroInt hlx
              have eLK0 := (show CntAt 66 wv.drew sb _ from CS.out).look spotKeyed Try.underlying62 zeroInt hlx
              have eLK1 := cnE.look spotKeyed Try.underlying62 zeroInt hlx
              obtain ⟨w6, eES, cn6, k6⟩ := hES w5 rfl
              have ELK6 := Lib.hid (cn6.look spotKeyed Try.underlying62 zeroInt hlx)
              rw [cntV_self] at ELK6
              generalize cntV (.agg #[.bool dd, .int .i64 at_]) (List.map (fun r => Value.agg #[.bool r.data, .int .i64 r.at_]) (rs.take k)).reverse = c at *
              have HW := Lib.hid (show wrap64 ((c : Int) + 1) = (c : Int) + 1 from w64_in (by
                have := CB.out
                simp only [List.length_reverse, List.length_map, List.length_take] at this
                omega))
              have K6 := Lib.hid (show Kp (fun j => j = sb) wv w6 from Kp.trans (show Kp (fun j => j = sb) wv w5 from ⟨kE.os, kE.tape, kE.output, kE.size, kE.block⟩) k6 (fun _ _ x => x))
              have N6 := Lib.hid (show Nw w w6 from Kp.trans NS.out K6.out (fun x hx e => absurd e (by have := N3.out.size; omega)))
              have cK0 := BK.out.cell 0
              have cK1 := BK.out.cell 1
              simp only [List.getElem?_cons_zero, List.getElem?_cons_succ] at cK0 cK1
              rw [← HW.out] at eES
              clear CNk BLk NGk cnE kE hES k6 HW
              go_region
              have BR6 := Lib.hid (BS.out.kp K6.out (fun e => absurd e (by omega)))
              have BK6 := Lib.hid (BK.out.kp K6.out (fun e => absurd e (by omega)))
              have hsz := N3.out.size
              have BL6 := Lib.hid (BLS.out.kp K6.out (fun e => absurd e (by omega)))
              have CN6 := Lib.hid (show CntAt 66 w6 sb (((rs.take (k + 1)).map (fun r => Value.agg #[.bool r.data, .int .i64 r.at_])).reverse) by rw [KR.out]; exact cn6)
              have G6 := Lib.hid (G.out.nw N6.out)
              have ME6 := Lib.hid (mends_any G6.out dd at_ nm (.string pk) (.int .i64 hash) (.slice x2 m2 c2) (.slice x3 m3 c3) (.slice (some ⟨b, o, none⟩) m4 c4) (.slice x5 m5 c5) (.slice x6 m6 c6) code data hf1 HCs.out HDs.out)
              have NM6 := Lib.hid (name_is w6 nm)
              clear eME eLK0 eLK1 eES cK0 cK1 KR cn6 NS BS BK BLS CS K6 f0 f1 f2 hsz
              obtain ⟨d, hd⟩ : ∃ d : Int, d = ((c + 1 : Nat) : Int) := ⟨_, rfl⟩
              rw [← hd] at ELK6
              have DZ := Lib.hid (show d = 1 ↔ (dd, at_) ∉ (rs.take k).map (fun r => (r.data, r.at_)) by rw [← CZ.out]; omega)
              clear hd CZ CB
              obtain ⟨ok, hok⟩ : ∃ b, b = (bs2 && relsB code data (rs.take k)) := ⟨_, rfl⟩
              rw [← hok]
              have VS := Lib.hid (fun n d (hn : n = (nameB nm && mendsB code data dd at_)) (hd : d = dc ((dd, at_) ∉ (rs.take k).map (fun r => (r.data, r.at_)))) => vo_step (n := n) (d := d) hok (show relsB code data (rs.take (k + 1)) = _ by unfold relsB; rw [SN.out, hn, hd]))
              clear hok SN
              have a60 := BR6.out.cell 0
              have a61 := BR6.out.cell 1
              have a62 := BR6.out.cell 2
              have k60 := BK6.out.cell 0
              have k61 := BK6.out.cell 1
              simp only [List.getElem?_cons_zero, List.getElem?_cons_succ] at a60 a61 a62 k60 k61
              cases ok with
              | false =>
                have RV := Lib.hid (show (bs2 && relsB code data (rs.take (k + 1))) = false by rw [VS.out _ _ rfl rfl]; rfl)
                clear VS
                go_wp2_with fail
                go_roundw
                case rel => exact ⟨k + 1, by omega, by go_num, by rw [RV.out], N6.out, BL6.out, CN6.out⟩
                case measure => simp [intOf]; omega
              | true =>
                cases hn : nameB nm with
                | false =>
                  have HN := Lib.hid hn
                  have RV := Lib.hid (show (bs2 && relsB code data (rs.take (k + 1))) = false by rw [VS.out false _ (by rw [hn]; rfl) rfl]; rfl)
                  clear VS hn
                  go_wp2_with fail
                  refine NM6.out.mono ?_
                  rintro e5 w7 ⟨rfl, rfl⟩
                  rw [HN.out]
                  go_wp2_with fail
                  go_roundw
                  case rel => exact ⟨k + 1, by omega, by go_num, by rw [RV.out], N6.out, BL6.out, CN6.out⟩
                  case measure => simp [intOf]; omega
                | true =>
                  have HN := Lib.hid hn
                  by_cases hd1 : d = 1
                  · have RV := Lib.hid (show (bs2 && relsB code data (rs.take (k + 1))) = mendsB code data dd at_ by rw [VS.out (mendsB code data dd at_) true (by rw [hn]; rfl) (dc_true (DZ.out.1 hd1)).symm]; simp)
                    subst hd1
                    clear VS hn DZ
                    have eLK6 := ELK6.out
                    have cO6 := BL6.out.cell
                    go_wp2_with fail
                    refine NM6.out.mono ?_
                    rintro e5 w7 ⟨rfl, rfl⟩
                    rw [HN.out]
                    go_wp2_with fail
                    refine ME6.out.mono ?_
                    rintro e7 w7 ⟨rfl, k7⟩
                    have K7 := Lib.hid k7
                    clear k7 a60 a61 a62 k60 k61 cO6 eLK6
                    go_wp2_with fail
                    go_roundw
                    case rel => exact ⟨k + 1, by omega, by go_num, by rw [RV.out], (N6.out.trans K7.out), (BL6.out.nw K7.out), (CN6.out.nw K7.out)⟩
                    case measure => simp [intOf]; omega
                  · have RV := Lib.hid (show (bs2 && relsB code data (rs.take (k + 1))) = false by rw [VS.out _ false rfl (dc_false (fun h => hd1 (DZ.out.2 h))).symm]; simp)
                    have eLK6 := ELK6.out
                    obtain ⟨cn1, cn2, cn3, cn4⟩ := int_ne hd1
                    clear VS hn DZ
                    go_wp2_with fail
                    refine NM6.out.mono ?_
                    rintro e5 w7 ⟨rfl, rfl⟩
                    rw [HN.out]
                    go_wp2_with fail
                    go_roundw
                    case rel => exact ⟨k + 1, by omega, by go_num, by rw [RV.out], N6.out, BL6.out, CN6.out⟩
                    case measure => simp [intOf]; omega
            · have HB := Lib.hid (show (bs2 && relsB code data (rs.take k)) = (bs2 && relsB code data rs) by unfold relsB; rw [okPre_all _ _ (by rw [← E4.out]; omega)])
              rw [HB.out]
              have CQ := Lib.hid (show cv = if (bs2 && relsB code data rs) = true then 0 else 4 by rw [CW.out, HBS2.out, HBS.out]; simp only [Bool.and_assoc])
              clear HB
              obtain ⟨r, hr⟩ : ∃ r, r = (bs2 && relsB code data rs) := ⟨_, rfl⟩
              rw [← hr] at CQ ⊢
              clear hr
              cases r with
              | true =>
                have X := Lib.hid (show cv = 0 by rw [CQ.out]; rfl)
                go_wp2_with fail
                go_returns
                exact ⟨retI X.out.symm, NGk.out⟩
              | false =>
                have X := Lib.hid (show cv = 4 by rw [CQ.out]; rfl)
                go_wp2_with fail
                go_returns
                exact ⟨retI X.out.symm, NGk.out⟩
end Go.Proofs.Ytfdjlicegfgodaa
