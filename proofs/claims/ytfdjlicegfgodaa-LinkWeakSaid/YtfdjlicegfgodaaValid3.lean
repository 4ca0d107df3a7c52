/- Which objects may be: the document's Valid. -/
import Derived.Test.YtfdjlicegfgodaaValid2
import Derived.Deep.CutBlock
import Derived.Deep.DeepCutAuto
namespace Go.Proofs.Ytfdjlicegfgodaa
open Go.RowKit
set_option linter.unusedSimpArgs false
set_option linter.unusedVariables false

section
variable {α κ : Type}
theorem uq_nil (key : α → κ) (l : List α) (x : κ) : dc (x ∉ (l.take 0).map key) = true := dc_true (by simp)
theorem uq_no {key : α → κ} {l : List α} {x : κ} {j : Nat} (hj : j < l.length) (h : key l[j] = x) : dc (x ∉ (l.take (j + 1)).map key) = false :=
  dc_false (fun hn => hn (by rw [List.take_succ_eq_append_getElem hj, List.map_append, List.map_singleton, h]; exact List.mem_append_right _ (List.mem_singleton.2 rfl)))
theorem uq_yes {key : α → κ} {l : List α} {x : κ} {j : Nat} (hj : j < l.length) (h : ¬ key l[j] = x) : dc (x ∉ (l.take (j + 1)).map key) = dc (x ∉ (l.take j).map key) := by
  apply dc_congr
  rw [List.take_succ_eq_append_getElem hj, List.map_append, List.map_singleton, List.mem_append, List.mem_singleton, not_or]
  exact ⟨fun h2 => h2.1, fun h2 => ⟨h2, fun e => h e.symm⟩⟩
theorem uq_keep {key : α → κ} {l : List α} {x : κ} {j : Nat} (h : dc (x ∉ (l.take j).map key) = false) : dc (x ∉ (l.take (j + 1)).map key) = false := by
  by_cases hj : j < l.length
  · by_cases hk : key l[j] = x
    · exact uq_no hj hk
    · rw [uq_yes hj hk, h]
  · rw [List.take_of_length_le (by omega)] at h ⊢; exact h
theorem in_no {key : α → κ} {l : List α} {x : κ} {j : Nat} {f : Bool} (h : (f && dc (x ∉ (l.take j).map key)) = false) : (f && dc (x ∉ (l.take (j + 1)).map key)) = false := by
  cases f with
  | false => rfl
  | true => rw [Bool.true_and] at h ⊢; exact uq_keep h
theorem in_eq {key : α → κ} {l : List α} {x : κ} {j : Nat} {f : Bool} (hj : j < l.length) (h : key l[j] = x) : (f && dc (x ∉ (l.take (j + 1)).map key)) = false := by rw [uq_no hj h, Bool.and_false]
theorem in_ne {key : α → κ} {l : List α} {x : κ} {j : Nat} {f : Bool} (hj : j < l.length) (h : ¬ key l[j] = x) : (f && dc (x ∉ (l.take (j + 1)).map key)) = (f && dc (x ∉ (l.take j).map key)) := by rw [uq_yes hj h]
end
set_option maxRecDepth 100000 in
set_option maxHeartbeats 8000000 in
theorem rvalid_any {B : Nat} {W w : World} (o : Ob) (cs : List Value) (hx : ObAt B W o cs) (h : In B W w) :
    Calls Try.prog 15 #[.agg cs.toArray] w (CodePost w (codeV o)) := by
  obtain ⟨pk, hash, is, ss, rs, code, data⟩ := o
  obtain ⟨vi, vs, vr, vc, vd, rfl, hp, hh, hi, hs, hr, hc, hd⟩ := hx
  have HCs := Lib.hid hc
  have HDs := Lib.hid hd
  obtain ⟨x2, c2, rfl, hil, hie⟩ := hi
  obtain ⟨x3, c3, rfl, hsl, hse⟩ := hs
  obtain ⟨x4, c4, rfl, hrl, hre⟩ := hr
  obtain ⟨x5, c5, rfl, hcl, hce⟩ := hc
  obtain ⟨x6, c6, rfl, hdl, hde⟩ := hd
  have G := Lib.hid h
  have HI := Lib.hid hie
  have HS := Lib.hid hse
  have HR := Lib.hid hre
  clear h hie hse hre hce hde
  obtain ⟨m2, e2⟩ : ∃ n, n = is.length := ⟨_, rfl⟩
  obtain ⟨m3, e3⟩ : ∃ n, n = ss.length := ⟨_, rfl⟩
  obtain ⟨m4, e4⟩ : ∃ n, n = rs.length := ⟨_, rfl⟩
  obtain ⟨m5, e5⟩ : ∃ n, n = code.length := ⟨_, rfl⟩
  obtain ⟨m6, e6⟩ : ∃ n, n = data.length := ⟨_, rfl⟩
  obtain ⟨cv, ecv⟩ : ∃ n, n = codeV ⟨pk, hash, is, ss, rs, code, data⟩ := ⟨_, rfl⟩
  dsimp only at hil hsl hrl hcl hdl HCs HDs hp hh ⊢
  rw [← ecv]
  rw [← e2] at hil ⊢
  rw [← e3] at hsl ⊢
  rw [← e4] at hrl ⊢
  rw [← e5] at hcl HCs ⊢
  rw [← e6] at hdl HDs ⊢
  have CV := Lib.hid ecv
  have E2 := Lib.hid e2
  have E3 := Lib.hid e3
  have E4 := Lib.hid e4
  have E5 := Lib.hid e5
  have E6 := Lib.hid e6
  clear e2 e3 e4 e5 e6 ecv
  have BO := Lib.hid (Blk.new w [.string pk, .int .i64 hash, .slice x2 m2 c2, .slice x3 m3 c3, .slice x4 m4 c4, .slice x5 m5 c5, .slice x6 m6 c6] 27)
  have N0 := Lib.hid (Nw.new w (.cells #[.string pk, .int .i64 hash, .slice x2 m2 c2, .slice x3 m3 c3, .slice x4 m4 c4, .slice x5 m5 c5, .slice x6 m6 c6] 27))
  by_cases h5 : (65536 : Int) < (m5 : Int)
  · have X := Lib.hid (show cv = 12 by rw [CV.out]; unfold codeV; rw [if_pos (.inl (by dsimp only; rw [← E5.out]; omega))])
    rw [X.out]
    go_enter Try.func15, Try.ntmps15
    go_upto_region 1 with fail
    generalize w.alloc (.cells #[.string pk, .int .i64 hash, .slice x2 m2 c2, .slice x3 m3 c3, .slice x4 m4 c4, .slice x5 m5 c5, .slice x6 m6 c6] 27) = wO at *
    have cO := BO.out.cell
    go_wp2_with fail
    go_returns
    exact ⟨rfl, N0.out⟩
  by_cases h6 : (16384 : Int) < (m6 : Int)
  · have X := Lib.hid (show cv = 12 by rw [CV.out]; unfold codeV; rw [if_pos (.inr (by dsimp only; rw [← E6.out]; omega))])
    rw [X.out]
    go_enter Try.func15, Try.ntmps15
    go_upto_region 1 with fail
    generalize w.alloc (.cells #[.string pk, .int .i64 hash, .slice x2 m2 c2, .slice x3 m3 c3, .slice x4 m4 c4, .slice x5 m5 c5, .slice x6 m6 c6] 27) = wO at *
    have cO := BO.out.cell
    go_wp2_with fail
    go_returns
    exact ⟨rfl, N0.out⟩
  have CW := Lib.hid (show cv = if (nameB pk && (impsB is && (symsB m5 m6 ss && relsB code data rs))) = true then 0 else 4 by
    rw [CV.out, E5.out, E6.out]; unfold codeV; rw [if_neg (by dsimp only; rw [← E5.out, ← E6.out]; omega)]; rfl)
  clear CV
  have RN := Lib.hid (rname_is (w.alloc (.cells #[.string pk, .int .i64 hash, .slice x2 m2 c2, .slice x3 m3 c3, .slice x4 m4 c4, .slice x5 m5 c5, .slice x6 m6 c6] 27)) pk)
  go_enter Try.func15, Try.ntmps15
  go_upto_region 1 with fail
  generalize w.alloc (.cells #[.string pk, .int .i64 hash, .slice x2 m2 c2, .slice x3 m3 c3, .slice x4 m4 c4, .slice x5 m5 c5, .slice x6 m6 c6] 27) = wO at *
  have cO := BO.out.cell
  go_wp2_with fail
  refine RN.out.mono ?_
  rintro e1 w1 ⟨rfl, rfl⟩
  have N1 := Lib.hid N0.out
  have B1 := Lib.hid BO.out
  try clear cO
  go_upto_block 0 with fail
  go_cut [3] from 4 to 60 (fun s3 wr => s3 = .bool (nameB pk && impsB is) ∧ Nw w wr ∧ Blk wr w.heap.size [.string pk, .int .i64 hash, .slice x2 m2 c2, .slice x3 m3 c3, .slice x4 m4 c4, .slice x5 m5 c5, .slice x6 m6 c6] 27)
  case first =>
    go_wp2_with fail
    go_loopw [3, 4] (fun s3 si wr => ∃ k : Nat, k ≤ m2 ∧ si = .int .i64 k ∧ s3 = .bool (nameB pk && impsB (is.take k)) ∧ Nw w wr ∧ Blk wr w.heap.size [.string pk, .int .i64 hash, .slice x2 m2 c2, .slice x3 m3 c3, .slice x4 m4 c4, .slice x5 m5 c5, .slice x6 m6 c6] 27) (fun _ i _ => m2 - (intOf i).toNat)
    case atStart => exact ⟨0, Nat.zero_le _, rfl, by simp [impsB, okPre_nil], N1.out, B1.out⟩
    case round =>
      obtain ⟨k, hk0, rfl, rfl, g, bl⟩ := hrel
      have BLk := Lib.hid bl
      have NGk := Lib.hid g
      clear g bl
      have FN := Lib.hid (fun (h : (nameB pk && impsB (is.take k)) = false) => show false = (nameB pk && impsB is) by
        have h2 := h; revert h2; cases hb : nameB pk with
        | false => intro _; rfl
        | true => rw [Bool.true_and]; intro h3; unfold impsB at h3 ⊢; rw [okPre_no _ _ h3]; rfl)
      have FD := Lib.hid (fun (h : m2 ≤ k) => show (nameB pk && impsB (is.take k)) = (nameB pk && impsB is) by unfold impsB; rw [okPre_all _ _ (by rw [← E2.out]; exact h)])
      obtain ⟨ok, hok⟩ : ∃ b, b = (nameB pk && impsB (is.take k)) := ⟨_, rfl⟩
      rw [← hok] at FN FD ⊢
      have OK := Lib.hid hok
      clear hok
      have cO := BLk.out.cell
      by_cases hlt : k < m2
      · cases ok with
        | false =>
          have E := Lib.hid (FN.out rfl)
          clear FN FD
          go_wp2_with fail
          go_meet
          exact ⟨by rw [← E.out], NGk.out, BLk.out⟩
        | true =>
          have hkl : k < is.length := by rw [← E2.out]; exact hlt
          have hq0 : (0 : Int) ≤ (k : Int) := by omega
          have hq1 : (k : Int) < (m2 : Int) := by omega
          obtain ⟨b, o, rfl, hb, he⟩ := HI.out (by intro e; rw [e] at hkl; simp at hkl)
          have HE := Lib.hid he
          obtain ⟨cs, hcl2, hcc, rfl, hf1, hf2⟩ := he k hkl
          have FK := Lib.hid (fun (wz : World) (hz : Nw w wz) (j : Nat) (hj : j < 2) => ((G.out.nw hz).bel.cell (p := ⟨b, o + k * 2 + j, none⟩) hb).trans (hcc j (by simpa using hj)))
          have SN := Lib.hid (okPre_snoc (fun i : Im => nameB i.name) Im.name hkl)
          clear he hcc hcl2
          generalize is[k]'hkl = y at *
          obtain ⟨nm, hsh⟩ := y
          dsimp only at *
          have f0 := FK.out _ NGk.out 0 (by omega)
          simp only [List.getElem?_cons_zero, Nat.add_zero] at f0
          have RN5 := Lib.hid (rname_is wr nm)
          obtain ⟨fy, hfy⟩ : ∃ b, b = nameB nm := ⟨_, rfl⟩
          rw [← hfy] at RN5 SN
          have HFY := Lib.hid hfy
          clear hfy
          go_wp2_with fail
          refine RN5.out.mono ?_
          rintro e5 w5 ⟨rfl, rfl⟩
          clear f0 RN5
          have N5 := Lib.hid NGk.out
          have BL5 := Lib.hid BLk.out
          go_wp2_with fail
          go_loopw [3, 5] (fun s3 sj wy => ∃ j : Nat, j ≤ k ∧ sj = .int .i64 j ∧ s3 = .bool (fy && dc (nm ∉ (is.take j).map Im.name)) ∧ Nw w wy ∧ Blk wy w.heap.size [.string pk, .int .i64 hash, .slice (some ⟨b, o, none⟩) m2 c2, .slice x3 m3 c3, .slice x4 m4 c4, .slice x5 m5 c5, .slice x6 m6 c6] 27) (fun _ i _ => k - (intOf i).toNat)
          case atStart => exact ⟨0, Nat.zero_le _, rfl, by rw [uq_nil, Bool.and_true], N5.out, BL5.out⟩
          case round =>
            try clear cO
            obtain ⟨j, hj0, rfl, rfl, g, bl⟩ := hrel
            have BLj := Lib.hid bl
            have NGj := Lib.hid g
            clear g bl
            by_cases hjk : j < k
            · have hjl : j < is.length := by omega
              have hj0 : (0 : Int) ≤ (j : Int) := by omega
              have hj1 : (j : Int) < (m2 : Int) := by omega
              obtain ⟨cs2, hcl3, hcc2, rfl, _⟩ := HE.out j hjl
              have I0 := Lib.hid (fun q => in_no (key := Im.name) (l := is) (x := nm) (j := j) (f := fy) q)
              have I1 := Lib.hid (fun q => in_eq (key := Im.name) (l := is) (x := nm) (f := fy) hjl q)
              have I2 := Lib.hid (fun q => in_ne (key := Im.name) (l := is) (x := nm) (f := fy) hjl q)
              have a0 := ((G.out.nw NGj.out).bel.cell (p := ⟨b, o + j * 2 + 0, none⟩) hb).trans (hcc2 0 (by simp))
              have b0 := FK.out _ NGj.out 0 (by omega)
              simp only [List.getElem?_cons_zero, List.getElem?_cons_succ, Nat.add_zero] at a0 b0
              clear hcc2 hcl3
              generalize is[j]'hjl = y2 at *
              obtain ⟨nm2, hsh2⟩ := y2
              dsimp only at *
              obtain ⟨q, hq⟩ : ∃ q, q = (fy && dc (nm ∉ (is.take j).map Im.name)) := ⟨_, rfl⟩
              rw [← hq]
              have Q := Lib.hid hq
              clear hq
              have cO := BLj.out.cell
              cases q with
              | false =>
                have J := Lib.hid (I0.out Q.out.symm)
                clear I0 I1 I2
                go_wp2_with fail
                go_quiet (fail)
                go_wp2_with fail
                go_roundw
                case rel => exact ⟨j + 1, by omega, by go_num, by rw [J.out], NGj.out.drewN _, BLj.out⟩
                case measure => simp [intOf]; omega
              | true =>
                by_cases e : nm2 = nm
                · have J := Lib.hid (I1.out e)
                  subst e
                  clear I0 I1 I2
                  go_wp2_with fail
                  go_quiet (fail)
                  go_wp2_with fail
                  go_roundw
                  case rel => exact ⟨j + 1, by omega, by go_num, by rw [J.out], NGj.out.drewN _, BLj.out⟩
                  case measure => simp [intOf]; omega
                · have J := Lib.hid ((I2.out e).trans Q.out.symm)
                  obtain ⟨ne1, ne2, ne3, ne4⟩ := str_ne e
                  clear I0 I1 I2 e
                  go_wp2_with fail
                  go_quiet (fail)
                  go_wp2_with fail
                  go_roundw
                  case rel => exact ⟨j + 1, by omega, by go_num, by rw [J.out], NGj.out.drewN _, BLj.out⟩
                  case measure => simp [intOf]; omega
            · have hjk2 : Hid (j = k) := Lib.hid (by omega)
              have RV := Lib.hid (show (nameB pk && impsB (is.take (k + 1))) = (fy && dc (nm ∉ (is.take j).map Im.name)) by
                rw [hjk2.out]
                have h1 := OK.out
                revert h1; cases nameB pk with
                | false => intro h1; cases h1
                | true => rw [Bool.true_and, Bool.true_and]; intro h1; unfold impsB at h1 ⊢; rw [SN.out, ← h1]; rfl)
              go_wp2_with fail
              go_roundw
              case rel => exact ⟨k + 1, by omega, by go_num, by rw [RV.out], NGj.out, BLj.out⟩
              case measure => simp [intOf]; omega
      · have E := Lib.hid (FD.out (by omega))
        clear FD FN
        cases ok with
        | false =>
          go_wp2_with fail
          go_meet
          exact ⟨by rw [← E.out], NGk.out, BLk.out⟩
        | true =>
          go_wp2_with fail
          go_meet
          exact ⟨by rw [← E.out], NGk.out, BLk.out⟩
  case rest =>
    obtain ⟨rfl, nwc, blc⟩ := hcut
    have N2 := Lib.hid nwc
    have B2 := Lib.hid blc
    clear nwc blc N1 B1
    obtain ⟨bs, hbs⟩ : ∃ bs, bs = (nameB pk && impsB is) := ⟨_, rfl⟩
    rw [← hbs]
    have HBS := Lib.hid hbs
    clear hbs
    try clear cO
    go_upto_block 4 with fail
    go_cut [3] from 6 to 98 (fun s3 wr => s3 = .bool (bs && symsB m5 m6 ss) ∧ Nw w wr ∧ Blk wr w.heap.size [.string pk, .int .i64 hash, .slice x2 m2 c2, .slice x3 m3 c3, .slice x4 m4 c4, .slice x5 m5 c5, .slice x6 m6 c6] 27)
    case first =>
      go_wp2_with fail
      go_loopw [3, 6] (fun s3 si wr => ∃ k : Nat, k ≤ m3 ∧ si = .int .i64 k ∧ s3 = .bool (bs && symsB m5 m6 (ss.take k)) ∧ Nw w wr ∧ Blk wr w.heap.size [.string pk, .int .i64 hash, .slice x2 m2 c2, .slice x3 m3 c3, .slice x4 m4 c4, .slice x5 m5 c5, .slice x6 m6 c6] 27) (fun _ i _ => m3 - (intOf i).toNat)
      case atStart => exact ⟨0, Nat.zero_le _, rfl, by simp [symsB, okPre_nil], N2.out, B2.out⟩
      case round =>
        obtain ⟨k, hk0, rfl, rfl, g, bl⟩ := hrel
        have BLk := Lib.hid bl
        have NGk := Lib.hid g
        clear g bl
        have FN := Lib.hid (fun (h : (bs && symsB m5 m6 (ss.take k)) = false) => show false = (bs && symsB m5 m6 ss) by
          have h2 := h; revert h2; cases hb : bs with
          | false => intro _; rfl
          | true => rw [Bool.true_and]; intro h3; unfold symsB at h3 ⊢; rw [okPre_no _ _ h3]; rfl)
        have FD := Lib.hid (fun (h : m3 ≤ k) => show (bs && symsB m5 m6 (ss.take k)) = (bs && symsB m5 m6 ss) by unfold symsB; rw [okPre_all _ _ (by rw [← E3.out]; exact h)])
        obtain ⟨ok, hok⟩ : ∃ b, b = (bs && symsB m5 m6 (ss.take k)) := ⟨_, rfl⟩
        rw [← hok] at FN FD ⊢
        have OK := Lib.hid hok
        clear hok
        have cO := BLk.out.cell
        by_cases hlt : k < m3
        · cases ok with
          | false =>
            have E := Lib.hid (FN.out rfl)
            clear FN FD
            go_wp2_with fail
            go_meet
            exact ⟨by rw [← E.out], NGk.out, BLk.out⟩
          | true =>
            have hkl : k < ss.length := by rw [← E3.out]; exact hlt
            have hq0 : (0 : Int) ≤ (k : Int) := by omega
            have hq1 : (k : Int) < (m3 : Int) := by omega
            obtain ⟨b, o, rfl, hb, he⟩ := HS.out (by intro e; rw [e] at hkl; simp at hkl)
            have HE := Lib.hid he
            obtain ⟨cs, hcl2, hcc, rfl, hf1, hf2, hf3, hf4, hf5⟩ := he k hkl
            have FK := Lib.hid (fun (wz : World) (hz : Nw w wz) (j : Nat) (hj : j < 6) => ((G.out.nw hz).bel.cell (p := ⟨b, o + k * 6 + j, none⟩) hb).trans (hcc j (by simpa using hj)))
            have SN := Lib.hid (okPre_snoc (fun s : Sy => symB m5 m6 s.name s.kind s.at_ s.size s.frame) Sy.name hkl)
            clear he hcc hcl2
            generalize ss[k]'hkl = y at *
            obtain ⟨nm, kind, wk, at_, size, frame⟩ := y
            dsimp only at *
            obtain ⟨fy, hfy⟩ : ∃ b, b = symB m5 m6 nm kind at_ size frame := ⟨_, rfl⟩
            have CA0 := Lib.hid (fun (wz : World) (hz : Nw wr wz) => symbol_any wz nm kind wk at_ size frame (.string pk) (.int .i64 hash) (.slice x2 m2 c2) (.slice (some ⟨b, o, none⟩) m3 c3) (.slice x4 m4 c4) x5 m5 c5 x6 m6 c6 hcl hdl)
            rw [← hfy] at CA0 SN
            have HFY := Lib.hid hfy
            clear hfy
            have FC := Lib.hid (fun (wz : World) (hz : Nw wr wz) => (⟨hz, (BLk.out.nw hz).cell 0, (BLk.out.nw hz).cell 1, (BLk.out.nw hz).cell 2, (BLk.out.nw hz).cell 3, (BLk.out.nw hz).cell 4, (BLk.out.nw hz).cell 5, (BLk.out.nw hz).cell 6, FK.out wz (NGk.out.trans hz) 0 (by omega), FK.out wz (NGk.out.trans hz) 1 (by omega), FK.out wz (NGk.out.trans hz) 2 (by omega), FK.out wz (NGk.out.trans hz) 3 (by omega), FK.out wz (NGk.out.trans hz) 4 (by omega), FK.out wz (NGk.out.trans hz) 5 (by omega)⟩ : Nw wr wz ∧ wz.cell? ⟨w.heap.size, 0, none⟩ = some (.string pk) ∧ wz.cell? ⟨w.heap.size, 1, none⟩ = some (.int .i64 hash) ∧ wz.cell? ⟨w.heap.size, 2, none⟩ = some (.slice x2 m2 c2) ∧ wz.cell? ⟨w.heap.size, 3, none⟩ = some (.slice (some ⟨b, o, none⟩) m3 c3) ∧ wz.cell? ⟨w.heap.size, 4, none⟩ = some (.slice x4 m4 c4) ∧ wz.cell? ⟨w.heap.size, 5, none⟩ = some (.slice x5 m5 c5) ∧ wz.cell? ⟨w.heap.size, 6, none⟩ = some (.slice x6 m6 c6) ∧ wz.cell? ⟨b, o + k * 6, none⟩ = some (.string nm) ∧ wz.cell? ⟨b, o + k * 6 + 1, none⟩ = some (.int .i64 kind) ∧ wz.cell? ⟨b, o + k * 6 + 2, none⟩ = some (.bool wk) ∧ wz.cell? ⟨b, o + k * 6 + 3, none⟩ = some (.int .i64 at_) ∧ wz.cell? ⟨b, o + k * 6 + 4, none⟩ = some (.int .i64 size) ∧ wz.cell? ⟨b, o + k * 6 + 5, none⟩ = some (.int .i64 frame)))
            go_wp2_with fail
            clear cO
            go_region_held3 (fun wz => Nw wr wz ∧ wz.cell? ⟨w.heap.size, 0, none⟩ = some (.string pk) ∧ wz.cell? ⟨w.heap.size, 1, none⟩ = some (.int .i64 hash) ∧ wz.cell? ⟨w.heap.size, 2, none⟩ = some (.slice x2 m2 c2) ∧ wz.cell? ⟨w.heap.size, 3, none⟩ = some (.slice (some ⟨b, o, none⟩) m3 c3) ∧ wz.cell? ⟨w.heap.size, 4, none⟩ = some (.slice x4 m4 c4) ∧ wz.cell? ⟨w.heap.size, 5, none⟩ = some (.slice x5 m5 c5) ∧ wz.cell? ⟨w.heap.size, 6, none⟩ = some (.slice x6 m6 c6) ∧ wz.cell? ⟨b, o + k * 6, none⟩ = some (.string nm) ∧ wz.cell? ⟨b, o + k * 6 + 1, none⟩ = some (.int .i64 kind) ∧ wz.cell? ⟨b, o + k * 6 + 2, none⟩ = some (.bool wk) ∧ wz.cell? ⟨b, o + k * 6 + 3, none⟩ = some (.int .i64 at_) ∧ wz.cell? ⟨b, o + k * 6 + 4, none⟩ = some (.int .i64 size) ∧ wz.cell? ⟨b, o + k * 6 + 5, none⟩ = some (.int .i64 frame))
              (exact FC.out _ (by first | assumption | exact Nw.refl _ | exact (Nw.refl _).drew))
              (first
                | (go_at_call 31; refine (CA0.out _ (by first | assumption | exact Nw.refl _ | exact (Nw.refl _).drew)).mono ?_; rintro e0 w0 ⟨rfl, k0⟩; have kk0 : Nw wr w0 := Nw.trans (by first | assumption | exact Nw.refl _ | exact (Nw.refl _).drew) k0; clear k0))
            have N5 := Lib.hid (NGk.out.trans kk0)
            have BL5 := Lib.hid (BLk.out.nw kk0)
            clear kk0 CA0 FC
            go_wp2_with fail
            go_loopw [3, 7] (fun s3 sj wy => ∃ j : Nat, j ≤ k ∧ sj = .int .i64 j ∧ s3 = .bool (fy && dc (nm ∉ (ss.take j).map Sy.name)) ∧ Nw w wy ∧ Blk wy w.heap.size [.string pk, .int .i64 hash, .slice x2 m2 c2, .slice (some ⟨b, o, none⟩) m3 c3, .slice x4 m4 c4, .slice x5 m5 c5, .slice x6 m6 c6] 27) (fun _ i _ => k - (intOf i).toNat)
            case atStart => exact ⟨0, Nat.zero_le _, rfl, by rw [uq_nil, Bool.and_true], N5.out, BL5.out⟩
            case round =>
              try clear cO
              obtain ⟨j, hj0, rfl, rfl, g, bl⟩ := hrel
              have BLj := Lib.hid bl
              have NGj := Lib.hid g
              clear g bl
              by_cases hjk : j < k
              · have hjl : j < ss.length := by omega
                have hj0 : (0 : Int) ≤ (j : Int) := by omega
                have hj1 : (j : Int) < (m3 : Int) := by omega
                obtain ⟨cs2, hcl3, hcc2, rfl, _⟩ := HE.out j hjl
                have I0 := Lib.hid (fun q => in_no (key := Sy.name) (l := ss) (x := nm) (j := j) (f := fy) q)
                have I1 := Lib.hid (fun q => in_eq (key := Sy.name) (l := ss) (x := nm) (f := fy) hjl q)
                have I2 := Lib.hid (fun q => in_ne (key := Sy.name) (l := ss) (x := nm) (f := fy) hjl q)
                have a0 := ((G.out.nw NGj.out).bel.cell (p := ⟨b, o + j * 6 + 0, none⟩) hb).trans (hcc2 0 (by simp))
                have b0 := FK.out _ NGj.out 0 (by omega)
                simp only [List.getElem?_cons_zero, List.getElem?_cons_succ, Nat.add_zero] at a0 b0
                clear hcc2 hcl3
                generalize ss[j]'hjl = y2 at *
                obtain ⟨nm2, kind2, wk2, at2, size2, frame2⟩ := y2
                dsimp only at *
                obtain ⟨q, hq⟩ : ∃ q, q = (fy && dc (nm ∉ (ss.take j).map Sy.name)) := ⟨_, rfl⟩
                rw [← hq]
                have Q := Lib.hid hq
                clear hq
                have cO := BLj.out.cell
                cases q with
                | false =>
                  have J := Lib.hid (I0.out Q.out.symm)
                  clear I0 I1 I2
                  go_wp2_with fail
                  go_quiet (fail)
                  go_wp2_with fail
                  go_roundw
                  case rel => exact ⟨j + 1, by omega, by go_num, by rw [J.out], NGj.out.drewN _, BLj.out⟩
                  case measure => simp [intOf]; omega
                | true =>
                  by_cases e : nm2 = nm
                  · have J := Lib.hid (I1.out e)
                    subst e
                    clear I0 I1 I2
                    go_wp2_with fail
                    go_quiet (fail)
                    go_wp2_with fail
                    go_roundw
                    case rel => exact ⟨j + 1, by omega, by go_num, by rw [J.out], NGj.out.drewN _, BLj.out⟩
                    case measure => simp [intOf]; omega
                  · have J := Lib.hid ((I2.out e).trans Q.out.symm)
                    obtain ⟨ne1, ne2, ne3, ne4⟩ := str_ne e
                    clear I0 I1 I2 e
                    go_wp2_with fail
                    go_quiet (fail)
                    go_wp2_with fail
                    go_roundw
                    case rel => exact ⟨j + 1, by omega, by go_num, by rw [J.out], NGj.out.drewN _, BLj.out⟩
                    case measure => simp [intOf]; omega
              · have hjk2 : Hid (j = k) := Lib.hid (by omega)
                have RV := Lib.hid (show (bs && symsB m5 m6 (ss.take (k + 1))) = (fy && dc (nm ∉ (ss.take j).map Sy.name)) by
                  rw [hjk2.out]
                  have h1 := OK.out
                  revert h1; cases bs with
                  | false => intro h1; cases h1
                  | true => rw [Bool.true_and, Bool.true_and]; intro h1; unfold symsB at h1 ⊢; rw [SN.out, ← h1]; rfl)
                go_wp2_with fail
                go_roundw
                case rel => exact ⟨k + 1, by omega, by go_num, by rw [RV.out], NGj.out, BLj.out⟩
                case measure => simp [intOf]; omega
        · have E := Lib.hid (FD.out (by omega))
          clear FD FN
          cases ok with
          | false =>
            go_wp2_with fail
            go_meet
            exact ⟨by rw [← E.out], NGk.out, BLk.out⟩
          | true =>
            go_wp2_with fail
            go_meet
            exact ⟨by rw [← E.out], NGk.out, BLk.out⟩
    case rest =>
      obtain ⟨rfl, nwc, blc⟩ := hcut
      have N3 := Lib.hid nwc
      have B3 := Lib.hid blc
      clear nwc blc N2 B2
      obtain ⟨bs2, hbs2⟩ : ∃ b, b = (bs && symsB m5 m6 ss) := ⟨_, rfl⟩
      rw [← hbs2]
      have HBS2 := Lib.hid hbs2
      clear hbs2
      try clear cO
      go_upto_block 8 with fail
      go_cut [3] from 8 to 151 (fun s3 wr => s3 = .bool (bs2 && relsB code data rs) ∧ Nw w wr ∧ Blk wr w.heap.size [.string pk, .int .i64 hash, .slice x2 m2 c2, .slice x3 m3 c3, .slice x4 m4 c4, .slice x5 m5 c5, .slice x6 m6 c6] 27)
      case first =>
        go_wp2_with fail
        go_loopw [3, 8] (fun s3 si wr => ∃ k : Nat, k ≤ m4 ∧ si = .int .i64 k ∧ s3 = .bool (bs2 && relsB code data (rs.take k)) ∧ Nw w wr ∧ Blk wr w.heap.size [.string pk, .int .i64 hash, .slice x2 m2 c2, .slice x3 m3 c3, .slice x4 m4 c4, .slice x5 m5 c5, .slice x6 m6 c6] 27) (fun _ i _ => m4 - (intOf i).toNat)
        case atStart => exact ⟨0, Nat.zero_le _, rfl, by simp [relsB, okPre_nil], N3.out, B3.out⟩
        case round =>
          obtain ⟨k, hk0, rfl, rfl, g, bl⟩ := hrel
          have BLk := Lib.hid bl
          have NGk := Lib.hid g
          clear g bl
          have FN := Lib.hid (fun (h : (bs2 && relsB code data (rs.take k)) = false) => show false = (bs2 && relsB code data rs) by
            have h2 := h; revert h2; cases hb : bs2 with
            | false => intro _; rfl
            | true => rw [Bool.true_and]; intro h3; unfold relsB at h3 ⊢; rw [okPre_no _ _ h3]; rfl)
          have FD := Lib.hid (fun (h : m4 ≤ k) => show (bs2 && relsB code data (rs.take k)) = (bs2 && relsB code data rs) by unfold relsB; rw [okPre_all _ _ (by rw [← E4.out]; exact h)])
          obtain ⟨ok, hok⟩ : ∃ b, b = (bs2 && relsB code data (rs.take k)) := ⟨_, rfl⟩
          rw [← hok] at FN FD ⊢
          have OK := Lib.hid hok
          clear hok
          have cO := BLk.out.cell
          by_cases hlt : k < m4
          · cases ok with
            | false =>
              have E := Lib.hid (FN.out rfl)
              clear FN FD
              go_wp2_with fail
              go_meet
              exact ⟨by rw [← E.out], NGk.out, BLk.out⟩
            | true =>
              have hkl : k < rs.length := by rw [← E4.out]; exact hlt
              have hq0 : (0 : Int) ≤ (k : Int) := by omega
              have hq1 : (k : Int) < (m4 : Int) := by omega
              obtain ⟨b, o, rfl, hb, he⟩ := HR.out (by intro e; rw [e] at hkl; simp at hkl)
              have HE := Lib.hid he
              obtain ⟨cs, hcl2, hcc, rfl, hf1, hf2⟩ := he k hkl
              have FK := Lib.hid (fun (wz : World) (hz : Nw w wz) (j : Nat) (hj : j < 3) => ((G.out.nw hz).bel.cell (p := ⟨b, o + k * 3 + j, none⟩) hb).trans (hcc j (by simpa using hj)))
              have SN := Lib.hid (okPre_snoc (fun r : Re => nameB r.name && mendsB code data r.data r.at_) (fun r : Re => (r.data, r.at_)) hkl)
              clear he hcc hcl2
              generalize rs[k]'hkl = y at *
              obtain ⟨dd, at_, nm⟩ := y
              dsimp only at *
              obtain ⟨fy, hfy⟩ : ∃ b, b = (nameB nm && mendsB code data dd at_) := ⟨_, rfl⟩
              have CA0 := Lib.hid (fun (wz : World) (hz : Nw wr wz) => reloc_any ((G.out.nw NGk.out).nw hz) dd at_ nm (.string pk) (.int .i64 hash) (.slice x2 m2 c2) (.slice x3 m3 c3) (.slice (some ⟨b, o, none⟩) m4 c4) (.slice x5 m5 c5) (.slice x6 m6 c6) code data hf1 HCs.out HDs.out)
              rw [← hfy] at CA0 SN
              have HFY := Lib.hid hfy
              clear hfy
              have FC := Lib.hid (fun (wz : World) (hz : Nw wr wz) => (⟨hz, (BLk.out.nw hz).cell 0, (BLk.out.nw hz).cell 1, (BLk.out.nw hz).cell 2, (BLk.out.nw hz).cell 3, (BLk.out.nw hz).cell 4, (BLk.out.nw hz).cell 5, (BLk.out.nw hz).cell 6, FK.out wz (NGk.out.trans hz) 0 (by omega), FK.out wz (NGk.out.trans hz) 1 (by omega), FK.out wz (NGk.out.trans hz) 2 (by omega)⟩ : Nw wr wz ∧ wz.cell? ⟨w.heap.size, 0, none⟩ = some (.string pk) ∧ wz.cell? ⟨w.heap.size, 1, none⟩ = some (.int .i64 hash) ∧ wz.cell? ⟨w.heap.size, 2, none⟩ = some (.slice x2 m2 c2) ∧ wz.cell? ⟨w.heap.size, 3, none⟩ = some (.slice x3 m3 c3) ∧ wz.cell? ⟨w.heap.size, 4, none⟩ = some (.slice (some ⟨b, o, none⟩) m4 c4) ∧ wz.cell? ⟨w.heap.size, 5, none⟩ = some (.slice x5 m5 c5) ∧ wz.cell? ⟨w.heap.size, 6, none⟩ = some (.slice x6 m6 c6) ∧ wz.cell? ⟨b, o + k * 3, none⟩ = some (.bool dd) ∧ wz.cell? ⟨b, o + k * 3 + 1, none⟩ = some (.int .i64 at_) ∧ wz.cell? ⟨b, o + k * 3 + 2, none⟩ = some (.string nm)))
              go_wp2_with fail
              clear cO
              go_region_held3 (fun wz => Nw wr wz ∧ wz.cell? ⟨w.heap.size, 0, none⟩ = some (.string pk) ∧ wz.cell? ⟨w.heap.size, 1, none⟩ = some (.int .i64 hash) ∧ wz.cell? ⟨w.heap.size, 2, none⟩ = some (.slice x2 m2 c2) ∧ wz.cell? ⟨w.heap.size, 3, none⟩ = some (.slice x3 m3 c3) ∧ wz.cell? ⟨w.heap.size, 4, none⟩ = some (.slice (some ⟨b, o, none⟩) m4 c4) ∧ wz.cell? ⟨w.heap.size, 5, none⟩ = some (.slice x5 m5 c5) ∧ wz.cell? ⟨w.heap.size, 6, none⟩ = some (.slice x6 m6 c6) ∧ wz.cell? ⟨b, o + k * 3, none⟩ = some (.bool dd) ∧ wz.cell? ⟨b, o + k * 3 + 1, none⟩ = some (.int .i64 at_) ∧ wz.cell? ⟨b, o + k * 3 + 2, none⟩ = some (.string nm))
                (exact FC.out _ (by first | assumption | exact Nw.refl _ | exact (Nw.refl _).drew))
                (first
                  | (go_at_call 32; refine (CA0.out _ (by first | assumption | exact Nw.refl _ | exact (Nw.refl _).drew)).mono ?_; rintro e0 w0 ⟨rfl, k0⟩; have kk0 : Nw wr w0 := Nw.trans (by first | assumption | exact Nw.refl _ | exact (Nw.refl _).drew) k0; clear k0))
              have N5 := Lib.hid (NGk.out.trans kk0)
              have BL5 := Lib.hid (BLk.out.nw kk0)
              clear kk0 CA0 FC
              go_wp2_with fail
              go_loopw [3, 9] (fun s3 sj wy => ∃ j : Nat, j ≤ k ∧ sj = .int .i64 j ∧ s3 = .bool (fy && dc ((dd, at_) ∉ (rs.take j).map (fun r : Re => (r.data, r.at_)))) ∧ Nw w wy ∧ Blk wy w.heap.size [.string pk, .int .i64 hash, .slice x2 m2 c2, .slice x3 m3 c3, .slice (some ⟨b, o, none⟩) m4 c4, .slice x5 m5 c5, .slice x6 m6 c6] 27) (fun _ i _ => k - (intOf i).toNat)
              case atStart => exact ⟨0, Nat.zero_le _, rfl, by rw [uq_nil, Bool.and_true], N5.out, BL5.out⟩
              case round =>
                try clear cO
                obtain ⟨j, hj0, rfl, rfl, g, bl⟩ := hrel
                have BLj := Lib.hid bl
                have NGj := Lib.hid g
                clear g bl
                by_cases hjk : j < k
                · have hjl : j < rs.length := by omega
                  have hj0 : (0 : Int) ≤ (j : Int) := by omega
                  have hj1 : (j : Int) < (m4 : Int) := by omega
                  obtain ⟨cs2, hcl3, hcc2, rfl, _⟩ := HE.out j hjl
                  have I0 := Lib.hid (fun q => in_no (key := (fun r : Re => (r.data, r.at_))) (l := rs) (x := (dd, at_)) (j := j) (f := fy) q)
                  have I1 := Lib.hid (fun q => in_eq (key := (fun r : Re => (r.data, r.at_))) (l := rs) (x := (dd, at_)) (f := fy) hjl q)
                  have I2 := Lib.hid (fun q => in_ne (key := (fun r : Re => (r.data, r.at_))) (l := rs) (x := (dd, at_)) (f := fy) hjl q)
                  have a0 := ((G.out.nw NGj.out).bel.cell (p := ⟨b, o + j * 3 + 0, none⟩) hb).trans (hcc2 0 (by simp))
                  have b0 := FK.out _ NGj.out 0 (by omega)
                  have a1 := ((G.out.nw NGj.out).bel.cell (p := ⟨b, o + j * 3 + 1, none⟩) hb).trans (hcc2 1 (by simp))
                  have b1 := FK.out _ NGj.out 1 (by omega)
                  simp only [List.getElem?_cons_zero, List.getElem?_cons_succ, Nat.add_zero] at a0 b0 a1 b1
                  clear hcc2 hcl3
                  generalize rs[j]'hjl = y2 at *
                  obtain ⟨dd2, at2, nm2⟩ := y2
                  dsimp only at *
                  obtain ⟨q, hq⟩ : ∃ q, q = (fy && dc ((dd, at_) ∉ (rs.take j).map (fun r : Re => (r.data, r.at_)))) := ⟨_, rfl⟩
                  rw [← hq]
                  have Q := Lib.hid hq
                  clear hq
                  have cO := BLj.out.cell
                  cases q with
                  | false =>
                    have J := Lib.hid (I0.out Q.out.symm)
                    clear I0 I1 I2
                    go_wp2_with fail
                    go_quiet (fail)
                    go_wp2_with fail
                    go_roundw
                    case rel => exact ⟨j + 1, by omega, by go_num, by rw [J.out], NGj.out.drewN _, BLj.out⟩
                    case measure => simp [intOf]; omega
                  | true =>
                    by_cases e : at2 = at_
                    · subst e
                      cases dd <;> cases dd2
                      · have J := Lib.hid (I1.out rfl)
                        clear I0 I1 I2
                        go_wp2_with fail
                        go_quiet (fail)
                        go_wp2_with fail
                        go_roundw
                        case rel => exact ⟨j + 1, by omega, by go_num, by rw [J.out], NGj.out.drewN _, BLj.out⟩
                        case measure => simp [intOf]; omega
                      · have J := Lib.hid ((I2.out (by simp)).trans Q.out.symm)
                        clear I0 I1 I2
                        go_wp2_with fail
                        go_quiet (fail)
                        go_wp2_with fail
                        go_roundw
                        case rel => exact ⟨j + 1, by omega, by go_num, by rw [J.out], NGj.out.drewN _, BLj.out⟩
                        case measure => simp [intOf]; omega
                      · have J := Lib.hid ((I2.out (by simp)).trans Q.out.symm)
                        clear I0 I1 I2
                        go_wp2_with fail
                        go_quiet (fail)
                        go_wp2_with fail
                        go_roundw
                        case rel => exact ⟨j + 1, by omega, by go_num, by rw [J.out], NGj.out.drewN _, BLj.out⟩
                        case measure => simp [intOf]; omega
                      · have J := Lib.hid (I1.out rfl)
                        clear I0 I1 I2
                        go_wp2_with fail
                        go_quiet (fail)
                        go_wp2_with fail
                        go_roundw
                        case rel => exact ⟨j + 1, by omega, by go_num, by rw [J.out], NGj.out.drewN _, BLj.out⟩
                        case measure => simp [intOf]; omega
                    · have J := Lib.hid ((I2.out (fun h => e (congrArg Prod.snd h))).trans Q.out.symm)
                      obtain ⟨ne1, ne2, ne3, ne4⟩ := int_ne e
                      clear I0 I1 I2 e
                      go_wp2_with fail
                      go_quiet (fail)
                      go_wp2_with fail
                      go_roundw
                      case rel => exact ⟨j + 1, by omega, by go_num, by rw [J.out], NGj.out.drewN _, BLj.out⟩
                      case measure => simp [intOf]; omega
                · have hjk2 : Hid (j = k) := Lib.hid (by omega)
                  have RV := Lib.hid (show (bs2 && relsB code data (rs.take (k + 1))) = (fy && dc ((dd, at_) ∉ (rs.take j).map (fun r : Re => (r.data, r.at_)))) by
                    rw [hjk2.out]
                    have h1 := OK.out
                    revert h1; cases bs2 with
                    | false => intro h1; cases h1
                    | true => rw [Bool.true_and, Bool.true_and]; intro h1; unfold relsB at h1 ⊢; rw [SN.out, ← h1]; rfl)
                  go_wp2_with fail
                  go_roundw
                  case rel => exact ⟨k + 1, by omega, by go_num, by rw [RV.out], NGj.out, BLj.out⟩
                  case measure => simp [intOf]; omega
          · have E := Lib.hid (FD.out (by omega))
            clear FD FN
            cases ok with
            | false =>
              go_wp2_with fail
              go_meet
              exact ⟨by rw [← E.out], NGk.out, BLk.out⟩
            | true =>
              go_wp2_with fail
              go_meet
              exact ⟨by rw [← E.out], NGk.out, BLk.out⟩
      case rest =>
        obtain ⟨rfl, nwc, blc⟩ := hcut
        have N4 := Lib.hid nwc
        clear nwc blc N3 B3
        have CQ := Lib.hid (show cv = if (bs2 && relsB code data rs) = true then 0 else 4 by rw [CW.out, HBS2.out, HBS.out]; simp only [Bool.and_assoc])
        obtain ⟨r, hr⟩ : ∃ r, r = (bs2 && relsB code data rs) := ⟨_, rfl⟩
        rw [← hr] at CQ ⊢
        clear hr
        cases r with
        | true =>
          have X := Lib.hid (show cv = 0 by rw [CQ.out]; rfl)
          go_wp2_with fail
          go_returns
          exact ⟨retI X.out.symm, N4.out⟩
        | false =>
          have X := Lib.hid (show cv = 4 by rw [CQ.out]; rfl)
          go_wp2_with fail
          go_returns
          exact ⟨retI X.out.symm, N4.out⟩
end Go.Proofs.Ytfdjlicegfgodaa
