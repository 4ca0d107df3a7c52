/- ExportBack: the law's walk. -/
import Derived.Test.YtpopgnengimieaaReads
namespace Go.Proofs.Ytpopgnengimieaa
open Go.RowKit
set_option linter.unusedSimpArgs false
set_option linter.unusedVariables false

theorem ty_mono {B B' : Nat} {W W' : World} (hB : B ≤ B') (hw : ∀ b o cs, b < B → Cells W b o cs → Cells W' b o cs) : ∀ (d : Nat) (x : Ty) (cs : List Value), TyAt B W d x cs → TyAt B' W' d x cs
  | 0, _, _, h => h.elim
  | d + 1, .mk k p n la lr, cs, ⟨va, vr, h0, h1, h2, h3, h4, h5⟩ => ⟨va, vr, h0, h1, h2, h3, h4.mono hB hw fun x _ cs => ty_mono hB hw d x cs, h5.mono hB hw fun x _ cs => ty_mono hB hw d x cs⟩
theorem ex_mono {B B' : Nat} {W W' : World} (hB : B ≤ B') (hw : ∀ b o cs, b < B → Cells W b o cs → Cells W' b o cs) : ∀ (d : Nat) (x : Ex) (cs : List Value), ExAt B W d x cs → ExAt B' W' d x cs
  | 0, _, _, h => h.elim
  | d + 1, .mk k p n la, cs, ⟨va, h0, h1, h2, h3, h4⟩ => ⟨va, h0, h1, h2, h3, h4.mono hB hw fun x _ cs => ex_mono hB hw d x cs⟩
theorem st_mono {B B' : Nat} {W W' : World} (hB : B ≤ B') (hw : ∀ b o cs, b < B → Cells W b o cs → Cells W' b o cs) : ∀ (d : Nat) (x : St) (cs : List Value), StAt B W d x cs → StAt B' W' d x cs
  | 0, _, _, h => h.elim
  | d + 1, .mk k p es bs ls, cs, ⟨ve, vb, vl, h0, h1, h2, h3, h4, h5⟩ => ⟨ve, vb, vl, h0, h1, h2, h3.mono hB hw fun x _ cs => ex_mono hB hw d x cs, h4.mono hB hw fun x _ cs => st_mono hB hw d x cs, h5.mono hB hw fun x _ cs => st_mono hB hw d x cs⟩
theorem un_mono {B B' : Nat} {W W' : World} (hB : B ≤ B') (hw : ∀ b o cs, b < B → Cells W b o cs → Cells W' b o cs) {d : Nat} {u : Un} {cs : List Value} (h : UnAt B W d u cs) : UnAt B' W' d u cs := by
  obtain ⟨vi, vd, vb, h0, h1, h2, h3, h4⟩ := h
  refine ⟨vi, vd, vb, h0, h1, h2.mono hB hw fun x _ cs h => h, h3.mono hB hw fun x _ cs h => ?_, h4.mono hB hw fun x _ cs h => ?_⟩
  · obtain ⟨ct, vf, g0, g1, g2, g3, g4, g5, g6, g7⟩ := h
    refine ⟨ct, vf, g0, g1, g2, g3, g4, g5, ty_mono hB hw _ _ _ g6, g7.mono hB hw fun x _ cs h => ?_⟩
    obtain ⟨ct, k0, k1, k2, k3⟩ := h
    exact ⟨ct, k0, k1, k2, ty_mono hB hw _ _ _ k3⟩
  · obtain ⟨vb, g0, g1, g2, g3, g4⟩ := h
    exact ⟨vb, g0, g1, g2, g3, g4.mono hB hw fun x _ cs => st_mono hB hw _ x cs⟩
theorem un_nw {w w' : World} (k : Nw w w') {d : Nat} {u : Un} {cs : List Value} (h : UnAt w.heap.size w d u cs) : UnAt w'.heap.size w' d u cs :=
  un_mono k.size (fun b o cs hb hc => hc.kp k (fun x => x)) h
/-- what a unit's own bytes are read as -/
theorem decode_own {w : World} {v : Value} {u : Un} (hu : OkUn u) (hl : (encB u).length ≤ 262144) (h : BytesAt w v (encB u)) :
    Calls Try.prog 15 #[v] w fun e w' => ∃ cs, e = .returned (.tuple #[.agg cs.toArray, .int .i64 0]) ∧ UnT (fun b => w.heap.size ≤ b ∧ b < w'.heap.size) w' u cs ∧ Nw w w' := by
  refine (decode_any w v _ h).mono ?_
  rintro e w' (⟨u', cs, rfl, hok, hen, _, hut, k⟩ | ⟨_, hno, _⟩)
  · obtain ⟨e1, _⟩ := encB_pi (r := []) (r' := []) hok hu (by rw [hen])
    subst e1
    exact ⟨cs, rfl, hut, k⟩
  · exact absurd rfl (hno u hu hl)
theorem frozen_set (w : World) (p a : Addr) (v : Value) : (w.setCell p v).frozen? a = w.frozen? a := World.frozen?_setCell w p a v
theorem cell_set {w : World} {p q : Addr} {x : Value} (h : ∃ v, w.cell? q = some v) : ∃ v, (w.setCell p x).cell? q = some v := by
  obtain ⟨v, h⟩ := h
  exact cell?_setCell_some h
theorem codeU_zero {u : Un} (h : codeU u = 0) : fitUn u = true ∧ (encB u).length ≤ 262144 := by
  unfold codeU at h
  split at h
  · split at h
    · rename_i h1 h2; exact ⟨h1, h2⟩
    · cases h
  · cases h

set_option maxRecDepth 100000 in
set_option maxHeartbeats 4000000 in
theorem exportBack_walk (n : Nat) (u : Un) (cs : List Value) (w : World) (hx : UnAt w.heap.size w n u cs) :
    Calls Try.prog 4 #[.agg cs.toArray] w (BoolPost w true) := by
  have HX := Lib.hid hx
  have GR := Lib.hid (fun (wz : World) (hz : Nw w wz) => great_any n u cs wz hx ((In.self w).nw hz))
  have EN := Lib.hid (fun (wz : World) (hz : Nw w wz) => encode_any n u cs wz hx ((In.self w).nw hz))
  have SU := Lib.hid (fun (wy wz : World) (hy : Nw w wy) (cs' : List Value) (h' : UnAt wy.heap.size wy 101 u cs') (hz : Nw wy wz) => sameUnit_any u cs u cs' wz (un_nw hy hx) h' ((In.self wy).nw hz))
  have DT := Lib.hid (dc_true (rfl : u = u))
  obtain ⟨vi, vd, vb, rfl, hp, hi, hd, hb⟩ := hx
  obtain ⟨x1, m1, c1, rfl⟩ := hi.slice
  obtain ⟨x2, m2, c2, rfl⟩ := hd.slice
  obtain ⟨x3, m3, c3, rfl⟩ := hb.slice
  clear hp hi hd hb
  have BX := Lib.hid (Blk.new w [.string u.pkg, .slice x1 m1 c1, .slice x2 m2 c2, .slice x3 m3 c3] 30)
  have N0 := Lib.hid (Nw.new w (.cells #[.string u.pkg, .slice x1 m1 c1, .slice x2 m2 c2, .slice x3 m3 c3] 30))
  have sN : w.heap.size + 1 ≤ (w.alloc (.cells #[.string u.pkg, .slice x1 m1 c1, .slice x2 m2 c2, .slice x3 m3 c3] 30)).heap.size := by simp
  by_cases hg : 3000 < cntUn u
  · have HG := Lib.hid (show decide (3000 < cntUn u) = true by simp [hg])
    clear hg
    go_enter Try.func4, Try.ntmps4
    go_wp2_with fail
    refine (GR.out _ N0.out).mono ?_
    rintro e1 w1 ⟨rfl, k1⟩
    rw [HG.out]
    have K1 := Lib.hid (N0.out.trans k1)
    clear k1
    go_wp2_with fail
    refine (awake8_any _).mono ?_
    rintro e2 w2 ⟨rfl, k2⟩
    have K2 := Lib.hid (K1.out.trans k2)
    clear k2
    go_wp2_with fail
    go_returns
    exact ⟨rfl, K2.out⟩
  · have HG := Lib.hid (show decide (3000 < cntUn u) = false by simp; omega)
    clear hg
    go_enter Try.func4, Try.ntmps4
    go_wp2_with fail
    refine (GR.out _ N0.out).mono ?_
    rintro e1 w1 ⟨rfl, k1⟩
    rw [HG.out]
    have K1 := Lib.hid (N0.out.trans k1)
    have B1 := Lib.hid (BX.out.nw k1)
    have s1 := Nat.le_trans sN k1.size
    have q1 := B1.out.cell
    clear k1
    go_wp2_with fail
    refine (EN.out _ K1.out).mono ?_
    rintro e2 w2 ⟨a2, n2, z2, rfl, k2, hb2⟩
    have K2 := Lib.hid (K1.out.trans k2)
    have B2 := Lib.hid (B1.out.nw k2)
    have s2 := k2.size
    clear q1
    have q2 := B2.out.cell
    clear k2
    by_cases h0 : codeU u = 0
    rotate_left
    · rw [if_neg h0] at hb2
      have hn2 : n2 = 0 := hb2.1
      subst hn2
      clear hb2
      rcases codeU_cases u with h | h | h
      · exact absurd h h0
      · rw [h]
        clear h h0 q2
        go_wp2_with fail
        refine (num8_any _ _).mono ?_
        rintro _ _ ⟨rfl, rfl⟩
        go_wp2_with fail
        refine (num8_any _ _).mono ?_
        rintro _ _ ⟨rfl, rfl⟩
        go_wp2_with fail
        refine (awake8_any _).mono ?_
        rintro e3 w3 ⟨rfl, k3⟩
        have K3 := Lib.hid (K2.out.trans k3)
        clear k3
        go_wp2_with fail
        go_returns
        exact ⟨rfl, K3.out⟩
      · rw [h]
        clear h h0 q2
        go_wp2_with fail
        refine (num8_any _ _).mono ?_
        rintro _ _ ⟨rfl, rfl⟩
        go_wp2_with fail
        refine (num8_any _ _).mono ?_
        rintro _ _ ⟨rfl, rfl⟩
        go_wp2_with fail
        refine (num8_any _ _).mono ?_
        rintro _ _ ⟨rfl, rfl⟩
        go_wp2_with fail
        refine (awake8_any _).mono ?_
        rintro e3 w3 ⟨rfl, k3⟩
        have K3 := Lib.hid (K2.out.trans k3)
        clear k3
        go_wp2_with fail
        go_returns
        exact ⟨rfl, K3.out⟩
    · rw [if_pos h0] at hb2
      rw [h0]
      have H0 := Lib.hid h0
      clear h0
      have OKU := Lib.hid (okUn_of HX.out (codeU_zero H0.out).1)
      have LEN := Lib.hid (codeU_zero H0.out).2
      have S2 := Lib.hid hb2.at
      obtain ⟨hnl, how, hgb⟩ := hb2
      have hn12 : 12 ≤ n2 := by have h1 := encB_len u; have h2 := encUn_len u; omega
      have hn26 : n2 ≤ 262144 := by have := LEN.out; omega
      rcases how.2 with ⟨_, h⟩ | ⟨g, cap, cur, hv, _, hgc, hgn, hgm, hgs, _⟩
      · omega
      injection hv with hv1 hv2 hv3
      subst hv1
      subst hv3
      have hg1 : w1.heap.size ≤ g := hgb g rfl
      have hg2 : g < w2.heap.size := (Array.getElem?_eq_some_iff.1 hgc).1
      have GC := Lib.hid hgc
      have hcs : cur.size = z2 := by simpa using hgs
      have HCS := Lib.hid hcs
      clear hnl how hgb hgc hgs hcs hv2
      go_wp2_with fail
      refine (num8_any _ _).mono ?_
      rintro _ _ ⟨rfl, rfl⟩
      have DEC := Lib.hid (decode_own OKU.out LEN.out S2.out)
      go_wp2_with fail
      refine (DEC.out).mono ?_
      rintro e3 w3 ⟨cs', rfl, hut, k3⟩
      have K3 := Lib.hid (K2.out.trans k3)
      have UA := Lib.hid (at_Un (B := w3.heap.size) (fun b hb => hb.2) hut)
      obtain ⟨vi', vd', vb', rfl, _, hi', hd', hb'⟩ := hut
      obtain ⟨y1, l1, d1, rfl⟩ := hi'.slice
      obtain ⟨y3, l3, d3, rfl⟩ := hb'.slice
      obtain ⟨y2, d2, rfl, hdl, hde⟩ := hd'
      obtain ⟨nd, hnd⟩ : ∃ nd, nd = u.decls.length := ⟨_, rfl⟩
      rw [← hnd] at hdl UA ⊢
      have ND := Lib.hid hnd
      have HDE := Lib.hid hde
      have s3 := k3.size
      have KK3 := Lib.hid k3
      have BV := Lib.hid (Blk.new w3 [.string u.pkg, .slice y1 l1 d1, .slice y2 nd d2, .slice y3 l3 d3] 30)
      have B3 := Lib.hid ((B2.out.nw k3).alloc (.cells #[.string u.pkg, .slice y1 l1 d1, .slice y2 nd d2, .slice y3 l3 d3] 30))
      have SU3 := Lib.hid (SU.out w3 (w3.alloc (.cells #[.string u.pkg, .slice y1 l1 d1, .slice y2 nd d2, .slice y3 l3 d3] 30)) K3.out _ UA.out (Nw.new _ _))
      have sV : w3.heap.size + 1 ≤ (w3.alloc (.cells #[.string u.pkg, .slice y1 l1 d1, .slice y2 nd d2, .slice y3 l3 d3] 30)).heap.size := by simp
      have KV := Lib.hid (Nw.new w3 (.cells #[.string u.pkg, .slice y1 l1 d1, .slice y2 nd d2, .slice y3 l3 d3] 30))
      clear q2 hi' hb' hde hnd k3
      have q3 := B3.out.cell
      have q3' := BV.out.cell
      go_wp2_with fail
      refine (num8_any _ _).mono ?_
      rintro _ _ ⟨rfl, rfl⟩
      go_wp2_with fail
      refine (SU3.out).mono ?_
      rintro e4 w4 ⟨rfl, k4⟩
      rw [DT.out]
      have K34 := Lib.hid (KV.out.trans k4)
      have B4 := Lib.hid (B3.out.nw k4)
      have BV4 := Lib.hid (BV.out.nw k4)
      have s4 := Nat.le_trans sV k4.size
      clear q3 q3' k4
      have q4 := BV4.out.cell
      have E4 := Lib.hid (show ∀ j, j < nd → ∃ b o, y2 = some ⟨b, o, none⟩ ∧ (w2.heap.size ≤ b ∧ b < w3.heap.size) ∧ (∃ v, w4.cell? ⟨b, o + j * 10 + 1, none⟩ = some v) ∧ ∀ i, w4.frozen? ⟨b, i, none⟩ = false from by
        intro j hj
        obtain ⟨b, o, hyb, hT, hf, he⟩ := HDE.out (by intro e; have := ND.out; rw [e] at this; simp at this; omega)
        obtain ⟨cs, hcl, hcc, _⟩ := he j (by rw [← ND.out]; exact hj)
        refine ⟨b, o, hyb, hT, ?_, fun i => (K34.out.frozen (p := ⟨b, i, none⟩) hT.2 (fun x => x)).trans (hf i)⟩
        have h1 := (hcc.kp K34.out (fun x => x)) 1 (by omega)
        rw [List.getElem?_eq_getElem (by omega)] at h1
        exact ⟨_, h1⟩)
      go_wp2_with fail
      go_loopw [7] (fun i wr1 => ∃ k : Nat, k ≤ nd ∧ i = .int .i64 k ∧ Kp (fun b => w2.heap.size ≤ b ∧ b < w3.heap.size) w4 wr1 ∧
        ∀ j, j < nd → ∃ b o, y2 = some ⟨b, o, none⟩ ∧ (w2.heap.size ≤ b ∧ b < w3.heap.size) ∧ (∃ v, wr1.cell? ⟨b, o + j * 10 + 1, none⟩ = some v) ∧ ∀ i, wr1.frozen? ⟨b, i, none⟩ = false) (fun i _ => nd - (intOf i).toNat)
      case atStart => exact ⟨0, Nat.zero_le _, rfl, Kp.refl _ _, E4.out⟩
      case round =>
        obtain ⟨k, hk, rfl, hkp, hce⟩ := hrel
        have KP := Lib.hid hkp
        have CE := Lib.hid hce
        have BVr := Lib.hid (BV4.out.kp hkp (fun e => by omega))
        clear hkp hce q4
        have q5 := BVr.out.cell
        by_cases hlt : k < nd
        · obtain ⟨b, o, rfl, hT, ⟨v0, hv0⟩, hf0⟩ := CE.out k hlt
          have hq0 : (0 : Int) ≤ (k : Int) := by omega
          have hq1 : (k : Int) < (nd : Int) := by omega
          have hf1 := hf0 (o + k * 10 + 1)
          have NX := Lib.hid (show Kp (fun b => w2.heap.size ≤ b ∧ b < w3.heap.size) w4 (wr.setCell ⟨b, o + k * 10 + 1, none⟩ (.string ⟨#[63]⟩)) ∧ ∀ j, j < nd → ∃ b' o', (some ⟨b, o, none⟩ : Option Addr) = some ⟨b', o', none⟩ ∧ (w2.heap.size ≤ b' ∧ b' < w3.heap.size) ∧ (∃ v, (wr.setCell ⟨b, o + k * 10 + 1, none⟩ (.string ⟨#[63]⟩)).cell? ⟨b', o' + j * 10 + 1, none⟩ = some v) ∧ ∀ i, (wr.setCell ⟨b, o + k * 10 + 1, none⟩ (.string ⟨#[63]⟩)).frozen? ⟨b', i, none⟩ = false from
            ⟨KP.out.setCell (p := ⟨b, o + k * 10 + 1, none⟩) (fun _ => hT) _, fun j hj => by
              obtain ⟨b', o', e, hT', hc', hf'⟩ := CE.out j hj
              exact ⟨b', o', e, hT', cell_set hc', fun i => (frozen_set _ _ _ _).trans (hf' i)⟩⟩)
          clear hf0
          go_wp2_with fail
          go_roundw
          case rel => exact ⟨k + 1, by omega, by go_num, NX.out.1, NX.out.2⟩
          case measure => simp [intOf] <;> omega
        · have hkn : ¬ (k : Int) < (nd : Int) := by omega
          obtain ⟨wL, hwL⟩ : ∃ wL, wL = wr := ⟨_, rfl⟩
          subst hwL
          have KL := Lib.hid (show Kp (fun b => w1.heap.size ≤ b ∧ b < w3.heap.size) w4 wL from KP.out.mono (fun x _ h => ⟨by omega, h.2⟩))
          have GL := Lib.hid (show (∀ j, j < n2 → ∃ v, wL.cell? ⟨g, j, none⟩ = some v) ∧ ∀ i, wL.frozen? ⟨g, i, none⟩ = false from by
            have t3 := s3
            have t4 := K34.out.size
            have hblk : wL.heap[g]? = some (.cells cur 5 (0, 0)) := (KP.out.block g (by omega) (fun e => by omega)).trans ((K34.out.block g (by omega) (fun x => x)).trans ((KK3.out.block g hg2 (fun x => x)).trans GC.out))
            refine ⟨fun j hj => ?_, fun i => by simp [World.frozen?, hblk]⟩
            have hj2 : j < cur.size := by rw [HCS.out]; omega
            exact ⟨cur[j], by simp [World.cell?, hblk, hj2]⟩)
          go_wp2_with fail
          go_loopw [8] (fun i wr2 => ∃ k : Nat, k ≤ n2 ∧ i = .int .i64 k ∧ Kp (fun b => w1.heap.size ≤ b ∧ b < w3.heap.size) w4 wr2 ∧ (∀ j, j < n2 → ∃ v, wr2.cell? ⟨g, j, none⟩ = some v) ∧ ∀ i, wr2.frozen? ⟨g, i, none⟩ = false) (fun i _ => n2 - (intOf i).toNat)
          case atStart => exact ⟨0, Nat.zero_le _, rfl, KL.out, GL.out.1, GL.out.2⟩
          case round =>
            obtain ⟨k', hk', rfl, hkp, hce, hfe⟩ := hrel
            have KP2 := Lib.hid hkp
            have CE2 := Lib.hid hce
            have FE2 := Lib.hid hfe
            clear hkp hce hfe
            by_cases hlt' : k' < n2
            · obtain ⟨v0, hv0⟩ := CE2.out k' hlt'
              have hf0 := FE2.out k'
              have hq0 : (0 : Int) ≤ (k' : Int) := by omega
              have hq1 : (k' : Int) < (n2 : Int) := by omega
              have NX := Lib.hid (show Kp (fun b => w1.heap.size ≤ b ∧ b < w3.heap.size) w4 (wr.setCell ⟨g, k', none⟩ (.int .u8 0)) ∧ (∀ j, j < n2 → ∃ v, (wr.setCell ⟨g, k', none⟩ (.int .u8 0)).cell? ⟨g, j, none⟩ = some v) ∧ ∀ i, (wr.setCell ⟨g, k', none⟩ (.int .u8 0)).frozen? ⟨g, i, none⟩ = false from
                ⟨KP2.out.setCell (p := ⟨g, k', none⟩) (fun _ => ⟨hg1, by simp only; omega⟩) _, fun j hj => cell_set (CE2.out j hj), fun i => (frozen_set _ _ _ _).trans (FE2.out i)⟩)
              go_wp2_with fail
              go_roundw
              case rel => exact ⟨k' + 1, by omega, by go_num, NX.out.1, NX.out.2⟩
              case measure => simp [intOf] <;> omega
            · have hkn' : ¬ (k' : Int) < (n2 : Int) := by omega
              obtain ⟨wM, hwM⟩ : ∃ wM, wM = wr := ⟨_, rfl⟩
              subst hwM
              have BM := Lib.hid (B4.out.kp KP2.out (fun e => by omega))
              have KM := Lib.hid (show Nw w wM from Kp.trans (K3.out.trans K34.out) KP2.out (fun x hx e => by omega))
              have sM := KP2.out.size
              have q6 := BM.out.cell
              clear q5
              go_wp2_with fail
              refine (EN.out _ KM.out).mono ?_
              rintro e5 w5 ⟨a5, n5, z5, rfl, k5, hb5⟩
              rw [H0.out]
              rw [if_pos H0.out] at hb5
              have DEC5 := Lib.hid (decode_own OKU.out LEN.out hb5.at)
              have K5 := Lib.hid (KM.out.trans k5)
              have B5 := Lib.hid (BM.out.nw k5)
              clear q6 hb5 k5
              have q7 := B5.out.cell
              go_wp2_with fail
              refine (DEC5.out).mono ?_
              rintro e6 w6 ⟨cs6, rfl, hut6, k6⟩
              have K6 := Lib.hid (K5.out.trans k6)
              have UA6 := Lib.hid (at_Un (B := w6.heap.size) (fun b hb => hb.2) hut6)
              obtain ⟨vi6, vd6, vb6, rfl, _, hi6, hd6, hb6⟩ := hut6
              obtain ⟨p1, r1, t1, rfl⟩ := hi6.slice
              obtain ⟨p2, r2, t2, rfl⟩ := hd6.slice
              obtain ⟨p3, r3, t3, rfl⟩ := hb6.slice
              have SU6 := Lib.hid (SU.out w6 (w6.alloc (.cells #[.string u.pkg, .slice p1 r1 t1, .slice p2 r2 t2, .slice p3 r3 t3] 30)) K6.out _ UA6.out (Nw.new _ _))
              have B6 := Lib.hid ((B5.out.nw k6).alloc (.cells #[.string u.pkg, .slice p1 r1 t1, .slice p2 r2 t2, .slice p3 r3 t3] 30))
              have BV6 := Lib.hid (Blk.new w6 [.string u.pkg, .slice p1 r1 t1, .slice p2 r2 t2, .slice p3 r3 t3] 30)
              have KV6 := Lib.hid (K6.out.alloc (.cells #[.string u.pkg, .slice p1 r1 t1, .slice p2 r2 t2, .slice p3 r3 t3] 30))
              clear q7 hi6 hd6 hb6 k6
              have q8 := B6.out.cell
              have q8' := BV6.out.cell
              go_wp2_with fail
              refine (num8_any _ _).mono ?_
              rintro _ _ ⟨rfl, rfl⟩
              go_wp2_with fail
              refine (SU6.out).mono ?_
              rintro e7 w7 ⟨rfl, k7⟩
              rw [DT.out]
              have K7 := Lib.hid (KV6.out.trans k7)
              clear q8 q8' k7
              go_wp2_with fail
              refine (awake8_any _).mono ?_
              rintro e8 w8 ⟨rfl, k8⟩
              have K8 := Lib.hid (K7.out.trans k8)
              clear k8
              go_wp2_with fail
              go_returns
              exact ⟨rfl, K8.out⟩
end Go.Proofs.Ytpopgnengimieaa
