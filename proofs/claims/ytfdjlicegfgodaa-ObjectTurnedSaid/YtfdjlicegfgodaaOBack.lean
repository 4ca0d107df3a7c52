/- ObjectBack: the law's walk. -/
import Derived.Test.YtfdjlicegfgodaaOReads
namespace Go.Proofs.Ytfdjlicegfgodaa
open Go.RowKit
set_option linter.unusedSimpArgs false
set_option linter.unusedVariables false

theorem ob_mono {B B' : Nat} {W W' : World} (hB : B ≤ B') (hw : ∀ b o cs, b < B → Cells W b o cs → Cells W' b o cs) {u : Ob} {cs : List Value} (h : ObAt B W u cs) : ObAt B' W' u cs := by
  obtain ⟨vi, vs, vr, vc, vd, h0, h1, h2, h3, h4, h5, h6, h7⟩ := h
  exact ⟨vi, vs, vr, vc, vd, h0, h1, h2, h3.mono hB hw fun _ _ _ h => h, h4.mono hB hw fun _ _ _ h => h, h5.mono hB hw fun _ _ _ h => h, h6.mono hB hw fun _ _ _ h => h, h7.mono hB hw fun _ _ _ h => h⟩
theorem ob_nw {w w' : World} (k : Nw w w') {u : Ob} {cs : List Value} (h : ObAt w.heap.size w u cs) : ObAt w'.heap.size w' u cs :=
  ob_mono k.size (fun b o cs hb hc => hc.kp k (fun x => x)) h
/-- what an object's own bytes are read as -/
theorem decode_own {w : World} {v : Value} {u : Ob} (hu : OkOb u) (hv : codeV u = 0) (hl : (objB u).length ≤ 262144) (h : BytesAt w v (objB u)) :
    Calls Try.prog 18 #[v] w fun e w' => ∃ cs, e = .returned (.tuple #[.agg cs.toArray, .int .i64 0]) ∧ ObT (fun b => w.heap.size ≤ b ∧ b < w'.heap.size) w' u cs ∧ Nw w w' := by
  refine (decode_any w v _ h).mono ?_
  rintro e w' (⟨u', cs, rfl, hok, _, hen, _, hut, k⟩ | ⟨_, hno, _⟩)
  · obtain ⟨e1, _⟩ := objB_pi (r := []) (r' := []) hok hu (by rw [hen])
    subst e1
    exact ⟨cs, rfl, hut, k⟩
  · exact absurd rfl (hno u hu hv hl)
theorem codeO_zero {u : Ob} (h : codeO u = 0) : codeV u = 0 ∧ (objB u).length ≤ 262144 := by
  unfold codeO at h
  split at h
  · rename_i h1
    split at h
    · rename_i h2; exact ⟨h1, h2⟩
    · cases h
  · rename_i h1; exact absurd h h1
/-- a list's elements may be laid anew -/
def Lays (lo hi : Nat) (y : Option Addr) (n c : Nat) (wz : World) : Prop := ∀ j, j < n → ∃ b o, y = some ⟨b, o, none⟩ ∧ (lo ≤ b ∧ b < hi) ∧ (∃ v, wz.cell? ⟨b, o + j * c, none⟩ = some v) ∧ ∀ i, wz.frozen? ⟨b, i, none⟩ = false
theorem Lays.set {lo hi n c : Nat} {y : Option Addr} {wz : World} (h : Lays lo hi y n c wz) (a : Addr) (v : Value) : Lays lo hi y n c (wz.setCell a v) := by
  intro j hj
  obtain ⟨b, o, e, hT, ⟨x, hx⟩, hf⟩ := h j hj
  exact ⟨b, o, e, hT, cell?_setCell_some hx, fun i => (World.frozen?_setCell _ _ _ _).trans (hf i)⟩
theorem Lays.nw {lo hi n c : Nat} {y : Option Addr} {w w' : World} (h : Lays lo hi y n c w) (k : Nw w w') (hh : hi ≤ w.heap.size) : Lays lo hi y n c w' := by
  intro j hj
  obtain ⟨b, o, e, hT, ⟨x, hx⟩, hf⟩ := h j hj
  exact ⟨b, o, e, hT, ⟨x, k.keeps hx⟩, fun i => (Kp.frozen k (p := ⟨b, i, none⟩) (Nat.lt_of_lt_of_le hT.2 hh) (fun x => x)).trans (hf i)⟩
theorem Lays.of {α : Type} {lo hi n c cap : Nat} {w : World} {E : α → List Value → Prop} {l : List α} {y : Option Addr} (hc : 0 < c) (h : SlT (fun b => lo ≤ b ∧ b < hi) w c E l (.slice y n cap)) : n = l.length ∧ Lays lo hi y n c w := by
  obtain ⟨x, cap', hv, hl, he⟩ := h
  injection hv with h1 h2 h3
  subst h1 h2 h3
  refine ⟨rfl, fun j hj => ?_⟩
  obtain ⟨b, o, hx, hT, hf, hee⟩ := he (by intro e; rw [e] at hj; simp at hj)
  obtain ⟨cs, hcl, hcc, _⟩ := hee j hj
  refine ⟨b, o, hx, hT, ?_, hf⟩
  have h1 := hcc 0 (by omega)
  rw [List.getElem?_eq_getElem (by omega)] at h1
  exact ⟨_, h1⟩
set_option maxRecDepth 100000 in
set_option maxHeartbeats 4000000 in
theorem objectBack_walk (u : Ob) (cs : List Value) (w : World) (hx : ObAt w.heap.size w u cs) :
    Calls Try.prog 6 #[.agg cs.toArray] w (BoolPost w true) := by
  have HX := Lib.hid hx
  have GR := Lib.hid (fun (wz : World) => great28_any (w := wz) u cs hx)
  have EN := Lib.hid (fun (wz : World) (hz : Nw w wz) (hb : codeV u = 0 → (encO u).length ≤ 140737488300000) => oencode_any u cs hx ((In.self w).nw hz) hb)
  have SU := Lib.hid (fun (wy wz : World) (hy : Nw w wy) (cs' : List Value) (h' : ObAt wy.heap.size wy u cs') (hz : Nw wy wz) => same28 (w := wz) u u cs cs' (ob_nw hy hx) h' ((In.self wy).nw hz))
  have DT := Lib.hid (dc_true (rfl : u = u))
  obtain ⟨vi, vs, vr, vc, vd, rfl, hp, hh, hi, hs, hr, hc, hd⟩ := hx
  obtain ⟨x2, m2, c2, rfl⟩ := hi.slice
  obtain ⟨x3, m3, c3, rfl⟩ := hs.slice
  obtain ⟨x4, m4, c4, rfl⟩ := hr.slice
  obtain ⟨x5, m5, c5, rfl⟩ := hc.slice
  obtain ⟨x6, m6, c6, rfl⟩ := hd.slice
  clear hp hh hi hs hr hc hd
  have BX := Lib.hid (Blk.new w [.string u.pkg, .int .i64 u.hash, .slice x2 m2 c2, .slice x3 m3 c3, .slice x4 m4 c4, .slice x5 m5 c5, .slice x6 m6 c6] 27)
  have N0 := Lib.hid (Nw.new w (.cells #[.string u.pkg, .int .i64 u.hash, .slice x2 m2 c2, .slice x3 m3 c3, .slice x4 m4 c4, .slice x5 m5 c5, .slice x6 m6 c6] 27))
  have sN : w.heap.size + 1 ≤ (w.alloc (.cells #[.string u.pkg, .int .i64 u.hash, .slice x2 m2 c2, .slice x3 m3 c3, .slice x4 m4 c4, .slice x5 m5 c5, .slice x6 m6 c6] 27)).heap.size := by simp
  cases hg : greatB u with
  | true =>
    have HG := Lib.hid hg
    clear hg
    go_enter Try.func6, Try.ntmps6
    go_upto_region 1 with fail
    generalize w.alloc (.cells #[.string u.pkg, .int .i64 u.hash, .slice x2 m2 c2, .slice x3 m3 c3, .slice x4 m4 c4, .slice x5 m5 c5, .slice x6 m6 c6] 27) = w0 at *
    have cO := BX.out.cell
    go_wp2_with fail
    refine (GR.out _).mono ?_
    rintro e1 w1 ⟨rfl, k1⟩
    rw [HG.out]
    have K1 := Lib.hid (N0.out.trans k1)
    clear k1 cO
    go_wp2_with fail
    refine (awake28_any _).mono ?_
    rintro e2 w2 ⟨rfl, k2⟩
    have K2 := Lib.hid (K1.out.trans k2)
    clear k2
    go_wp2_with fail
    go_returns
    exact ⟨rfl, K2.out⟩
  | false =>
    have HG := Lib.hid hg
    have GN := Lib.hid (great_no hg)
    clear hg
    go_enter Try.func6, Try.ntmps6
    go_upto_region 1 with fail
    generalize w.alloc (.cells #[.string u.pkg, .int .i64 u.hash, .slice x2 m2 c2, .slice x3 m3 c3, .slice x4 m4 c4, .slice x5 m5 c5, .slice x6 m6 c6] 27) = w0 at *
    have cO := BX.out.cell
    go_wp2_with fail
    refine (GR.out _).mono ?_
    rintro e1 w1 ⟨rfl, k1⟩
    rw [HG.out]
    have K1 := Lib.hid (N0.out.trans k1)
    have B1 := Lib.hid (BX.out.nw k1)
    have s1 := Nat.le_trans sN k1.size
    clear k1 cO
    have q1 := B1.out.cell
    go_wp2_with fail
    refine (EN.out _ K1.out (fun hv => by have h1 := valid_len hv; have h2 := GN.out; omega)).mono ?_
    rintro e2 w2 ⟨a2, n2, z2, rfl, k2, hb2⟩
    have K2 := Lib.hid (K1.out.trans k2)
    have B2 := Lib.hid (B1.out.nw k2)
    have s2 := k2.size
    clear q1 k2
    have q2 := B2.out.cell
    by_cases h0 : codeO u = 0
    rotate_left
    · rw [if_neg h0] at hb2
      have hn2 : n2 = 0 := hb2.1
      subst hn2
      generalize codeO u = cv at *
      obtain ⟨vn1, vn2, vn3, vn4⟩ := int_ne h0
      clear hb2 q2 h0
      go_wp2_with fail
      refine (num28_any _ _).mono ?_
      rintro _ _ ⟨rfl, rfl⟩
      go_wp2_with fail
      refine (awake28_any _).mono ?_
      rintro e3 w3 ⟨rfl, k3⟩
      have K3 := Lib.hid (K2.out.trans k3)
      clear k3
      go_wp2_with fail
      go_returns
      exact ⟨rfl, K3.out⟩
    · rw [if_pos h0] at hb2
      rw [h0]
      have OKU := Lib.hid (okOb_of HX.out)
      have VAL := Lib.hid (codeO_zero h0).1
      have LEN := Lib.hid (codeO_zero h0).2
      have S2 := Lib.hid hb2.at
      clear h0 hb2
      go_wp2_with fail
      refine (num28_any _ _).mono ?_
      rintro _ _ ⟨rfl, rfl⟩
      have DEC := Lib.hid (decode_own OKU.out VAL.out LEN.out S2.out)
      go_wp2_with fail
      refine (DEC.out).mono ?_
      rintro e3 w3 ⟨cs', rfl, hut, k3⟩
      have K3 := Lib.hid (K2.out.trans k3)
      have UA := Lib.hid (at_Ob (B := w3.heap.size) (fun b hb => hb.2) hut)
      obtain ⟨vi', vs', vr', vc', vd', rfl, _, _, g2, g3, g4, g5, g6⟩ := hut
      obtain ⟨y2, l2, d2, rfl⟩ := SlT.slice g2
      obtain ⟨y3, ns, d3, rfl⟩ := SlT.slice g3
      obtain ⟨y4, l4, d4, rfl⟩ := SlT.slice g4
      obtain ⟨y5, nc, d5, rfl⟩ := SlT.slice g5
      obtain ⟨y6, l6, d6, rfl⟩ := SlT.slice g6
      have LC := Lib.hid (Lays.of (by decide) g5).2
      have LS := Lib.hid (Lays.of (by decide) g3).2
      have hnc : nc ≤ 140737488355328 := by rw [(Lays.of (by decide) g5).1]; obtain ⟨_, _, _, h, _⟩ := g5; exact h
      have hns : ns ≤ 140737488355328 := by rw [(Lays.of (by decide) g3).1]; obtain ⟨_, _, _, h, _⟩ := g3; exact h
      have s3 := k3.size
      have KK3 := Lib.hid k3
      have BV := Lib.hid (Blk.new w3 [.string u.pkg, .int .i64 u.hash, .slice y2 l2 d2, .slice y3 ns d3, .slice y4 l4 d4, .slice y5 nc d5, .slice y6 l6 d6] 27)
      have B3 := Lib.hid ((B2.out.nw k3).alloc (.cells #[.string u.pkg, .int .i64 u.hash, .slice y2 l2 d2, .slice y3 ns d3, .slice y4 l4 d4, .slice y5 nc d5, .slice y6 l6 d6] 27))
      have KV := Lib.hid (Nw.new w3 (.cells #[.string u.pkg, .int .i64 u.hash, .slice y2 l2 d2, .slice y3 ns d3, .slice y4 l4 d4, .slice y5 nc d5, .slice y6 l6 d6] 27))
      have SU3 := Lib.hid (SU.out w3 (w3.alloc (.cells #[.string u.pkg, .int .i64 u.hash, .slice y2 l2 d2, .slice y3 ns d3, .slice y4 l4 d4, .slice y5 nc d5, .slice y6 l6 d6] 27)) K3.out _ UA.out KV.out)
      have sV : w3.heap.size + 1 ≤ (w3.alloc (.cells #[.string u.pkg, .int .i64 u.hash, .slice y2 l2 d2, .slice y3 ns d3, .slice y4 l4 d4, .slice y5 nc d5, .slice y6 l6 d6] 27)).heap.size := by simp
      clear q2 g2 g3 g4 g5 g6 k3
      go_upto_region 7 with fail
      generalize w3.alloc (.cells #[.string u.pkg, .int .i64 u.hash, .slice y2 l2 d2, .slice y3 ns d3, .slice y4 l4 d4, .slice y5 nc d5, .slice y6 l6 d6] 27) = wp at *
      have q3 := B3.out.cell
      have q3' := BV.out.cell
      go_wp2_with fail
      refine (num28_any _ _).mono ?_
      rintro _ _ ⟨rfl, rfl⟩
      go_wp2_with fail
      refine (SU3.out).mono ?_
      rintro e4 w4 ⟨rfl, k4⟩
      rw [DT.out]
      have K34 := Lib.hid (KV.out.trans k4)
      have B4 := Lib.hid (B3.out.nw k4)
      have BV4 := Lib.hid (BV.out.nw k4)
      have s4 := Nat.le_trans sV k4.size
      have LC4 := Lib.hid (LC.out.nw K34.out (Nat.le_refl _))
      have LS4 := Lib.hid (LS.out.nw K34.out (Nat.le_refl _))
      clear q3 q3' k4
      have q4 := BV4.out.cell
      go_wp2_with fail
      go_loopw [7] (fun i wr => ∃ k : Nat, k ≤ nc ∧ i = .int .i64 k ∧ Kp (fun b => w2.heap.size ≤ b ∧ b < w3.heap.size) w4 wr ∧ Lays w2.heap.size w3.heap.size y5 nc 1 wr ∧ Lays w2.heap.size w3.heap.size y3 ns 6 wr) (fun i _ => nc - (intOf i).toNat)
      case atStart => exact ⟨0, Nat.zero_le _, rfl, Kp.refl _ _, LC4.out, LS4.out⟩
      case round =>
        obtain ⟨k, hk, rfl, hkp, hce, hse⟩ := hrel
        have KP := Lib.hid hkp
        have CE := Lib.hid hce
        have SE := Lib.hid hse
        have BVr := Lib.hid (BV4.out.kp hkp (fun e => by omega))
        clear hkp hce hse q4
        have q5 := BVr.out.cell
        by_cases hlt : k < nc
        · obtain ⟨b, o, rfl, hT, ⟨v0, hv0⟩, hf0⟩ := CE.out k hlt
          have hq0 : (0 : Int) ≤ (k : Int) := by omega
          have hq1 : (k : Int) < (nc : Int) := by omega
          have hf1 := hf0 (o + k)
          simp only [Nat.mul_one] at hv0
          have NK := Lib.hid (KP.out.setCell (p := ⟨b, o + k, none⟩) (fun _ => hT) (.int .i64 (-1)))
          have NC := Lib.hid (CE.out.set ⟨b, o + k, none⟩ (.int .i64 (-1)))
          have NS := Lib.hid (SE.out.set ⟨b, o + k, none⟩ (.int .i64 (-1)))
          clear hf0
          go_wp2_with fail
          go_roundw
          case rel => exact ⟨k + 1, by omega, by go_num, NK.out, NC.out, NS.out⟩
          case measure => simp [intOf] <;> omega
        · have hkn : ¬ (k : Int) < (nc : Int) := by omega
          obtain ⟨wL, hwL⟩ : ∃ wL, wL = wr := ⟨_, rfl⟩
          subst hwL
          go_wp2_with fail
          go_loopw [8] (fun i wr => ∃ k : Nat, k ≤ ns ∧ i = .int .i64 k ∧ Kp (fun b => w2.heap.size ≤ b ∧ b < w3.heap.size) w4 wr ∧ Lays w2.heap.size w3.heap.size y3 ns 6 wr) (fun i _ => ns - (intOf i).toNat)
          case atStart => exact ⟨0, Nat.zero_le _, rfl, KP.out, SE.out⟩
          case round =>
            obtain ⟨k', hk', rfl, hkp, hse⟩ := hrel
            have KP2 := Lib.hid hkp
            have SE2 := Lib.hid hse
            have BV2 := Lib.hid (BV4.out.kp hkp (fun e => by omega))
            clear hkp hse q5
            have q6 := BV2.out.cell
            by_cases hlt' : k' < ns
            · obtain ⟨b, o, rfl, hT, ⟨v0, hv0⟩, hf0⟩ := SE2.out k' hlt'
              have hq0 : (0 : Int) ≤ (k' : Int) := by omega
              have hq1 : (k' : Int) < (ns : Int) := by omega
              have hf1 := hf0 (o + k' * 6)
              have NK := Lib.hid (KP2.out.setCell (p := ⟨b, o + k' * 6, none⟩) (fun _ => hT) (.string ⟨#[63]⟩))
              have NS := Lib.hid (SE2.out.set ⟨b, o + k' * 6, none⟩ (.string ⟨#[63]⟩))
              clear hf0
              go_wp2_with fail
              go_roundw
              case rel => exact ⟨k' + 1, by omega, by go_num, NK.out, NS.out⟩
              case measure => simp [intOf] <;> omega
            · have hkn' : ¬ (k' : Int) < (ns : Int) := by omega
              obtain ⟨wM, hwM⟩ : ∃ wM, wM = wr := ⟨_, rfl⟩
              subst hwM
              have BM := Lib.hid (B4.out.kp KP2.out (fun e => by omega))
              have KM := Lib.hid (show Nw w wM from Kp.trans (K3.out.trans K34.out) KP2.out (fun x hx e => by omega))
              have SM := Lib.hid (bytesAt_kp (S := fun b => w2.heap.size ≤ b) S2.out (Kp.trans ((KK3.out.trans K34.out).mono (fun _ _ x => x.elim)) KP2.out (fun x _ e => e.1)) (fun b hb e => by omega))
              have DEC5 := Lib.hid (decode_own OKU.out VAL.out LEN.out SM.out)
              have q7 := BM.out.cell
              go_wp2_with fail
              refine (DEC5.out).mono ?_
              rintro e6 w6 ⟨cs6, rfl, hut6, k6⟩
              have K6 := Lib.hid (KM.out.trans k6)
              have UA6 := Lib.hid (at_Ob (B := w6.heap.size) (fun b hb => hb.2) hut6)
              obtain ⟨vi6, vs6, vr6, vc6, vd6, rfl, _, _, g2, g3, g4, g5, g6⟩ := hut6
              obtain ⟨p2, r2, t2, rfl⟩ := SlT.slice g2
              obtain ⟨p3, r3, t3, rfl⟩ := SlT.slice g3
              obtain ⟨p4, r4, t4, rfl⟩ := SlT.slice g4
              obtain ⟨p5, r5, t5, rfl⟩ := SlT.slice g5
              obtain ⟨p6, r6, t6, rfl⟩ := SlT.slice g6
              have SU6 := Lib.hid (SU.out w6 (w6.alloc (.cells #[.string u.pkg, .int .i64 u.hash, .slice p2 r2 t2, .slice p3 r3 t3, .slice p4 r4 t4, .slice p5 r5 t5, .slice p6 r6 t6] 27)) K6.out _ UA6.out (Nw.new _ _))
              have B6 := Lib.hid ((BM.out.nw k6).alloc (.cells #[.string u.pkg, .int .i64 u.hash, .slice p2 r2 t2, .slice p3 r3 t3, .slice p4 r4 t4, .slice p5 r5 t5, .slice p6 r6 t6] 27))
              have BV6 := Lib.hid (Blk.new w6 [.string u.pkg, .int .i64 u.hash, .slice p2 r2 t2, .slice p3 r3 t3, .slice p4 r4 t4, .slice p5 r5 t5, .slice p6 r6 t6] 27)
              have KV6 := Lib.hid (K6.out.alloc (.cells #[.string u.pkg, .int .i64 u.hash, .slice p2 r2 t2, .slice p3 r3 t3, .slice p4 r4 t4, .slice p5 r5 t5, .slice p6 r6 t6] 27))
              clear q6 q7 g2 g3 g4 g5 g6 k6
              go_upto_region 18 with fail
              generalize w6.alloc (.cells #[.string u.pkg, .int .i64 u.hash, .slice p2 r2 t2, .slice p3 r3 t3, .slice p4 r4 t4, .slice p5 r5 t5, .slice p6 r6 t6] 27) = wq at *
              have q8 := B6.out.cell
              have q8' := BV6.out.cell
              go_wp2_with fail
              refine (SU6.out).mono ?_
              rintro e7 w7 ⟨rfl, k7⟩
              rw [DT.out]
              have K7 := Lib.hid (KV6.out.trans k7)
              clear q8 q8' k7
              go_wp2_with fail
              refine (awake28_any _).mono ?_
              rintro e8 w8 ⟨rfl, k8⟩
              have K8 := Lib.hid (K7.out.trans k8)
              clear k8
              go_wp2_with fail
              go_returns
              exact ⟨rfl, K8.out⟩
end Go.Proofs.Ytfdjlicegfgodaa
