/- MachParts: so many steps, and then so many, are as many as both at once. -/
import Derived.Test.YthlcoocboidnlaaMach21
namespace Go.Proofs.Ythlcoocboidnlaa
open Go.RowKit
set_option linter.unusedSimpArgs false
set_option linter.unusedVariables false

theorem own_addr {w : World} {base e n c : Nat} {x : Option Addr} {xs : List Value} (h : w.ownsRow base e 1 (.slice x n c) n xs) (hn : 0 < n) : ∃ g cur, x = some ⟨g, 0, none⟩ ∧ base ≤ g ∧ w.heap[g]? = some (.cells cur e (0, 0)) ∧ n ≤ c ∧ c ≤ maxLen ∧ cur.size = c ∧ cur.toList.take n = xs := by
  rcases h.2 with ⟨_, h⟩ | ⟨g, cap, cur, hv, h1, h2, h3, h4, h5, h6⟩
  · omega
  · injection hv with hv1 hv2 hv3
    subst hv3
    exact ⟨g, cur, hv1, h1, h2, h3, h4, by simpa using h5, by simpa using h6⟩
theorem byteV_get {l : List UInt8} {i : Nat} (h : i < l.length) : (byteV l)[i]? = some (.int .u8 (l[i].toNat : Int)) := by simp [byteV, h]
theorem own_cells {w : World} {base e n c g : Nat} {l : List UInt8} (h : w.ownsRow base e 1 (.slice (some ⟨g, 0, none⟩) n c) n (byteV l)) (hn : n = l.length) : ∀ j u, (byteV l)[j]? = some u → w.cell? ((⟨g, 0, none⟩ : Addr).add j) = some u := h.cells (g := g) rfl
theorem own_cell {w : World} {base e n c g : Nat} {l : List UInt8} (h : w.ownsRow base e 1 (.slice (some ⟨g, 0, none⟩) n c) n (byteV l)) {i : Nat} (hi : i < l.length) : w.cell? ⟨g, i, none⟩ = some (.int .u8 (l[i].toNat : Int)) := by
  have h1 := h.cells (g := g) rfl i _ (byteV_get hi)
  have e : (⟨g, 0, none⟩ : Addr).add i = ⟨g, 0 + i, none⟩ := by unfold Addr.add; split <;> simp_all
  rwa [e, Nat.zero_add] at h1
theorem own_frozen {w : World} {base e n c g : Nat} {xs : List Value} (h : w.ownsRow base e 1 (.slice (some ⟨g, 0, none⟩) n c) n xs) (hn : 0 < n) (i : Nat) : w.frozen? ⟨g, i, none⟩ = false := by
  obtain ⟨g', cur, hx, _, hg, _⟩ := own_addr h hn
  injection hx with hx
  injection hx with hx
  subst hx
  simp [World.frozen?, hg]
theorem MAtL.kpo {S : Nat → Prop} {B : Nat} {R : Nat → Prop} {w w' : World} {p : Nat} {L : Lc} {s : Ms} (h : MAtL B R w p L s) (k : Kp S w w') (hs : ∀ x, (R x ∨ Ft p L x) → ¬ S x) : MAtL B R w' p L s :=
  ⟨h.mc.kp k (hs _ (.inr (.inl rfl))), h.mem.kp k (hs _ (.inr (.inr (.inl rfl)))), h.hm, h.hp, own_kp h.own k (fun g hg => hs _ (.inr (.inr (.inr hg)))), h.ho, h.op, h.om, fun x hx => ⟨Nat.lt_of_lt_of_le (h.ro x hx).1 k.size, (h.ro x hx).2⟩,
    h.code.kp k (fun b hb => hs b (.inl hb)), h.hc, h.ci, h.inp.kp k (fun b hb => hs b (.inl hb)), h.ops.kp k (fun b hb => hs b (.inl hb)), h.bp, h.bb⟩
theorem outcome_oc {B : Nat} {R : Nat → Prop} {w : World} {p : Nat} {L : Lc} {s : Ms} (h : MAtL B R w p L s) : Calls Try.prog 22 #[.pointer (some ⟨p, 0, none⟩)] w (OcP s.oc w) := outcome_val h
/-- own_slice's parts of a run -/
def RunO (B : Nat) (R : Nat → Prop) (w : World) (p : Nat) (L : Lc) (s' : Ms) (e : Ending) (w' : World) : Prop :=
  ∃ x c, e = .returned (s'.oc.val x c) ∧ w'.ownsRow w.heap.size 5 1 (.slice x s'.oc.out.length c) s'.oc.out.length (byteV s'.oc.out) ∧
    ∃ L', MAtL B R w' p L' s' ∧ Kp (Ft p L) w w' ∧ L'.bm = L.bm ∧ (∀ g, L'.vo.ownBlock = some g → L.vo.ownBlock = some g ∨ w.heap.size ≤ g) ∧ ∀ g, (Value.slice x s'.oc.out.length c).ownBlock = some g → ¬ Ft p L' g ∧ ¬ R g ∧ w.heap.size ≤ g ∧ g < w'.heap.size
theorem mrun_oc {B : Nat} {R : Nat → Prop} {w : World} {p : Nat} {L : Lc} {s : Ms} (h : MAtL B R w p L s) (n : Int) (hn : I64 n) :
    Calls Try.prog 15 #[.pointer (some ⟨p, 0, none⟩), .int .i64 n] w (RunO B R w p L (s.runN n.toNat)) := by
  refine (mrun_any h n hn).mono ?_
  rintro e w' ⟨v, rfl, ho, L', hm, hk, hb, hv, hne⟩
  obtain ⟨x, c, rfl⟩ := own_slice ho
  refine ⟨x, c, rfl, ho, L', hm, hk, hb, hv, fun g hg => ?_⟩
  have h1 := ho.lt g hg
  refine ⟨?_, fun hr => ?_, h1.1, h1.2⟩
  · rintro (e | e | e)
    · have := h.mc.lt; omega
    · have := h.mem.lt; rw [hb] at e; omega
    · exact hne g hg e
  · have := (h.ro g hr).1; omega
/-- what the parts are -/
theorem parts_law (m : Img) (mem : Int) (inp : List UInt8) (a b : Int) (he : m.err mem inp = 0) (ha : a ≤ 3000) (hb : b ≤ 3000) {ka lb : Int} (hka : ka = max a 0) (hlb : lb = max b 0) :
    let s1 := (m.ms mem inp).runN a.toNat
    let s2 := s1.runN b.toNat
    s1.steps ≤ ka ∧ s2.steps ≤ ka + lb ∧ (s1.kind = 0 → s1.steps = ka) ∧ (¬ s1.kind = 0 → s2.steps = s1.steps) ∧ m.run mem inp (ka + lb) = s2.oc := by
  intro s1 s2
  have hs : (m.ms mem inp).steps = 0 := rfl
  have x := run_steps a.toNat (m.ms mem inp) (by omega) (by omega)
  have y := run_steps b.toNat s1 (by show (0 : Int) ≤ ((m.ms mem inp).runN a.toNat).steps; omega) (by show ((m.ms mem inp).runN a.toNat).steps + _ ≤ _; omega)
  have hx : s1 = (m.ms mem inp).runN a.toNat := rfl
  have hy : s2 = s1.runN b.toNat := rfl
  have ta : (a.toNat : Int) = ka := by omega
  have tb : (b.toNat : Int) = lb := by omega
  rw [← hx] at x
  rw [← hy] at y
  refine ⟨by omega, by omega, fun h => by have := x.2.2 h; omega, fun h => by rw [hy, Ms.runN_end h], ?_⟩
  rw [run_ok he _ (by omega), show (ka + lb).toNat = a.toNat + b.toNat by omega, runN_add]
theorem same_agg (w : World) (a : Oc) (x y : Option Addr) (c d : Nat) (hx : BytesAt w (.slice x a.out.length c) a.out) (hy : BytesAt w (.slice y a.out.length d) a.out) :
    Calls Try.prog 20 #[.agg #[.int .i64 a.kind, .int .i64 a.panics, .slice x a.out.length c, .int .i64 a.steps], .agg #[.int .i64 a.kind, .int .i64 a.panics, .slice y a.out.length d, .int .i64 a.steps]] w (BoolPost w true) := same_true w a x y c d hx hy
theorem max_if (a : Int) : (if a < 0 then (0 : Int) else a) = max a 0 := by
  rw [Int.max_def]; split <;> split <;> omega

set_option maxRecDepth 100000 in
set_option maxHeartbeats 2000000 in
theorem machParts_walk {R R' : Nat → Prop} {W : World} {xc xd xi : Option Addr} {nc cc nd cd ni ci : Nat} {entry : Int} {m : Img} {inp : List UInt8} (h : ImgAt R W xc xd nc cc nd cd entry m) (hi : BytesR R' W (.slice xi ni ci) inp) (hr : ∀ b, R' b → b < W.heap.size) (hli : inp.length ≤ 9223372036854775807)
    (mem a b : Int) (ha : I64 a) (hb : I64 b) :
    Calls Try.prog 6 #[.agg #[.slice xc nc cc, .slice xd nd cd, .int .i64 entry], .int .i64 mem, .slice xi ni ci, .int .i64 a, .int .i64 b] W (BoolPost W true) := by
  have N0 := Lib.hid (Nw.new W (.cells #[.slice xc nc cc, .slice xd nd cd, .int .i64 entry] 29))
  have IM0 := Lib.hid (h.nw N0.out)
  have BI := Lib.hid (Blk.new W [.slice xc nc cc, .slice xd nd cd, .int .i64 entry] 29)
  have IN0 := Lib.hid (hi.kp N0.out (fun _ _ x => x))
  have HRI := Lib.hid (fun b (hb : R' b) => Nat.lt_of_lt_of_le (hr b hb) N0.out.size)
  have HLI := Lib.hid hli
  have HV := Lib.hid (heavy_any (W.alloc (.cells #[.slice xc nc cc, .slice xd nd cd, .int .i64 entry] 29)) xc xd xi nc cc nd cd ni ci entry mem a (by rw [h.code.len]; exact h.lc) (by rw [h.data.len]; exact h.ld) (by rw [hi.len]; exact hli))
  have AW := Lib.hid awake_any
  have HA := Lib.hid ha
  have HB := Lib.hid hb
  clear h hi hr hli ha hb
  have hm1 := max_if a
  have hm2 := max_if b
  go_enter Try.func6, Try.ntmps6
  go_upto_region 1 with fail
  generalize W.alloc (.cells #[.slice xc nc cc, .slice xd nd cd, .int .i64 entry] 29) = w0 at *
  generalize W.heap.size = bi at *
  have i0 := BI.out.cell 0
  have i1 := BI.out.cell 1
  have i2 := BI.out.cell 2
  simp only [List.getElem?_cons_zero, List.getElem?_cons_succ] at i0 i1 i2
  go_wp2_with fail
  refine HV.out.mono ?_
  rintro e1 w1 ⟨rfl, k1⟩
  have N1 := Lib.hid (N0.out.trans k1)
  have K1 := Lib.hid k1
  have BI1 := Lib.hid (BI.out.nw k1)
  clear k1 HV i0 i1 i2 BI
  have i0 := BI1.out.cell 0
  have i1 := BI1.out.cell 1
  have i2 := BI1.out.cell 2
  simp only [List.getElem?_cons_zero, List.getElem?_cons_succ] at i0 i1 i2
  by_cases hv : heavyB nc nd ni mem a = true
  · rw [hv]
    go_wp2_with fail
    refine (AW.out _).mono ?_
    rintro ea wa ⟨rfl, ka⟩
    go_wp2_with fail
    go_returns
    exact ⟨rfl, N1.out.trans ka⟩
  have hv : heavyB nc nd ni mem a = false := by simpa using hv
  have ha3 : a ≤ 3000 := by
    have := of_decide_eq_false hv
    omega
  rw [hv]
  by_cases hb3 : 3000 < b
  · go_wp2_with fail
    refine (AW.out _).mono ?_
    rintro ea wa ⟨rfl, ka⟩
    go_wp2_with fail
    go_returns
    exact ⟨rfl, N1.out.trans ka⟩
  have hb3' : b ≤ 3000 := by omega
  have NE := Lib.hid (fun (wz : World) (k : Nw w0 wz) => new_any (IM0.out.nw k) (IN0.out.kp k (fun _ _ x => x)) (fun b hb => Nat.lt_of_lt_of_le (HRI.out b hb) k.size) HLI.out mem)
  clear hv
  go_wp2_with fail
  refine (NE.out _ K1.out).mono ?_
  rintro e2 w2 (⟨he, p, R2, L, rfl, hm, hk⟩ | ⟨he, rfl, hk⟩)
  rotate_left
  · have N2 := Lib.hid (N1.out.trans hk)
    have he' : ¬ m.err mem inp = 0 := he
    clear hk he
    generalize m.err mem inp = er at *
    obtain ⟨ne1, ne2, ne3, ne4⟩ := int_ne he'
    go_wp2_with fail
    refine (num_any _ _).mono ?_
    rintro e4 w4 ⟨rfl, rfl⟩
    go_wp2_with fail
    refine (AW.out _).mono ?_
    rintro ea wa ⟨rfl, ka⟩
    go_wp2_with fail
    go_returns
    exact ⟨rfl, N2.out.trans ka⟩
  obtain ⟨kx, hkx⟩ : ∃ kx, kx = max a 0 := ⟨_, rfl⟩
  obtain ⟨lx, hlx⟩ : ∃ lx, lx = max b 0 := ⟨_, rfl⟩
  obtain ⟨law1, law2, law3, law4, law5⟩ := parts_law m mem inp a b he ha3 hb3' hkx hlx
  rw [← hkx] at hm1
  rw [← hlx] at hm2
  have hkl : 0 ≤ kx ∧ kx ≤ 3000 ∧ 0 ≤ lx ∧ lx ≤ 3000 := by omega
  have HKL := Lib.hid hkl
  have LAW5 := Lib.hid law5
  have LAW3 := Lib.hid law3
  have LAW4 := Lib.hid law4
  have hwk : IntKind.i64.wrap (kx + lx) = kx + lx := IntWalk.i64_in _ (by omega)
  have M2 := Lib.hid hm
  have K2 := Lib.hid hk
  have BI2 := Lib.hid (BI1.out.nw hk)
  have HBI := Lib.hid BI2.out.lt
  have HZ12 := Lib.hid hk.size
  clear he hm hk hkx hlx law3 law4 law5 i0 i1 i2 hkl
  obtain ⟨s1, hs1⟩ : ∃ s1, s1 = (m.ms mem inp).runN a.toNat := ⟨_, rfl⟩
  obtain ⟨s2, hs2⟩ : ∃ s2, s2 = s1.runN b.toNat := ⟨_, rfl⟩
  have MR := Lib.hid (mrun_oc M2.out a HA.out)
  rw [← hs1] at MR LAW3 LAW4 law1 law2 LAW5
  rw [← hs2] at LAW4 law2 LAW5
  have HS2 := Lib.hid (show s1.runN b.toNat = s2 from hs2.symm)
  clear hs1 hs2
  go_wp2_with fail
  refine (num_any _ 0).mono ?_
  rintro e4 w4 ⟨rfl, rfl⟩
  go_wp2_with fail
  refine MR.out.mono ?_
  rintro e5 w5 ⟨xo, co, rfl, ho, L5, hm5, hk5, _, _, hg5⟩
  have Z5 := Lib.hid (ft_new M2.out K2.out hk5)
  have HG := Lib.hid hg5
  have M5 := Lib.hid hm5
  have OW := Lib.hid ho
  clear ho hm5 hk5 hg5 MR
  unfold Oc.val
  obtain ⟨n, hn⟩ : ∃ n, n = s1.oc.out.length := ⟨_, rfl⟩
  have NL := Lib.hid hn
  have HNS := Lib.hid (show n ≤ 4096 by rw [hn]; exact M5.out.ho)
  have NN := Lib.hid (Nw.new w5 (.cells #[.int .i64 s1.oc.kind, .int .i64 s1.oc.panics, .slice xo s1.oc.out.length co, .int .i64 s1.oc.steps] 37))
  have Z6 := Lib.hid (Z5.out.trans NN.out)
  have M6 := Lib.hid (M5.out.nw NN.out)
  have B6 := Lib.hid (Blk.new w5 [.int .i64 s1.oc.kind, .int .i64 s1.oc.panics, .slice xo s1.oc.out.length co, .int .i64 s1.oc.steps] 37)
  have OW6 := Lib.hid (own_kp OW.out NN.out (fun _ _ x => x))
  have BI6 := Lib.hid (BI1.out.nw Z6.out)
  go_upto_region 8 with fail
  rw [← hn] at OW OW6 B6 NN M6 HG BI6 Z6 ⊢
  generalize w5.alloc (.cells #[.int .i64 s1.oc.kind, .int .i64 s1.oc.panics, .slice xo n co, .int .i64 s1.oc.steps] 37) = w6 at *
  obtain ⟨q, hq⟩ : ∃ q, q = w5.heap.size := ⟨_, rfl⟩
  rw [← hq] at B6 HG ⊢
  have HQ := Lib.hid hq
  clear hq hn M5 Z5 NN
  have j0 := B6.out.cell 0
  have j1 := B6.out.cell 1
  have j2 := B6.out.cell 2
  have j3 := B6.out.cell 3
  simp only [List.getElem?_cons_zero, List.getElem?_cons_succ] at j0 j1 j2 j3
  have GN := Lib.hid (fun g (hg : (Value.slice xo n co).ownBlock = some g) => HG.out g hg)
  go_upto_region 11 with fail
  go_loopw [18] (fun i wr => ∃ j : Nat, i = .int .i64 (j : Int) ∧ j ≤ n ∧ Kp (fun x => (Value.slice xo n co).ownBlock = some x) w6 wr ∧ ∀ g, xo = some ⟨g, 0, none⟩ → 0 < n → ∀ t, t < n → (∃ z, wr.cell? ⟨g, t, none⟩ = some (.int .u8 z)) ∧ wr.frozen? ⟨g, t, none⟩ = false) (fun i _ => n - (intOf i).toNat)
  case atStart =>
    refine ⟨0, rfl, Nat.zero_le _, Kp.refl _ _, fun g hg hn t ht => ?_⟩
    have o6 := OW6.out
    rw [hg] at o6
    exact ⟨⟨_, own_cell o6 (by rw [← NL.out]; exact ht)⟩, own_frozen o6 hn t⟩
  case round =>
    obtain ⟨j, rfl, hj, hkr, hcr⟩ := hrel
    have KR := Lib.hid hkr
    have CR := Lib.hid hcr
    have NQ := Lib.hid (show ¬ (Value.slice xo n co).ownBlock = some q from fun e => by have := (GN.out q e).2.2.2; omega)
    have j2 := hkr.keeps j2 NQ.out
    clear hkr hcr
    have hn4 := HNS.out
    by_cases hjn : j < n
    · obtain ⟨g, cur, hx, _, _, hcp, hcm, _⟩ := own_addr OW6.out (by omega)
      subst hx
      obtain ⟨⟨z, hz⟩, hzf⟩ := CR.out g rfl (by omega) j hjn
      have hq0 : (0 : Int) ≤ (j : Int) := by omega
      have hq1 : (j : Int) < (n : Int) := by omega
      have hgq : g ≠ q := fun e => NQ.out (by rw [← e]; rfl)
      have HCZ := Lib.hid hz
      go_wp2_with fail
      go_region
      have KR' := Lib.hid ((KR.out.setCell (p := ⟨g, j, none⟩) (fun _ => rfl) (.int .u8 (bits BinOp.xor IntKind.u8 z 85))).drew)
      have CR' := Lib.hid (show ∀ g', (some ⟨g, 0, none⟩ : Option Addr) = some ⟨g', 0, none⟩ → 0 < n → ∀ t, t < n → (∃ z', ((wr.setCell ⟨g, j, none⟩ (.int .u8 (bits BinOp.xor IntKind.u8 z 85))).drew).cell? ⟨g', t, none⟩ = some (.int .u8 z')) ∧ ((wr.setCell ⟨g, j, none⟩ (.int .u8 (bits BinOp.xor IntKind.u8 z 85))).drew).frozen? ⟨g', t, none⟩ = false from fun g' hg' h0 t ht => by
        injection hg' with hg'
        injection hg' with hg'
        subst hg'
        obtain ⟨⟨z', hz'⟩, hf'⟩ := CR.out g rfl h0 t ht
        refine ⟨?_, (World.frozen?_setCell wr _ _ _).trans hf'⟩
        by_cases htj : t = j
        · subst htj
          exact ⟨_, World.cell?_setCell_same wr ⟨g, t, none⟩ _ hz'⟩
        · exact ⟨z', (World.cell?_setCell_other wr ⟨g, j, none⟩ ⟨g, t, none⟩ _ (by intro e; injection e with _ e2; exact htj e2.symm)).trans hz'⟩)
      generalize (wr.setCell ⟨g, j, none⟩ (.int .u8 (bits BinOp.xor IntKind.u8 z 85))).drew = wn at *
      clear KR CR hz hzf HCZ
      go_wp2_with fail
      go_roundw
      case rel => exact ⟨j + 1, by go_num, by omega, KR'.out, CR'.out⟩
      case measure => simp [intOf]; omega
    · obtain rfl : j = n := by omega
      have Z7 := Lib.hid (show Nw w1 wr from Kp.trans Z6.out KR.out (fun x hx e => by have := (GN.out x e).2.2.1; have := HZ12.out; omega))
      have M7 := Lib.hid (M6.out.kpo KR.out (fun x hx e => by
        obtain ⟨g1, g2, _⟩ := GN.out x e
        exact hx.elim g2 g1))
      have MR2 := Lib.hid (mrun_oc M7.out b HB.out)
      rw [HS2.out] at MR2
      have hk1 : s1.oc.kind = s1.kind := rfl
      have ht1 : s1.oc.steps = s1.steps := rfl
      have ht2 : s2.oc.steps = s2.steps := rfl
      rw [← ht1] at law1 LAW3 LAW4
      rw [← ht2] at law2 LAW4
      rw [← hk1] at LAW3 LAW4
      clear hk1 ht1 ht2 CR M6 Z6 OW OW6 NQ B6 KR HG GN hj hjn hn4
      obtain ⟨o2, ho2⟩ : ∃ o2, o2 = s2.oc := ⟨_, rfl⟩
      rw [← ho2] at law2 LAW4 LAW5
      have HO2 := Lib.hid ho2
      clear ho2
      generalize s1.oc.kind = k1 at *
      generalize s1.oc.steps = t1 at *
      go_wp2_with fail
      refine MR2.out.mono ?_
      rintro e8 w8 ⟨xp, cp, rfl, ho8, L8, hm8, hk8, _, _, _⟩
      rw [← HO2.out] at ho8 ⊢
      have Z8 := Lib.hid (ft_new M7.out Z7.out hk8)
      have NN := Lib.hid (Nw.new w8 (.cells #[.int .i64 o2.kind, .int .i64 o2.panics, .slice xp o2.out.length cp, .int .i64 o2.steps] 37))
      have OP := Lib.hid (bytesAt_nw (own_bytesAt ho8) NN.out)
      have M9 := Lib.hid (hm8.nw NN.out)
      have Z9 := Lib.hid (Z8.out.trans NN.out)
      have B9 := Lib.hid (Blk.new w8 [.int .i64 o2.kind, .int .i64 o2.panics, .slice xp o2.out.length cp, .int .i64 o2.steps] 37)
      have BI9 := Lib.hid (BI1.out.nw Z9.out)
      unfold Oc.val
      clear ho8 hm8 hk8 MR2 Z8 M7 Z7
      go_upto_region 15 with fail
      generalize w8.alloc (.cells #[.int .i64 o2.kind, .int .i64 o2.panics, .slice xp o2.out.length cp, .int .i64 o2.steps] 37) = w9 at *
      generalize w8.heap.size = qp at *
      have j0 := B9.out.cell 0
      have j1 := B9.out.cell 1
      have j2 := B9.out.cell 2
      have j3 := B9.out.cell 3
      simp only [List.getElem?_cons_zero, List.getElem?_cons_succ] at j0 j1 j2 j3
      have i0 := BI9.out.cell 0
      have i1 := BI9.out.cell 1
      have i2 := BI9.out.cell 2
      simp only [List.getElem?_cons_zero, List.getElem?_cons_succ] at i0 i1 i2
      have CO := Lib.hid (fun (wz : World) (k : Nw w9 wz) => outcome_oc (M9.out.nw k))
      rw [← HO2.out] at CO
      have RF := Lib.hid (fun (wz : World) (k : Nw w9 wz) => fnrun_any (IM0.out.nw (K1.out.trans (Z9.out.trans k))) (IN0.out.kp (K1.out.trans (Z9.out.trans k)) (fun _ _ x => x)) (fun b hb => Nat.lt_of_lt_of_le (HRI.out b hb) (K1.out.trans (Z9.out.trans k)).size) HLI.out mem (kx + lx) (by have := HKL.out; omega))
      rw [LAW5.out] at RF
      have FC := Lib.hid (fun (wz : World) (hz : Nw w9 wz) => (⟨hz.keeps i0, hz.keeps i1, hz.keeps i2, hz.keeps j0, hz.keeps j1, hz.keeps j2, hz.keeps j3⟩ : _ ∧ _ ∧ _ ∧ _ ∧ _ ∧ _ ∧ _))
      have FIN := Lib.hid (fun (wz : World) (k : Nw w9 wz) => (show BoolPost W true (.returned (.bool true)) wz from ⟨rfl, (N1.out.trans Z9.out).trans k⟩))
      by_cases hk : k1 = 0
      · obtain rfl := LAW3.out hk
        subst hk
        clear LAW3 LAW4 LAW5
        go_wp2_with fail
        go_region_held3 (fun wz => wz.cell? ⟨bi, 0, none⟩ = some (.slice xc nc cc) ∧ wz.cell? ⟨bi, 1, none⟩ = some (.slice xd nd cd) ∧ wz.cell? ⟨bi, 2, none⟩ = some (.int .i64 entry) ∧ wz.cell? ⟨qp, 0, none⟩ = some (.int .i64 o2.kind) ∧ wz.cell? ⟨qp, 1, none⟩ = some (.int .i64 o2.panics) ∧ wz.cell? ⟨qp, 2, none⟩ = some (.slice xp o2.out.length cp) ∧ wz.cell? ⟨qp, 3, none⟩ = some (.int .i64 o2.steps))
          (first | with_reducible exact FC.out _ (Nw.refl _).drew | with_reducible exact FC.out _ kk)
          (first
            | (go_at_call 19; (with_reducible refine (RF.out w9.drew ((Nw.refl _).drew)).mono ?_); rintro ea wa ⟨xr, cr, rfl, hor, kr⟩; have kk : Nw w9 wa := ((Nw.refl _).drew).trans kr; have KA := Lib.hid kk; have OR := Lib.hid (own_bytesAt hor); clear hor kr)
            | (go_at_call 20; have q4 := OC4; refine (same_agg _ o2 x4 xp c4 cp OC4.out (bytesAt_nw OP.out KC.out)).mono ?_; rintro ed wd ⟨rfl, kd⟩; have kk : Nw w9 wd := KC.out.trans kd; have KD := Lib.hid kk; clear kd)
            | (go_at_call 20; refine (same_agg _ o2 xp xr cp cr (bytesAt_nw OP.out KA.out) OR.out).mono ?_; rintro eb wb ⟨rfl, kb⟩; have kk : Nw w9 wb := KA.out.trans kb; have KB := Lib.hid kk; clear kb)
            | (go_at_call 22; (with_reducible refine (CO.out _ KB.out).mono ?_); rintro ec wc ⟨x4, c4, rfl, hoc, kc⟩; have kk : Nw w9 wc := KB.out.trans kc; have KC := Lib.hid kk; have OC4 := Lib.hid (own_bytesAt hoc); clear hoc kc)
            | (go_at_call 18; (with_reducible refine (AW.out _).mono ?_); rintro ee we ⟨rfl, ke⟩; have kk : Nw w9 we := KD.out.trans ke; clear ke))
        all_goals
          go_wp2_with fail
          go_returns
          exact FIN.out _ kk
      · obtain rfl := LAW4.out hk
        obtain ⟨ne1, ne2, ne3, ne4⟩ := int_ne hk
        clear LAW3 LAW4 LAW5 hk
        go_wp2_with fail
        go_region_held3 (fun wz => wz.cell? ⟨bi, 0, none⟩ = some (.slice xc nc cc) ∧ wz.cell? ⟨bi, 1, none⟩ = some (.slice xd nd cd) ∧ wz.cell? ⟨bi, 2, none⟩ = some (.int .i64 entry) ∧ wz.cell? ⟨qp, 0, none⟩ = some (.int .i64 o2.kind) ∧ wz.cell? ⟨qp, 1, none⟩ = some (.int .i64 o2.panics) ∧ wz.cell? ⟨qp, 2, none⟩ = some (.slice xp o2.out.length cp) ∧ wz.cell? ⟨qp, 3, none⟩ = some (.int .i64 o2.steps))
          (first | with_reducible exact FC.out _ (Nw.refl _).drew | with_reducible exact FC.out _ kk)
          (first
            | (go_at_call 19; (with_reducible refine (RF.out w9.drew ((Nw.refl _).drew)).mono ?_); rintro ea wa ⟨xr, cr, rfl, hor, kr⟩; have kk : Nw w9 wa := ((Nw.refl _).drew).trans kr; have KA := Lib.hid kk; have OR := Lib.hid (own_bytesAt hor); clear hor kr)
            | (go_at_call 20; have q4 := OC4; refine (same_agg _ o2 x4 xp c4 cp OC4.out (bytesAt_nw OP.out KC.out)).mono ?_; rintro ed wd ⟨rfl, kd⟩; have kk : Nw w9 wd := KC.out.trans kd; have KD := Lib.hid kk; clear kd)
            | (go_at_call 20; refine (same_agg _ o2 xp xr cp cr (bytesAt_nw OP.out KA.out) OR.out).mono ?_; rintro eb wb ⟨rfl, kb⟩; have kk : Nw w9 wb := KA.out.trans kb; have KB := Lib.hid kk; clear kb)
            | (go_at_call 22; (with_reducible refine (CO.out _ KB.out).mono ?_); rintro ec wc ⟨x4, c4, rfl, hoc, kc⟩; have kk : Nw w9 wc := KB.out.trans kc; have KC := Lib.hid kk; have OC4 := Lib.hid (own_bytesAt hoc); clear hoc kc)
            | (go_at_call 18; (with_reducible refine (AW.out _).mono ?_); rintro ee we ⟨rfl, ke⟩; have kk : Nw w9 we := KD.out.trans ke; clear ke))
        all_goals
          go_wp2_with fail
          go_returns
          exact FIN.out _ kk
end Go.Proofs.Ythlcoocboidnlaa
