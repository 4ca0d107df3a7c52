/- MachApart: two machines that are run in turns know nothing of one another. -/
import Derived.Test.YthlcoocboidnlaaMach23
namespace Go.Proofs.Ythlcoocboidnlaa
open Go.RowKit
set_option linter.unusedSimpArgs false
set_option linter.unusedVariables false

/-- New: all blocks of the machine are new -/
def NewB (m : Img) (mem : Int) (inp : List UInt8) (w : World) (e : Ending) (w' : World) : Prop :=
  (m.err mem inp = 0 ∧ ∃ p R' L, e = .returned (.tuple #[.pointer (some ⟨p, 0, none⟩), .int .i64 0]) ∧ MAtL w.heap.size R' w' p L (m.ms mem inp) ∧ Nw w w' ∧ ∀ x, R' x → w.heap.size ≤ x) ∨
  (¬ m.err mem inp = 0 ∧ e = .returned (.tuple #[.pointer none, .int .i64 (m.err mem inp)]) ∧ Nw w w')
theorem new_anyB {R R' : Nat → Prop} {w : World} {xc xd xi : Option Addr} {nc cc nd cd ni ci : Nat} {entry : Int} {m : Img} {inp : List UInt8} (h : ImgAt R w xc xd nc cc nd cd entry m) (hi : BytesR R' w (.slice xi ni ci) inp) (hr : ∀ b, R' b → b < w.heap.size) (hli : inp.length ≤ 9223372036854775807) (mem : Int) :
    Calls Try.prog 13 #[.agg #[.slice xc nc cc, .slice xd nd cd, .int .i64 entry], .int .i64 mem, .slice xi ni ci] w (NewB m mem inp w) := by
  have h1 := h.code.len
  have h2 := h.data.len
  have h3 := hi.len
  have h4 := h.lc
  have h5 := h.ld
  have h6 := h.en
  by_cases c1 : nc < 1 ∨ 65536 < nc ∨ 16384 < nd ∨ entry < 0 ∨ (nc : Int) ≤ entry
  · have e : m.err mem inp = 4 := if_pos (by rw [← h1, ← h2, ← h6]; exact c1)
    refine (new_bad w xc xd xi nc cc nd cd ni ci entry mem 4 (by omega) (by omega) (by omega) (.inl ⟨c1, rfl⟩)).mono fun e' w' q => .inr ⟨by rw [e]; decide, by rw [e]; exact q.1, q.2⟩
  · have e0 : m.err mem inp = if mem < (m.data.length : Int) ∨ 262144 < mem ∨ 4096 < inp.length then 1 else 0 := if_neg (by rw [← h1, ← h2, ← h6]; exact c1)
    by_cases c2 : mem < (nd : Int) ∨ 262144 < mem ∨ 4096 < ni
    · have e : m.err mem inp = 1 := by rw [e0, if_pos (by rw [← h2, ← h3]; exact c2)]
      refine (new_bad w xc xd xi nc cc nd cd ni ci entry mem 1 (by omega) (by omega) (by omega) (.inr ⟨c1, c2, rfl⟩)).mono fun e' w' q => .inr ⟨by rw [e]; decide, by rw [e]; exact q.1, q.2⟩
    · have e : m.err mem inp = 0 := by rw [e0, if_neg (by rw [← h2, ← h3]; exact c2)]
      have hi2 : BytesR (fun b => R b ∨ R' b) w (.slice xi ni ci) inp := by
        obtain ⟨x, c, e1, e2, e3, e4⟩ := hi
        exact ⟨x, c, e1, e2, e3, fun hne => by obtain ⟨b, o, q1, q2, q3⟩ := e4 hne; exact ⟨b, o, q1, .inr q2, q3⟩⟩
      have hw : ∀ v l, WordsR R w v l → WordsR (fun b => R b ∨ R' b) w v l := fun v l hh => by
        obtain ⟨x, c, e1, e2, e3, e4⟩ := hh
        exact ⟨x, c, e1, e2, e3, fun hne => by obtain ⟨b, o, q1, q2, q3⟩ := e4 hne; exact ⟨b, o, q1, .inl q2, q3⟩⟩
      refine (new_okB w (fun b => R b ∨ R' b) xc xd nc cc nd cd entry mem (.slice xi ni ci) m.code m.data inp (hw _ _ h.code) (hw _ _ h.data) hi2 (fun b hb => hb.elim (h.hr b) (hr b)) h.ci (by omega) (by omega) (by omega) (by omega) (by omega) (by omega) (by omega) (by omega)).mono ?_
      rintro e' w' ⟨p, R2, L, q1, q2, q3, q4⟩
      exact .inl ⟨e, p, R2, L, q1, by unfold Img.ms; rw [← h6]; exact q2, q3, q4⟩

theorem MAtL.all_lt {B : Nat} {R : Nat → Prop} {w : World} {p : Nat} {L : Lc} {s : Ms} (h : MAtL B R w p L s) : ∀ x, (R x ∨ Ft p L x) → x < w.heap.size := by
  rintro x (e | e | e | e)
  · exact (h.ro x e).1
  · rw [e]; exact h.mc.lt
  · rw [e]; exact h.mem.lt
  · exact (h.own.lt x e).2
theorem MAtL.ft_ge {B : Nat} {R : Nat → Prop} {w : World} {p : Nat} {L : Lc} {s : Ms} (h : MAtL B R w p L s) : ∀ x, Ft p L x → B ≤ x := by
  rintro x (e | e | e)
  · rw [e]; exact h.bp
  · rw [e]; exact h.bb
  · exact (h.own.lt x e).1
theorem two_step {Ba Bb : Nat} {Ra Rb : Nat → Prop} {w w' : World} {pa pb : Nat} {La Lb La' : Lc} {sa sb : Ms} (ha : MAtL Ba Ra w pa La sa) (hb : MAtL Bb Rb w pb Lb sb)
    (d1 : ∀ x, (Ra x ∨ Ft pa La x) → ¬ Ft pb Lb x) (d2 : ∀ x, (Rb x ∨ Ft pb Lb x) → ¬ Ft pa La x) (k : Kp (Ft pa La) w w') (hbm : La'.bm = La.bm) (hvo : ∀ g, La'.vo.ownBlock = some g → La.vo.ownBlock = some g ∨ w.heap.size ≤ g) :
    MAtL Bb Rb w' pb Lb sb ∧ (∀ x, (Ra x ∨ Ft pa La' x) → ¬ Ft pb Lb x) ∧ (∀ x, (Rb x ∨ Ft pb Lb x) → ¬ Ft pa La' x) := by
  have hf : ∀ x, Ft pa La' x → Ft pa La x ∨ w.heap.size ≤ x := by
    rintro x (e | e | e)
    · exact .inl (.inl e)
    · exact .inl (.inr (.inl (by rw [← hbm]; exact e)))
    · rcases hvo x e with e | e
      · exact .inl (.inr (.inr e))
      · exact .inr e
  refine ⟨hb.kpo k d2, ?_, ?_⟩
  · rintro x (e | e) hx
    · exact d1 x (.inl e) hx
    · rcases hf x e with e | e
      · exact d1 x (.inr e) hx
      · have := hb.all_lt x (.inr hx); omega
  · intro x hx e
    rcases hf x e with e | e
    · exact d2 x hx e
    · have := hb.all_lt x hx; omega
theorem runN_succ (s : Ms) (j : Nat) : s.runN (j + 1) = (s.runN j).step := runN_add s j 1
/-- an outcome, its parts laid open -/
def OcA (q : Oc) (w : World) (e : Ending) (w' : World) : Prop :=
  ∃ x c, e = .returned (.agg #[.int .i64 q.kind, .int .i64 q.panics, .slice x q.out.length c, .int .i64 q.steps]) ∧ BytesAt w' (.slice x q.out.length c) q.out ∧ Nw w w'
theorem OcP.a {q : Oc} {w : World} {e : Ending} {w' : World} (h : OcP q w e w') : OcA q w e w' := by
  obtain ⟨x, c, rfl, ho, hk⟩ := h
  exact ⟨x, c, rfl, own_bytesAt ho, hk⟩
theorem min_if (n : Int) : (if 500 < n then (500 : Int) else n) = min n 500 := by
  rw [Int.min_def]; split <;> split <;> omega
theorem max_if0 (n : Int) : (if 0 < n then n else 0) = max 0 n := by
  rw [Int.max_def]; split <;> split <;> omega

set_option maxRecDepth 100000 in
set_option maxHeartbeats 4000000 in
theorem machApart_walk {R Q R' : Nat → Prop} {W : World} {xc xd yc yd xi : Option Addr} {nc cc nd cd mc dc md dd ni ci : Nat} {entry jentry : Int} {m jm : Img} {inp : List UInt8} (h : ImgAt R W xc xd nc cc nd cd entry m) (g : ImgAt Q W yc yd mc dc md dd jentry jm) (hi : BytesR R' W (.slice xi ni ci) inp) (hr : ∀ b, R' b → b < W.heap.size) (hli : inp.length ≤ 9223372036854775807)
    (mem n : Int) (hn : I64 n) :
    Calls Try.prog 8 #[.agg #[.slice xc nc cc, .slice xd nd cd, .int .i64 entry], .agg #[.slice yc mc dc, .slice yd md dd, .int .i64 jentry], .int .i64 mem, .slice xi ni ci, .int .i64 n] W (BoolPost W true) := by
  have N0 := Lib.hid ((Nw.new W (.cells #[.slice xc nc cc, .slice xd nd cd, .int .i64 entry] 29)).alloc (.cells #[.slice yc mc dc, .slice yd md dd, .int .i64 jentry] 29))
  have IM0 := Lib.hid (h.nw N0.out)
  have JM0 := Lib.hid (g.nw N0.out)
  have BI := Lib.hid ((Blk.new W [.slice xc nc cc, .slice xd nd cd, .int .i64 entry] 29).alloc (.cells #[.slice yc mc dc, .slice yd md dd, .int .i64 jentry] 29))
  have BJ := Lib.hid (show Blk ((W.alloc (.cells #[.slice xc nc cc, .slice xd nd cd, .int .i64 entry] 29)).alloc (.cells #[.slice yc mc dc, .slice yd md dd, .int .i64 jentry] 29)) (W.heap.size + 1) [.slice yc mc dc, .slice yd md dd, .int .i64 jentry] 29 by
    have := Blk.new (W.alloc (.cells #[.slice xc nc cc, .slice xd nd cd, .int .i64 entry] 29)) [.slice yc mc dc, .slice yd md dd, .int .i64 jentry] 29
    rw [size_alloc] at this; exact this)
  have IN0 := Lib.hid (hi.kp N0.out (fun _ _ x => x))
  have HRI := Lib.hid (fun b (hb : R' b) => Nat.lt_of_lt_of_le (hr b hb) N0.out.size)
  have HLI := Lib.hid hli
  have HV := Lib.hid (fun (wz : World) => heavy_any wz xc xd xi nc cc nd cd ni ci entry mem n (by rw [h.code.len]; exact h.lc) (by rw [h.data.len]; exact h.ld) (by rw [hi.len]; exact hli))
  have HJ := Lib.hid (fun (wz : World) => heavy_any wz yc yd xi mc dc md dd ni ci jentry mem n (by rw [g.code.len]; exact g.lc) (by rw [g.data.len]; exact g.ld) (by rw [hi.len]; exact hli))
  have AW := Lib.hid awake_any
  have HN := Lib.hid hn
  clear h g hi hr hli hn
  go_enter Try.func8, Try.ntmps8
  go_upto_region 1 with fail
  generalize (W.alloc (.cells #[.slice xc nc cc, .slice xd nd cd, .int .i64 entry] 29)).alloc (.cells #[.slice yc mc dc, .slice yd md dd, .int .i64 jentry] 29) = w0 at *
  generalize W.heap.size + 1 = bj at *
  generalize W.heap.size = bi at *
  have i0 := BI.out.cell 0
  have i1 := BI.out.cell 1
  have i2 := BI.out.cell 2
  simp only [List.getElem?_cons_zero, List.getElem?_cons_succ] at i0 i1 i2
  have l0 := BJ.out.cell 0
  have l1 := BJ.out.cell 1
  have l2 := BJ.out.cell 2
  simp only [List.getElem?_cons_zero, List.getElem?_cons_succ] at l0 l1 l2
  go_wp2_with fail
  refine (HV.out _).mono ?_
  rintro e1 w1 ⟨rfl, k1⟩
  have K1 := Lib.hid k1
  have BI1 := Lib.hid (BI.out.nw k1)
  have BJ1 := Lib.hid (BJ.out.nw k1)
  clear k1 HV i0 i1 i2 l0 l1 l2 BI BJ
  have i0 := BI1.out.cell 0
  have i1 := BI1.out.cell 1
  have i2 := BI1.out.cell 2
  simp only [List.getElem?_cons_zero, List.getElem?_cons_succ] at i0 i1 i2
  have l0 := BJ1.out.cell 0
  have l1 := BJ1.out.cell 1
  have l2 := BJ1.out.cell 2
  simp only [List.getElem?_cons_zero, List.getElem?_cons_succ] at l0 l1 l2
  by_cases hv : heavyB nc nd ni mem n = true
  · rw [hv]
    go_wp2_with fail
    refine (AW.out _).mono ?_
    rintro ea wa ⟨rfl, ka⟩
    go_wp2_with fail
    go_returns
    exact ⟨rfl, N0.out.trans (K1.out.trans ka)⟩
  have hv : heavyB nc nd ni mem n = false := by simpa using hv
  have hn3 : n ≤ 3000 := by
    have := of_decide_eq_false hv
    omega
  rw [hv]
  clear hv
  go_wp2_with fail
  refine (HJ.out _).mono ?_
  rintro e1 w1' ⟨rfl, k1⟩
  have K1' := Lib.hid (K1.out.trans k1)
  have BI2 := Lib.hid (BI1.out.nw k1)
  have BJ2 := Lib.hid (BJ1.out.nw k1)
  clear k1 HJ i0 i1 i2 l0 l1 l2 BI1 BJ1 K1
  have i0 := BI2.out.cell 0
  have i1 := BI2.out.cell 1
  have i2 := BI2.out.cell 2
  simp only [List.getElem?_cons_zero, List.getElem?_cons_succ] at i0 i1 i2
  have l0 := BJ2.out.cell 0
  have l1 := BJ2.out.cell 1
  have l2 := BJ2.out.cell 2
  simp only [List.getElem?_cons_zero, List.getElem?_cons_succ] at l0 l1 l2
  by_cases hv : heavyB mc md ni mem n = true
  · rw [hv]
    go_wp2_with fail
    refine (AW.out _).mono ?_
    rintro ea wa ⟨rfl, ka⟩
    go_wp2_with fail
    go_returns
    exact ⟨rfl, N0.out.trans (K1'.out.trans ka)⟩
  have hv : heavyB mc md ni mem n = false := by simpa using hv
  rw [hv]
  clear hv
  have NA := Lib.hid (fun (wz : World) (k : Nw w0 wz) => new_anyB (IM0.out.nw k) (IN0.out.kp k (fun _ _ x => x)) (fun b hb => Nat.lt_of_lt_of_le (HRI.out b hb) k.size) HLI.out mem)
  have NB := Lib.hid (fun (wz : World) (k : Nw w0 wz) => new_anyB (JM0.out.nw k) (IN0.out.kp k (fun _ _ x => x)) (fun b hb => Nat.lt_of_lt_of_le (HRI.out b hb) k.size) HLI.out mem)
  go_wp2_with fail
  refine (NA.out _ K1'.out).mono ?_
  rintro e2 w2 (⟨hea, pa, Ra, La, rfl, hma, hka, hra⟩ | ⟨hea, rfl, hka⟩)
  rotate_left
  · have K2 := Lib.hid (K1'.out.trans hka)
    have l0 := hka.keeps l0
    have l1 := hka.keeps l1
    have l2 := hka.keeps l2
    clear hka NA
    generalize m.err mem inp = er at *
    obtain ⟨ne1, ne2, ne3, ne4⟩ := int_ne hea
    have NBV := Lib.hid ((NB.out _ K2.out).mono (R' := fun e w' => ∃ pv eb, e = .returned (.tuple #[pv, .int .i64 eb]) ∧ Nw w2 w') (by
      rintro e w' (⟨_, p, _, _, rfl, _, hk, _⟩ | ⟨_, rfl, hk⟩)
      · exact ⟨_, _, rfl, hk⟩
      · exact ⟨_, _, rfl, hk⟩))
    clear NB
    go_wp2_with fail
    refine NBV.out.mono ?_
    rintro e3 w3 ⟨pv, eb, rfl, hk⟩
    have K3 := Lib.hid (K2.out.trans hk)
    clear hk
    go_wp2_with fail
    refine (num_any _ _).mono ?_
    rintro e4 w4 ⟨rfl, rfl⟩
    go_wp2_with fail
    refine (AW.out _).mono ?_
    rintro ea wa ⟨rfl, ka⟩
    go_wp2_with fail
    go_returns
    exact ⟨rfl, N0.out.trans (K3.out.trans ka)⟩
  have K2 := Lib.hid (K1'.out.trans hka)
  have KA := Lib.hid hka
  have MA := Lib.hid hma
  have HRA := Lib.hid hra
  have l0 := hka.keeps l0
  have l1 := hka.keeps l1
  have l2 := hka.keeps l2
  clear hka hma hra NA
  have NB2 := Lib.hid (NB.out _ K2.out)
  clear NB
  go_wp2_with fail
  refine NB2.out.mono ?_
  rintro e3 w3 (⟨heb, pb, Rb, Lb, rfl, hmb, hkb, hrb⟩ | ⟨heb, rfl, hkb⟩)
  rotate_left
  · have K3 := Lib.hid (K2.out.trans hkb)
    clear hkb NB2
    generalize jm.err mem inp = er at *
    obtain ⟨ne1, ne2, ne3, ne4⟩ := int_ne heb
    go_wp2_with fail
    refine (num_any _ _).mono ?_
    rintro e4 w4 ⟨rfl, rfl⟩
    go_wp2_with fail
    refine (num_any _ _).mono ?_
    rintro e5 w5 ⟨rfl, rfl⟩
    go_wp2_with fail
    refine (AW.out _).mono ?_
    rintro ea wa ⟨rfl, ka⟩
    go_wp2_with fail
    go_returns
    exact ⟨rfl, N0.out.trans (K3.out.trans ka)⟩
  have Z3 := Lib.hid (KA.out.trans hkb)
  have MA3 := Lib.hid (MA.out.nw hkb)
  have MB3 := Lib.hid hmb
  have S2 := Lib.hid KA.out.size
  have D1 := Lib.hid (show ∀ x, (Ra x ∨ Ft pa La x) → ¬ Ft pb Lb x from fun x hx e => by
    have := MA.out.all_lt x hx
    have := hmb.ft_ge x e
    omega)
  have D2 := Lib.hid (show ∀ x, (Rb x ∨ Ft pb Lb x) → ¬ Ft pa La x from fun x hx e => by
    have := MA.out.all_lt x (.inr e)
    have h2 : w2.heap.size ≤ x := hx.elim (hrb x) (hmb.ft_ge x)
    omega)
  clear hmb hkb hrb NB2 K2 i0 i1 i2 l0 l1 l2 MA
  obtain ⟨sa, hsa⟩ : ∃ sa, sa = m.ms mem inp := ⟨_, rfl⟩
  obtain ⟨sb, hsb⟩ : ∃ sb, sb = jm.ms mem inp := ⟨_, rfl⟩
  rw [← hsa] at MA3
  rw [← hsb] at MB3
  obtain ⟨kx, hkx⟩ : ∃ kx : Int, kx = max 0 (min n 500) := ⟨_, rfl⟩
  have hm1 := min_if n
  obtain ⟨mn, hmn⟩ : ∃ mn, mn = min n 500 := ⟨_, rfl⟩
  have hm2 := max_if0 mn
  rw [← hmn] at hm1 hkx
  rw [← hkx] at hm2
  have hkk : 0 ≤ kx ∧ kx ≤ 500 := by omega
  have HKX := Lib.hid (show kx = max 0 (min n 500) by rw [hkx, hmn])
  have LA := Lib.hid (show m.run mem inp kx = (sa.runN kx.toNat).oc by rw [run_ok hea _ (by omega), hsa])
  have LB := Lib.hid (show jm.run mem inp kx = (sb.runN kx.toNat).oc by rw [run_ok heb _ (by omega), hsb])
  have HKK := Lib.hid hkk
  clear hea heb hsa hsb hkx hmn hkk
  go_wp2_with fail
  refine (num_any _ _).mono ?_
  rintro e4 w4 ⟨rfl, rfl⟩
  go_wp2_with fail
  refine (num_any _ _).mono ?_
  rintro e5 w5 ⟨rfl, rfl⟩
  go_upto_region 8 with fail
  go_loopw [15] (fun i wr => ∃ (j : Nat) (Lx Ly : Lc), i = .int .i64 (j : Int) ∧ j ≤ kx.toNat ∧ MAtL w1'.heap.size Ra wr pa Lx (sa.runN j) ∧ MAtL w2.heap.size Rb wr pb Ly (sb.runN j) ∧ (∀ x, (Ra x ∨ Ft pa Lx x) → ¬ Ft pb Ly x) ∧ (∀ x, (Rb x ∨ Ft pb Ly x) → ¬ Ft pa Lx x) ∧ Nw w1' wr) (fun i _ => kx.toNat - (intOf i).toNat)
  case atStart => exact ⟨0, La, Lb, rfl, Nat.zero_le _, MA3.out, MB3.out, D1.out, D2.out, Z3.out⟩
  case round =>
    obtain ⟨j, Lx, Ly, rfl, hj, hma, hmb, hd1, hd2, hz⟩ := hrel
    have MX := Lib.hid hma
    have MY := Lib.hid hmb
    have E1 := Lib.hid hd1
    have E2 := Lib.hid hd2
    have ZR := Lib.hid hz
    clear hma hmb hd1 hd2 hz
    have hj5 : (j : Int) ≤ 500 := by have := HKK.out; omega
    by_cases hjk : j < kx.toNat
    · have hq0 : (j : Int) < n := by have := HKX.out; omega
      have hq1 : (j : Int) < 500 := by have := HKX.out; omega
      have SA := Lib.hid (step_any MX.out)
      go_wp2_with fail
      refine SA.out.mono ?_
      rintro e6 w6 ⟨rfl, Lx2, m6, k6, b6, v6⟩
      obtain ⟨mb6, d61, d62⟩ := two_step MX.out MY.out E1.out E2.out k6 b6 v6
      have M6 := Lib.hid m6
      have MB6 := Lib.hid mb6
      have D61 := Lib.hid d61
      have D62 := Lib.hid d62
      have Z6 := Lib.hid (show Nw w1' w6 from Kp.trans ZR.out k6 (fun x hx e => by have := MX.out.ft_ge x e; omega))
      have SB := Lib.hid (step_any MB6.out)
      clear m6 k6 b6 v6 mb6 d61 d62 SA MX MY E1 E2 ZR
      go_wp2_with fail
      refine SB.out.mono ?_
      rintro e7 w7 ⟨rfl, Ly2, m7, k7, b7, v7⟩
      obtain ⟨ma7, d71, d72⟩ := two_step MB6.out M6.out D62.out D61.out k7 b7 v7
      have M7 := Lib.hid ma7
      have MB7 := Lib.hid m7
      have D71 := Lib.hid d71
      have D72 := Lib.hid d72
      have Z7 := Lib.hid (show Nw w1' w7 from Kp.trans Z6.out k7 (fun x hx e => by have := MB6.out.ft_ge x e; have := S2.out; omega))
      clear m7 k7 b7 v7 ma7 d71 d72 SB M6 MB6 D61 D62 Z6
      go_wp2_with fail
      go_roundw
      case rel => exact ⟨j + 1, Lx2, Ly2, by go_num, by omega, by rw [runN_succ]; exact M7.out, by rw [runN_succ]; exact MB7.out, D72.out, D71.out, Z7.out⟩
      case measure => simp [intOf]; omega
    · have hjx : j = kx.toNat := by omega
      rw [hjx] at MX MY
      have BI9 := Lib.hid (BI2.out.nw ZR.out)
      have BJ9 := Lib.hid (BJ2.out.nw ZR.out)
      have i0 := BI9.out.cell 0
      have i1 := BI9.out.cell 1
      have i2 := BI9.out.cell 2
      simp only [List.getElem?_cons_zero, List.getElem?_cons_succ] at i0 i1 i2
      have l0 := BJ9.out.cell 0
      have l1 := BJ9.out.cell 1
      have l2 := BJ9.out.cell 2
      simp only [List.getElem?_cons_zero, List.getElem?_cons_succ] at l0 l1 l2
      have CA := Lib.hid (fun (wz : World) (k : Nw wr wz) => (outcome_oc (MX.out.nw k)).mono fun _ _ q => OcP.a q)
      have CB := Lib.hid (fun (wz : World) (k : Nw wr wz) => (outcome_oc (MY.out.nw k)).mono fun _ _ q => OcP.a q)
      have RA := Lib.hid (fun (wz : World) (k : Nw wr wz) => (fnrun_any (IM0.out.nw (K1'.out.trans (ZR.out.trans k))) (IN0.out.kp (K1'.out.trans (ZR.out.trans k)) (fun _ _ x => x)) (fun b hb => Nat.lt_of_lt_of_le (HRI.out b hb) (K1'.out.trans (ZR.out.trans k)).size) HLI.out mem kx (by have := HKK.out; omega)).mono fun _ _ q => OcP.a q)
      have RB := Lib.hid (fun (wz : World) (k : Nw wr wz) => (fnrun_any (JM0.out.nw (K1'.out.trans (ZR.out.trans k))) (IN0.out.kp (K1'.out.trans (ZR.out.trans k)) (fun _ _ x => x)) (fun b hb => Nat.lt_of_lt_of_le (HRI.out b hb) (K1'.out.trans (ZR.out.trans k)).size) HLI.out mem kx (by have := HKK.out; omega)).mono fun _ _ q => OcP.a q)
      rw [LA.out] at RA
      rw [LB.out] at RB
      have FC := Lib.hid (fun (wz : World) (hz : Nw wr wz) => (⟨hz.keeps i0, hz.keeps i1, hz.keeps i2, hz.keeps l0, hz.keeps l1, hz.keeps l2⟩ : _ ∧ _ ∧ _ ∧ _ ∧ _ ∧ _))
      have FIN := Lib.hid (fun (wz : World) (k : Nw wr wz) => (show BoolPost W true (.returned (.bool true)) wz from ⟨rfl, N0.out.trans (K1'.out.trans (ZR.out.trans k))⟩))
      have HJX := Lib.hid hjx
      clear MX MY E1 E2 ZR LA LB MA3 MB3 D1 D2 Z3 hj hjk hjx hj5 BI9 BJ9 hm1 hm2 hn3
      generalize (sa.runN kx.toNat).oc = oa at *
      generalize (sb.runN kx.toNat).oc = ob at *
      by_cases h5 : 500 < n
      · obtain rfl : kx = 500 := by have := HKX.out; omega
        have hq0 : (j : Int) < n := by have := HJX.out; omega
        have hq1 : ¬ (j : Int) < 500 := by have := HJX.out; omega
        go_wp2_with fail
        go_region_held3 (fun wz => wz.cell? ⟨bi, 0, none⟩ = some (.slice xc nc cc) ∧ wz.cell? ⟨bi, 1, none⟩ = some (.slice xd nd cd) ∧ wz.cell? ⟨bi, 2, none⟩ = some (.int .i64 entry) ∧ wz.cell? ⟨bj, 0, none⟩ = some (.slice yc mc dc) ∧ wz.cell? ⟨bj, 1, none⟩ = some (.slice yd md dd) ∧ wz.cell? ⟨bj, 2, none⟩ = some (.int .i64 jentry))
          (first | with_reducible exact FC.out _ (Nw.refl _).drew | with_reducible exact FC.out _ kk)
          (first
            | (go_at_call 19; (with_reducible refine (RA.out _ (by first | assumption | exact (Nw.refl _).drew)).mono ?_); rintro ea wa ⟨x1, c1, rfl, hoa, ks1⟩; have kk : Nw wr wa := Nw.trans (by first | assumption | exact (Nw.refl _).drew) ks1; have O1 := Lib.hid hoa; clear hoa)
            | (go_at_call 19; (with_reducible refine (RB.out _ (by first | assumption | exact (Nw.refl _).drew)).mono ?_); rintro ea wb ⟨x2, c2, rfl, hob, ks2⟩; have kk : Nw wr wb := Nw.trans (by first | assumption | exact (Nw.refl _).drew) ks2; have O2 := Lib.hid hob; clear hob)
            | (go_at_call 22; (with_reducible refine (CA.out _ (by first | assumption | exact (Nw.refl _).drew)).mono ?_); rintro ec wc ⟨x3, c3, rfl, hoc, ks3⟩; have kk : Nw wr wc := Nw.trans (by first | assumption | exact (Nw.refl _).drew) ks3; have O3 := Lib.hid hoc; clear hoc)
            | (go_at_call 22; (with_reducible refine (CB.out _ (by first | assumption | exact (Nw.refl _).drew)).mono ?_); rintro ed wd ⟨x4, c4, rfl, hod, ks4⟩; have kk : Nw wr wd := Nw.trans (by first | assumption | exact (Nw.refl _).drew) ks4; have O4 := Lib.hid hod; clear hod)
            | (go_at_call 20; (with_reducible refine (same_agg _ oa x3 x1 c3 c1 (by first | exact O3.out | exact bytesAt_nw O3.out (by assumption) | exact bytesAt_nw (bytesAt_nw O3.out (by assumption)) (by assumption)) (by first | exact O1.out | exact bytesAt_nw O1.out (by assumption) | exact bytesAt_nw (bytesAt_nw O1.out (by assumption)) (by assumption))).mono ?_); rintro ee we ⟨rfl, ks5⟩; have kk : Nw wr we := Nw.trans (by first | assumption | exact (Nw.refl _).drew) ks5)
            | (go_at_call 20; (with_reducible refine (same_agg _ ob x4 x2 c4 c2 (by first | exact O4.out | exact bytesAt_nw O4.out (by assumption) | exact bytesAt_nw (bytesAt_nw O4.out (by assumption)) (by assumption)) (by first | exact O2.out | exact bytesAt_nw O2.out (by assumption) | exact bytesAt_nw (bytesAt_nw O2.out (by assumption)) (by assumption))).mono ?_); rintro ef wf ⟨rfl, ks6⟩; have kk : Nw wr wf := Nw.trans (by first | assumption | exact (Nw.refl _).drew) ks6)
            | (go_at_call 18; (with_reducible refine (AW.out _).mono ?_); rintro eg wg ⟨rfl, ks7⟩; have kk : Nw wr wg := Nw.trans (by first | assumption | exact (Nw.refl _).drew) ks7))
        all_goals
          go_wp2_with fail
          go_returns
          exact FIN.out _ kk
      by_cases h6 : 0 < n
      · obtain rfl : kx = n := by have := HKX.out; omega
        have hq0 : ¬ (j : Int) < kx := by have := HJX.out; omega
        go_wp2_with fail
        go_region_held3 (fun wz => wz.cell? ⟨bi, 0, none⟩ = some (.slice xc nc cc) ∧ wz.cell? ⟨bi, 1, none⟩ = some (.slice xd nd cd) ∧ wz.cell? ⟨bi, 2, none⟩ = some (.int .i64 entry) ∧ wz.cell? ⟨bj, 0, none⟩ = some (.slice yc mc dc) ∧ wz.cell? ⟨bj, 1, none⟩ = some (.slice yd md dd) ∧ wz.cell? ⟨bj, 2, none⟩ = some (.int .i64 jentry))
          (first | with_reducible exact FC.out _ (Nw.refl _).drew | with_reducible exact FC.out _ kk)
          (first
            | (go_at_call 19; (with_reducible refine (RA.out _ (by first | assumption | exact (Nw.refl _).drew)).mono ?_); rintro ea wa ⟨x1, c1, rfl, hoa, ks1⟩; have kk : Nw wr wa := Nw.trans (by first | assumption | exact (Nw.refl _).drew) ks1; have O1 := Lib.hid hoa; clear hoa)
            | (go_at_call 19; (with_reducible refine (RB.out _ (by first | assumption | exact (Nw.refl _).drew)).mono ?_); rintro ea wb ⟨x2, c2, rfl, hob, ks2⟩; have kk : Nw wr wb := Nw.trans (by first | assumption | exact (Nw.refl _).drew) ks2; have O2 := Lib.hid hob; clear hob)
            | (go_at_call 22; (with_reducible refine (CA.out _ (by first | assumption | exact (Nw.refl _).drew)).mono ?_); rintro ec wc ⟨x3, c3, rfl, hoc, ks3⟩; have kk : Nw wr wc := Nw.trans (by first | assumption | exact (Nw.refl _).drew) ks3; have O3 := Lib.hid hoc; clear hoc)
            | (go_at_call 22; (with_reducible refine (CB.out _ (by first | assumption | exact (Nw.refl _).drew)).mono ?_); rintro ed wd ⟨x4, c4, rfl, hod, ks4⟩; have kk : Nw wr wd := Nw.trans (by first | assumption | exact (Nw.refl _).drew) ks4; have O4 := Lib.hid hod; clear hod)
            | (go_at_call 20; (with_reducible refine (same_agg _ oa x3 x1 c3 c1 (by first | exact O3.out | exact bytesAt_nw O3.out (by assumption) | exact bytesAt_nw (bytesAt_nw O3.out (by assumption)) (by assumption)) (by first | exact O1.out | exact bytesAt_nw O1.out (by assumption) | exact bytesAt_nw (bytesAt_nw O1.out (by assumption)) (by assumption))).mono ?_); rintro ee we ⟨rfl, ks5⟩; have kk : Nw wr we := Nw.trans (by first | assumption | exact (Nw.refl _).drew) ks5)
            | (go_at_call 20; (with_reducible refine (same_agg _ ob x4 x2 c4 c2 (by first | exact O4.out | exact bytesAt_nw O4.out (by assumption) | exact bytesAt_nw (bytesAt_nw O4.out (by assumption)) (by assumption)) (by first | exact O2.out | exact bytesAt_nw O2.out (by assumption) | exact bytesAt_nw (bytesAt_nw O2.out (by assumption)) (by assumption))).mono ?_); rintro ef wf ⟨rfl, ks6⟩; have kk : Nw wr wf := Nw.trans (by first | assumption | exact (Nw.refl _).drew) ks6)
            | (go_at_call 18; (with_reducible refine (AW.out _).mono ?_); rintro eg wg ⟨rfl, ks7⟩; have kk : Nw wr wg := Nw.trans (by first | assumption | exact (Nw.refl _).drew) ks7))
        all_goals
          go_wp2_with fail
          go_returns
          exact FIN.out _ kk
      · obtain rfl : kx = 0 := by have := HKX.out; omega
        have hq0 : ¬ (j : Int) < n := by have := HJX.out; omega
        go_wp2_with fail
        go_region_held3 (fun wz => wz.cell? ⟨bi, 0, none⟩ = some (.slice xc nc cc) ∧ wz.cell? ⟨bi, 1, none⟩ = some (.slice xd nd cd) ∧ wz.cell? ⟨bi, 2, none⟩ = some (.int .i64 entry) ∧ wz.cell? ⟨bj, 0, none⟩ = some (.slice yc mc dc) ∧ wz.cell? ⟨bj, 1, none⟩ = some (.slice yd md dd) ∧ wz.cell? ⟨bj, 2, none⟩ = some (.int .i64 jentry))
          (first | with_reducible exact FC.out _ (Nw.refl _).drew | with_reducible exact FC.out _ kk)
          (first
            | (go_at_call 19; (with_reducible refine (RA.out _ (by first | assumption | exact (Nw.refl _).drew)).mono ?_); rintro ea wa ⟨x1, c1, rfl, hoa, ks1⟩; have kk : Nw wr wa := Nw.trans (by first | assumption | exact (Nw.refl _).drew) ks1; have O1 := Lib.hid hoa; clear hoa)
            | (go_at_call 19; (with_reducible refine (RB.out _ (by first | assumption | exact (Nw.refl _).drew)).mono ?_); rintro ea wb ⟨x2, c2, rfl, hob, ks2⟩; have kk : Nw wr wb := Nw.trans (by first | assumption | exact (Nw.refl _).drew) ks2; have O2 := Lib.hid hob; clear hob)
            | (go_at_call 22; (with_reducible refine (CA.out _ (by first | assumption | exact (Nw.refl _).drew)).mono ?_); rintro ec wc ⟨x3, c3, rfl, hoc, ks3⟩; have kk : Nw wr wc := Nw.trans (by first | assumption | exact (Nw.refl _).drew) ks3; have O3 := Lib.hid hoc; clear hoc)
            | (go_at_call 22; (with_reducible refine (CB.out _ (by first | assumption | exact (Nw.refl _).drew)).mono ?_); rintro ed wd ⟨x4, c4, rfl, hod, ks4⟩; have kk : Nw wr wd := Nw.trans (by first | assumption | exact (Nw.refl _).drew) ks4; have O4 := Lib.hid hod; clear hod)
            | (go_at_call 20; (with_reducible refine (same_agg _ oa x3 x1 c3 c1 (by first | exact O3.out | exact bytesAt_nw O3.out (by assumption) | exact bytesAt_nw (bytesAt_nw O3.out (by assumption)) (by assumption)) (by first | exact O1.out | exact bytesAt_nw O1.out (by assumption) | exact bytesAt_nw (bytesAt_nw O1.out (by assumption)) (by assumption))).mono ?_); rintro ee we ⟨rfl, ks5⟩; have kk : Nw wr we := Nw.trans (by first | assumption | exact (Nw.refl _).drew) ks5)
            | (go_at_call 20; (with_reducible refine (same_agg _ ob x4 x2 c4 c2 (by first | exact O4.out | exact bytesAt_nw O4.out (by assumption) | exact bytesAt_nw (bytesAt_nw O4.out (by assumption)) (by assumption)) (by first | exact O2.out | exact bytesAt_nw O2.out (by assumption) | exact bytesAt_nw (bytesAt_nw O2.out (by assumption)) (by assumption))).mono ?_); rintro ef wf ⟨rfl, ks6⟩; have kk : Nw wr wf := Nw.trans (by first | assumption | exact (Nw.refl _).drew) ks6)
            | (go_at_call 18; (with_reducible refine (AW.out _).mono ?_); rintro eg wg ⟨rfl, ks7⟩; have kk : Nw wr wg := Nw.trans (by first | assumption | exact (Nw.refl _).drew) ks7))
        all_goals
          go_wp2_with fail
          go_returns
          exact FIN.out _ kk
end Go.Proofs.Ythlcoocboidnlaa
