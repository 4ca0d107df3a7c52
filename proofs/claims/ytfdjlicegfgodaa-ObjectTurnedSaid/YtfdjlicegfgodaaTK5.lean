/- Reading an object's bytes: the object. -/
import Derived.Test.YtfdjlicegfgodaaTK4
import Derived.Deep.RegionLaw
import Derived.Deep.AppendLies
namespace Go.Proofs.Ytfdjlicegfgodaa
open Go.RowKit
set_option linter.unusedSimpArgs false
set_option linter.unusedVariables false

theorem Kp.qnew {q bo : Nat} {a b c : World} (h : Kp (fun x => x = q) a b) (k : Kp (fun x => x = q ∨ x = bo) b c) (hb : a.heap.size ≤ bo) : Kp (fun x => x = q) a c :=
  Kp.trans h k (fun x hx e => e.elim id (fun e => by omega))
theorem RdAt.setNew {B : Nat} {W w : World} {q : Nat} {r : List UInt8} {k : Int} (h : RdAt B W w q r k) {m : Nat} (hm : B ≤ m) (hq : q ≠ m) (i : Nat) (v : Value) : RdAt B W (w.setCell ⟨m, i, none⟩ v) q r k :=
  h.kp ((Kp.refl (fun b => b = m) w).setCell (p := ⟨m, i, none⟩) (fun _ => rfl) v) (fun b hb e => by omega) hq
theorem Kp.setNew {S : Nat → Prop} {a w : World} (h : Kp S a w) {m : Nat} (hm : a.heap.size ≤ m) (i : Nat) (v : Value) : Kp S a (w.setCell ⟨m, i, none⟩ v) :=
  h.setCell (p := ⟨m, i, none⟩) (fun hlt => absurd hlt (Nat.not_lt.2 hm)) v
/-- a list that has been read, in new blocks other than bo -/
def SlN {α : Type} (z bo : Nat) (w : World) (n : Nat) (E : α → List Value → Prop) (l : List α) (v : Value) : Prop := SlT (fun b => z < b ∧ b < w.heap.size ∧ b ≠ bo) w n E l v
theorem SlN.kp {α : Type} {z bo q n : Nat} {w w' : World} {E : α → List Value → Prop} {l : List α} {v : Value} (h : SlN z bo w n E l v) (hq : q < z) (k : Kp (fun b => b = q ∨ b = bo) w w') : SlN z bo w' n E l v :=
  SlT.mono h (fun b hb => ⟨hb.1, Nat.lt_of_lt_of_le hb.2.1 k.size, hb.2.2⟩) (fun b hb => k.block b hb.2.1 (by rintro (e | e); omega; exact hb.2.2 e)) (fun _ _ _ h => h)
theorem SlN.of {α : Type} {z bo n : Nat} {w1 w : World} {E : α → List Value → Prop} {l : List α} {v : Value} (h : SlT (fun b => w1.heap.size ≤ b ∧ b < w.heap.size) w n E l v) (hz : z < w1.heap.size) (hb : bo < w1.heap.size) : SlN z bo w n E l v :=
  SlT.mono h (fun b hb2 => ⟨by omega, hb2.2, by omega⟩) (fun _ _ => rfl) (fun _ _ _ h => h)
theorem SlN.fin {α : Type} {z bo n : Nat} {w : World} {E : α → List Value → Prop} {l : List α} {v : Value} (h : SlN z bo w n E l v) : SlT (fun b => z < b ∧ b < w.heap.size) w n E l v :=
  SlT.mono h (fun b hb => ⟨hb.1, hb.2.1⟩) (fun _ _ => rfl) (fun _ _ _ h => h)
theorem kpq {q bo : Nat} {w w' : World} (h : Kp (fun b => b = q) w w') : Kp (fun b => b = q ∨ b = bo) w w' := h.mono (fun _ _ e => .inl e)

set_option maxRecDepth 100000 in
set_option maxHeartbeats 4000000 in
theorem tobject {B : Nat} {W : World} {q : Nat} {k : Int} (w : World) (r : List UInt8) (h : RdAt B W w q r k) :
    Calls Try.prog 47 #[.pointer (some ⟨q, 0, none⟩)] w (Rp B W q r k OkOb encO (VT ObT) w) := by
  have hq := Lib.hid h.lt
  have hB := Lib.hid h.2.1
  have hBw := Lib.hid h.1.le
  have FA := Lib.hid (fun (wz : World) (hno : No OkOb encO r) (hk : Kp (fun b => b = q) w wz) => (show Rp B W q r k OkOb encO (VT ObT) w PAN wz from .inr ⟨rfl, hno, hk⟩))
  have R0 := Lib.hid (h.alloc (.cells #[.string ⟨#[]⟩, .int .i64 0, .slice none 0 0, .slice none 0 0, .slice none 0 0, .slice none 0 0, .slice none 0 0] 27))
  have B0 := Lib.hid (Blk.new w [.string ⟨#[]⟩, .int .i64 0, .slice none 0 0, .slice none 0 0, .slice none 0 0, .slice none 0 0, .slice none 0 0] 27)
  have K0 := Lib.hid ((Kp.refl (fun b => b = q) w).alloc (.cells #[.string ⟨#[]⟩, .int .i64 0, .slice none 0 0, .slice none 0 0, .slice none 0 0, .slice none 0 0, .slice none 0 0] 27))
  have z0 : w.heap.size < (w.alloc (.cells #[.string ⟨#[]⟩, .int .i64 0, .slice none 0 0, .slice none 0 0, .slice none 0 0, .slice none 0 0, .slice none 0 0] 27)).heap.size := by simp
  clear h
  go_enter Try.func47, Try.ntmps47
  go_upto_region 1 with fail
  generalize w.alloc (.cells #[.string ⟨#[]⟩, .int .i64 0, .slice none 0 0, .slice none 0 0, .slice none 0 0, .slice none 0 0, .slice none 0 0] 27) = w0 at *
  generalize hzz : w.heap.size = z at *
  have ZZ := Lib.hid hzz
  clear hzz
  go_wp2_with fail
  refine (rtext R0.out).mono ?_
  rintro e1 w1 (⟨pk, r0, _, rfl, x0, h0, rfl, hrd, hk⟩ | ⟨rfl, hno, hk⟩)
  rotate_left
  · have FF := Lib.hid (FA.out _ (noOb0 hno) (K0.out.thn hk))
    clear hno hk
    unfold PAN
    go_wp2_with fail
    exact ⟨rfl, FF.out⟩
  have X0 := Lib.hid x0
  have H0 := Lib.hid h0
  have R1 := Lib.hid hrd
  have B1 := Lib.hid (B0.out.kp hk (fun e => by have := hq.out; omega))
  have K1 := Lib.hid (K0.out.thn hk)
  have z1 : z < w1.heap.size := Nat.lt_of_lt_of_le z0 hk.size
  clear x0 h0 hrd hk R0 B0 K0 z0
  go_wp2_with fail
  refine (rnum R1.out).mono ?_
  rintro e2 w2 (⟨hash, r1, _, rfl, x1, h1, rfl, hrd, hk⟩ | ⟨rfl, hno, hk⟩)
  rotate_left
  · have FF := Lib.hid (FA.out _ (noOb1 X0.out H0.out hno) (K1.out.thn hk))
    clear hno hk
    unfold PAN
    go_wp2_with fail
    exact ⟨rfl, FF.out⟩
  have X1 := Lib.hid x1
  have H1 := Lib.hid h1
  have z2 : z < w2.heap.size := Nat.lt_of_lt_of_le z1 hk.size
  have B2 := Lib.hid ((B1.out.kp hk (fun e => by have := hq.out; omega)).alloc (.cells #[.string pk, .int .i64 hash, .slice none 0 0, .slice none 0 0, .slice none 0 0, .slice none 0 0, .slice none 0 0] 27))
  have O2 := Lib.hid (Blk.new w2 [.string pk, .int .i64 hash, .slice none 0 0, .slice none 0 0, .slice none 0 0, .slice none 0 0, .slice none 0 0] 27)
  have K2 := Lib.hid ((K1.out.thn hk).alloc (.cells #[.string pk, .int .i64 hash, .slice none 0 0, .slice none 0 0, .slice none 0 0, .slice none 0 0, .slice none 0 0] 27))
  have R2 := Lib.hid (hrd.alloc (.cells #[.string pk, .int .i64 hash, .slice none 0 0, .slice none 0 0, .slice none 0 0, .slice none 0 0, .slice none 0 0] 27))
  have y2 : w2.heap.size < (w2.alloc (.cells #[.string pk, .int .i64 hash, .slice none 0 0, .slice none 0 0, .slice none 0 0, .slice none 0 0, .slice none 0 0] 27)).heap.size := by simp
  clear x1 h1 hrd hk R1 B1 K1 z1
  go_upto_region 2 with fail
  generalize w2.alloc (.cells #[.string pk, .int .i64 hash, .slice none 0 0, .slice none 0 0, .slice none 0 0, .slice none 0 0, .slice none 0 0] 27) = wa at *
  generalize w2.heap.size = bo at *
  have NQ := Lib.hid (show ¬ bo = q from fun e => by have := hq.out; omega)
  have ZB := Lib.hid (show w.heap.size ≤ bo by rw [ZZ.out]; exact Nat.le_of_lt z2)
  go_wp2_with fail
  refine (rcount R2.out).mono ?_
  rintro e3 w3 (⟨n, rd, rfl, hr, hn, hrd, hk⟩ | ⟨rfl, hno, hk⟩)
  rotate_left
  · have FF := Lib.hid (FA.out _ (noOb2 X0.out H0.out X1.out H1.out (hno.no (E := OkIm) pos_Im)) (K2.out.thn hk))
    clear hno hk
    unfold PAN
    go_wp2_with fail
    exact ⟨rfl, FF.out⟩
  have FL := Lib.hid (fun (wz : World) (hno : No (OkL OkIm) (encL encIm) r1) (hk : Kp (fun b => b = q) w wz) => FA.out wz (noOb2 X0.out H0.out X1.out H1.out hno) hk)
  have I0 := Lib.hid (Tq.start (B := B) (W := W) (q := q) (k := k) (bo := bo) (ok := OkIm) (enc := encIm) (nn := 2) (ty := 51) (E := ImAt) hn hr hrd)
  have K3 := Lib.hid (K2.out.thn hk)
  have B3 := Lib.hid (B2.out.kp hk (fun e => by have := hq.out; omega))
  have O3 := Lib.hid (O2.out.kp hk (fun e => by have := hq.out; omega))
  have y3 : bo < w3.heap.size := Nat.lt_of_lt_of_le y2 hk.size
  clear hr hn hrd hk R2 K2 B2 O2 y2
  go_wp2_with fail
  go_loopw [4] (fun i wr => ∃ (m0 : Nat) (v : Value), m0 ≤ n ∧ i = .int .i64 m0 ∧ Tq B W q k bo OkIm encIm 2 51 ImAt w3 n r1 v m0 wr ∧ Blk wr bo [.string pk, .int .i64 hash, v, .slice none 0 0, .slice none 0 0, .slice none 0 0, .slice none 0 0] 27) (fun i _ => (intOf i).toNat)
  case atStart => exact ⟨n, _, Nat.le_refl _, rfl, I0.out, O3.out⟩
  case round =>
    obtain ⟨m0, v, hm0, rfl, hI, hO⟩ := hrel
    clear I0 O3
    by_cases hlt : 0 < m0
    · obtain ⟨m1, rfl⟩ : ∃ m1, m0 = m1 + 1 := ⟨m0 - 1, by omega⟩
      obtain ⟨l, rc, xs, hl, hn, ⟨x, c, rfl⟩, hr, hx, hrd, hk, how, hrow⟩ := hI
      obtain ⟨ll, hll⟩ : ∃ ll, ll = l.length := ⟨_, rfl⟩
      have HL := Lib.hid hl
      have HN := Lib.hid hn
      have HR := Lib.hid hr
      have HX := Lib.hid hx
      have HK := Lib.hid hk
      have HOW := Lib.hid how
      have HROW := Lib.hid hrow
      have HRD := Lib.hid hrd
      have LL := Lib.hid hll
      rw [← hll] at hO
      have HO := Lib.hid hO
      have KR := Lib.hid (K3.out.qnew hk ZB.out)
      have yr : bo < wr.heap.size := Nat.lt_of_lt_of_le y3 hk.size
      have FE := Lib.hid (fun (wz : World) (hno : No OkIm encIm rc) (hk : Kp (fun b => b = q) wr wz) => FL.out wz (Tq.fails pi_OkIm hl hn hr hx hno) (KR.out.thn hk))
      clear hl hr hx hk how hrow hrd hll hO
      have hm1 : (m1 : Int) ≤ 262144 := by omega
      have hw0 : IntKind.i64.wrap ((m1 : Int) + 1 - 1) = m1 := by rw [IntWalk.i64_in _ (by omega)]; omega
      have hw1 : (0 : Int) < (m1 : Int) + 1 := by omega
      obtain ⟨i0, hi, hz0, hz1, hz2⟩ := info_parts info_Im
      go_wp2_with fail
      refine (rtext HRD.out).mono ?_
      rintro e4 w4 (⟨s, rc1, _, rfl, xs0, hs0, rfl, hrd4, hk4⟩ | ⟨rfl, hno, hk4⟩)
      rotate_left
      · have FF := Lib.hid (FE.out _ (noIm0 hno) hk4)
        clear hno hk4
        unfold PAN
        go_wp2_with fail
        exact ⟨rfl, FF.out⟩
      go_upto_region 6 with fail
      have XS := Lib.hid xs0
      have HS := Lib.hid hs0
      have R4 := Lib.hid (hrd4.nw (Nw.drew (Nw.refl w4)))
      have K4 := Lib.hid (show Kp (fun b => b = q) wr w4.drew from Kp.drew hk4)
      have HO4 := Lib.hid ((HO.out.kp hk4 NQ.out).drew)
      have d4 := HO4.out.cell 2
      simp only [List.getElem?_cons_zero, List.getElem?_cons_succ] at d4
      clear xs0 hs0 hrd4 hk4
      go_region_law (first
        | (refine step_app _ rfl (.tmp 24) (.tmp 29) 22 rfl w3.heap.size 51 i0 (.agg #[.string ⟨#[]⟩, .int .i64 0]) 2 24 Try.underlying22 hi hz0 hz1 hz2 rfl (by decide) _ _ _ rfl HO2.out ⟨w5.heap.size, 0, none⟩ 1 1 [.string s, .int .i64 hh] rfl rfl HN1.out HN2.out H63.out HBY.out HBS.out ?_; intro x' c' w9 ho hg hl'; obtain ⟨s0, s1, s2⟩ := ST.out x' c' w9 ho hg hl'; have S1 := Lib.hid s1; have S2 := Lib.hid s2; have y9 := s0.cell 2; have f9 := s0.frozen 2; simp only [List.getElem?_cons_zero, List.getElem?_cons_succ] at y9; clear ho hg hl' s0 s1 s2)
        | ((go_simp; go_at_call 46; refine (rnum R4.out).mono ?_; rintro e5 w5 (⟨hh, rc2, _, rfl, xs1, hs1, rfl, hrd5, hk5⟩ | ⟨rfl, hno, hk5⟩); rotate_left)
           · (have FF := Lib.hid (FE.out _ (noIm1 XS.out HS.out hno) (K4.out.thn hk5)); clear hno hk5; unfold PAN; go_wp2_with fail; exact ⟨rfl, FF.out⟩)
           have K5 := K4.out.thn hk5
           have HO5 := HO4.out.kp hk5 NQ.out
           have d5 := HO5.cell 2
           have d6 := (HO5.alloc (.cells #[.string s, .int .i64 hh] 51)).cell 2
           simp only [List.getElem?_cons_zero, List.getElem?_cons_succ] at d5 d6
           have ST := Lib.hid (fun (x' : Option Addr) (c' : Nat) (w9 : World) (ho : w9.ownsRow w3.heap.size 51 2 (.slice x' (l.length + 1) c') (l.length + 1) (xs ++ [.string s, .int .i64 hh])) (hg : (w5.alloc (.cells #[.string s, .int .i64 hh] 51)).grownBy w9 (Value.slice x l.length c).ownBlock) hloc =>
             Tq.step (ob := (.cells #[.string s, .int .i64 hh] 51)) (bcs := [.string pk, .int .i64 hash, .slice x ll c, .slice none 0 0, .slice none 0 0, .slice none 0 0, .slice none 0 0]) (bt := 27) (Nat.lt_trans hq.out (Nat.lt_trans z2 y3)) y3 NQ.out hB.out (by have := hBw.out; omega) HL.out HN.out HR.out HX.out HK.out HOW.out HROW.out (show OkIm ⟨s, hh⟩ from ⟨XS.out, xs1⟩) (show rc = encIm ⟨s, hh⟩ ++ rc2 by rw [HS.out, hs1]; simp only [encIm, List.append_assoc]) ⟨rfl, (show OkIm ⟨s, hh⟩ from ⟨XS.out, xs1⟩)⟩ rfl hrd5 (kpq K5) HO5 ho hg hloc 2)
           have HO2 := Lib.hid ((own_kp HOW.out K5 (fun g hg e => by have := own_lt HOW.out hg; have := hq.out; omega)).alloc (.cells #[.string s, .int .i64 hh] 51))
           have HN1 := Lib.hid (cells_new w5 [.string s, .int .i64 hh] 51)
           have HN2 := Lib.hid (show ∀ u ∈ ([.string s, .int .i64 hh] : List Value), u.oneCell' = true from by
             intro u hu
             simp only [List.mem_cons, List.not_mem_nil, or_false] at hu
             rcases hu with rfl | rfl <;> rfl)
           have H63 := Lib.hid (show l.length + 1 ≤ maxLen by have := HL.out; have := HN.out; unfold maxLen; omega)
           have HBY := Lib.hid (show (l.length + 1) * 24 ≤ 140737488355328 by have := HL.out; have := HN.out; omega)
           have HBS := Lib.hid (show w3.heap.size ≤ (w5.alloc (.cells #[.string s, .int .i64 hh] 51)).heap.size by have := HK.out.size; have := (K5).size; simp; omega)
           rw [← LL.out] at ST HO2 H63 HBY
           clear hrd5 hk5 xs1 hs1 K5 HO5))
      all_goals
        go_wp2_with fail
        go_roundw
        case rel => exact ⟨m1, _, by omega, by first | rfl | go_num, S1.out, S2.out⟩
        case measure => simp [intOf] <;> omega
    · obtain rfl : m0 = 0 := by omega
      obtain ⟨is, r2, hr, hl, hrd, hk, hsl⟩ := hI.slt
      obtain ⟨xx0, mm0, cc0, rfl⟩ := hsl.slice
      have X2 := Lib.hid hl
      have H2 := Lib.hid hr
      have SL0 := Lib.hid (SlN.of (z := z) (bo := bo) hsl (Nat.lt_trans z2 y3) y3)
      have K2 := Lib.hid (K3.out.qnew hk ZB.out)
      have B2 := Lib.hid (B3.out.kp hk (fun e => by have := hq.out; omega))
      have O2 := Lib.hid hO
      have R2 := Lib.hid hrd
      have y2 : bo < wr.heap.size := Nat.lt_of_lt_of_le y3 hk.size
      clear hI hO hr hl hrd hk hsl K3 B3 y3 FL
      go_wp2_with fail
      refine (rcount R2.out).mono ?_
      rintro e3 w3 (⟨n, rd, rfl, hr, hn, hrd, hk⟩ | ⟨rfl, hno, hk⟩)
      rotate_left
      · have FF := Lib.hid (FA.out _ (noOb3 X0.out H0.out X1.out H1.out X2.out H2.out (hno.no (E := OkSy) pos_Sy)) (K2.out.thn hk))
        clear hno hk
        unfold PAN
        go_wp2_with fail
        exact ⟨rfl, FF.out⟩
      have FL := Lib.hid (fun (wz : World) (hno : No (OkL OkSy) (encL encSy) r2) (hk : Kp (fun b => b = q) w wz) => FA.out wz (noOb3 X0.out H0.out X1.out H1.out X2.out H2.out hno) hk)
      have I0 := Lib.hid (Tq.start (B := B) (W := W) (q := q) (k := k) (bo := bo) (ok := OkSy) (enc := encSy) (nn := 6) (ty := 44) (E := SyAt) hn hr hrd)
      have K3 := Lib.hid (K2.out.thn hk)
      have B3 := Lib.hid (B2.out.kp hk (fun e => by have := hq.out; omega))
      have O3 := Lib.hid (O2.out.kp hk (fun e => by have := hq.out; omega))
      have SL0 := Lib.hid (SL0.out.kp hq.out (kpq hk))
      have y3 : bo < w3.heap.size := Nat.lt_of_lt_of_le y2 hk.size
      clear hr hn hrd hk R2 K2 B2 O2 y2
      go_wp2_with fail
      go_loopw [6] (fun i wr => ∃ (m0 : Nat) (v : Value), m0 ≤ n ∧ i = .int .i64 m0 ∧ Tq B W q k bo OkSy encSy 6 44 SyAt w3 n r2 v m0 wr ∧ Blk wr bo [.string pk, .int .i64 hash, .slice xx0 mm0 cc0, v, .slice none 0 0, .slice none 0 0, .slice none 0 0] 27) (fun i _ => (intOf i).toNat)
      case atStart => exact ⟨n, _, Nat.le_refl _, rfl, I0.out, O3.out⟩
      case round =>
        obtain ⟨m0, v, hm0, rfl, hI, hO⟩ := hrel
        clear I0 O3
        by_cases hlt : 0 < m0
        · obtain ⟨m1, rfl⟩ : ∃ m1, m0 = m1 + 1 := ⟨m0 - 1, by omega⟩
          obtain ⟨l, rc, xs, hl, hn, ⟨x, c, rfl⟩, hr, hx, hrd, hk, how, hrow⟩ := hI
          obtain ⟨ll, hll⟩ : ∃ ll, ll = l.length := ⟨_, rfl⟩
          have HL := Lib.hid hl
          have HN := Lib.hid hn
          have HR := Lib.hid hr
          have HX := Lib.hid hx
          have HK := Lib.hid hk
          have HOW := Lib.hid how
          have HROW := Lib.hid hrow
          have HRD := Lib.hid hrd
          have LL := Lib.hid hll
          rw [← hll] at hO
          have HO := Lib.hid hO
          have KR := Lib.hid (K3.out.qnew hk ZB.out)
          have yr : bo < wr.heap.size := Nat.lt_of_lt_of_le y3 hk.size
          have FE := Lib.hid (fun (wz : World) (hno : No OkSy encSy rc) (hk : Kp (fun b => b = q) wr wz) => FL.out wz (Tq.fails pi_OkSy hl hn hr hx hno) (KR.out.thn hk))
          clear hl hr hx hk how hrow hrd hll hO
          have hm1 : (m1 : Int) ≤ 262144 := by omega
          have hw0 : IntKind.i64.wrap ((m1 : Int) + 1 - 1) = m1 := by rw [IntWalk.i64_in _ (by omega)]; omega
          have hw1 : (0 : Int) < (m1 : Int) + 1 := by omega
          obtain ⟨i0, hi, hz0, hz1, hz2⟩ := info_parts info_Sy
          go_wp2_with fail
          refine (rtext HRD.out).mono ?_
          rintro e4 wc0 (⟨s, rc0, _, rfl, gx0, gh0, rfl, hrd4, hk4⟩ | ⟨rfl, hno, hk4⟩)
          rotate_left
          · have FF := Lib.hid (FE.out _ (noSy0 hno) hk4)
            clear hno hk4
            unfold PAN
            go_wp2_with fail
            exact ⟨rfl, FF.out⟩
          have GX0 := Lib.hid gx0
          have GH0 := Lib.hid gh0
          have RR0 := Lib.hid hrd4
          have KK0 := Lib.hid hk4
          have OO0 := Lib.hid (HO.out.kp hk4 NQ.out)
          clear gx0 gh0 hrd4 hk4
          go_upto_region 11 with fail
          have RA := Lib.hid (RR0.out.alloc (.cells #[.string s, .int .i64 0, .bool false, .int .i64 0, .int .i64 0, .int .i64 0] 44))
          have KA := Lib.hid (KK0.out.alloc (.cells #[.string s, .int .i64 0, .bool false, .int .i64 0, .int .i64 0, .int .i64 0] 44))
          have OA := Lib.hid (OO0.out.alloc (.cells #[.string s, .int .i64 0, .bool false, .int .i64 0, .int .i64 0, .int .i64 0] 44))
          have MA := Lib.hid (Blk.new wc0 [.string s, .int .i64 0, .bool false, .int .i64 0, .int .i64 0, .int .i64 0] 44)
          have ym : wr.heap.size ≤ wc0.heap.size := KK0.out.size
          have ys : wc0.heap.size < (wc0.alloc (.cells #[.string s, .int .i64 0, .bool false, .int .i64 0, .int .i64 0, .int .i64 0] 44)).heap.size := by simp
          generalize wc0.alloc (.cells #[.string s, .int .i64 0, .bool false, .int .i64 0, .int .i64 0, .int .i64 0] 44) = wA at *
          generalize wc0.heap.size = ms at *
          have MQ := Lib.hid (show ¬ ms = q from fun e => by have := hq.out; omega)
          have MO := Lib.hid (show ¬ bo = ms from fun e => by omega)
          have MB := Lib.hid (show B ≤ ms by have := hBw.out; have := ZZ.out; omega)
          clear RR0 KK0 OO0
          have mC := MA.out.cell
          have mF := MA.out.frozen
          go_wp2_with fail
          refine (rnum RA.out).mono ?_
          rintro e4 wc1 (⟨kind, rc1, _, rfl, gx1, gh1, rfl, hrd4, hk4⟩ | ⟨rfl, hno, hk4⟩)
          rotate_left
          · have FF := Lib.hid (FE.out _ (noSy1 GX0.out GH0.out hno) (KA.out.thn hk4))
            clear hno hk4
            unfold PAN
            go_wp2_with fail
            exact ⟨rfl, FF.out⟩
          have GX1 := Lib.hid gx1
          have GH1 := Lib.hid gh1
          have RR1 := Lib.hid hrd4
          have KK1 := Lib.hid (KA.out.thn hk4)
          have OO1 := Lib.hid (OA.out.kp hk4 NQ.out)
          have MM1 := Lib.hid (MA.out.kp hk4 (fun e => by have := hq.out; omega))
          have ys1 : ms < wc1.heap.size := Nat.lt_of_lt_of_le ys hk4.size
          clear gx1 gh1 hrd4 hk4 KA MA ys mC mF RA OA
          have ys := ys1
          clear ys1
          have mC := MM1.out.cell
          have mF := MM1.out.frozen
          go_upto_region 12 with fail
          have RG0 := Lib.hid (RR1.out.setNew MB.out (fun e => MQ.out e.symm) 1 (.int .i64 kind))
          have KG0 := Lib.hid (Kp.setNew KK1.out ym 1 (.int .i64 kind))
          have OG0 := Lib.hid (Blk.setOther OO1.out (a := ⟨ms, 1, none⟩) MO.out (.int .i64 kind))
          have MG0 := Lib.hid (show Blk (wc1.setCell ⟨ms, 1, none⟩ (.int .i64 kind)) ms [.string s, .int .i64 kind, .bool false, .int .i64 0, .int .i64 0, .int .i64 0] 44 from (Blk.set MM1.out 1 (.int .i64 kind)))
          have ysg : ms < (wc1.setCell ⟨ms, 1, none⟩ (.int .i64 kind)).heap.size := by simpa [World.setCell] using ys
          clear mC mF RR1 KK1 OO1 MM1 ys
          generalize (wc1.setCell ⟨ms, 1, none⟩ (.int .i64 kind)) = wg0 at *
          have ys := ysg
          clear ysg
          have mC := MG0.out.cell
          have mF := MG0.out.frozen
          go_wp2_with fail
          refine (rtruth RG0.out).mono ?_
          rintro e4 wc2 (⟨wk, rc2, _, rfl, gx2, gh2, rfl, hrd4, hk4⟩ | ⟨rfl, hno, hk4⟩)
          rotate_left
          · have FF := Lib.hid (FE.out _ (noSy2 GX0.out GH0.out GX1.out GH1.out hno) (KG0.out.thn hk4))
            clear hno hk4
            unfold PAN
            go_wp2_with fail
            exact ⟨rfl, FF.out⟩
          have GX2 := Lib.hid gx2
          have GH2 := Lib.hid gh2
          have RR2 := Lib.hid hrd4
          have KK2 := Lib.hid (KG0.out.thn hk4)
          have OO2 := Lib.hid (OG0.out.kp hk4 NQ.out)
          have MM2 := Lib.hid (MG0.out.kp hk4 (fun e => by have := hq.out; omega))
          have ys2 : ms < wc2.heap.size := Nat.lt_of_lt_of_le ys hk4.size
          clear gx2 gh2 hrd4 hk4 KG0 MG0 ys mC mF RG0 OG0
          have ys := ys2
          clear ys2
          have mC := MM2.out.cell
          have mF := MM2.out.frozen
          go_upto_region 13 with fail
          have RG1 := Lib.hid (RR2.out.setNew MB.out (fun e => MQ.out e.symm) 2 (.bool wk))
          have KG1 := Lib.hid (Kp.setNew KK2.out ym 2 (.bool wk))
          have OG1 := Lib.hid (Blk.setOther OO2.out (a := ⟨ms, 2, none⟩) MO.out (.bool wk))
          have MG1 := Lib.hid (show Blk (wc2.setCell ⟨ms, 2, none⟩ (.bool wk)) ms [.string s, .int .i64 kind, .bool wk, .int .i64 0, .int .i64 0, .int .i64 0] 44 from (Blk.set MM2.out 2 (.bool wk)))
          have ysg : ms < (wc2.setCell ⟨ms, 2, none⟩ (.bool wk)).heap.size := by simpa [World.setCell] using ys
          clear mC mF RR2 KK2 OO2 MM2 ys
          generalize (wc2.setCell ⟨ms, 2, none⟩ (.bool wk)) = wg1 at *
          have ys := ysg
          clear ysg
          have mC := MG1.out.cell
          have mF := MG1.out.frozen
          go_wp2_with fail
          refine (rnum RG1.out).mono ?_
          rintro e4 wc3 (⟨at_, rc3, _, rfl, gx3, gh3, rfl, hrd4, hk4⟩ | ⟨rfl, hno, hk4⟩)
          rotate_left
          · have FF := Lib.hid (FE.out _ (noSy3 GX0.out GH0.out GX1.out GH1.out GX2.out GH2.out hno) (KG1.out.thn hk4))
            clear hno hk4
            unfold PAN
            go_wp2_with fail
            exact ⟨rfl, FF.out⟩
          have GX3 := Lib.hid gx3
          have GH3 := Lib.hid gh3
          have RR3 := Lib.hid hrd4
          have KK3 := Lib.hid (KG1.out.thn hk4)
          have OO3 := Lib.hid (OG1.out.kp hk4 NQ.out)
          have MM3 := Lib.hid (MG1.out.kp hk4 (fun e => by have := hq.out; omega))
          have ys3 : ms < wc3.heap.size := Nat.lt_of_lt_of_le ys hk4.size
          clear gx3 gh3 hrd4 hk4 KG1 MG1 ys mC mF RG1 OG1
          have ys := ys3
          clear ys3
          have mC := MM3.out.cell
          have mF := MM3.out.frozen
          go_wp2_with fail
          refine (rnum RR3.out).mono ?_
          rintro e4 wc4 (⟨size, rc4, _, rfl, gx4, gh4, rfl, hrd4, hk4⟩ | ⟨rfl, hno, hk4⟩)
          rotate_left
          · have FF := Lib.hid (FE.out _ (noSy4 GX0.out GH0.out GX1.out GH1.out GX2.out GH2.out GX3.out GH3.out hno) (KK3.out.thn hk4))
            clear hno hk4
            unfold PAN
            go_wp2_with fail
            exact ⟨rfl, FF.out⟩
          have GX4 := Lib.hid gx4
          have GH4 := Lib.hid gh4
          have RR4 := Lib.hid hrd4
          have KK4 := Lib.hid (KK3.out.thn hk4)
          have OO4 := Lib.hid (OO3.out.kp hk4 NQ.out)
          have MM4 := Lib.hid (MM3.out.kp hk4 (fun e => by have := hq.out; omega))
          have ys4 : ms < wc4.heap.size := Nat.lt_of_lt_of_le ys hk4.size
          clear gx4 gh4 hrd4 hk4 KK3 MM3 ys mC mF RR3 OO3
          have ys := ys4
          clear ys4
          have mC := MM4.out.cell
          have mF := MM4.out.frozen
          go_wp2_with fail
          refine (rnum RR4.out).mono ?_
          rintro e4 wc5 (⟨frame, rc5, _, rfl, gx5, gh5, rfl, hrd4, hk4⟩ | ⟨rfl, hno, hk4⟩)
          rotate_left
          · have FF := Lib.hid (FE.out _ (noSy5 GX0.out GH0.out GX1.out GH1.out GX2.out GH2.out GX3.out GH3.out GX4.out GH4.out hno) (KK4.out.thn hk4))
            clear hno hk4
            unfold PAN
            go_wp2_with fail
            exact ⟨rfl, FF.out⟩
          have GX5 := Lib.hid gx5
          have GH5 := Lib.hid gh5
          have RR5 := Lib.hid hrd4
          have KK5 := Lib.hid (KK4.out.thn hk4)
          have OO5 := Lib.hid (OO4.out.kp hk4 NQ.out)
          have MM5 := Lib.hid (MM4.out.kp hk4 (fun e => by have := hq.out; omega))
          have ys5 : ms < wc5.heap.size := Nat.lt_of_lt_of_le ys hk4.size
          clear gx5 gh5 hrd4 hk4 KK4 MM4 ys mC mF RR4 OO4
          have ys := ys5
          clear ys5
          have mC := MM5.out.cell
          have mF := MM5.out.frozen
          go_upto_region 14 with fail
          have RG2 := Lib.hid (((RR5.out.setNew MB.out (fun e => MQ.out e.symm) 3 (.int .i64 at_)).setNew MB.out (fun e => MQ.out e.symm) 4 (.int .i64 size)).setNew MB.out (fun e => MQ.out e.symm) 5 (.int .i64 frame))
          have KG2 := Lib.hid (Kp.setNew (Kp.setNew (Kp.setNew KK5.out ym 3 (.int .i64 at_)) ym 4 (.int .i64 size)) ym 5 (.int .i64 frame))
          have OG2 := Lib.hid (Blk.setOther (Blk.setOther (Blk.setOther OO5.out (a := ⟨ms, 3, none⟩) MO.out (.int .i64 at_)) (a := ⟨ms, 4, none⟩) MO.out (.int .i64 size)) (a := ⟨ms, 5, none⟩) MO.out (.int .i64 frame))
          have MG2 := Lib.hid (show Blk (((wc5.setCell ⟨ms, 3, none⟩ (.int .i64 at_)).setCell ⟨ms, 4, none⟩ (.int .i64 size)).setCell ⟨ms, 5, none⟩ (.int .i64 frame)) ms [.string s, .int .i64 kind, .bool wk, .int .i64 at_, .int .i64 size, .int .i64 frame] 44 from (Blk.set (Blk.set (Blk.set MM5.out 3 (.int .i64 at_)) 4 (.int .i64 size)) 5 (.int .i64 frame)))
          have ysg : ms < (((wc5.setCell ⟨ms, 3, none⟩ (.int .i64 at_)).setCell ⟨ms, 4, none⟩ (.int .i64 size)).setCell ⟨ms, 5, none⟩ (.int .i64 frame)).heap.size := by simpa [World.setCell] using ys
          clear mC mF RR5 KK5 OO5 MM5 ys
          generalize (((wc5.setCell ⟨ms, 3, none⟩ (.int .i64 at_)).setCell ⟨ms, 4, none⟩ (.int .i64 size)).setCell ⟨ms, 5, none⟩ (.int .i64 frame)) = wg2 at *
          have ys := ysg
          clear ysg
          have d4 := OG2.out.cell 3
          simp only [List.getElem?_cons_zero, List.getElem?_cons_succ] at d4
          have m0c := MG2.out.cell 0
          have m1c := MG2.out.cell 1
          have m2c := MG2.out.cell 2
          have m3c := MG2.out.cell 3
          have m4c := MG2.out.cell 4
          have m5c := MG2.out.cell 5
          simp only [List.getElem?_cons_zero, List.getElem?_cons_succ] at m0c m1c m2c m3c m4c m5c
          have ST := Lib.hid (fun (x' : Option Addr) (c' : Nat) (w9 : World) (ho : w9.ownsRow w3.heap.size 44 6 (.slice x' (l.length + 1) c') (l.length + 1) (xs ++ [.string s, .int .i64 kind, .bool wk, .int .i64 at_, .int .i64 size, .int .i64 frame])) (hg : (wg2.alloc (.cells #[.string s, .int .i64 kind, .bool wk, .int .i64 at_, .int .i64 size, .int .i64 frame] 44)).grownBy w9 (Value.slice x l.length c).ownBlock) hloc =>
            Tq.step (ob := (.cells #[.string s, .int .i64 kind, .bool wk, .int .i64 at_, .int .i64 size, .int .i64 frame] 44)) (bcs := [.string pk, .int .i64 hash, .slice xx0 mm0 cc0, .slice x ll c, .slice none 0 0, .slice none 0 0, .slice none 0 0]) (bt := 27) (Nat.lt_trans hq.out (Nat.lt_trans z2 y3)) y3 NQ.out hB.out (by have := hBw.out; omega) HL.out HN.out HR.out HX.out HK.out HOW.out HROW.out (show OkSy ⟨s, kind, wk, at_, size, frame⟩ from ⟨GX0.out, GX1.out, GX3.out, GX4.out, GX5.out⟩) (show rc = encSy ⟨s, kind, wk, at_, size, frame⟩ ++ rc5 by rw [GH0.out, GH1.out, GH2.out, GH3.out, GH4.out, GH5.out]; simp only [encSy, List.append_assoc]) ⟨rfl, (show OkSy ⟨s, kind, wk, at_, size, frame⟩ from ⟨GX0.out, GX1.out, GX3.out, GX4.out, GX5.out⟩)⟩ rfl RG2.out (kpq KG2.out) OG2.out ho hg hloc 3)
          have HO2 := Lib.hid ((own_kp HOW.out KG2.out (fun g hg e => by have := own_lt HOW.out hg; have := hq.out; omega)).alloc (.cells #[.string s, .int .i64 kind, .bool wk, .int .i64 at_, .int .i64 size, .int .i64 frame] 44))
          have HN1 := Lib.hid (cells_new wg2 [.string s, .int .i64 kind, .bool wk, .int .i64 at_, .int .i64 size, .int .i64 frame] 44)
          have HN2 := Lib.hid (show ∀ u ∈ ([.string s, .int .i64 kind, .bool wk, .int .i64 at_, .int .i64 size, .int .i64 frame] : List Value), u.oneCell' = true from by
            intro u hu
            simp only [List.mem_cons, List.not_mem_nil, or_false] at hu
            rcases hu with rfl | rfl | rfl | rfl | rfl | rfl <;> rfl)
          have H63 := Lib.hid (show l.length + 1 ≤ maxLen by have := HL.out; have := HN.out; unfold maxLen; omega)
          have HBY := Lib.hid (show (l.length + 1) * 56 ≤ 140737488355328 by have := HL.out; have := HN.out; omega)
          have HBS := Lib.hid (show w3.heap.size ≤ (wg2.alloc (.cells #[.string s, .int .i64 kind, .bool wk, .int .i64 at_, .int .i64 size, .int .i64 frame] 44)).heap.size by have := HK.out.size; have := (KG2.out).size; simp; omega)
          rw [← LL.out] at ST HO2 H63 HBY
          go_wp2_with (at_builtin; refine wpList_app _ rfl (.tmp 57) (.tmp 59) 23 rfl w3.heap.size 44 i0 (.agg #[.string ⟨#[]⟩, .int .i64 0, .bool false, .int .i64 0, .int .i64 0, .int .i64 0]) 6 56 Try.underlying23 hi hz0 hz1 hz2 rfl (by decide) _ _ _ rfl HO2.out ⟨wg2.heap.size, 0, none⟩ 1 1 [.string s, .int .i64 kind, .bool wk, .int .i64 at_, .int .i64 size, .int .i64 frame] rfl rfl HN1.out HN2.out H63.out HBY.out HBS.out ?_; intro x' c' w9 ho hg hl'; obtain ⟨s0, s1, s2⟩ := ST.out x' c' w9 ho hg hl'; have S1 := Lib.hid s1; have S2 := Lib.hid s2; have y9 := s0.cell 3; have f9 := s0.frozen 3; simp only [List.getElem?_cons_zero, List.getElem?_cons_succ] at y9; clear ho hg hl' s0 s1 s2)
          go_wp2_with fail
          go_roundw
          case rel => exact ⟨m1, _, by omega, by first | rfl | go_num, S1.out, S2.out⟩
          case measure => simp [intOf] <;> omega
        · obtain rfl : m0 = 0 := by omega
          obtain ⟨ss, r3, hr, hl, hrd, hk, hsl⟩ := hI.slt
          obtain ⟨xx1, mm1, cc1, rfl⟩ := hsl.slice
          have X3 := Lib.hid hl
          have H3 := Lib.hid hr
          have SL1 := Lib.hid (SlN.of (z := z) (bo := bo) hsl (Nat.lt_trans z2 y3) y3)
          have SL0 := Lib.hid (SL0.out.kp hq.out hk)
          have K2 := Lib.hid (K3.out.qnew hk ZB.out)
          have B2 := Lib.hid (B3.out.kp hk (fun e => by have := hq.out; omega))
          have O2 := Lib.hid hO
          have R2 := Lib.hid hrd
          have y2 : bo < wr.heap.size := Nat.lt_of_lt_of_le y3 hk.size
          clear hI hO hr hl hrd hk hsl K3 B3 y3 FL
          go_wp2_with fail
          refine (rcount R2.out).mono ?_
          rintro e3 w3 (⟨n, rd, rfl, hr, hn, hrd, hk⟩ | ⟨rfl, hno, hk⟩)
          rotate_left
          · have FF := Lib.hid (FA.out _ (noOb4 X0.out H0.out X1.out H1.out X2.out H2.out X3.out H3.out (hno.no (E := OkRe) pos_Re)) (K2.out.thn hk))
            clear hno hk
            unfold PAN
            go_wp2_with fail
            exact ⟨rfl, FF.out⟩
          have FL := Lib.hid (fun (wz : World) (hno : No (OkL OkRe) (encL encRe) r3) (hk : Kp (fun b => b = q) w wz) => FA.out wz (noOb4 X0.out H0.out X1.out H1.out X2.out H2.out X3.out H3.out hno) hk)
          have I0 := Lib.hid (Tq.start (B := B) (W := W) (q := q) (k := k) (bo := bo) (ok := OkRe) (enc := encRe) (nn := 3) (ty := 64) (E := ReAt) hn hr hrd)
          have K3 := Lib.hid (K2.out.thn hk)
          have B3 := Lib.hid (B2.out.kp hk (fun e => by have := hq.out; omega))
          have O3 := Lib.hid (O2.out.kp hk (fun e => by have := hq.out; omega))
          have SL0 := Lib.hid (SL0.out.kp hq.out (kpq hk))
          have SL1 := Lib.hid (SL1.out.kp hq.out (kpq hk))
          have y3 : bo < w3.heap.size := Nat.lt_of_lt_of_le y2 hk.size
          clear hr hn hrd hk R2 K2 B2 O2 y2
          go_wp2_with fail
          go_loopw [8] (fun i wr => ∃ (m0 : Nat) (v : Value), m0 ≤ n ∧ i = .int .i64 m0 ∧ Tq B W q k bo OkRe encRe 3 64 ReAt w3 n r3 v m0 wr ∧ Blk wr bo [.string pk, .int .i64 hash, .slice xx0 mm0 cc0, .slice xx1 mm1 cc1, v, .slice none 0 0, .slice none 0 0] 27) (fun i _ => (intOf i).toNat)
          case atStart => exact ⟨n, _, Nat.le_refl _, rfl, I0.out, O3.out⟩
          case round =>
            obtain ⟨m0, v, hm0, rfl, hI, hO⟩ := hrel
            clear I0 O3
            by_cases hlt : 0 < m0
            · obtain ⟨m1, rfl⟩ : ∃ m1, m0 = m1 + 1 := ⟨m0 - 1, by omega⟩
              obtain ⟨l, rc, xs, hl, hn, ⟨x, c, rfl⟩, hr, hx, hrd, hk, how, hrow⟩ := hI
              obtain ⟨ll, hll⟩ : ∃ ll, ll = l.length := ⟨_, rfl⟩
              have HL := Lib.hid hl
              have HN := Lib.hid hn
              have HR := Lib.hid hr
              have HX := Lib.hid hx
              have HK := Lib.hid hk
              have HOW := Lib.hid how
              have HROW := Lib.hid hrow
              have HRD := Lib.hid hrd
              have LL := Lib.hid hll
              rw [← hll] at hO
              have HO := Lib.hid hO
              have KR := Lib.hid (K3.out.qnew hk ZB.out)
              have yr : bo < wr.heap.size := Nat.lt_of_lt_of_le y3 hk.size
              have FE := Lib.hid (fun (wz : World) (hno : No OkRe encRe rc) (hk : Kp (fun b => b = q) wr wz) => FL.out wz (Tq.fails pi_OkRe hl hn hr hx hno) (KR.out.thn hk))
              clear hl hr hx hk how hrow hrd hll hO
              have hm1 : (m1 : Int) ≤ 262144 := by omega
              have hw0 : IntKind.i64.wrap ((m1 : Int) + 1 - 1) = m1 := by rw [IntWalk.i64_in _ (by omega)]; omega
              have hw1 : (0 : Int) < (m1 : Int) + 1 := by omega
              obtain ⟨i0, hi, hz0, hz1, hz2⟩ := info_parts info_Re
              go_wp2_with fail
              refine (rtruth HRD.out).mono ?_
              rintro e4 wc0 (⟨dd, rc0, _, rfl, gx0, gh0, rfl, hrd4, hk4⟩ | ⟨rfl, hno, hk4⟩)
              rotate_left
              · have FF := Lib.hid (FE.out _ (noRe0 hno) hk4)
                clear hno hk4
                unfold PAN
                go_wp2_with fail
                exact ⟨rfl, FF.out⟩
              have GX0 := Lib.hid gx0
              have GH0 := Lib.hid gh0
              have RR0 := Lib.hid hrd4
              have KK0 := Lib.hid hk4
              have OO0 := Lib.hid (HO.out.kp hk4 NQ.out)
              clear gx0 gh0 hrd4 hk4
              go_upto_region 19 with fail
              have RA := Lib.hid (RR0.out.alloc (.cells #[.bool dd, .int .i64 0, .string ⟨#[]⟩] 64))
              have KA := Lib.hid (KK0.out.alloc (.cells #[.bool dd, .int .i64 0, .string ⟨#[]⟩] 64))
              have OA := Lib.hid (OO0.out.alloc (.cells #[.bool dd, .int .i64 0, .string ⟨#[]⟩] 64))
              have MA := Lib.hid (Blk.new wc0 [.bool dd, .int .i64 0, .string ⟨#[]⟩] 64)
              have ym : wr.heap.size ≤ wc0.heap.size := KK0.out.size
              have ys : wc0.heap.size < (wc0.alloc (.cells #[.bool dd, .int .i64 0, .string ⟨#[]⟩] 64)).heap.size := by simp
              generalize wc0.alloc (.cells #[.bool dd, .int .i64 0, .string ⟨#[]⟩] 64) = wA at *
              generalize wc0.heap.size = ms at *
              have MQ := Lib.hid (show ¬ ms = q from fun e => by have := hq.out; omega)
              have MO := Lib.hid (show ¬ bo = ms from fun e => by omega)
              have MB := Lib.hid (show B ≤ ms by have := hBw.out; have := ZZ.out; omega)
              clear RR0 KK0 OO0
              have mC := MA.out.cell
              have mF := MA.out.frozen
              go_wp2_with fail
              refine (rnum RA.out).mono ?_
              rintro e4 wc1 (⟨at_, rc1, _, rfl, gx1, gh1, rfl, hrd4, hk4⟩ | ⟨rfl, hno, hk4⟩)
              rotate_left
              · have FF := Lib.hid (FE.out _ (noRe1 GX0.out GH0.out hno) (KA.out.thn hk4))
                clear hno hk4
                unfold PAN
                go_wp2_with fail
                exact ⟨rfl, FF.out⟩
              have GX1 := Lib.hid gx1
              have GH1 := Lib.hid gh1
              have RR1 := Lib.hid hrd4
              have KK1 := Lib.hid (KA.out.thn hk4)
              have OO1 := Lib.hid (OA.out.kp hk4 NQ.out)
              have MM1 := Lib.hid (MA.out.kp hk4 (fun e => by have := hq.out; omega))
              have ys1 : ms < wc1.heap.size := Nat.lt_of_lt_of_le ys hk4.size
              clear gx1 gh1 hrd4 hk4 KA MA ys mC mF RA OA
              have ys := ys1
              clear ys1
              have mC := MM1.out.cell
              have mF := MM1.out.frozen
              go_upto_region 20 with fail
              have RG0 := Lib.hid (RR1.out.setNew MB.out (fun e => MQ.out e.symm) 1 (.int .i64 at_))
              have KG0 := Lib.hid (Kp.setNew KK1.out ym 1 (.int .i64 at_))
              have OG0 := Lib.hid (Blk.setOther OO1.out (a := ⟨ms, 1, none⟩) MO.out (.int .i64 at_))
              have MG0 := Lib.hid (show Blk (wc1.setCell ⟨ms, 1, none⟩ (.int .i64 at_)) ms [.bool dd, .int .i64 at_, .string ⟨#[]⟩] 64 from (Blk.set MM1.out 1 (.int .i64 at_)))
              have ysg : ms < (wc1.setCell ⟨ms, 1, none⟩ (.int .i64 at_)).heap.size := by simpa [World.setCell] using ys
              clear mC mF RR1 KK1 OO1 MM1 ys
              generalize (wc1.setCell ⟨ms, 1, none⟩ (.int .i64 at_)) = wg0 at *
              have ys := ysg
              clear ysg
              have mC := MG0.out.cell
              have mF := MG0.out.frozen
              go_wp2_with fail
              refine (rtext RG0.out).mono ?_
              rintro e4 wc2 (⟨nm, rc2, _, rfl, gx2, gh2, rfl, hrd4, hk4⟩ | ⟨rfl, hno, hk4⟩)
              rotate_left
              · have FF := Lib.hid (FE.out _ (noRe2 GX0.out GH0.out GX1.out GH1.out hno) (KG0.out.thn hk4))
                clear hno hk4
                unfold PAN
                go_wp2_with fail
                exact ⟨rfl, FF.out⟩
              have GX2 := Lib.hid gx2
              have GH2 := Lib.hid gh2
              have RR2 := Lib.hid hrd4
              have KK2 := Lib.hid (KG0.out.thn hk4)
              have OO2 := Lib.hid (OG0.out.kp hk4 NQ.out)
              have MM2 := Lib.hid (MG0.out.kp hk4 (fun e => by have := hq.out; omega))
              have ys2 : ms < wc2.heap.size := Nat.lt_of_lt_of_le ys hk4.size
              clear gx2 gh2 hrd4 hk4 KG0 MG0 ys mC mF RG0 OG0
              have ys := ys2
              clear ys2
              have mC := MM2.out.cell
              have mF := MM2.out.frozen
              go_upto_region 21 with fail
              have RG1 := Lib.hid (RR2.out.setNew MB.out (fun e => MQ.out e.symm) 2 (.string nm))
              have KG1 := Lib.hid (Kp.setNew KK2.out ym 2 (.string nm))
              have OG1 := Lib.hid (Blk.setOther OO2.out (a := ⟨ms, 2, none⟩) MO.out (.string nm))
              have MG1 := Lib.hid (show Blk (wc2.setCell ⟨ms, 2, none⟩ (.string nm)) ms [.bool dd, .int .i64 at_, .string nm] 64 from (Blk.set MM2.out 2 (.string nm)))
              have ysg : ms < (wc2.setCell ⟨ms, 2, none⟩ (.string nm)).heap.size := by simpa [World.setCell] using ys
              clear mC mF RR2 KK2 OO2 MM2 ys
              generalize (wc2.setCell ⟨ms, 2, none⟩ (.string nm)) = wg1 at *
              have ys := ysg
              clear ysg
              have d4 := OG1.out.cell 4
              simp only [List.getElem?_cons_zero, List.getElem?_cons_succ] at d4
              have m0c := MG1.out.cell 0
              have m1c := MG1.out.cell 1
              have m2c := MG1.out.cell 2
              simp only [List.getElem?_cons_zero, List.getElem?_cons_succ] at m0c m1c m2c
              have ST := Lib.hid (fun (x' : Option Addr) (c' : Nat) (w9 : World) (ho : w9.ownsRow w3.heap.size 64 3 (.slice x' (l.length + 1) c') (l.length + 1) (xs ++ [.bool dd, .int .i64 at_, .string nm])) (hg : (wg1.alloc (.cells #[.bool dd, .int .i64 at_, .string nm] 64)).grownBy w9 (Value.slice x l.length c).ownBlock) hloc =>
                Tq.step (ob := (.cells #[.bool dd, .int .i64 at_, .string nm] 64)) (bcs := [.string pk, .int .i64 hash, .slice xx0 mm0 cc0, .slice xx1 mm1 cc1, .slice x ll c, .slice none 0 0, .slice none 0 0]) (bt := 27) (Nat.lt_trans hq.out (Nat.lt_trans z2 y3)) y3 NQ.out hB.out (by have := hBw.out; omega) HL.out HN.out HR.out HX.out HK.out HOW.out HROW.out (show OkRe ⟨dd, at_, nm⟩ from ⟨GX1.out, GX2.out⟩) (show rc = encRe ⟨dd, at_, nm⟩ ++ rc2 by rw [GH0.out, GH1.out, GH2.out]; simp only [encRe, List.append_assoc]) ⟨rfl, (show OkRe ⟨dd, at_, nm⟩ from ⟨GX1.out, GX2.out⟩)⟩ rfl RG1.out (kpq KG1.out) OG1.out ho hg hloc 4)
              have HO2 := Lib.hid ((own_kp HOW.out KG1.out (fun g hg e => by have := own_lt HOW.out hg; have := hq.out; omega)).alloc (.cells #[.bool dd, .int .i64 at_, .string nm] 64))
              have HN1 := Lib.hid (cells_new wg1 [.bool dd, .int .i64 at_, .string nm] 64)
              have HN2 := Lib.hid (show ∀ u ∈ ([.bool dd, .int .i64 at_, .string nm] : List Value), u.oneCell' = true from by
                intro u hu
                simp only [List.mem_cons, List.not_mem_nil, or_false] at hu
                rcases hu with rfl | rfl | rfl <;> rfl)
              have H63 := Lib.hid (show l.length + 1 ≤ maxLen by have := HL.out; have := HN.out; unfold maxLen; omega)
              have HBY := Lib.hid (show (l.length + 1) * 32 ≤ 140737488355328 by have := HL.out; have := HN.out; omega)
              have HBS := Lib.hid (show w3.heap.size ≤ (wg1.alloc (.cells #[.bool dd, .int .i64 at_, .string nm] 64)).heap.size by have := HK.out.size; have := (KG1.out).size; simp; omega)
              rw [← LL.out] at ST HO2 H63 HBY
              go_wp2_with (at_builtin; refine wpList_app _ rfl (.tmp 78) (.tmp 80) 24 rfl w3.heap.size 64 i0 (.agg #[.bool false, .int .i64 0, .string ⟨#[]⟩]) 3 32 Try.underlying24 hi hz0 hz1 hz2 rfl (by decide) _ _ _ rfl HO2.out ⟨wg1.heap.size, 0, none⟩ 1 1 [.bool dd, .int .i64 at_, .string nm] rfl rfl HN1.out HN2.out H63.out HBY.out HBS.out ?_; intro x' c' w9 ho hg hl'; obtain ⟨s0, s1, s2⟩ := ST.out x' c' w9 ho hg hl'; have S1 := Lib.hid s1; have S2 := Lib.hid s2; have y9 := s0.cell 4; have f9 := s0.frozen 4; simp only [List.getElem?_cons_zero, List.getElem?_cons_succ] at y9; clear ho hg hl' s0 s1 s2)
              go_wp2_with fail
              go_roundw
              case rel => exact ⟨m1, _, by omega, by first | rfl | go_num, S1.out, S2.out⟩
              case measure => simp [intOf] <;> omega
            · obtain rfl : m0 = 0 := by omega
              obtain ⟨rs, r4, hr, hl, hrd, hk, hsl⟩ := hI.slt
              obtain ⟨xx2, mm2, cc2, rfl⟩ := hsl.slice
              have X4 := Lib.hid hl
              have H4 := Lib.hid hr
              have SL2 := Lib.hid (SlN.of (z := z) (bo := bo) hsl (Nat.lt_trans z2 y3) y3)
              have SL0 := Lib.hid (SL0.out.kp hq.out hk)
              have SL1 := Lib.hid (SL1.out.kp hq.out hk)
              have K2 := Lib.hid (K3.out.qnew hk ZB.out)
              have B2 := Lib.hid (B3.out.kp hk (fun e => by have := hq.out; omega))
              have O2 := Lib.hid hO
              have R2 := Lib.hid hrd
              have y2 : bo < wr.heap.size := Nat.lt_of_lt_of_le y3 hk.size
              clear hI hO hr hl hrd hk hsl K3 B3 y3 FL
              go_wp2_with fail
              refine (twords _ _ R2.out).mono ?_
              rintro e3 w3 (⟨lw0, r5, vw, rfl, hl, hr, hsl, hrd, hk⟩ | ⟨rfl, hno, hk⟩)
              rotate_left
              · have FF := Lib.hid (FA.out _ (noOb5 X0.out H0.out X1.out H1.out X2.out H2.out X3.out H3.out X4.out H4.out hno) (K2.out.thn hk))
                clear hno hk
                unfold PAN
                go_wp2_with fail
                exact ⟨rfl, FF.out⟩
              obtain ⟨xx3, mm3, cc3, rfl⟩ := SlT.slice hsl
              have X5 := Lib.hid hl
              have H5 := Lib.hid hr
              have SL3 := Lib.hid (SlN.of (E := WdAt) (z := z) (bo := bo) hsl (by omega) y2)
              have SL0 := Lib.hid (SL0.out.kp hq.out (kpq hk))
              have SL1 := Lib.hid (SL1.out.kp hq.out (kpq hk))
              have SL2 := Lib.hid (SL2.out.kp hq.out (kpq hk))
              have K3 := Lib.hid (K2.out.thn hk)
              have B3 := Lib.hid (B2.out.kp hk (fun e => by have := hq.out; omega))
              have O3 := Lib.hid (O2.out.kp hk NQ.out)
              have R3 := Lib.hid hrd
              have y3 : bo < w3.heap.size := Nat.lt_of_lt_of_le y2 hk.size
              clear hl hr hsl hrd hk K2 B2 O2 R2 y2
              have oC := O3.out.cell
              have oF := O3.out.frozen
              go_upto_region 23 with fail
              have KS := Lib.hid ((Kp.refl (fun b => b = q ∨ b = bo) w3).setCell (p := ⟨bo, 5, none⟩) (fun _ => .inr rfl) (.slice xx3 mm3 cc3))
              have K2 := Lib.hid (Kp.setNew K3.out ZB.out 5 (.slice xx3 mm3 cc3))
              have B2 := Lib.hid (Blk.setOther B3.out (a := ⟨bo, 5, none⟩) (fun e => by simp only at e; omega) (.slice xx3 mm3 cc3))
              have O2 := Lib.hid (show Blk (w3.setCell ⟨bo, 5, none⟩ (.slice xx3 mm3 cc3)) bo [.string pk, .int .i64 hash, .slice xx0 mm0 cc0, .slice xx1 mm1 cc1, .slice xx2 mm2 cc2, .slice xx3 mm3 cc3, .slice none 0 0] 27 from O3.out.set 5 (.slice xx3 mm3 cc3))
              have R2 := Lib.hid (R3.out.setNew (by have := hBw.out; have := ZZ.out; omega) (fun e => NQ.out e.symm) 5 (.slice xx3 mm3 cc3))
              have y2 : bo < (w3.setCell ⟨bo, 5, none⟩ (.slice xx3 mm3 cc3)).heap.size := by simpa [World.setCell] using y3
              have SL0 := Lib.hid (SL0.out.kp hq.out KS.out)
              have SL1 := Lib.hid (SL1.out.kp hq.out KS.out)
              have SL2 := Lib.hid (SL2.out.kp hq.out KS.out)
              have SL3 := Lib.hid (SL3.out.kp hq.out KS.out)
              clear oC oF KS K3 B3 O3 R3 y3
              generalize (w3.setCell ⟨bo, 5, none⟩ (.slice xx3 mm3 cc3)) = wv0 at *
              go_wp2_with fail
              refine (twords _ _ R2.out).mono ?_
              rintro e3 w3 (⟨lw1, r6, vw, rfl, hl, hr, hsl, hrd, hk⟩ | ⟨rfl, hno, hk⟩)
              rotate_left
              · have FF := Lib.hid (FA.out _ (noOb6 X0.out H0.out X1.out H1.out X2.out H2.out X3.out H3.out X4.out H4.out X5.out H5.out hno) (K2.out.thn hk))
                clear hno hk
                unfold PAN
                go_wp2_with fail
                exact ⟨rfl, FF.out⟩
              obtain ⟨xx4, mm4, cc4, rfl⟩ := SlT.slice hsl
              have X6 := Lib.hid hl
              have H6 := Lib.hid hr
              have SL4 := Lib.hid (SlN.of (E := WdAt) (z := z) (bo := bo) hsl (by omega) y2)
              have SL0 := Lib.hid (SL0.out.kp hq.out (kpq hk))
              have SL1 := Lib.hid (SL1.out.kp hq.out (kpq hk))
              have SL2 := Lib.hid (SL2.out.kp hq.out (kpq hk))
              have SL3 := Lib.hid (SL3.out.kp hq.out (kpq hk))
              have K3 := Lib.hid (K2.out.thn hk)
              have B3 := Lib.hid (B2.out.kp hk (fun e => by have := hq.out; omega))
              have O3 := Lib.hid (O2.out.kp hk NQ.out)
              have R3 := Lib.hid hrd
              have y3 : bo < w3.heap.size := Nat.lt_of_lt_of_le y2 hk.size
              clear hl hr hsl hrd hk K2 B2 O2 R2 y2
              have oC := O3.out.cell
              have oF := O3.out.frozen
              go_upto_region 24 with fail
              have KS := Lib.hid ((Kp.refl (fun b => b = q ∨ b = bo) w3).setCell (p := ⟨bo, 6, none⟩) (fun _ => .inr rfl) (.slice xx4 mm4 cc4))
              have K2 := Lib.hid (Kp.setNew K3.out ZB.out 6 (.slice xx4 mm4 cc4))
              have B2 := Lib.hid (Blk.setOther B3.out (a := ⟨bo, 6, none⟩) (fun e => by simp only at e; omega) (.slice xx4 mm4 cc4))
              have O2 := Lib.hid (show Blk (w3.setCell ⟨bo, 6, none⟩ (.slice xx4 mm4 cc4)) bo [.string pk, .int .i64 hash, .slice xx0 mm0 cc0, .slice xx1 mm1 cc1, .slice xx2 mm2 cc2, .slice xx3 mm3 cc3, .slice xx4 mm4 cc4] 27 from O3.out.set 6 (.slice xx4 mm4 cc4))
              have R2 := Lib.hid (R3.out.setNew (by have := hBw.out; have := ZZ.out; omega) (fun e => NQ.out e.symm) 6 (.slice xx4 mm4 cc4))
              have y2 : bo < (w3.setCell ⟨bo, 6, none⟩ (.slice xx4 mm4 cc4)).heap.size := by simpa [World.setCell] using y3
              have SL0 := Lib.hid (SL0.out.kp hq.out KS.out)
              have SL1 := Lib.hid (SL1.out.kp hq.out KS.out)
              have SL2 := Lib.hid (SL2.out.kp hq.out KS.out)
              have SL3 := Lib.hid (SL3.out.kp hq.out KS.out)
              have SL4 := Lib.hid (SL4.out.kp hq.out KS.out)
              clear oC oF KS K3 B3 O3 R3 y3
              generalize (w3.setCell ⟨bo, 6, none⟩ (.slice xx4 mm4 cc4)) = wv1 at *
              have o0c := O2.out.cell 0
              have z0c := B2.out.cell 0
              have o1c := O2.out.cell 1
              have z1c := B2.out.cell 1
              have o2c := O2.out.cell 2
              have z2c := B2.out.cell 2
              have o3c := O2.out.cell 3
              have z3c := B2.out.cell 3
              have o4c := O2.out.cell 4
              have z4c := B2.out.cell 4
              have o5c := O2.out.cell 5
              have z5c := B2.out.cell 5
              have o6c := O2.out.cell 6
              have z6c := B2.out.cell 6
              simp only [List.getElem?_cons_zero, List.getElem?_cons_succ] at o0c z0c o1c z1c o2c z2c o3c z3c o4c z4c o5c z5c o6c z6c
              have zF := B2.out.frozen
              have KL := Lib.hid (Kp.sets (Kp.refl (fun b => b = z) wv1) (b := z) (fun _ => rfl) 0 [.string pk, .int .i64 hash, .slice xx0 mm0 cc0, .slice xx1 mm1 cc1, .slice xx2 mm2 cc2, .slice xx3 mm3 cc3, .slice xx4 mm4 cc4])
              have BL := Lib.hid (Blk.sets B2.out 0 [.string pk, .int .i64 hash, .slice xx0 mm0 cc0, .slice xx1 mm1 cc1, .slice xx2 mm2 cc2, .slice xx3 mm3 cc3, .slice xx4 mm4 cc4])
              have FIN := Lib.hid (show Rp B W q r k OkOb encO (VT ObT) w (.returned (.agg #[.string pk, .int .i64 hash, .slice xx0 mm0 cc0, .slice xx1 mm1 cc1, .slice xx2 mm2 cc2, .slice xx3 mm3 cc3, .slice xx4 mm4 cc4])) (lays wv1 z 0 [.string pk, .int .i64 hash, .slice xx0 mm0 cc0, .slice xx1 mm1 cc1, .slice xx2 mm2 cc2, .slice xx3 mm3 cc3, .slice xx4 mm4 cc4]) from
                .inl ⟨⟨pk, hash, is, ss, rs, lw0, lw1⟩, r6, _, rfl, ⟨X0.out, X1.out, X2.out, X3.out, X4.out, X5.out, X6.out⟩, by rw [H0.out, H1.out, H2.out, H3.out, H4.out, H5.out, H6.out]; simp only [encO, List.append_assoc], ⟨[.string pk, .int .i64 hash, .slice xx0 mm0 cc0, .slice xx1 mm1 cc1, .slice xx2 mm2 cc2, .slice xx3 mm3 cc3, .slice xx4 mm4 cc4], rfl, _, _, _, _, _, rfl, X0.out, X1.out,
                  (SlT.mono SL0.out.fin (fun b hb => ⟨by rw [ZZ.out]; exact Nat.le_of_lt hb.1, Nat.lt_of_lt_of_le hb.2 KL.out.size⟩) (fun b hb => KL.out.block b hb.2 (fun e => by have := hb.1; omega)) (fun _ _ _ h => h)), (SlT.mono SL1.out.fin (fun b hb => ⟨by rw [ZZ.out]; exact Nat.le_of_lt hb.1, Nat.lt_of_lt_of_le hb.2 KL.out.size⟩) (fun b hb => KL.out.block b hb.2 (fun e => by have := hb.1; omega)) (fun _ _ _ h => h)), (SlT.mono SL2.out.fin (fun b hb => ⟨by rw [ZZ.out]; exact Nat.le_of_lt hb.1, Nat.lt_of_lt_of_le hb.2 KL.out.size⟩) (fun b hb => KL.out.block b hb.2 (fun e => by have := hb.1; omega)) (fun _ _ _ h => h)), (SlT.mono SL3.out.fin (fun b hb => ⟨by rw [ZZ.out]; exact Nat.le_of_lt hb.1, Nat.lt_of_lt_of_le hb.2 KL.out.size⟩) (fun b hb => KL.out.block b hb.2 (fun e => by have := hb.1; omega)) (fun _ _ _ h => h)), (SlT.mono SL4.out.fin (fun b hb => ⟨by rw [ZZ.out]; exact Nat.le_of_lt hb.1, Nat.lt_of_lt_of_le hb.2 KL.out.size⟩) (fun b hb => KL.out.block b hb.2 (fun e => by have := hb.1; omega)) (fun _ _ _ h => h))⟩,
                  R2.out.kp KL.out (fun b hb e => by have := hBw.out; have := ZZ.out; omega) (fun e => by have := hq.out; omega), Kp.trans K2.out KL.out (fun b hb e => by have := ZZ.out; omega)⟩)
              have e0c : (wv1.setCell ⟨z, 0, none⟩ (.string pk)).cell? ⟨z, 0, none⟩ = some (.string pk) := (Blk.sets B2.out 0 [.string pk]).cell 0
              have e1c : ((wv1.setCell ⟨z, 0, none⟩ (.string pk)).setCell ⟨z, 1, none⟩ (.int .i64 hash)).cell? ⟨z, 1, none⟩ = some (.int .i64 hash) := (Blk.sets B2.out 0 [.string pk, .int .i64 hash]).cell 1
              have e2c : (((wv1.setCell ⟨z, 0, none⟩ (.string pk)).setCell ⟨z, 1, none⟩ (.int .i64 hash)).setCell ⟨z, 2, none⟩ (.slice xx0 mm0 cc0)).cell? ⟨z, 2, none⟩ = some (.slice xx0 mm0 cc0) := (Blk.sets B2.out 0 [.string pk, .int .i64 hash, .slice xx0 mm0 cc0]).cell 2
              have e3c : ((((wv1.setCell ⟨z, 0, none⟩ (.string pk)).setCell ⟨z, 1, none⟩ (.int .i64 hash)).setCell ⟨z, 2, none⟩ (.slice xx0 mm0 cc0)).setCell ⟨z, 3, none⟩ (.slice xx1 mm1 cc1)).cell? ⟨z, 3, none⟩ = some (.slice xx1 mm1 cc1) := (Blk.sets B2.out 0 [.string pk, .int .i64 hash, .slice xx0 mm0 cc0, .slice xx1 mm1 cc1]).cell 3
              have e4c : (((((wv1.setCell ⟨z, 0, none⟩ (.string pk)).setCell ⟨z, 1, none⟩ (.int .i64 hash)).setCell ⟨z, 2, none⟩ (.slice xx0 mm0 cc0)).setCell ⟨z, 3, none⟩ (.slice xx1 mm1 cc1)).setCell ⟨z, 4, none⟩ (.slice xx2 mm2 cc2)).cell? ⟨z, 4, none⟩ = some (.slice xx2 mm2 cc2) := (Blk.sets B2.out 0 [.string pk, .int .i64 hash, .slice xx0 mm0 cc0, .slice xx1 mm1 cc1, .slice xx2 mm2 cc2]).cell 4
              have e5c : ((((((wv1.setCell ⟨z, 0, none⟩ (.string pk)).setCell ⟨z, 1, none⟩ (.int .i64 hash)).setCell ⟨z, 2, none⟩ (.slice xx0 mm0 cc0)).setCell ⟨z, 3, none⟩ (.slice xx1 mm1 cc1)).setCell ⟨z, 4, none⟩ (.slice xx2 mm2 cc2)).setCell ⟨z, 5, none⟩ (.slice xx3 mm3 cc3)).cell? ⟨z, 5, none⟩ = some (.slice xx3 mm3 cc3) := (Blk.sets B2.out 0 [.string pk, .int .i64 hash, .slice xx0 mm0 cc0, .slice xx1 mm1 cc1, .slice xx2 mm2 cc2, .slice xx3 mm3 cc3]).cell 5
              have e6c : (((((((wv1.setCell ⟨z, 0, none⟩ (.string pk)).setCell ⟨z, 1, none⟩ (.int .i64 hash)).setCell ⟨z, 2, none⟩ (.slice xx0 mm0 cc0)).setCell ⟨z, 3, none⟩ (.slice xx1 mm1 cc1)).setCell ⟨z, 4, none⟩ (.slice xx2 mm2 cc2)).setCell ⟨z, 5, none⟩ (.slice xx3 mm3 cc3)).setCell ⟨z, 6, none⟩ (.slice xx4 mm4 cc4)).cell? ⟨z, 6, none⟩ = some (.slice xx4 mm4 cc4) := (Blk.sets B2.out 0 [.string pk, .int .i64 hash, .slice xx0 mm0 cc0, .slice xx1 mm1 cc1, .slice xx2 mm2 cc2, .slice xx3 mm3 cc3, .slice xx4 mm4 cc4]).cell 6
              go_wp2_with fail
              refine bodyPost_ret (v := .agg #[.string pk, .int .i64 hash, .slice xx0 mm0 cc0, .slice xx1 mm1 cc1, .slice xx2 mm2 cc2, .slice xx3 mm3 cc3, .slice xx4 mm4 cc4]) (by simp [results, Try.results47, go_sem, e0c, e1c, e2c, e3c, e4c, e5c, e6c]) rfl ?_
              exact FIN.out
end Go.Proofs.Ytfdjlicegfgodaa
