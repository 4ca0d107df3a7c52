/- The machine's operations of bytes: read, write. -/
import Derived.Test.YthlcoocboidnlaaMach3
import Derived.Test.YthlcoocboidnlaaBytes
import Derived.Deep.RegionLaw
import Derived.Deep.AppendLies
import Derived.StillTailTactics
namespace Go.Proofs.Ythlcoocboidnlaa
open Go.RowKit
set_option linter.unusedSimpArgs false
set_option linter.unusedVariables false

/-- the slice v reads as these bytes, in blocks of R -/
def BytesR (R : Nat → Prop) (w : World) (v : Value) (l : List UInt8) : Prop :=
  ∃ x cap, v = .slice x l.length cap ∧ l.length ≤ cap ∧ cap ≤ maxLen ∧ (l ≠ [] → ∃ b o, x = some ⟨b, o, none⟩ ∧ R b ∧ ∀ i (h : i < l.length), w.cell? ⟨b, o + i, none⟩ = some (.int .u8 (l[i].toNat : Int)))
theorem BytesR.kp {R S : Nat → Prop} {w w' : World} {v : Value} {l : List UInt8} (h : BytesR R w v l) (k : Kp S w w') (hs : ∀ b, R b → ¬ S b) : BytesR R w' v l := by
  obtain ⟨x, cap, hv, h1, h2, h3⟩ := h
  refine ⟨x, cap, hv, h1, h2, fun hne => ?_⟩
  obtain ⟨b, o, hx, hb, hc⟩ := h3 hne
  exact ⟨b, o, hx, hb, fun i hi => k.keeps (hc i hi) (hs b hb)⟩
theorem BytesR.nw {R : Nat → Prop} {w w' : World} {v : Value} {l : List UInt8} (h : BytesR R w v l) (k : Nw w w') : BytesR R w' v l := h.kp k (fun _ _ x => x)
/-- what a byte is read out of a word -/
def byteOf (n : Int) : UInt8 := UInt8.ofNat (n % 256).toNat
theorem byteOf_nat (n : Int) : ((byteOf n).toNat : Int) = n % 256 := by
  unfold byteOf
  have h0 : 0 ≤ n % 256 := Int.emod_nonneg _ (by decide)
  have h1 : n % 256 < 256 := Int.emod_lt_of_pos _ (by decide)
  have : (UInt8.ofNat (n % 256).toNat).toNat = (n % 256).toNat % 256 := by simp
  rw [this]
  omega
/-- a byte is read: what is left of the input lies as v' tells -/
def ReadP (R : Nat → Prop) (w : World) (p : Nat) (m : Mc) (a : Nat) (y : UInt8) (r : List UInt8) (e : Ending) (w' : World) : Prop :=
  e = .returned (.tuple #[]) ∧ ∃ vi, McAt w' p { m with reg := m.reg.set a (y.toNat : Int), vi := vi } ∧ BytesR R w' vi r ∧ Kp (fun x => x = p) w w'
/-- a byte is written -/
def WriteP (B : Nat) (w : World) (p : Nat) (m : Mc) (out : List UInt8) (e : Ending) (w' : World) : Prop :=
  e = .returned (.tuple #[]) ∧ ∃ vo, McAt w' p { m with vo := vo } ∧ w'.ownsRow B 5 1 vo out.length (byteV out) ∧ Kp (fun x => x = p ∨ m.vo.ownBlock = some x) w w' ∧ (∀ g, vo.ownBlock = some g → m.vo.ownBlock = some g ∨ w.heap.size ≤ g) ∧ vo.ownBlock ≠ some p

set_option maxRecDepth 100000 in
set_option maxHeartbeats 1000000 in
theorem read_nil (w : World) (p : Nat) (m : Mc) (h : McAt w p m) (a : Nat) (ha : a < 16) (op b c n : Int) {x : Option Addr} {cp : Nat} (hv : m.vi = .slice x 0 cp) :
    Calls Try.prog 46 #[.pointer (some ⟨p, 0, none⟩), .agg #[.int .i64 op, .int .i64 (a : Int), .int .i64 b, .int .i64 c, .int .i64 n]] w (OpP w p { m with reg := m.reg.set a (-1) }) := by
  have N0 := Lib.hid (Nw.new w (.cells #[.int .i64 op, .int .i64 (a : Int), .int .i64 b, .int .i64 c, .int .i64 n] 26))
  have M0 := Lib.hid (h.alloc (.cells #[.int .i64 op, .int .i64 (a : Int), .int .i64 b, .int .i64 c, .int .i64 n] 26))
  have B0 := Lib.hid (Blk.new w [.int .i64 op, .int .i64 (a : Int), .int .i64 b, .int .i64 c, .int .i64 n] 26)
  have hlt := h.lt
  clear h
  have ha0 : (0 : Int) ≤ (a : Int) := by omega
  have ha1 : (a : Int) < 16 := by omega
  go_enter Try.func46, Try.ntmps46
  go_upto_region 1 with fail
  generalize w.alloc (.cells #[.int .i64 op, .int .i64 (a : Int), .int .i64 b, .int .i64 c, .int .i64 n] 26) = w0 at *
  generalize w.heap.size = bi at *
  have i0 := B0.out.cell 0
  have i1 := B0.out.cell 1
  have i2 := B0.out.cell 2
  have i3 := B0.out.cell 3
  have i4 := B0.out.cell 4
  simp only [List.getElem?_cons_zero, List.getElem?_cons_succ] at i0 i1 i2 i3 i4
  have hpb : ¬ p = bi := fun e => by omega
  have za := M0.out.frozen (2 + a)
  have ra := M0.out.creg ha
  go_region
  have M1 := Lib.hid ((M0.out.setReg ha (-1)).drew)
  have K1 := Lib.hid ((set_kp (p := p) N0.out (2 + a) (.int .i64 (-1))).drew)
  have B1 := Lib.hid ((B0.out.setOther (a := ⟨p, 2 + a, none⟩) (fun e => hpb e.symm) (.int .i64 (-1))).drew)
  clear i0 i1 i2 i3 i4 za ra
  generalize (w0.setCell ⟨p, 2 + a, none⟩ (.int .i64 (-1))).drew = w1 at *
  have f19 := M1.out.c19
  dsimp only at f19
  rw [hv] at f19
  clear hv
  go_wp2_with fail
  go_returns
  exact ⟨rfl, M1.out, K1.out⟩
set_option maxRecDepth 100000 in
set_option maxHeartbeats 1000000 in
theorem read_cons (w : World) (p : Nat) (m : Mc) (h : McAt w p m) (a : Nat) (ha : a < 16) (op b c n : Int) {R : Nat → Prop} {y : UInt8} {r : List UInt8} (hi : BytesR R w m.vi (y :: r)) (hR : ∀ x, R x → x ≠ p) :
    Calls Try.prog 46 #[.pointer (some ⟨p, 0, none⟩), .agg #[.int .i64 op, .int .i64 (a : Int), .int .i64 b, .int .i64 c, .int .i64 n]] w (ReadP R w p m a y r) := by
  obtain ⟨x, cp, hv, hl, hmx, hcc⟩ := hi
  obtain ⟨bb, oo, rfl, hRb, hc⟩ := hcc (by simp)
  have hne : bb ≠ p := hR bb hRb
  have HC := Lib.hid hc
  have hc0 := hc 0 (by simp)
  simp only [List.getElem_cons_zero, Nat.add_zero] at hc0
  have hbl : bb < w.heap.size := World.block_lt_of_cell? w _ hc0
  simp only [List.length_cons] at hv hl
  have HMX := Lib.hid hmx
  clear hcc hc hmx
  obtain ⟨rn, hrn⟩ : ∃ rn, rn = r.length := ⟨_, rfl⟩
  rw [← hrn] at hv hl
  have HRN := Lib.hid hrn
  clear hrn
  have FIN := Lib.hid (fun (w' : World) (o2 c2 : Nat) (h2 : McAt w' p { m with reg := m.reg.set a (y.toNat : Int), vi := .slice (some ⟨bb, o2, none⟩) rn c2 }) (hk : Kp (fun x => x = p) w w') (hc2 : cp = c2 + 1) (ho2 : r ≠ [] → o2 = oo + 1) =>
    (show ReadP R w p m a y r (.returned (.tuple #[])) w' from ⟨rfl, _, h2, ⟨_, c2, by rw [← HRN.out], by rw [← HRN.out]; omega, by have := HMX.out; omega, fun hne2 => ⟨bb, o2, rfl, hRb, fun i hi => by
      have hh := HC.out (i + 1) (by simpa using hi)
      rw [ho2 hne2, show oo + 1 + i = oo + (i + 1) by omega]
      exact hk.keeps (by simpa using hh) hne⟩⟩, hk⟩))
  have CB := Lib.hid ((Nw.new w (.cells #[.int .i64 op, .int .i64 (a : Int), .int .i64 b, .int .i64 c, .int .i64 n] 26)).keeps hc0)
  clear hc0
  have N0 := Lib.hid (Nw.new w (.cells #[.int .i64 op, .int .i64 (a : Int), .int .i64 b, .int .i64 c, .int .i64 n] 26))
  have M0 := Lib.hid (h.alloc (.cells #[.int .i64 op, .int .i64 (a : Int), .int .i64 b, .int .i64 c, .int .i64 n] 26))
  have B0 := Lib.hid (Blk.new w [.int .i64 op, .int .i64 (a : Int), .int .i64 b, .int .i64 c, .int .i64 n] 26)
  have hlt := h.lt
  clear h
  have ha0 : (0 : Int) ≤ (a : Int) := by omega
  have ha1 : (a : Int) < 16 := by omega
  go_enter Try.func46, Try.ntmps46
  go_upto_region 1 with fail
  generalize w.alloc (.cells #[.int .i64 op, .int .i64 (a : Int), .int .i64 b, .int .i64 c, .int .i64 n] 26) = w0 at *
  generalize w.heap.size = bi at *
  have i0 := B0.out.cell 0
  have i1 := B0.out.cell 1
  have i2 := B0.out.cell 2
  have i3 := B0.out.cell 3
  have i4 := B0.out.cell 4
  simp only [List.getElem?_cons_zero, List.getElem?_cons_succ] at i0 i1 i2 i3 i4
  have hpb : ¬ p = bi := fun e => by omega
  have hbb : ¬ bb = bi := fun e => by omega
  have za := M0.out.frozen (2 + a)
  have ra := M0.out.creg ha
  go_region
  have M1 := Lib.hid ((M0.out.setReg ha (-1)).drew)
  have K1 := Lib.hid ((set_kp (p := p) N0.out (2 + a) (.int .i64 (-1))).drew)
  have B1 := Lib.hid ((B0.out.setOther (a := ⟨p, 2 + a, none⟩) (fun e => hpb e.symm) (.int .i64 (-1))).drew)
  have CB1 := Lib.hid (((set_kp (p := p) (Nw.refl w0) (2 + a) (.int .i64 (-1))).drew).keeps CB.out hne)
  clear i0 i1 i2 i3 i4 za ra
  generalize (w0.setCell ⟨p, 2 + a, none⟩ (.int .i64 (-1))).drew = w1 at *
  have i1 := B1.out.cell 1
  simp only [List.getElem?_cons_zero, List.getElem?_cons_succ] at i1
  have f19 := M1.out.c19
  dsimp only at f19
  rw [hv] at f19
  have HV := Lib.hid hv
  clear hv
  have cb1 := CB1.out
  have za := M1.out.frozen (2 + a)
  have ra := M1.out.creg ha
  generalize Mc.get _ a = va at ra
  have hyr : (0 : Int) ≤ (y.toNat : Int) ∧ (y.toNat : Int) < 256 := ⟨by omega, by have := y.toNat_lt; omega⟩
  obtain ⟨hy0, hy1⟩ := hyr
  generalize hyv : (y.toNat : Int) = yv at *
  have hwl : IntKind.i64.wrap ((rn : Int) + 1) = (rn : Int) + 1 := IntWalk.i64_in _ (by have := HMX.out; unfold maxLen at this; omega)
  have hwy : IntKind.i64.wrap yv = yv := IntWalk.i64_in _ (by omega)
  have hr0 : (0 : Int) ≤ (rn : Int) := by omega
  go_wp2_with fail
  go_region
  have M2 := Lib.hid ((M1.out.setReg ha yv).drew)
  have K2 := Lib.hid ((kp_set (p := p) K1.out (2 + a) (.int .i64 yv)).drew)
  generalize (w1.setCell ⟨p, 2 + a, none⟩ (.int .i64 yv)).drew = w2 at *
  have g19 := M2.out.c19
  have z19 := M2.out.frozen 19
  dsimp only at g19
  rw [HV.out] at g19
  clear f19 cb1 za ra i1 hwy
  by_cases hcp : cp = 1
  · subst hcp
    obtain rfl : rn = 0 := by omega
    have HR := Lib.hid (show r = [] from List.eq_nil_of_length_eq_zero HRN.out.symm)
    go_wp2_with fail
    go_returns
    have M3 := M2.out.setVi (.slice (some ⟨bb, oo, none⟩) 0 0)
    dsimp only at M3
    rw [List.set_set] at M3
    exact FIN.out _ oo 0 M3 (kp_set K2.out 19 _) rfl (fun h => absurd HR.out h)
  · obtain ⟨c2, rfl⟩ : ∃ c2, cp = c2 + 1 := ⟨cp - 1, by omega⟩
    have hc2 : ¬ c2 = 0 := by omega
    have hr2 : rn ≤ c2 := by omega
    go_wp2_with fail
    go_returns
    have M3 := M2.out.setVi (.slice (some ⟨bb, oo + 1, none⟩) rn c2)
    dsimp only at M3
    rw [List.set_set] at M3
    exact FIN.out _ (oo + 1) c2 M3 (kp_set K2.out 19 _) rfl (fun _ => rfl)
set_option maxRecDepth 100000 in
set_option maxHeartbeats 1000000 in
theorem write_full (w : World) (p : Nat) (m : Mc) (h : McAt w p m) (a : Nat) (ha : a < 16) (op b c n : Int) {x : Option Addr} {k cp : Nat} (hv : m.vo = .slice x k cp) (hk : 4096 ≤ k) (hk2 : k ≤ 5000) :
    Calls Try.prog 47 #[.pointer (some ⟨p, 0, none⟩), .agg #[.int .i64 op, .int .i64 (a : Int), .int .i64 b, .int .i64 c, .int .i64 n]] w (OpP w p m) := by
  have N0 := Lib.hid (Nw.new w (.cells #[.int .i64 op, .int .i64 (a : Int), .int .i64 b, .int .i64 c, .int .i64 n] 26))
  have M0 := Lib.hid (h.alloc (.cells #[.int .i64 op, .int .i64 (a : Int), .int .i64 b, .int .i64 c, .int .i64 n] 26))
  have B0 := Lib.hid (Blk.new w [.int .i64 op, .int .i64 (a : Int), .int .i64 b, .int .i64 c, .int .i64 n] 26)
  have hlt := h.lt
  clear h
  have ha0 : (0 : Int) ≤ (a : Int) := by omega
  have ha1 : (a : Int) < 16 := by omega
  have hwk : IntKind.i64.wrap ((k : Nat) : Int) = k := IntWalk.i64_in _ (by omega)
  have hk3 : (4096 : Int) ≤ (k : Int) := by omega
  go_enter Try.func47, Try.ntmps47
  go_upto_region 1 with fail
  generalize w.alloc (.cells #[.int .i64 op, .int .i64 (a : Int), .int .i64 b, .int .i64 c, .int .i64 n] 26) = w0 at *
  generalize w.heap.size = bi at *
  have f20 := M0.out.c20
  rw [hv] at f20
  clear hv
  go_wp2_with fail
  go_returns
  exact ⟨rfl, M0.out, kpp N0.out⟩
set_option maxRecDepth 100000 in
set_option maxHeartbeats 1000000 in
theorem write_ok (w : World) (p : Nat) (m : Mc) (h : McAt w p m) (a : Nat) (ha : a < 16) (op b c n : Int) {B : Nat} (hB : B ≤ w.heap.size) {out : List UInt8} (ho : w.ownsRow B 5 1 m.vo out.length (byteV out)) (hl : out.length < 4096) (hne : m.vo.ownBlock ≠ some p) :
    Calls Try.prog 47 #[.pointer (some ⟨p, 0, none⟩), .agg #[.int .i64 op, .int .i64 (a : Int), .int .i64 b, .int .i64 c, .int .i64 n]] w (WriteP B w p m (out ++ [byteOf (m.get a)])) := by
  obtain ⟨i0', hi, hz0, hz1, hz2⟩ := info_parts u8info
  obtain ⟨x, cp, hvo⟩ := own_slice ho
  rw [hvo] at ho
  have HNE := Lib.hid hne
  have HVO := Lib.hid hvo
  have hfar : ∀ g, m.vo.ownBlock = some g → g < w.heap.size := fun g hg => (ho.lt g (by rw [← hvo]; exact hg)).2
  have HFAR := Lib.hid hfar
  have HO := Lib.hid ho
  have MW := Lib.hid h
  clear hne ho hfar
  have N0 := Lib.hid (Nw.new w (.cells #[.int .i64 op, .int .i64 (a : Int), .int .i64 b, .int .i64 c, .int .i64 n] 26))
  have M0 := Lib.hid (h.alloc (.cells #[.int .i64 op, .int .i64 (a : Int), .int .i64 b, .int .i64 c, .int .i64 n] 26))
  have B0 := Lib.hid (Blk.new w [.int .i64 op, .int .i64 (a : Int), .int .i64 b, .int .i64 c, .int .i64 n] 26)
  have hlt := h.lt
  clear h
  have ha0 : (0 : Int) ≤ (a : Int) := by omega
  have ha1 : (a : Int) < 16 := by omega
  have hB1 := Nat.le_trans hB N0.out.size
  clear hB
  obtain ⟨k, hk⟩ : ∃ k, k = out.length := ⟨_, rfl⟩
  rw [← hk] at HO hl hvo
  have HK := Lib.hid hk
  clear hk
  have hwk : IntKind.i64.wrap ((k : Nat) : Int) = k := IntWalk.i64_in _ (by omega)
  have hk3 : (k : Int) < 4096 := by omega
  have H63 := Lib.hid (show k + 1 ≤ maxLen by unfold maxLen; omega)
  have HBY := Lib.hid (show (k + 1) * 1 ≤ 140737488355328 by omega)
  go_enter Try.func47, Try.ntmps47
  go_upto_region 1 with fail
  generalize w.alloc (.cells #[.int .i64 op, .int .i64 (a : Int), .int .i64 b, .int .i64 c, .int .i64 n] 26) = w0 at *
  generalize w.heap.size = bi at *
  have i0 := B0.out.cell 0
  have i1 := B0.out.cell 1
  have i2 := B0.out.cell 2
  have i3 := B0.out.cell 3
  have i4 := B0.out.cell 4
  simp only [List.getElem?_cons_zero, List.getElem?_cons_succ] at i0 i1 i2 i3 i4
  have hpb : ¬ p = bi := fun e => by omega
  have f20 := M0.out.c20
  rw [hvo] at f20
  have ra := M0.out.creg ha
  have zo := M0.out.frozen 20
  generalize hva : m.get a = va at *
  have HVA := Lib.hid hva
  clear hva hvo
  go_wp2_with fail
  obtain ⟨yv, hyv⟩ : ∃ yv, IntKind.u8.wrap va = yv := ⟨_, rfl⟩
  have HY := Lib.hid (show byteV (out ++ [byteOf va]) = byteV out ++ [.int .u8 yv] by
    rw [byteV_append]
    simp only [byteV, List.map_cons, List.map_nil, byteOf_nat]
    rw [← hyv]
    simp [IntKind.wrap_u8])
  have N1 := Lib.hid ((N0.out.alloc (.cells #[.int .u8 yv] 5)).drew)
  have HOW := Lib.hid (own_kp HO.out N1.out (fun _ _ x => x))
  have HN1 := Lib.hid (show ∀ (i : Nat) u, [Value.int .u8 yv][i]? = some u → (w0.alloc (.cells #[.int .u8 yv] 5)).drew.cell? ((⟨w0.heap.size, 0, none⟩ : Addr).add i) = some u from cell_one_new _ _ _)
  have HN2 := Lib.hid (show ∀ u ∈ [Value.int .u8 yv], u.oneCell' = true from by intro u hu; simp at hu; subst hu; rfl)
  have HB := Lib.hid (show B ≤ (w0.alloc (.cells #[.int .u8 yv] 5)).drew.heap.size from Nat.le_trans hB1 (((Nw.refl w0).alloc (.cells #[.int .u8 yv] 5)).drew.size))
  have SZ := Lib.hid (show p < (w0.alloc (.cells #[.int .u8 yv] 5)).drew.heap.size from Nat.lt_of_lt_of_le MW.out.lt N1.out.size)
  have SW := Lib.hid (show w.heap.size ≤ (w0.alloc (.cells #[.int .u8 yv] 5)).drew.heap.size from N1.out.size)
  have FIN := Lib.hid (fun (g c' : Nat) (w1 : World) (ho : w1.ownsRow B 5 1 (.slice (some ⟨g, 0, none⟩) (k + 1) c') (k + 1) (byteV out ++ [.int .u8 yv]))
      (hg : (w0.alloc (.cells #[.int .u8 yv] 5)).drew.grownBy w1 (Value.slice x k cp).ownBlock) (hl : (Value.slice x k cp).ownBlock = some g ∨ g = (w0.alloc (.cells #[.int .u8 yv] 5)).drew.heap.size) =>
    (show McAt w1 p m ∧ WriteP B w p m (out ++ [byteOf va]) (.returned (.tuple #[])) (w1.setCell ⟨p, 20, none⟩ (.slice (some ⟨g, 0, none⟩) (k + 1) c')) by
      have hk : Kp (fun x => m.vo.ownBlock = some x) w w1 := Kp.grown (S := fun x => m.vo.ownBlock = some x) (N1.out.mono (fun _ _ x => x.elim)) hg (fun j hj _ => by rw [HVO.out, ← HK.out]; exact hj)
      have hgp : g ≠ p := by
        rcases hl with hl | hl
        · intro e; subst e; apply HNE.out; rw [HVO.out, ← HK.out]; exact hl
        · have := SZ.out; omega
      refine ⟨MW.out.kp hk HNE.out, rfl, _, (MW.out.kp hk HNE.out).setVo _, ?_, ?_, ?_, ?_⟩
      · rw [HY.out, show (out ++ [byteOf va]).length = k + 1 by rw [List.length_append, ← HK.out]; rfl]
        exact own_kp ho (set_kp (p := p) (Nw.refl w1) 20 _) (fun j hj e => hgp (by have : some g = some j := hj; injection this with h2; omega))
      · exact Kp.setCell (S := fun x => x = p ∨ m.vo.ownBlock = some x) (hk.mono (fun _ _ x => .inr x)) (p := ⟨p, 20, none⟩) (fun _ => .inl rfl) _
      · intro j hj
        have hj2 : some g = some j := hj
        injection hj2 with hj2
        subst hj2
        rcases hl with hl | hl
        · left; rw [HVO.out, ← HK.out]; exact hl
        · right; have := SW.out; omega
      · intro e
        have e2 : some g = some p := e
        injection e2 with e2
        exact hgp e2))
  have f20a := (Nw.new w0 (.cells #[.int .u8 yv] 5)).keeps f20
  clear hB1
  go_region_law (refine step_append_lies _ rfl (.tmp 14) (.tmp 23) 35 rfl B 5 i0' (.int .u8 0) 1 1 Try.underlying35 hi hz0 hz1 hz2 rfl (by decide) _ _ _ rfl HOW.out ⟨w0.heap.size, 0, none⟩ 1 1 _ (by simp [Act.eval, Act.put, hyv]) rfl HN1.out HN2.out (by decide) H63.out HBY.out HB.out _ rfl ?_; intro g c' w1 ho' hg' hl' hlt'; obtain ⟨m1, f1⟩ := FIN.out g c' w1 ho' hg' hl'; have F1 := Lib.hid f1; have y20 := m1.c20; have zz20 := m1.frozen 20; rw [HVO.out] at y20; clear f1 m1 ho' hg' hl' hlt')
  all_goals
    go_wp2_with fail
    go_returns
    exact F1.out
end Go.Proofs.Ythlcoocboidnlaa
