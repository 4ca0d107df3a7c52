/- What the program's Encode and Hash return for any unit. -/
import Derived.Test.YtpopgnengimieaaShallow
import Derived.Test.YtpopgnengimieaaSum
namespace Go.Proofs.Ytpopgnengimieaa
open Go.RowKit

/-- the bytes of a unit, its sum behind them -/
def encB (u : Un) : List UInt8 := encUn u ++ le8 (fnv (encUn u))
/-- the error's number -/
def codeU (u : Un) : Int := if fitUn u = true then (if (encB u).length ≤ 262144 then 0 else 2) else 3
/-- what is handed back: a new row of bytes, or nothing -/
def BytesNew (w w' : World) (a : Option Addr) (n c : Nat) (l : List UInt8) : Prop :=
  n = l.length ∧ w'.ownsRow 0 5 1 (.slice a n c) n (byteV l) ∧ ∀ g, (Value.slice a n c).ownBlock = some g → w.heap.size ≤ g
def EncPost (w : World) (u : Un) (e : Ending) (w' : World) : Prop :=
  ∃ a n c, e = .returned (.tuple #[.slice a n c, .int .i64 (codeU u)]) ∧ Nw w w' ∧ BytesNew w w' a n c (if codeU u = 0 then encB u else [])
theorem ownsNil (w : World) (e : TypeId) (size : Nat) : w.ownsRow 0 e size (.slice none 0 0) 0 [] := World.ownsRow_nil w 0 e size
theorem fin_st (u : Un) (bs : List UInt8) (h : ∀ x, wput (some []) (encUn u) = some x → bs = x) :
    wput (wput (some []) (encUn u)) (le8 (fnv bs)) = if (encB u).length ≤ 262144 then some (encB u) else none := by
  by_cases hl : (encUn u).length ≤ 262144
  · have e : wput (some []) (encUn u) = some (encUn u) := by simp [wput, hl]
    have hb := h _ e
    subst hb
    rw [e]
    simp only [wput, encB, List.length_append]
  · have e : wput (some []) (encUn u) = none := by simp only [wput, List.length_nil, Nat.zero_add]; rw [if_neg hl]
    rw [e, wput_none, if_neg]
    simp only [encB, List.length_append]; omega
theorem encUn_eq (u : Un) : wput (wput (wput (wput (wput (some []) [77, 85, 49, 10]) (encS u.pkg)) (encL encIm u.imports)) (encL encDe u.decls)) (encL encFn u.bodies) = wput (some []) (encUn u) := by
  simp only [encUn, ← wput_wput]

set_option maxRecDepth 100000 in
set_option maxHeartbeats 1000000 in
theorem encode_deep {B : Nat} {W : World} (d : Nat) (u : Un) (cs : List Value) (w : World) (hx : UnAt B W d u cs) (h : In B W w)
    (hf : fitUn u = false) :
    Calls Try.prog 13 #[.agg cs.toArray] w (EncPost w u) := by
  have SH := Lib.hid (shallow_any d u cs (w.alloc (.cells cs.toArray 30)) hx (h.alloc _))
  obtain ⟨vi, vd, vb, rfl, hp, hi, hd, hb⟩ := hx
  obtain ⟨x1, m1, c1, rfl⟩ := hi.slice
  obtain ⟨x2, m2, c2, rfl⟩ := hd.slice
  obtain ⟨x3, m3, c3, rfl⟩ := hb.slice
  obtain ⟨pk, is, ds, bs⟩ := u
  have HC := Lib.hid (show codeU ⟨pk, is, ds, bs⟩ = 3 by simp [codeU, hf])
  have HFU := Lib.hid hf
  have HP := Lib.hid hp
  have HI := Lib.hid hi
  have HD := Lib.hid hd
  have HB := Lib.hid hb
  have G := Lib.hid h
  have BX := Lib.hid (Blk.new w [.string pk, .slice x1 m1 c1, .slice x2 m2 c2, .slice x3 m3 c3] 30)
  have N0 := Lib.hid (Nw.new w (.cells #[.string pk, .slice x1 m1 c1, .slice x2 m2 c2, .slice x3 m3 c3] 30))
  
  clear hf hp hi hd hb h
  go_enter Try.func13, Try.ntmps13
  go_wp2_with fail
  refine SH.out.mono ?_
  rintro e1 w1 ⟨rfl, k1⟩
  rw [HFU.out]
  have K1 := Lib.hid (N0.out.trans k1)
  have BX1 := Lib.hid (BX.out.nw k1)
  clear k1
  go_wp2_with fail
  go_returns
  exact ⟨none, 0, 0, by rw [HC.out]; rfl, K1.out, by rw [if_neg (by rw [HC.out]; decide)]; exact ⟨rfl, ownsNil _ _ _, fun g hg => by cases hg⟩⟩

set_option maxRecDepth 100000 in
set_option maxHeartbeats 1000000 in
theorem encode_fits {B : Nat} {W : World} (d : Nat) (u : Un) (cs : List Value) (w : World) (hx : UnAt B W d u cs) (h : In B W w)
    (hf : fitUn u = true) (hl : (encB u).length ≤ 262144) :
    Calls Try.prog 13 #[.agg cs.toArray] w (EncPost w u) := by
  have SH := Lib.hid (shallow_any d u cs (w.alloc (.cells cs.toArray 30)) hx (h.alloc _))
  obtain ⟨vi, vd, vb, rfl, hp, hi, hd, hb⟩ := hx
  obtain ⟨x1, m1, c1, rfl⟩ := hi.slice
  obtain ⟨x2, m2, c2, rfl⟩ := hd.slice
  obtain ⟨x3, m3, c3, rfl⟩ := hb.slice
  obtain ⟨pk, is, ds, bs⟩ := u
  have HC := Lib.hid (show codeU ⟨pk, is, ds, bs⟩ = 0 by simp [codeU, hf, hl])
  have HFU := Lib.hid hf
  have HP := Lib.hid hp
  have HI := Lib.hid hi
  have HD := Lib.hid hd
  have HB := Lib.hid hb
  have G := Lib.hid h
  have BX := Lib.hid (Blk.new w [.string pk, .slice x1 m1 c1, .slice x2 m2 c2, .slice x3 m3 c3] 30)
  have N0 := Lib.hid (Nw.new w (.cells #[.string pk, .slice x1 m1 c1, .slice x2 m2 c2, .slice x3 m3 c3] 30))
  have HL := Lib.hid hl
  clear hf hp hi hd hb h hl
  go_enter Try.func13, Try.ntmps13
  go_wp2_with fail
  refine SH.out.mono ?_
  rintro e1 w1 ⟨rfl, k1⟩
  rw [HFU.out]
  have K1 := Lib.hid (N0.out.trans k1)
  have BX1 := Lib.hid (BX.out.nw k1)
  clear k1
  go_wp2_with fail
  have IN1 := Lib.hid (G.out.nw K1.out)
  have hsz := K1.out.size
  have WR : WrIn B W (w1.alloc (.cells #[.slice none 0 0, .bool false] 54)) w1.heap.size none (some []) :=
    ⟨⟨none, 0, [], Blk.new w1 [.slice none 0 0, .bool false] _, ownsNil _ _ _, rfl, by simp, by simp, fun x hx => by cases hx; rfl⟩, (IN1.out.alloc _).bel, IN1.out.le, fun k hk => by cases hk⟩
  have hbx : w.heap.size < w1.heap.size := BX1.out.lt
  have L0 := Lib.hid (show Loc (w1.alloc (.cells #[.slice none 0 0, .bool false] 54)) w1.heap.size none w.heap.size [.string pk, .slice x1 m1 c1, .slice x2 m2 c2, .slice x3 m3 c3] 30 from
    ⟨BX1.out.alloc _, by omega, by simp⟩)
  have G0 := Lib.hid WR
  have C0 := Lib.hid (show Kp (fun b => b = w1.heap.size ∨ some b = none) (w1.alloc (.cells #[.slice none 0 0, .bool false] 54)) (w1.alloc (.cells #[.slice none 0 0, .bool false] 54)) ∧ ∀ k, (none : Option Nat) = some k → (none : Option Nat) = some k ∨ (w1.alloc (.cells #[.slice none 0 0, .bool false] 54)).heap.size ≤ k from ⟨Kp.refl _ _, fun k hk => by cases hk⟩)
  have HBX := Lib.hid hbx
  have HSZ := Lib.hid hsz
  clear WR hbx hsz
  refine (wbytes_in G0.out ⟨#[77, 85, 49, 10]⟩ (by unfold Fits; decide)).mono ?_
  rintro e2 w2 ⟨rfl, ob1, g1, k1, o1⟩
  have C1 := Lib.hid (chain C0.out.1 C0.out.2 k1 o1)
  have L1 := Lib.hid (L0.out.next k1 o1)
  have c1 := L1.out.blk.cell
  have G1 := Lib.hid g1
  clear g1 k1 o1
  go_wp2_with fail
  refine (wtext_in G1.out _ HP.out).mono ?_
  rintro e3 w3 ⟨rfl, ob2, g2, k2, o2⟩
  have C2 := Lib.hid (chain C1.out.1 C1.out.2 k2 o2)
  have L2 := Lib.hid (L1.out.next k2 o2)
  have c2 := L2.out.blk.cell
  have G2 := Lib.hid g2
  clear g2 k2 o2 c1
  go_wp2_with fail
  refine (puts_im wimported _ _ _ _ _ _ HI.out G2.out).mono ?_
  rintro e4 w4 ⟨rfl, ob3, g3, k3, o3⟩
  have C3 := Lib.hid (chain C2.out.1 C2.out.2 k3 o3)
  have L3 := Lib.hid (L2.out.next k3 o3)
  have c3 := L3.out.blk.cell
  have G3 := Lib.hid g3
  clear g3 k3 o3 c2
  go_wp2_with fail
  refine (puts_de (wdecl d) _ _ _ _ _ _ HD.out G3.out).mono ?_
  rintro e5 w5 ⟨rfl, ob4, g4, k4, o4⟩
  have C4 := Lib.hid (chain C3.out.1 C3.out.2 k4 o4)
  have L4 := Lib.hid (L3.out.next k4 o4)
  have c4 := L4.out.blk.cell
  have G4 := Lib.hid g4
  clear g4 k4 o4 c3
  go_wp2_with fail
  refine (puts_fn (wfunction d) _ _ _ _ _ _ HB.out G4.out).mono ?_
  rintro e6 w6 ⟨rfl, ob5, g5, k5, o5⟩
  have C5 := Lib.hid (chain C4.out.1 C4.out.2 k5 o5)
  have L5 := Lib.hid (L4.out.next k5 o5)
  have c5 := L5.out.blk.cell
  have G5 := Lib.hid g5
  clear g5 k5 o5 c4
  have g := G5.out.at_
  obtain ⟨ax, cx, bx, hbk, how, hob, hne, hlen, hst⟩ := g
  have p0 : w6.cell? ⟨w1.heap.size, 0, none⟩ = some (.slice ax bx.length cx) := by rw [hbk.cell]; rfl
  have HS := Lib.hid (sum_any w6 (.slice ax bx.length cx) bx (own_bytesAt how))
  have FS := Lib.hid (fin_st ⟨pk, is, ds, bs⟩ bx (fun x hx => hst x (by rw [← hx]; exact encUn_eq ⟨pk, is, ds, bs⟩)))
  clear hbk how hob hne hlen hst
  go_wp2_with fail
  refine HS.out.mono ?_
  rintro e7 w7 ⟨rfl, rfl⟩
  go_wp2_with fail
  refine (wnum_in G5.out _).mono ?_
  rintro e8 w8 ⟨rfl, ob6, g6, k6, o6⟩
  have C6 := Lib.hid (chain C5.out.1 C5.out.2 k6 o6)
  have hg6 : WrAt w8 w1.heap.size ob6 (if (encB ⟨pk, is, ds, bs⟩).length ≤ 262144 then some (encB ⟨pk, is, ds, bs⟩) else none) := by
    rw [← FS.out, ← encUn_eq]; exact g6.at_
  rw [if_pos HL.out] at hg6
  obtain ⟨ay, cy, bsy, hbk, how, hob, hne, hlen, hst⟩ := hg6
  have q0 : w8.cell? ⟨w1.heap.size, 0, none⟩ = some (.slice ay bsy.length cy) := by rw [hbk.cell]; rfl
  have q1 : w8.cell? ⟨w1.heap.size, 1, none⟩ = some (.bool false) := by rw [hbk.cell]; rfl
  have NW := Lib.hid (show Nw w w8 from (Kp.trans (K1.out.alloc _) C6.out.1 (by
    rintro x hx (e | e)
    · have := HSZ.out; omega
    · cases e)))
  have OB := Lib.hid (show ∀ g, ob6 = some g → w.heap.size ≤ g from fun g hg => by
    rcases C6.out.2 g hg with e | e
    · cases e
    · have := HSZ.out; simp at e; omega)
  have HOW := Lib.hid how
  have HOB := Lib.hid hob
  have HST := Lib.hid hst
  clear how hob hst hbk hne hlen g6 k6 o6 p0 c5
  go_wp2_with fail
  go_returns
  have e := HST.out _ rfl
  subst e
  exact ⟨ay, _, cy, by rw [HC.out]; rfl, NW.out, by rw [if_pos HC.out]; exact ⟨rfl, HOW.out, fun g hg => OB.out g (by rw [← HOB.out]; exact hg)⟩⟩

set_option maxRecDepth 100000 in
set_option maxHeartbeats 1000000 in
theorem encode_long {B : Nat} {W : World} (d : Nat) (u : Un) (cs : List Value) (w : World) (hx : UnAt B W d u cs) (h : In B W w)
    (hf : fitUn u = true) (hl : ¬ (encB u).length ≤ 262144) :
    Calls Try.prog 13 #[.agg cs.toArray] w (EncPost w u) := by
  have SH := Lib.hid (shallow_any d u cs (w.alloc (.cells cs.toArray 30)) hx (h.alloc _))
  obtain ⟨vi, vd, vb, rfl, hp, hi, hd, hb⟩ := hx
  obtain ⟨x1, m1, c1, rfl⟩ := hi.slice
  obtain ⟨x2, m2, c2, rfl⟩ := hd.slice
  obtain ⟨x3, m3, c3, rfl⟩ := hb.slice
  obtain ⟨pk, is, ds, bs⟩ := u
  have HC := Lib.hid (show codeU ⟨pk, is, ds, bs⟩ = 2 by simp [codeU, hf, hl])
  have HFU := Lib.hid hf
  have HP := Lib.hid hp
  have HI := Lib.hid hi
  have HD := Lib.hid hd
  have HB := Lib.hid hb
  have G := Lib.hid h
  have BX := Lib.hid (Blk.new w [.string pk, .slice x1 m1 c1, .slice x2 m2 c2, .slice x3 m3 c3] 30)
  have N0 := Lib.hid (Nw.new w (.cells #[.string pk, .slice x1 m1 c1, .slice x2 m2 c2, .slice x3 m3 c3] 30))
  have HL := Lib.hid hl
  clear hf hp hi hd hb h hl
  go_enter Try.func13, Try.ntmps13
  go_wp2_with fail
  refine SH.out.mono ?_
  rintro e1 w1 ⟨rfl, k1⟩
  rw [HFU.out]
  have K1 := Lib.hid (N0.out.trans k1)
  have BX1 := Lib.hid (BX.out.nw k1)
  clear k1
  go_wp2_with fail
  have IN1 := Lib.hid (G.out.nw K1.out)
  have hsz := K1.out.size
  have WR : WrIn B W (w1.alloc (.cells #[.slice none 0 0, .bool false] 54)) w1.heap.size none (some []) :=
    ⟨⟨none, 0, [], Blk.new w1 [.slice none 0 0, .bool false] _, ownsNil _ _ _, rfl, by simp, by simp, fun x hx => by cases hx; rfl⟩, (IN1.out.alloc _).bel, IN1.out.le, fun k hk => by cases hk⟩
  have hbx : w.heap.size < w1.heap.size := BX1.out.lt
  have L0 := Lib.hid (show Loc (w1.alloc (.cells #[.slice none 0 0, .bool false] 54)) w1.heap.size none w.heap.size [.string pk, .slice x1 m1 c1, .slice x2 m2 c2, .slice x3 m3 c3] 30 from
    ⟨BX1.out.alloc _, by omega, by simp⟩)
  have G0 := Lib.hid WR
  have C0 := Lib.hid (show Kp (fun b => b = w1.heap.size ∨ some b = none) (w1.alloc (.cells #[.slice none 0 0, .bool false] 54)) (w1.alloc (.cells #[.slice none 0 0, .bool false] 54)) ∧ ∀ k, (none : Option Nat) = some k → (none : Option Nat) = some k ∨ (w1.alloc (.cells #[.slice none 0 0, .bool false] 54)).heap.size ≤ k from ⟨Kp.refl _ _, fun k hk => by cases hk⟩)
  have HBX := Lib.hid hbx
  have HSZ := Lib.hid hsz
  clear WR hbx hsz
  refine (wbytes_in G0.out ⟨#[77, 85, 49, 10]⟩ (by unfold Fits; decide)).mono ?_
  rintro e2 w2 ⟨rfl, ob1, g1, k1, o1⟩
  have C1 := Lib.hid (chain C0.out.1 C0.out.2 k1 o1)
  have L1 := Lib.hid (L0.out.next k1 o1)
  have c1 := L1.out.blk.cell
  have G1 := Lib.hid g1
  clear g1 k1 o1
  go_wp2_with fail
  refine (wtext_in G1.out _ HP.out).mono ?_
  rintro e3 w3 ⟨rfl, ob2, g2, k2, o2⟩
  have C2 := Lib.hid (chain C1.out.1 C1.out.2 k2 o2)
  have L2 := Lib.hid (L1.out.next k2 o2)
  have c2 := L2.out.blk.cell
  have G2 := Lib.hid g2
  clear g2 k2 o2 c1
  go_wp2_with fail
  refine (puts_im wimported _ _ _ _ _ _ HI.out G2.out).mono ?_
  rintro e4 w4 ⟨rfl, ob3, g3, k3, o3⟩
  have C3 := Lib.hid (chain C2.out.1 C2.out.2 k3 o3)
  have L3 := Lib.hid (L2.out.next k3 o3)
  have c3 := L3.out.blk.cell
  have G3 := Lib.hid g3
  clear g3 k3 o3 c2
  go_wp2_with fail
  refine (puts_de (wdecl d) _ _ _ _ _ _ HD.out G3.out).mono ?_
  rintro e5 w5 ⟨rfl, ob4, g4, k4, o4⟩
  have C4 := Lib.hid (chain C3.out.1 C3.out.2 k4 o4)
  have L4 := Lib.hid (L3.out.next k4 o4)
  have c4 := L4.out.blk.cell
  have G4 := Lib.hid g4
  clear g4 k4 o4 c3
  go_wp2_with fail
  refine (puts_fn (wfunction d) _ _ _ _ _ _ HB.out G4.out).mono ?_
  rintro e6 w6 ⟨rfl, ob5, g5, k5, o5⟩
  have C5 := Lib.hid (chain C4.out.1 C4.out.2 k5 o5)
  have L5 := Lib.hid (L4.out.next k5 o5)
  have c5 := L5.out.blk.cell
  have G5 := Lib.hid g5
  clear g5 k5 o5 c4
  have g := G5.out.at_
  obtain ⟨ax, cx, bx, hbk, how, hob, hne, hlen, hst⟩ := g
  have p0 : w6.cell? ⟨w1.heap.size, 0, none⟩ = some (.slice ax bx.length cx) := by rw [hbk.cell]; rfl
  have HS := Lib.hid (sum_any w6 (.slice ax bx.length cx) bx (own_bytesAt how))
  have FS := Lib.hid (fin_st ⟨pk, is, ds, bs⟩ bx (fun x hx => hst x (by rw [← hx]; exact encUn_eq ⟨pk, is, ds, bs⟩)))
  clear hbk how hob hne hlen hst
  go_wp2_with fail
  refine HS.out.mono ?_
  rintro e7 w7 ⟨rfl, rfl⟩
  go_wp2_with fail
  refine (wnum_in G5.out _).mono ?_
  rintro e8 w8 ⟨rfl, ob6, g6, k6, o6⟩
  have C6 := Lib.hid (chain C5.out.1 C5.out.2 k6 o6)
  have hg6 : WrAt w8 w1.heap.size ob6 (if (encB ⟨pk, is, ds, bs⟩).length ≤ 262144 then some (encB ⟨pk, is, ds, bs⟩) else none) := by
    rw [← FS.out, ← encUn_eq]; exact g6.at_
  rw [if_neg HL.out] at hg6
  obtain ⟨ay, cy, bsy, hbk, how, hob, hne, hlen, hst⟩ := hg6
  have q0 : w8.cell? ⟨w1.heap.size, 0, none⟩ = some (.slice ay bsy.length cy) := by rw [hbk.cell]; rfl
  have q1 : w8.cell? ⟨w1.heap.size, 1, none⟩ = some (.bool true) := by rw [hbk.cell]; rfl
  have NW := Lib.hid (show Nw w w8 from (Kp.trans (K1.out.alloc _) C6.out.1 (by
    rintro x hx (e | e)
    · have := HSZ.out; omega
    · cases e)))
  have OB := Lib.hid (show ∀ g, ob6 = some g → w.heap.size ≤ g from fun g hg => by
    rcases C6.out.2 g hg with e | e
    · cases e
    · have := HSZ.out; simp at e; omega)
  have HOW := Lib.hid how
  have HOB := Lib.hid hob
  have HST := Lib.hid hst
  clear how hob hst hbk hne hlen g6 k6 o6 p0 c5
  go_wp2_with fail
  go_returns
  exact ⟨none, 0, 0, by rw [HC.out]; rfl, NW.out, by rw [if_neg (by rw [HC.out]; decide)]; exact ⟨rfl, ownsNil _ _ _, fun g hg => by cases hg⟩⟩

theorem encode_any {B : Nat} {W : World} (d : Nat) (u : Un) (cs : List Value) (w : World) (hx : UnAt B W d u cs) (h : In B W w) :
    Calls Try.prog 13 #[.agg cs.toArray] w (EncPost w u) := by
  cases hf : fitUn u with
  | false => exact encode_deep d u cs w hx h hf
  | true =>
    by_cases hl : (encB u).length ≤ 262144
    · exact encode_fits d u cs w hx h hf hl
    · exact encode_long d u cs w hx h hf hl
end Go.Proofs.Ytpopgnengimieaa
