/- What the program's Encode returns for any object. -/
import Derived.Test.YtfdjlicegfgodaaOW3
import Derived.Test.YtfdjlicegfgodaaValid2
import Derived.Test.YtfdjlicegfgodaaSum
namespace Go.Proofs.Ytfdjlicegfgodaa
open Go.RowKit
set_option linter.unusedSimpArgs false
set_option linter.unusedVariables false

def mkO (o : Ob) : List UInt8 := [77, 79, 49, 10] ++ encO o
/-- the bytes of an object, their sum behind them -/
def objB (o : Ob) : List UInt8 := mkO o ++ le8 (fnv (mkO o))
theorem objB_length (o : Ob) : (objB o).length = (encO o).length + 12 := by simp only [objB, mkO, List.length_append, le8_length, List.length_cons, List.length_nil]; omega
/-- the error's number -/
noncomputable def codeO (o : Ob) : Int := if codeV o = 0 then (if (objB o).length ≤ 262144 then 0 else 2) else codeV o
/-- what is handed back: a new row of bytes, or nothing -/
def BytesNew (w w' : World) (a : Option Addr) (n c : Nat) (l : List UInt8) : Prop :=
  n = l.length ∧ w'.ownsRow 0 5 1 (.slice a n c) n (byteV l) ∧ ∀ g, (Value.slice a n c).ownBlock = some g → w.heap.size ≤ g
def OEncPost (w : World) (o : Ob) (e : Ending) (w' : World) : Prop :=
  ∃ a n c, e = .returned (.tuple #[.slice a n c, .int .i64 (codeO o)]) ∧ Nw w w' ∧ BytesNew w w' a n c (if codeO o = 0 then objB o else [])
theorem ownsNil (w : World) (e : TypeId) (size : Nat) : w.ownsRow 0 e size (.slice none 0 0) 0 [] := World.ownsRow_nil w 0 e size
theorem codeV_ne {o : Ob} (h : ¬ codeV o = 0) : codeO o = codeV o ∧ ¬ codeO o = 0 := by
  have : codeO o = codeV o := by unfold codeO; rw [if_neg h]
  exact ⟨this, by rw [this]; exact h⟩

set_option maxRecDepth 100000 in
set_option maxHeartbeats 2000000 in
theorem oencode_any {B : Nat} {W w : World} (o : Ob) (cs : List Value) (hx : ObAt B W o cs) (h : In B W w) (hb : codeV o = 0 → (encO o).length ≤ 140737488300000) :
    Calls Try.prog 16 #[.agg cs.toArray] w (OEncPost w o) := by
  have HX := Lib.hid hx
  have HBN := Lib.hid hb
  clear hb
  obtain ⟨pk, hash, is, ss, rs, code, data⟩ := o
  obtain ⟨vi, vs, vr, vc, vd, rfl, hp, hh, hi, hs, hr, hc, hd⟩ := hx
  obtain ⟨x2, m2, c2, rfl⟩ := hi.slice
  obtain ⟨x3, m3, c3, rfl⟩ := hs.slice
  obtain ⟨x4, m4, c4, rfl⟩ := hr.slice
  obtain ⟨x5, m5, c5, rfl⟩ := hc.slice
  obtain ⟨x6, m6, c6, rfl⟩ := hd.slice
  clear hp hh hi hs hr hc hd
  dsimp only at HX ⊢
  generalize (⟨pk, hash, is, ss, rs, code, data⟩ : Ob) = o at *
  have G := Lib.hid h
  have N0 := Lib.hid (Nw.new w (.cells #[.string pk, .int .i64 hash, .slice x2 m2 c2, .slice x3 m3 c3, .slice x4 m4 c4, .slice x5 m5 c5, .slice x6 m6 c6] 27))
  have BX := Lib.hid (Blk.new w [.string pk, .int .i64 hash, .slice x2 m2 c2, .slice x3 m3 c3, .slice x4 m4 c4, .slice x5 m5 c5, .slice x6 m6 c6] 27)
  have VA := Lib.hid (valid_any (w := w.alloc (.cells #[.string pk, .int .i64 hash, .slice x2 m2 c2, .slice x3 m3 c3, .slice x4 m4 c4, .slice x5 m5 c5, .slice x6 m6 c6] 27)) o _ HX.out (h.alloc _))
  clear h
  go_enter Try.func16, Try.ntmps16
  go_upto_region 1 with fail
  have hw0 : w.heap.size < (w.alloc (.cells #[.string pk, .int .i64 hash, .slice x2 m2 c2, .slice x3 m3 c3, .slice x4 m4 c4, .slice x5 m5 c5, .slice x6 m6 c6] 27)).heap.size := by simp
  generalize w.alloc (.cells #[.string pk, .int .i64 hash, .slice x2 m2 c2, .slice x3 m3 c3, .slice x4 m4 c4, .slice x5 m5 c5, .slice x6 m6 c6] 27) = w0 at *
  have cO := BX.out.cell
  by_cases hv : codeV o = 0
  · have HV := Lib.hid hv
    go_wp2_with fail
    refine VA.out.mono ?_
    rintro e1 w1 ⟨rfl, k1⟩
    rw [HV.out]
    have N1 := Lib.hid (N0.out.trans k1)
    have BX1 := Lib.hid (BX.out.nw k1)
    have IN1 := Lib.hid (G.out.nw N1.out)
    have hsz : w.heap.size < w1.heap.size := Nat.lt_of_lt_of_le hw0 k1.size
    clear k1 hw0 cO hv VA
    go_upto_region 5 with fail
    have G0 := Lib.hid (show OwIn B W (w1.alloc (.cells #[.slice none 0 0] 74)) w1.heap.size none [] (4 + ((encO o).length + (8 + 0))) from
      ⟨⟨none, 0, Blk.new w1 [.slice none 0 0] _, ownsNil _ _ _, rfl, (by simp)⟩, (IN1.out.alloc _).bel, IN1.out.le, (fun k hk => by cases hk), (by have := HBN.out HV.out; simp only [List.length_nil]; omega)⟩)
    have L0 := Lib.hid (show Loc (w1.alloc (.cells #[.slice none 0 0] 74)) w1.heap.size none w.heap.size [.string pk, .int .i64 hash, .slice x2 m2 c2, .slice x3 m3 c3, .slice x4 m4 c4, .slice x5 m5 c5, .slice x6 m6 c6] 27 from ⟨BX1.out.alloc _, by omega, by simp⟩)
    have C0 := Lib.hid (show Kp (fun b => b = w1.heap.size ∨ some b = none) (w1.alloc (.cells #[.slice none 0 0] 74)) (w1.alloc (.cells #[.slice none 0 0] 74)) ∧ ∀ k, (none : Option Nat) = some k → (none : Option Nat) = some k ∨ (w1.alloc (.cells #[.slice none 0 0] 74)).heap.size ≤ k from ⟨Kp.refl _ _, fun k hk => by cases hk⟩)
    have N2 := Lib.hid (N1.out.alloc (.cells #[.slice none 0 0] 74))
    have hz2 : w1.heap.size < (w1.alloc (.cells #[.slice none 0 0] 74)).heap.size := by simp
    generalize w1.alloc (.cells #[.slice none 0 0] 74) = w2 at *
    generalize w1.heap.size = pw at *
    have HSZ := Lib.hid (show w.heap.size < pw ∧ pw < w2.heap.size from ⟨hsz, hz2⟩)
    clear hsz hz2 N1 BX1 IN1
    go_wp2_with fail
    refine (oraw_in (R := (encO o).length + (8 + 0)) ⟨#[77, 79, 49, 10]⟩ G0.out).mono ?_
    rintro e3 w3 ⟨rfl, ob3, g3, k3, o3⟩
    have C3 := Lib.hid (chain C0.out.1 C0.out.2 k3 o3)
    have L3 := Lib.hid (L0.out.next k3 o3)
    have cO := L3.out.blk.cell
    have G3 := Lib.hid g3
    clear g3 k3 o3
    go_wp2_with fail
    refine (oobject_in o _ HX.out G3.out).mono ?_
    rintro e4 w4 ⟨rfl, ob4, g4, k4, o4⟩
    have C4 := Lib.hid (chain C3.out.1 C3.out.2 k4 o4)
    have G4 := Lib.hid (g4.room_eq (bs' := mkO o) (R' := 8 + 0) rfl (Nat.le_refl _))
    clear g4 k4 o4 cO L3 L0 G0 C0 C3 G3
    obtain ⟨ax, cx, hbk, how, hob, hne⟩ := G4.out.raw
    have p0 : w4.cell? ⟨pw, 0, none⟩ = some (.slice ax (mkO o).length cx) := by rw [hbk.cell]; rfl
    have SM := Lib.hid (sum_any w4 (.slice ax (mkO o).length cx) (mkO o) (own_bytesAt how))
    clear hbk how hob hne
    generalize (mkO o).length = mk at p0 SM
    go_wp2_with fail
    refine SM.out.mono ?_
    rintro e5 w5 ⟨rfl, rfl⟩
    go_wp2_with fail
    refine (onum_in _ G4.out).mono ?_
    rintro e6 w6 ⟨rfl, ob6, g6, k6, o6⟩
    have C6 := Lib.hid (chain C4.out.1 C4.out.2 k6 o6)
    have g7 := g6.raw
    rw [show mkO o ++ le8 (fnv (mkO o)) = objB o from rfl] at g7
    obtain ⟨ay, cy, hbk, how, hob, hne⟩ := g7
    have q0 : w6.cell? ⟨pw, 0, none⟩ = some (.slice ay (objB o).length cy) := by rw [hbk.cell]; rfl
    have NW := Lib.hid (show Nw w w6 from Kp.trans N2.out C6.out.1 (by
      rintro x hx (e | e)
      · have := HSZ.out; omega
      · cases e))
    have OB := Lib.hid (show ∀ g, ob6 = some g → w.heap.size ≤ g from fun g hg => by
      rcases C6.out.2 g hg with e | e
      · cases e
      · have := HSZ.out; omega)
    have HOW := Lib.hid how
    have HOB := Lib.hid hob
    clear how hob hbk hne g6 k6 o6 p0 SM G4 C4
    obtain ⟨ln, hln⟩ : ∃ n, n = (objB o).length := ⟨_, rfl⟩
    rw [← hln] at q0
    have HLN := Lib.hid hln
    clear hln
    by_cases hl : (262144 : Int) < (ln : Int)
    · have HC := Lib.hid (show codeO o = 2 by unfold codeO; rw [if_pos HV.out, if_neg (by rw [← HLN.out]; omega)])
      go_wp2_with fail
      go_returns
      exact ⟨none, 0, 0, by rw [HC.out]; rfl, NW.out, by rw [if_neg (by rw [HC.out]; decide)]; exact ⟨rfl, ownsNil _ _ _, fun g hg => by cases hg⟩⟩
    · have HC := Lib.hid (show codeO o = 0 by unfold codeO; rw [if_pos HV.out, if_pos (by rw [← HLN.out]; omega)])
      go_wp2_with fail
      go_returns
      exact ⟨ay, ln, cy, by rw [HC.out]; rfl, NW.out, by rw [if_pos HC.out]; exact ⟨HLN.out, by rw [HLN.out]; exact HOW.out, fun g hg => OB.out g (by rw [← HOB.out, ← HLN.out]; exact hg)⟩⟩
  · have HC := Lib.hid (codeV_ne hv)
    obtain ⟨cv, hcv⟩ : ∃ n, n = codeV o := ⟨_, rfl⟩
    rw [← hcv] at hv VA
    have HCV := Lib.hid hcv
    obtain ⟨vn1, vn2, vn3, vn4⟩ := int_ne hv
    clear hcv hv
    go_wp2_with fail
    refine VA.out.mono ?_
    rintro e1 w1 ⟨rfl, k1⟩
    have N1 := Lib.hid (N0.out.trans k1)
    clear k1 cO
    go_wp2_with fail
    go_returns
    exact ⟨none, 0, 0, by rw [HC.out.1, ← HCV.out]; rfl, N1.out, by rw [if_neg HC.out.2]; exact ⟨rfl, ownsNil _ _ _, fun g hg => by cases hg⟩⟩
end Go.Proofs.Ytfdjlicegfgodaa
