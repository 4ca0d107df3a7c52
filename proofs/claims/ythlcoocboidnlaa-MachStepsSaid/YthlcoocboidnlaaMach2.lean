/- The machine's operations of words, of memory, of bytes. -/
import Derived.Test.YthlcoocboidnlaaMach1
import Derived.Test.YthlcoocboidnlaaBytes
import Derived.Deep.RegionWith
import Derived.Deep.RegionLaw
import Derived.Deep.QuietTactic
import Derived.BigQuiet
namespace Go.Proofs.Ythlcoocboidnlaa
open Go.RowKit
set_option linter.unusedSimpArgs false
set_option linter.unusedVariables false

/-- what an operation of two words, of one, gives; the panic's number -/
def wordsV (op rb rc : Int) : Int × Int := if op < 40 then wbin (op - 16) rb rc else wun (op - 40) rb
def wordsM (m : Mc) (a : Nat) (v : Int × Int) : Mc := if v.2 = 0 then { m with reg := m.reg.set a v.1 } else { m with kind := 2, panics := v.2 }
/-- a quiet call behind a quiet region -/
theorem qAdd {P : Program} {f : FuncId} {args : Array Value} {w : World} {a n : Nat} {v : Value} (h : Calls P f args (w.drewN (a + n)) fun e w' => e = .returned v ∧ w' = w.drewN (a + n)) :
    Calls P f args (w.drewN (a + n)) fun e w'' => e = .returned v ∧ ∃ m, w'' = w.drewN (a + m) :=
  h.mono fun _ _ ⟨he, hm⟩ => ⟨he, n, hm⟩
theorem kpp {w w' : World} {p : Nat} (h : Nw w w') : Kp (fun x => x = p) w w' := h.mono (fun _ _ x => x.elim)
set_option maxRecDepth 100000 in
set_option maxHeartbeats 2000000 in
theorem words_any (w : World) (p : Nat) (m : Mc) (h : McAt w p m) (a b c : Nat) (ha : a < 16) (hb : b < 16) (hc : c < 16) (op n : Int) (ho : 16 ≤ op ∧ op ≤ 50) :
    Calls Try.prog 53 #[.pointer (some ⟨p, 0, none⟩), .agg #[.int .i64 op, .int .i64 (a : Int), .int .i64 (b : Int), .int .i64 (c : Int), .int .i64 n]] w (OpP w p (wordsM m a (wordsV op (m.get b) (m.get c)))) := by
  have N0 := Lib.hid (Nw.new w (.cells #[.int .i64 op, .int .i64 (a : Int), .int .i64 (b : Int), .int .i64 (c : Int), .int .i64 n] 26))
  have M0 := Lib.hid (h.alloc (.cells #[.int .i64 op, .int .i64 (a : Int), .int .i64 (b : Int), .int .i64 (c : Int), .int .i64 n] 26))
  have B0 := Lib.hid (Blk.new w [.int .i64 op, .int .i64 (a : Int), .int .i64 (b : Int), .int .i64 (c : Int), .int .i64 n] 26)
  have hlt := h.lt
  have hO0 : (16 : Int) ≤ op := ho.1
  have hO1 : op ≤ 50 := ho.2
  have ha0 : (0 : Int) ≤ (a : Int) := by omega
  have ha1 : (a : Int) < 16 := by omega
  have hb0 : (0 : Int) ≤ (b : Int) := by omega
  have hb1 : (b : Int) < 16 := by omega
  have hc0 : (0 : Int) ≤ (c : Int) := by omega
  have hc1 : (c : Int) < 16 := by omega
  have hw40 : IntKind.i64.wrap (op - 40) = op - 40 := IntWalk.i64_in _ (by omega)
  have hw16 : IntKind.i64.wrap (op - 16) = op - 16 := IntWalk.i64_in _ (by omega)
  clear h ho
  by_cases h40 : op < 40
  · skip
    have WV := Lib.hid (show wordsV op (m.get b) (m.get c) = wbin (op - 16) (m.get b) (m.get c) by unfold wordsV; rw [if_pos h40])
    rw [WV.out]
    go_enter Try.func53, Try.ntmps53
    go_upto_region 1 with fail
    generalize w.alloc (.cells #[.int .i64 op, .int .i64 (a : Int), .int .i64 (b : Int), .int .i64 (c : Int), .int .i64 n] 26) = w0 at *
    generalize w.heap.size = bi at *
    have i0 := B0.out.cell 0
    have i1 := B0.out.cell 1
    have i2 := B0.out.cell 2
    have i3 := B0.out.cell 3
    have i4 := B0.out.cell 4
    simp only [List.getElem?_cons_zero, List.getElem?_cons_succ] at i0 i1 i2 i3 i4
    have hpb : ¬ p = bi := fun e => by omega
    have ra := M0.out.creg ha
    have rb := M0.out.creg hb
    have rc := M0.out.creg hc
    have za := M0.out.frozen (2 + a)
    generalize m.get b = vb at *
    generalize m.get c = vc at *
    generalize m.get a = va at *
    have UN := Lib.hid (fun (wz : World) => (un_any (op - 40) vb wz).mono fun e w' q => (⟨q.1, q.2.symm⟩ : _ ∧ w' = wz))
    have BN := Lib.hid (fun (wz : World) => (bin_any (op - 16) vb vc wz).mono fun e w' q => (⟨q.1, q.2.symm⟩ : _ ∧ w' = wz))
    generalize wun (op - 40) vb = uu at *
    obtain ⟨u1, u2⟩ := uu
    generalize wbin (op - 16) vb vc = uv at *
    obtain ⟨v1, v2⟩ := uv
    dsimp only at UN BN ⊢
    go_quiet ((go_at_call 63; exact Calls.quiet_of_same (UN.out _)))
    go_wp2_with fail
    go_quiet ((go_at_call 64; exact qAdd (BN.out _)))
    by_cases hz : v2 = 0
    · subst hz
      have WM := Lib.hid (show wordsM m a (v1, 0) = { m with reg := m.reg.set a v1 } from rfl)
      rw [WM.out]
      go_wp2_with fail
      go_region
      go_wp2_with fail
      go_returns
      exact ⟨rfl, ((M0.out.nw ((Nw.refl _).drewN _)).setReg ha v1), (set_kp (N0.out.trans ((Nw.refl _).drewN _)) _ _)⟩
    · obtain ⟨ze1, ze2, ze3, ze4⟩ := int_ne hz
      have WM := Lib.hid (show wordsM m a (v1, v2) = { m with kind := 2, panics := v2 } by unfold wordsM; rw [if_neg hz])
      rw [WM.out]
      go_wp2_with fail
      refine (ends_any _ p m (M0.out.nw ((Nw.refl _).drewN _)) 2 v2).mono ?_
      rintro e1 w1 ⟨rfl, m1, k1⟩
      have M2 := Lib.hid m1
      have K2 := Lib.hid (Kp.trans (kpp (N0.out.trans ((Nw.refl _).drewN _))) k1 (fun _ _ x => x))
      clear m1 k1 i0 i1 i2 i3 i4 ra rb rc
      go_wp2_with fail
      go_returns
      exact ⟨rfl, by rw [WM.out]; exact M2.out, K2.out⟩
  · skip
    have WV := Lib.hid (show wordsV op (m.get b) (m.get c) = wun (op - 40) (m.get b) by unfold wordsV; rw [if_neg h40])
    rw [WV.out]
    go_enter Try.func53, Try.ntmps53
    go_upto_region 1 with fail
    generalize w.alloc (.cells #[.int .i64 op, .int .i64 (a : Int), .int .i64 (b : Int), .int .i64 (c : Int), .int .i64 n] 26) = w0 at *
    generalize w.heap.size = bi at *
    have i0 := B0.out.cell 0
    have i1 := B0.out.cell 1
    have i2 := B0.out.cell 2
    have i3 := B0.out.cell 3
    have i4 := B0.out.cell 4
    simp only [List.getElem?_cons_zero, List.getElem?_cons_succ] at i0 i1 i2 i3 i4
    have hpb : ¬ p = bi := fun e => by omega
    have ra := M0.out.creg ha
    have rb := M0.out.creg hb
    have rc := M0.out.creg hc
    have za := M0.out.frozen (2 + a)
    generalize m.get b = vb at *
    generalize m.get c = vc at *
    generalize m.get a = va at *
    have UN := Lib.hid (fun (wz : World) => (un_any (op - 40) vb wz).mono fun e w' q => (⟨q.1, q.2.symm⟩ : _ ∧ w' = wz))
    have BN := Lib.hid (fun (wz : World) => (bin_any (op - 16) vb vc wz).mono fun e w' q => (⟨q.1, q.2.symm⟩ : _ ∧ w' = wz))
    generalize wun (op - 40) vb = uv at *
    obtain ⟨v1, v2⟩ := uv
    dsimp only at UN ⊢
    go_quiet ((go_at_call 63; exact Calls.quiet_of_same (UN.out _)))
    by_cases hz : v2 = 0
    · subst hz
      have WM := Lib.hid (show wordsM m a (v1, 0) = { m with reg := m.reg.set a v1 } from rfl)
      rw [WM.out]
      go_wp2_with fail
      go_region
      go_wp2_with fail
      go_returns
      exact ⟨rfl, ((M0.out.nw ((Nw.refl _).drewN _)).setReg ha v1), (set_kp (N0.out.trans ((Nw.refl _).drewN _)) _ _)⟩
    · obtain ⟨ze1, ze2, ze3, ze4⟩ := int_ne hz
      have WM := Lib.hid (show wordsM m a (v1, v2) = { m with kind := 2, panics := v2 } by unfold wordsM; rw [if_neg hz])
      rw [WM.out]
      go_wp2_with fail
      refine (ends_any _ p m (M0.out.nw ((Nw.refl _).drewN _)) 2 v2).mono ?_
      rintro e1 w1 ⟨rfl, m1, k1⟩
      have M2 := Lib.hid m1
      have K2 := Lib.hid (Kp.trans (kpp (N0.out.trans ((Nw.refl _).drewN _))) k1 (fun _ _ x => x))
      clear m1 k1 i0 i1 i2 i3 i4 ra rb rc
      go_wp2_with fail
      go_returns
      exact ⟨rfl, by rw [WM.out]; exact M2.out, K2.out⟩
end Go.Proofs.Ythlcoocboidnlaa
