/- Reading an object's bytes: bytes.Equal, bytes.HasPrefix; Decode's deferred closure. -/
import Derived.Test.YtfdjlicegfgodaaTK5
import Derived.Recover
import Derived.Deep.RegionHeld3
import Derived.Deep.DeepCutAuto
namespace Go.Proofs.Ytfdjlicegfgodaa
open Go.RowKit
set_option linter.unusedSimpArgs false
set_option linter.unusedVariables false

theorem str_inj {l l' : List UInt8} (h : (⟨l.toArray⟩ : ByteArray) = ⟨l'.toArray⟩) : l = l' := by
  injection h with h
  simpa using congrArg Array.toList h
set_option maxRecDepth 100000 in
theorem equal_any {w : World} {a a' : Option Addr} {n n' c c' : Nat} {l l' : List UInt8} (h : BytesAt w (.slice a n c) l) (h' : BytesAt w (.slice a' n' c') l') :
    Calls Try.prog 63 #[.slice a n c, .slice a' n' c'] w fun e w' => e = .returned (.bool (dc (l = l'))) ∧ w = w' := by
  have c1 := conv_bytes h
  have c2 := conv_bytes h'
  by_cases e : l = l'
  · subst e
    have D := Lib.hid (dc_true (rfl : l = l))
    rw [D.out]
    clear h h'
    generalize (⟨l.toArray⟩ : ByteArray) = s at *
    go_enter Try.func63, Try.ntmps63
    go_wp2_with fail
    go_returns
    exact ⟨rfl, rfl⟩
  · have D := Lib.hid (dc_false e)
    rw [D.out]
    have hne : ¬ (⟨l.toArray⟩ : ByteArray) = ⟨l'.toArray⟩ := fun h => e (str_inj h)
    clear h h'
    generalize (⟨l.toArray⟩ : ByteArray) = s at *
    generalize (⟨l'.toArray⟩ : ByteArray) = t at *
    obtain ⟨ne1, ne2, ne3, ne4⟩ := str_ne hne
    go_enter Try.func63, Try.ntmps63
    go_wp2_with fail
    go_returns
    exact ⟨rfl, rfl⟩
theorem BytesAt.take {w : World} {b o n c m : Nat} {l : List UInt8} (h : BytesAt w (.slice (some ⟨b, o, none⟩) n c) l) (hm : m ≤ l.length) : BytesAt w (.slice (some ⟨b, o, none⟩) m c) (l.take m) := by
  obtain ⟨x, cap, hv, hl, hx, hc⟩ := h
  simp only [Value.slice.injEq] at hv
  obtain ⟨rfl, rfl, rfl⟩ := hv
  have e : (l.take m).length = m := by rw [List.length_take]; omega
  refine ⟨_, c, by rw [e], by omega, hx, fun hne => ⟨b, o, rfl, fun i hi => ?_⟩⟩
  obtain ⟨b', o', e', hcc⟩ := hc (by intro e0; rw [e0] at hne; simp at hne)
  injection e' with e'
  injection e' with e1 e2
  subst e1 e2
  rw [hcc i (by omega), List.getElem_take]
set_option maxRecDepth 100000 in
theorem prefix_any {w : World} {b o n c : Nat} {a' : Option Addr} {c' : Nat} {l l' : List UInt8} (h : BytesAt w (.slice (some ⟨b, o, none⟩) n c) l) (h' : BytesAt w (.slice a' 4 c') l') (hn : 4 ≤ n) :
    Calls Try.prog 44 #[.slice (some ⟨b, o, none⟩) n c, .slice a' 4 c'] w fun e w' => e = .returned (.bool (dc (l.take 4 = l'))) ∧ w = w' := by
  have hnl : n = l.length ∧ n ≤ c := by
    obtain ⟨x, cap, hv, h1, _⟩ := h
    simp only [Value.slice.injEq] at hv
    obtain ⟨_, rfl, rfl⟩ := hv
    exact ⟨rfl, h1⟩
  have hc := hnl.2
  have EQ := Lib.hid (equal_any (h.take (m := 4) (by omega)) h')
  clear h h' hnl
  generalize dc (l.take 4 = l') = d at *
  have hq0 : (4 : Int) ≤ (n : Int) := by omega
  have hq1 : (4 : Int) ≤ (c : Int) := by omega
  have hne : ¬ c = 4 ∨ c = 4 := by omega
  go_enter Try.func44, Try.ntmps44
  go_wp2_with fail
  refine (EQ.out).mono ?_
  rintro e1 w1 ⟨rfl, rfl⟩
  go_wp2_with fail
  go_returns
  exact ⟨rfl, rfl⟩

/-- Decode's closure, where the body has panicked: the object, the error are laid anew -/
theorem undo_panicking (pu pe : Nat) (t : TypeId) (pv : Value) (older : List PanicEntry) (w : World) {cu ce : List Value} (hu : Blk w pu cu 27) (he : Blk w pe ce 31) (lu : cu.length = 7) (le : ce.length = 1) (hne : pu ≠ pe) :
    CallsD Try.prog 45 #[.pointer (some ⟨pu, 0, none⟩), .pointer (some ⟨pe, 0, none⟩)] (.panicking ({ v := .iface t pv, recovered := false } :: older)) w fun e u' w' =>
      e = .returned (.tuple #[]) ∧ u' = .panicking ({ v := .iface t pv, recovered := true } :: older) ∧ w' = lays (lays w pu 0 [.string ⟨#[]⟩, .int .i64 0, .slice none 0 0, .slice none 0 0, .slice none 0 0, .slice none 0 0, .slice none 0 0]) pe 0 [.int .i64 4] := by
  obtain ⟨u0, u1, u2, u3, u4, u5, u6, rfl⟩ : ∃ a b c d e f g, cu = [a, b, c, d, e, f, g] := by
    match cu, lu with
    | [a, b, c, d, e, f, g], _ => exact ⟨a, b, c, d, e, f, g, rfl⟩
  obtain ⟨e0, rfl⟩ : ∃ a, ce = [a] := by
    match ce, le with
    | [a], _ => exact ⟨a, rfl⟩
  have f0 := hu.cell 0
  have f1 := hu.cell 1
  have f2 := hu.cell 2
  have f3 := hu.cell 3
  have f4 := hu.cell 4
  have f5 := hu.cell 5
  have f6 := hu.cell 6
  have g0 := he.cell 0
  have z0 := hu.frozen
  have z1 := he.frozen
  simp only [List.getElem?_cons_zero, List.getElem?_cons_succ] at f0 f1 f2 f3 f4 f5 f6 g0
  have hne2 : ¬ pe = pu := fun e => hne e.symm
  refine callsD_of_wpS Try.func45 rfl fun c₀ cs hu => ?_
  apply wpS_seq
  apply wpS_region
  simp [wpOpsS, go_sem, recoverD, hu, Try.ntmps45, Exit.thenS]
  refine wpS_cond (t := true) (by simp [Act.eval, Array.replicate]) ?_
  simp only [if_true]
  apply wpS_region
  simp [wpOpsS, go_sem, f0, f1, f2, f3, f4, f5, f6, g0, z0, z1, hne, hne2, lays, bodyPostS, results, Try.results45]
theorem undo_idle (pu pe : Nat) (w : World) :
    CallsD Try.prog 45 #[.pointer (some ⟨pu, 0, none⟩), .pointer (some ⟨pe, 0, none⟩)] .returning w fun e u' w' => e = .returned (.tuple #[]) ∧ u' = .returning ∧ w' = w := by
  refine callsD_of_wpS Try.func45 rfl fun c₀ cs hu => ?_
  apply wpS_seq
  apply wpS_region
  simp [wpOpsS, go_sem, recoverD, hu, Try.ntmps45, Exit.thenS]
  refine wpS_cond (t := false) (by simp [Act.eval, Array.replicate]) ?_
  simp only [Bool.false_eq_true, if_false]
  refine wpS_of_wp (wp_skip ?_)
  cases c₀
  simp_all [bodyPostS, results, Try.results45]
end Go.Proofs.Ytfdjlicegfgodaa
