/- What each of the machine's operations does to the machine. -/
import Derived.Test.YthlcoocboidnlaaMach6
namespace Go.Proofs.Ythlcoocboidnlaa
open Go.RowKit
set_option linter.unusedSimpArgs false
set_option linter.unusedVariables false

section
variable {B : Nat} {R : Nat → Prop} {w : World} {p : Nat} {L : Lc} {s : Ms}
theorem StepP.of_read (h : MAtL B R w p L s) {a : Nat} {y : UInt8} {r : List UInt8} (hi : s.inp = y :: r) {sf : Ms} {e : Ending} {w' : World} (q : ReadP R w p (mcOf L s) a y r e w') :
    StepP B R w p L { s.put a (y.toNat : Int) with inp := r } sf e w' := by
  obtain ⟨rfl, vi, q2, q2', q3⟩ := q
  have k : Kp (Ft p L) w w' := q3.mono (fun _ _ x => .inl x)
  have hn : ∀ b, R b → ¬ b = p := fun b hb e => (h.ro b hb).2.1 e
  exact .inl ⟨rfl, { L with vi := vi }, ⟨q2, h.mem.kp q3 h.hp, h.hm, h.hp, own_kp h.own q3 (fun g hg e => h.op (by rw [hg, e])), h.ho, h.op, h.om,
    fun x hx => ⟨Nat.lt_of_lt_of_le (h.ro x hx).1 k.size, (h.ro x hx).2⟩, h.code.kp q3 hn, h.hc, h.ci, q2', h.ops.kp q3 hn, h.bp, h.bb⟩, k, rfl, fun g hg => .inl hg⟩
theorem StepP.of_write (h : MAtL B R w p L s) {y : UInt8} (hl : s.out.length < 4096) {sf : Ms} {e : Ending} {w' : World} (q : WriteP B w p (mcOf L s) (s.out ++ [y]) e w') :
    StepP B R w p L { s with out := s.out ++ [y] } sf e w' := by
  obtain ⟨rfl, vo, q2, q2', q3, q4, q5⟩ := q
  have q3 : Kp (fun x => x = p ∨ L.vo.ownBlock = some x) w w' := q3
  have q4 : ∀ g, vo.ownBlock = some g → L.vo.ownBlock = some g ∨ w.heap.size ≤ g := q4
  have k : Kp (Ft p L) w w' := q3.mono (fun _ _ x => x.elim .inl (fun x => .inr (.inr x)))
  have hn : ∀ b, R b → ¬ (b = p ∨ L.vo.ownBlock = some b) := fun b hb e => e.elim (h.ro b hb).2.1 (h.ro b hb).2.2.2
  refine .inl ⟨rfl, { L with vo := vo }, ⟨q2, h.mem.kp q3 (fun e => e.elim h.hp h.om), h.hm, h.hp, q2', ?_, q5, ?_,
    fun x hx => ⟨Nat.lt_of_lt_of_le (h.ro x hx).1 k.size, (h.ro x hx).2.1, (h.ro x hx).2.2.1, ?_⟩, h.code.kp q3 hn, h.hc, h.ci, h.inp.kp q3 hn, h.ops.kp q3 hn, h.bp, h.bb⟩, k, rfl, q4⟩
  · show (s.out ++ [y]).length ≤ 4096
    rw [List.length_append]; simp; omega
  · intro e
    rcases q4 L.bm e with e2 | e2
    · exact h.om e2
    · have := h.mem.lt; omega
  · intro e
    rcases q4 x e with e2 | e2
    · exact (h.ro x hx).2.2.2 e2
    · have := (h.ro x hx).1; omega
theorem has_if {q : Int} {x y : Ms} (h : s.has q = true) : (if s.has q = true then x else y) = x := if_pos h
theorem has_unless {q : Int} {x y : Ms} (h : s.has q = false) : (if s.has q = true then x else y) = y := if_neg (by rw [h]; simp)
theorem op_any (h : MAtL B R w p L s) (a b c : Nat) (ha : a < 16) (hb : b < 16) (n : Int) (k : Nat) (hk : k < 16) :
    Calls Try.prog (opF k) #[.pointer (some ⟨p, 0, none⟩), .agg #[.int .i64 (k : Int), .int .i64 (a : Int), .int .i64 (b : Int), .int .i64 (c : Int), .int .i64 n]] w (StepP B R w p L (s.op (k : Int) (a : Int) (b : Int) n) s.flt) := by
  have hB : B ≤ w.heap.size := Nat.le_of_lt (Nat.lt_of_le_of_lt h.bp h.mc.lt)
  have hcase : k = 0 ∨ k = 1 ∨ k = 2 ∨ k = 3 ∨ k = 4 ∨ k = 5 ∨ k = 6 ∨ k = 7 ∨ k = 8 ∨ k = 9 ∨ k = 10 ∨ k = 11 ∨ k = 12 ∨ k = 13 ∨ k = 14 ∨ k = 15 := by omega
  rcases hcase with rfl | rfl | rfl | rfl | rfl | rfl | rfl | rfl | rfl | rfl | rfl | rfl | rfl | rfl | rfl | rfl
  · exact (halt_any w p (mcOf L s) h.mc _ _ _ _ _).mono fun e w' q => StepP.of_op (s' := s.op 0 a b n) h rfl rfl rfl rfl rfl q
  · exact (trap_any w p (mcOf L s) h.mc _ _ _ _ _).mono fun e w' q => StepP.of_op (s' := s.op 1 a b n) h rfl rfl rfl rfl rfl q
  · exact (move_any w p (mcOf L s) h.mc a b ha hb _ _ _).mono fun e w' q => StepP.of_op (s' := s.op 2 a b n) h rfl rfl rfl rfl rfl q
  · exact (konst_any w p (mcOf L s) h.mc a _ ha _ _ _).mono fun e w' q => StepP.of_op (s' := s.op 3 a b n) h rfl rfl rfl rfl rfl q
  · exact (high_any w p (mcOf L s) h.mc a _ ha _ _ _).mono fun e w' q => StepP.of_op (s' := s.op 4 a b n) h rfl rfl rfl rfl rfl q
  · cases hh : s.has (wrap64 (s.get b + n)) with
    | true =>
      obtain ⟨k, hq, hk⟩ := has_true hh
      have e : s.op ((5 : Nat) : Int) a b n = s.put a (s.at (k : Int)) := (has_if hh).trans (by rw [hq])
      rw [e]
      exact (load_ok w p (mcOf L s) h.mc a b ha hb _ _ n rfl h.hm h.mem h.hp k hk hq).mono fun e w' q => StepP.of_op (s' := s.put a (s.at (k : Int))) h rfl rfl rfl rfl rfl q
    | false =>
      have e : s.op ((5 : Nat) : Int) a b n = s.flt := has_unless hh
      rw [e]
      exact (load_bad w p (mcOf L s) h.mc a b ha hb _ _ n rfl h.hm _ (has_false hh) rfl).mono fun e w' q => StepP.of_flt rfl q
  · cases hh : s.has (wrap64 (s.get b + n)) with
    | true =>
      obtain ⟨k, hq, hk⟩ := has_true hh
      have e : s.op ((6 : Nat) : Int) a b n = { s with mem := s.mem.set k (s.get a) } := (has_if hh).trans (by rw [hq]; rfl)
      rw [e]
      exact (store_ok w p (mcOf L s) h.mc a b ha hb _ _ n rfl h.hm h.mem h.hp k hk hq).mono fun e w' q => StepP.of_mem (s' := { s with mem := s.mem.set k (s.get a) }) h (by unfold mcOf; simp) rfl (by simp) rfl rfl rfl q
    | false =>
      have e : s.op ((6 : Nat) : Int) a b n = s.flt := has_unless hh
      rw [e]
      exact (store_bad w p (mcOf L s) h.mc a b ha hb _ _ n rfl h.hm _ (has_false hh) rfl).mono fun e w' q => StepP.of_flt rfl q
  · exact (jump_any w p (mcOf L s) h.mc _ _ _ _ _).mono fun e w' q => StepP.of_op (s' := s.op 7 a b n) h rfl rfl rfl rfl rfl q
  · by_cases h0 : s.get a = 0
    · have e : s.op ((8 : Nat) : Int) a b n = { s with pc := wrap64 (s.pc + n) } := if_pos h0
      rw [e]
      exact (zero_any w p (mcOf L s) h.mc a _ ha _ _ n).mono fun e w' q => StepP.of_op (s' := { s with pc := wrap64 (s.pc + n) }) h (by rw [if_pos (show (mcOf L s).get a = 0 from h0)]; rfl) rfl rfl rfl rfl q
    · have e : s.op ((8 : Nat) : Int) a b n = s := if_neg h0
      rw [e]
      exact (zero_any w p (mcOf L s) h.mc a _ ha _ _ n).mono fun e w' q => StepP.of_op (s' := s) h (by rw [if_neg (show ¬ (mcOf L s).get a = 0 from h0)]) rfl rfl rfl rfl q
  · by_cases h0 : s.get a = 0
    · have e : s.op ((9 : Nat) : Int) a b n = s := if_pos h0
      rw [e]
      exact (some_any w p (mcOf L s) h.mc a _ ha _ _ n).mono fun e w' q => StepP.of_op (s' := s) h (by rw [if_pos (show (mcOf L s).get a = 0 from h0)]) rfl rfl rfl rfl q
    · have e : s.op ((9 : Nat) : Int) a b n = { s with pc := wrap64 (s.pc + n) } := if_neg h0
      rw [e]
      exact (some_any w p (mcOf L s) h.mc a _ ha _ _ n).mono fun e w' q => StepP.of_op (s' := { s with pc := wrap64 (s.pc + n) }) h (by rw [if_neg (show ¬ (mcOf L s).get a = 0 from h0)]; rfl) rfl rfl rfl rfl q
  · cases hh : s.has (wrap64 (s.get 15 - 1)) with
    | true =>
      obtain ⟨k, hq, hk⟩ := has_true hh
      have e : s.op ((10 : Nat) : Int) a b n = { s with reg := s.reg.set 15 (k : Int), mem := s.mem.set k s.pc, pc := n } := (has_if hh).trans (by rw [hq]; rfl)
      rw [e]
      exact (call_ok w p (mcOf L s) h.mc _ _ _ _ n rfl h.hm h.mem h.hp k hk hq).mono fun e w' q => StepP.of_mem (s' := { s with reg := s.reg.set 15 (k : Int), mem := s.mem.set k s.pc, pc := n }) h (by unfold mcOf; simp) rfl (by simp) rfl rfl rfl q
    | false =>
      have e : s.op ((10 : Nat) : Int) a b n = s.flt := has_unless hh
      rw [e]
      exact (call_bad w p (mcOf L s) h.mc _ _ _ _ n rfl h.hm _ (has_false hh) rfl).mono fun e w' q => StepP.of_flt rfl q
  · cases hh : s.has (wrap64 (s.get 15 - 1)) with
    | true =>
      obtain ⟨k, hq, hk⟩ := has_true hh
      have e : s.op ((11 : Nat) : Int) a b n = { s with reg := s.reg.set 15 (k : Int), mem := s.mem.set k s.pc, pc := (s.reg.set 15 (k : Int)).getD a 0 } := (has_if hh).trans (by rw [hq]; rfl)
      rw [e]
      exact (at_ok w p (mcOf L s) h.mc a ha _ _ _ n rfl h.hm h.mem h.hp k hk hq).mono fun e w' q => StepP.of_mem (s' := { s with reg := s.reg.set 15 (k : Int), mem := s.mem.set k s.pc, pc := (s.reg.set 15 (k : Int)).getD a 0 }) h (by unfold mcOf; simp) rfl (by simp) rfl rfl rfl q
    | false =>
      have e : s.op ((11 : Nat) : Int) a b n = s.flt := has_unless hh
      rw [e]
      exact (at_bad w p (mcOf L s) h.mc a ha _ _ _ n rfl h.hm _ (has_false hh) rfl).mono fun e w' q => StepP.of_flt rfl q
  · cases hh : s.has (s.get 15) with
    | true =>
      obtain ⟨k, hq, hk⟩ := has_true hh
      have e : s.op ((12 : Nat) : Int) a b n = { s with reg := s.reg.set 15 ((k : Int) + 1), pc := s.mem.getD k 0 } := (has_if hh).trans (by rw [hq]; rfl)
      rw [e]
      exact (ret_ok w p (mcOf L s) h.mc _ _ _ _ n rfl h.hm h.mem h.hp k hk hq).mono fun e w' q => StepP.of_op (s' := { s with reg := s.reg.set 15 ((k : Int) + 1), pc := s.mem.getD k 0 }) h rfl rfl rfl rfl rfl q
    | false =>
      have e : s.op ((12 : Nat) : Int) a b n = s.flt := has_unless hh
      rw [e]
      exact (ret_bad w p (mcOf L s) h.mc _ _ _ _ n rfl h.hm _ (has_false hh) rfl).mono fun e w' q => StepP.of_flt rfl q
  · cases hi : s.inp with
    | nil =>
      have e : s.op ((13 : Nat) : Int) a b n = s.put a (-1) := by show (match s.inp with | [] => s.put a (-1) | y :: r => { s.put a (y.toNat : Int) with inp := r }) = _; rw [hi]
      rw [e]
      have hv := h.inp
      rw [hi] at hv
      obtain ⟨x, cp, hv, _⟩ := hv
      exact (read_nil w p (mcOf L s) h.mc a ha _ _ _ n hv).mono fun e w' q => StepP.of_op (s' := s.put a (-1)) h rfl rfl rfl rfl rfl q
    | cons y r =>
      have e : s.op ((13 : Nat) : Int) a b n = { s.put a (y.toNat : Int) with inp := r } := by show (match s.inp with | [] => s.put a (-1) | y :: r => { s.put a (y.toNat : Int) with inp := r }) = _; rw [hi]
      rw [e]
      have hv := h.inp
      rw [hi] at hv
      exact (read_cons w p (mcOf L s) h.mc a ha _ _ _ n hv (fun x hx => (h.ro x hx).2.1)).mono fun e w' q => StepP.of_read h hi q
  · by_cases hl : s.out.length < 4096
    · have e : s.op ((14 : Nat) : Int) a b n = { s with out := s.out ++ [byteOf (s.get a)] } := if_pos hl
      rw [e]
      exact (write_ok w p (mcOf L s) h.mc a ha _ _ _ n hB h.own hl h.op).mono fun e w' q => StepP.of_write h hl q
    · have e : s.op ((14 : Nat) : Int) a b n = s := if_neg hl
      rw [e]
      obtain ⟨x, cp, hv⟩ := own_slice h.own
      have := h.ho
      exact (write_full w p (mcOf L s) h.mc a ha _ _ _ n hv (by omega) (by omega)).mono fun e w' q => StepP.of_op (s' := s) h rfl rfl rfl rfl rfl q
  · exact (room_any w p (mcOf L s) h.mc a _ ha _ _ _ rfl h.hm).mono fun e w' q => StepP.of_op (s' := s.op 15 a b n) h rfl rfl rfl rfl rfl q
theorem words_st (h : MAtL B R w p L s) (a b c : Nat) (ha : a < 16) (hb : b < 16) (hc : c < 16) (op n : Int) (ho : 16 ≤ op ∧ op ≤ 50) :
    Calls Try.prog 53 #[.pointer (some ⟨p, 0, none⟩), .agg #[.int .i64 op, .int .i64 (a : Int), .int .i64 (b : Int), .int .i64 (c : Int), .int .i64 n]] w (StepP B R w p L (s.words (a : Int) (wordsV op (s.get (b : Int)) (s.get (c : Int)))) s.flt) := by
  refine (words_any w p (mcOf L s) h.mc a b c ha hb hc op n ho).mono fun e w' q => ?_
  have e1 : (mcOf L s).get b = s.get (b : Int) := rfl
  have e2 : (mcOf L s).get c = s.get (c : Int) := rfl
  rw [e1, e2] at q
  generalize wordsV op (s.get (b : Int)) (s.get (c : Int)) = v at *
  obtain ⟨v1, v2⟩ := v
  by_cases h0 : v2 = 0
  · subst h0
    exact StepP.of_op (s' := s.words a (v1, 0)) h rfl rfl rfl rfl rfl q
  · have e : s.words (a : Int) (v1, v2) = { s with kind := 2, panics := v2 } := if_neg h0
    rw [e]
    have e3 : wordsM (mcOf L s) a (v1, v2) = { mcOf L s with kind := 2, panics := v2 } := if_neg h0
    rw [e3] at q
    exact StepP.of_op (s' := { s with kind := 2, panics := v2 }) h rfl rfl rfl rfl rfl q
end
end Go.Proofs.Ythlcoocboidnlaa
