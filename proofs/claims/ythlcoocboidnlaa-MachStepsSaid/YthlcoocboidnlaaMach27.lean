/- The document's machine as Lean's own: where it lies in memory; what plain does. -/
import Derived.Test.YthlcoocboidnlaaMach26
namespace Go.Proofs.Ythlcoocboidnlaa
open Go.RowKit
set_option linter.unusedSimpArgs false
set_option linter.unusedVariables false

structure Ld where
  vc : Value
  vi : Value
  vo : Value
  bm : Nat
  cm : Nat
  all : List UInt8
  at_ : Nat
def dcOf (L : Ld) (s : Ms) : Dc := ⟨L.vc, .slice (some ⟨L.bm, 0, none⟩) s.mem.length L.cm, s.reg, s.pc, L.vi, (L.at_ : Int), s.kind, s.panics, L.vo, s.steps⟩
structure DAtL (B : Nat) (R : Nat → Prop) (w : World) (p : Nat) (L : Ld) (s : Ms) : Prop where
  mc : DcAt w p (dcOf L s)
  mem : MemAt w L.bm s.mem
  hm : s.mem.length ≤ 262144
  hp : L.bm ≠ p
  own : w.ownsRow B 5 1 L.vo s.out.length (byteV s.out)
  ho : s.out.length ≤ 4096
  op : L.vo.ownBlock ≠ some p
  om : L.vo.ownBlock ≠ some L.bm
  ro : ∀ x, R x → x < w.heap.size ∧ x ≠ p ∧ x ≠ L.bm ∧ L.vo.ownBlock ≠ some x
  code : WordsR R w L.vc s.code
  hc : s.code.length ≤ 65536
  ci : ∀ v ∈ s.code, -9223372036854775808 ≤ v ∧ v ≤ 9223372036854775807
  inp : BytesR R w L.vi L.all
  hat : L.at_ ≤ L.all.length
  hin : s.inp = L.all.drop L.at_
  bp : B ≤ p
  bb : B ≤ L.bm
  k0 : s.kind = 0 → s.panics = 0
/-- the blocks that a step may change -/
def Fdd (p : Nat) (L : Ld) : Nat → Prop := fun x => x = p ∨ x = L.bm ∨ L.vo.ownBlock = some x
theorem DAtL.kpo {S : Nat → Prop} {B : Nat} {R : Nat → Prop} {w w' : World} {p : Nat} {L : Ld} {s : Ms} (h : DAtL B R w p L s) (k : Kp S w w') (hs : ∀ x, (R x ∨ Fdd p L x) → ¬ S x) : DAtL B R w' p L s :=
  ⟨h.mc.kp k (hs _ (.inr (.inl rfl))), h.mem.kp k (hs _ (.inr (.inr (.inl rfl)))), h.hm, h.hp, own_kp h.own k (fun g hg => hs _ (.inr (.inr (.inr hg)))), h.ho, h.op, h.om, fun x hx => ⟨Nat.lt_of_lt_of_le (h.ro x hx).1 k.size, (h.ro x hx).2⟩,
    h.code.kp k (fun b hb => hs b (.inl hb)), h.hc, h.ci, h.inp.kp k (fun b hb => hs b (.inl hb)), h.hat, h.hin, h.bp, h.bb, h.k0⟩
theorem DAtL.nw {B : Nat} {R : Nat → Prop} {w w' : World} {p : Nat} {L : Ld} {s : Ms} (h : DAtL B R w p L s) (k : Nw w w') : DAtL B R w' p L s := h.kpo k (fun _ _ x => x)
theorem DAtL.all_lt {B : Nat} {R : Nat → Prop} {w : World} {p : Nat} {L : Ld} {s : Ms} (h : DAtL B R w p L s) : ∀ x, (R x ∨ Fdd p L x) → x < w.heap.size := by
  rintro x (e | e | e | e)
  · exact (h.ro x e).1
  · rw [e]; exact h.mc.lt
  · rw [e]; exact h.mem.lt
  · exact (h.own.lt x e).2
theorem DAtL.ft_ge {B : Nat} {R : Nat → Prop} {w : World} {p : Nat} {L : Ld} {s : Ms} (h : DAtL B R w p L s) : ∀ x, Fdd p L x → B ≤ x := by
  rintro x (e | e | e)
  · rw [e]; exact h.bp
  · rw [e]; exact h.bb
  · exact (h.own.lt x e).1
/-- the machine is so now -/
def SD (B : Nat) (R : Nat → Prop) (w : World) (p : Nat) (L : Ld) (s' : Ms) (w' : World) : Prop :=
  ∃ L', DAtL B R w' p L' s' ∧ Kp (Fdd p L) w w' ∧ L'.bm = L.bm ∧ L'.all = L.all ∧ ∀ g, L'.vo.ownBlock = some g → L.vo.ownBlock = some g ∨ w.heap.size ≤ g
def StepD (B : Nat) (R : Nat → Prop) (w : World) (p : Nat) (L : Ld) (s' : Ms) (e : Ending) (w' : World) : Prop := e = .returned (.tuple #[]) ∧ SD B R w p L s' w'
section
variable {B : Nat} {R : Nat → Prop} {w : World} {p : Nat} {L : Ld} {s : Ms}
theorem SD.next {w0 w' : World} {s' : Ms} (k : Nw w w0) (q : SD B R w0 p L s' w') : SD B R w p L s' w' := by
  obtain ⟨L', h1, h2, h3, h4, h5⟩ := q
  exact ⟨L', h1, Kp.trans (k.mono (fun _ _ x => x.elim)) h2 (fun _ _ x => x), h3, h4, fun g hg => (h5 g hg).imp id (fun e => Nat.le_trans k.size e)⟩
theorem StepD.of_at (h : DAtL B R w p L s) {a : Nat} (ha : a ≤ L.all.length) {m' : Dc} {s' : Ms} (hm : dcOf { L with at_ := a } s' = m') (h1 : s'.mem = s.mem) (h2 : s'.out = s.out) (h3 : s'.code = s.code) (h4 : s'.inp = L.all.drop a) (hk : s'.kind = 0 → s'.panics = 0) {e : Ending} {w' : World} (q : OpD w p m' e w') :
    StepD B R w p L s' e w' := by
  obtain ⟨rfl, q2, q3⟩ := q
  have k : Kp (Fdd p L) w w' := q3.mono (fun _ _ x => .inl x)
  refine ⟨rfl, { L with at_ := a }, ⟨by rw [hm]; exact q2, by rw [h1]; exact h.mem.kp q3 h.hp, by rw [h1]; exact h.hm, h.hp, ?_, by rw [h2]; exact h.ho, h.op, h.om,
    fun x hx => ⟨Nat.lt_of_lt_of_le (h.ro x hx).1 k.size, (h.ro x hx).2⟩, ?_, by rw [h3]; exact h.hc, by rw [h3]; exact h.ci, ?_, ha, h4, h.bp, h.bb, hk⟩, k, rfl, rfl, fun g hg => .inl hg⟩
  · rw [h2]; exact own_kp h.own q3 (fun g hg e => h.op (by rw [hg, e]))
  · rw [h3]; exact h.code.kp q3 (fun b hb e => (h.ro b hb).2.1 e)
  · exact h.inp.kp q3 (fun b hb e => (h.ro b hb).2.1 e)
theorem StepD.of_op (h : DAtL B R w p L s) {m' : Dc} {s' : Ms} (hm : dcOf L s' = m') (h1 : s'.mem = s.mem) (h2 : s'.out = s.out) (h3 : s'.code = s.code) (h4 : s'.inp = s.inp) (hk : s'.kind = 0 → s'.panics = 0) {e : Ending} {w' : World} (q : OpD w p m' e w') :
    StepD B R w p L s' e w' := StepD.of_at h h.hat hm h1 h2 h3 (by rw [h4]; exact h.hin) hk q
theorem StepD.of_mem (h : DAtL B R w p L s) {m' : Dc} {l' : List Int} {s' : Ms} (hm : dcOf L s' = m') (h1 : s'.mem = l') (h1' : l'.length = s.mem.length) (h2 : s'.out = s.out) (h3 : s'.code = s.code) (h4 : s'.inp = s.inp) (hk : s'.kind = 0 → s'.panics = 0) {e : Ending} {w' : World} (q : MemD w p L.bm m' l' e w') :
    StepD B R w p L s' e w' := by
  obtain ⟨rfl, q2, q2', q3⟩ := q
  have k : Kp (Fdd p L) w w' := q3.mono (fun _ _ x => x.elim .inl (fun x => .inr (.inl x)))
  have hn : ∀ b, R b → ¬ PM p L.bm b := fun b hb e => e.elim (h.ro b hb).2.1 (h.ro b hb).2.2.1
  refine ⟨rfl, L, ⟨by rw [hm]; exact q2, by rw [h1]; exact q2', by rw [h1, h1']; exact h.hm, h.hp, ?_, by rw [h2]; exact h.ho, h.op, h.om,
    fun x hx => ⟨Nat.lt_of_lt_of_le (h.ro x hx).1 k.size, (h.ro x hx).2⟩, ?_, by rw [h3]; exact h.hc, by rw [h3]; exact h.ci, h.inp.kp q3 hn, h.hat, by rw [h4]; exact h.hin, h.bp, h.bb, hk⟩, k, rfl, rfl, fun g hg => .inl hg⟩
  · rw [h2]; exact own_kp h.own q3 (fun g hg e => e.elim (fun e => h.op (by rw [hg, e])) (fun e => h.om (by rw [hg, e])))
  · rw [h3]; exact h.code.kp q3 hn
theorem StepD.of_write (h : DAtL B R w p L s) {y : UInt8} (hl : s.out.length < 4096) {e : Ending} {w' : World} (q : WriteD B w p (dcOf L s) (s.out ++ [y]) e w') :
    StepD B R w p L { s with out := s.out ++ [y] } e w' := by
  obtain ⟨rfl, vo, q2, q2', q3, q4, q5⟩ := q
  have q3 : Kp (fun x => x = p ∨ L.vo.ownBlock = some x) w w' := q3
  have q4 : ∀ g, vo.ownBlock = some g → L.vo.ownBlock = some g ∨ w.heap.size ≤ g := q4
  have k : Kp (Fdd p L) w w' := q3.mono (fun _ _ x => x.elim .inl (fun x => .inr (.inr x)))
  have hn : ∀ b, R b → ¬ (b = p ∨ L.vo.ownBlock = some b) := fun b hb e => e.elim (h.ro b hb).2.1 (h.ro b hb).2.2.2
  refine ⟨rfl, { L with vo := vo }, ⟨q2, h.mem.kp q3 (fun e => e.elim h.hp h.om), h.hm, h.hp, q2', ?_, q5, ?_,
    fun x hx => ⟨Nat.lt_of_lt_of_le (h.ro x hx).1 k.size, (h.ro x hx).2.1, (h.ro x hx).2.2.1, ?_⟩, h.code.kp q3 hn, h.hc, h.ci, h.inp.kp q3 hn, h.hat, h.hin, h.bp, h.bb, h.k0⟩, k, rfl, rfl, q4⟩
  · show (s.out ++ [y]).length ≤ 4096
    rw [List.length_append]; simp; omega
  · intro e
    rcases q4 L.bm e with e2 | e2
    · exact h.om e2
    · have := h.mem.lt; omega
  · intro e
    rcases q4 x e with e2 | e2
    · exact (h.ro x hx).2.2.2 e2
    · have := (h.ro x hx).1; omega
theorem flt_eq (hp0 : s.panics = 0) : s.flt = { s with kind := 5 } := by
  obtain ⟨_, _, _, _, _, _, _, _, _⟩ := s
  simp only at hp0
  subst hp0
  rfl
theorem StepD.of_flt (h : DAtL B R w p L s) (hp0 : s.panics = 0) {e : Ending} {w' : World} (q : OpD w p { dcOf L s with kind := 5 } e w') : StepD B R w p L s.flt e w' :=
  StepD.of_op (s' := s.flt) h (by rw [flt_eq hp0]; rfl) rfl rfl rfl rfl (fun _ => rfl) q
theorem trap_k0 (n : Int) : (trapV n).1 = 0 → (trapV n).2 = 0 := by
  intro h
  unfold trapV at h ⊢
  split at h
  · exact absurd (show (2 : Int) = 0 from h) (by decide)
  · rename_i c1
    rw [if_neg c1]
    split <;> (try split) <;> rfl
/-- calls -/
theorem dcalls_any (h : DAtL B R w p L s) (hk0 : s.kind = 0) (a b c : Nat) (ha : a < 16) (n : Int) (k : Nat) (hk : 10 ≤ k ∧ k < 16) :
    Calls Try.prog 68 #[.pointer (some ⟨p, 0, none⟩), .agg #[.int .i64 (k : Int), .int .i64 (a : Int), .int .i64 (b : Int), .int .i64 (c : Int), .int .i64 n]] w (StepD B R w p L (s.op (k : Int) (a : Int) (b : Int) n)) := by
  have hB : B ≤ w.heap.size := Nat.le_of_lt (Nat.lt_of_le_of_lt h.bp h.mc.lt)
  have hp0 := h.k0 hk0
  have hcase : k = 10 ∨ k = 11 ∨ k = 12 ∨ k = 13 ∨ k = 14 ∨ k = 15 := by omega
  rcases hcase with rfl | rfl | rfl | rfl | rfl | rfl
  · cases hh : s.has (wrap64 (s.get 15 - 1)) with
    | true =>
      obtain ⟨k, hq, hk⟩ := has_true hh
      have e : s.op ((10 : Nat) : Int) a b n = { s with reg := s.reg.set 15 (k : Int), mem := s.mem.set k s.pc, pc := n } := (has_if hh).trans (by rw [hq]; rfl)
      rw [e]
      exact (ca_call_ok w p (dcOf L s) h.mc _ _ _ n rfl h.hm h.mem h.hp k hk hq).mono fun e w' q => StepD.of_mem (s' := { s with reg := s.reg.set 15 (k : Int), mem := s.mem.set k s.pc, pc := n }) h (by unfold dcOf; simp) rfl (by simp) rfl rfl rfl h.k0 q
    | false =>
      have e : s.op ((10 : Nat) : Int) a b n = s.flt := has_unless hh
      rw [e]
      exact (ca_call_bad w p (dcOf L s) h.mc _ _ _ n rfl h.hm (has_false hh)).mono fun e w' q => StepD.of_flt h hp0 q
  · cases hh : s.has (wrap64 (s.get 15 - 1)) with
    | true =>
      obtain ⟨k, hq, hk⟩ := has_true hh
      have e : s.op ((11 : Nat) : Int) a b n = { s with reg := s.reg.set 15 (k : Int), mem := s.mem.set k s.pc, pc := (s.reg.set 15 (k : Int)).getD a 0 } := (has_if hh).trans (by rw [hq]; rfl)
      rw [e]
      exact (ca_at_ok w p (dcOf L s) h.mc a ha _ _ n rfl h.hm h.mem h.hp k hk hq).mono fun e w' q => StepD.of_mem (s' := { s with reg := s.reg.set 15 (k : Int), mem := s.mem.set k s.pc, pc := (s.reg.set 15 (k : Int)).getD a 0 }) h (by unfold dcOf; simp) rfl (by simp) rfl rfl rfl h.k0 q
    | false =>
      have e : s.op ((11 : Nat) : Int) a b n = s.flt := has_unless hh
      rw [e]
      exact (ca_at_bad w p (dcOf L s) h.mc _ _ _ n rfl h.hm (has_false hh)).mono fun e w' q => StepD.of_flt h hp0 q
  · cases hh : s.has (s.get 15) with
    | true =>
      obtain ⟨k, hq, hk⟩ := has_true hh
      have e : s.op ((12 : Nat) : Int) a b n = { s with reg := s.reg.set 15 ((k : Int) + 1), pc := s.mem.getD k 0 } := (has_if hh).trans (by rw [hq]; rfl)
      rw [e]
      exact (ca_ret_ok w p (dcOf L s) h.mc _ _ _ n rfl h.hm h.mem h.hp k hk hq).mono fun e w' q => StepD.of_op (s' := { s with reg := s.reg.set 15 ((k : Int) + 1), pc := s.mem.getD k 0 }) h rfl rfl rfl rfl rfl h.k0 q
    | false =>
      have e : s.op ((12 : Nat) : Int) a b n = s.flt := has_unless hh
      rw [e]
      exact (ca_ret_bad w p (dcOf L s) h.mc _ _ _ n rfl h.hm (has_false hh)).mono fun e w' q => StepD.of_flt h hp0 q
  · obtain ⟨x, cp, hv, hlc, hcm, hcc⟩ := h.inp
    have hlen : L.all.length ≤ 9223372036854775807 := by unfold maxLen at hcm; omega
    cases hi : s.inp with
    | nil =>
      have e : s.op ((13 : Nat) : Int) a b n = s.put a (-1) := by show (match s.inp with | [] => s.put a (-1) | y :: r => { s.put a (y.toNat : Int) with inp := r }) = _; rw [hi]
      rw [e]
      have hd := h.hin
      rw [hi] at hd
      have hle : L.all.length ≤ L.at_ := by
        have := congrArg List.length hd
        simp at this
        omega
      have hat : L.at_ = L.all.length := Nat.le_antisymm h.hat hle
      exact (ca_read_nil w p (dcOf L s) h.mc a ha _ _ n hv hlen (show ((L.at_ : Nat) : Int) = _ by rw [hat])).mono fun e w' q => StepD.of_op (s' := s.put a (-1)) h rfl rfl rfl rfl rfl h.k0 q
    | cons y r =>
      have e : s.op ((13 : Nat) : Int) a b n = { s.put a (y.toNat : Int) with inp := r } := by show (match s.inp with | [] => s.put a (-1) | y :: r => { s.put a (y.toNat : Int) with inp := r }) = _; rw [hi]
      rw [e]
      have hd := h.hin
      rw [hi] at hd
      have htk : L.at_ < L.all.length := by
        have := congrArg List.length hd
        simp at this
        omega
      obtain ⟨bb, oo, rfl, hRb, hc⟩ := hcc (by intro e; rw [e] at htk; simp at htk)
      have hcons : L.all.drop L.at_ = L.all[L.at_] :: L.all.drop (L.at_ + 1) := List.drop_eq_getElem_cons htk
      rw [hcons] at hd
      injection hd with hy hr
      have hcell := hc L.at_ htk
      rw [← hy] at hcell
      exact (ca_read_cons w p (dcOf L s) h.mc a ha _ _ n hv hlen (t := L.at_) rfl htk y hcell (h.ro bb hRb).2.1).mono fun e w' q => StepD.of_at (a := L.at_ + 1) (s' := { s.put a (y.toNat : Int) with inp := r }) h htk (by unfold dcOf Ms.put; simp) rfl rfl rfl hr h.k0 q
  · by_cases hl : s.out.length < 4096
    · have e : s.op ((14 : Nat) : Int) a b n = { s with out := s.out ++ [byteOf (s.get a)] } := if_pos hl
      rw [e]
      exact (ca_write_ok w p (dcOf L s) h.mc a ha _ _ n hB h.own hl h.op).mono fun e w' q => StepD.of_write h hl q
    · have e : s.op ((14 : Nat) : Int) a b n = s := if_neg hl
      rw [e]
      obtain ⟨x, cp, hv⟩ := own_slice h.own
      have := h.ho
      exact (ca_write_full w p (dcOf L s) h.mc a ha _ _ n hv (by omega) (by omega)).mono fun e w' q => StepD.of_op (s' := s) h rfl rfl rfl rfl rfl h.k0 q
  · exact (ca_room w p (dcOf L s) h.mc a ha _ _ _ rfl h.hm).mono fun e w' q => StepD.of_op (s' := s.op 15 a b n) h rfl rfl rfl rfl rfl h.k0 q
/-- plain -/
theorem plain_any (h : DAtL B R w p L s) (hk0 : s.kind = 0) (a b c : Nat) (ha : a < 16) (hb : b < 16) (n : Int) (hn : -9223372036854775808 ≤ n ∧ n ≤ 9223372036854775807) (k : Nat) (hk : k < 16) :
    Calls Try.prog 57 #[.pointer (some ⟨p, 0, none⟩), .agg #[.int .i64 (k : Int), .int .i64 (a : Int), .int .i64 (b : Int), .int .i64 (c : Int), .int .i64 n]] w (StepD B R w p L (s.op (k : Int) (a : Int) (b : Int) n)) := by
  have hp0 := h.k0 hk0
  by_cases h10 : 10 ≤ k
  · refine (pl_calls w p (k : Int) a b c n (by omega) (fun wz w' => SD B R wz p L (s.op (k : Int) (a : Int) (b : Int) n) w') (fun wz hz => dcalls_any (h.nw hz) hk0 a b c ha n k ⟨h10, hk⟩)).mono ?_
    rintro e w' ⟨rfl, w0, k1, q⟩
    exact ⟨rfl, q.next k1⟩
  have hcase : k = 0 ∨ k = 1 ∨ k = 2 ∨ k = 3 ∨ k = 4 ∨ k = 5 ∨ k = 6 ∨ k = 7 ∨ k = 8 ∨ k = 9 := by omega
  rcases hcase with rfl | rfl | rfl | rfl | rfl | rfl | rfl | rfl | rfl | rfl
  · refine (pl_halt w p (dcOf L s) h.mc _ _ _ _).mono fun e w' q => StepD.of_op (s' := s.op 0 a b n) h ?_ rfl rfl rfl rfl (fun _ => rfl) q
    show dcOf L { s with kind := 1, panics := 0 } = _
    unfold dcOf
    simp [hp0]
  · exact (pl_trap w p (dcOf L s) h.mc hp0 _ _ _ _ hn).mono fun e w' q => StepD.of_op (s' := s.op 1 a b n) h rfl rfl rfl rfl rfl (trap_k0 n) q
  · exact (pl_move w p (dcOf L s) h.mc a b ha hb _ _).mono fun e w' q => StepD.of_op (s' := s.op 2 a b n) h rfl rfl rfl rfl rfl h.k0 q
  · exact (pl_konst w p (dcOf L s) h.mc a _ ha _ _).mono fun e w' q => StepD.of_op (s' := s.op 3 a b n) h rfl rfl rfl rfl rfl h.k0 q
  · exact (pl_high w p (dcOf L s) h.mc a _ ha _ _).mono fun e w' q => StepD.of_op (s' := s.op 4 a b n) h rfl rfl rfl rfl rfl h.k0 q
  · cases hh : s.has (wrap64 (s.get b + n)) with
    | true =>
      obtain ⟨k, hq, hk⟩ := has_true hh
      have e : s.op ((5 : Nat) : Int) a b n = s.put a (s.at (k : Int)) := (has_if hh).trans (by rw [hq])
      rw [e]
      exact (pl_load_ok w p (dcOf L s) h.mc a b ha hb _ n rfl h.hm h.mem h.hp k hk hq).mono fun e w' q => StepD.of_op (s' := s.put a (s.at (k : Int))) h rfl rfl rfl rfl rfl h.k0 q
    | false =>
      have e : s.op ((5 : Nat) : Int) a b n = s.flt := has_unless hh
      rw [e]
      exact (pl_load_bad w p (dcOf L s) h.mc a b ha hb _ n rfl h.hm (has_false hh)).mono fun e w' q => StepD.of_flt h hp0 q
  · cases hh : s.has (wrap64 (s.get b + n)) with
    | true =>
      obtain ⟨k, hq, hk⟩ := has_true hh
      have e : s.op ((6 : Nat) : Int) a b n = { s with mem := s.mem.set k (s.get a) } := (has_if hh).trans (by rw [hq]; rfl)
      rw [e]
      exact (pl_store_ok w p (dcOf L s) h.mc a b ha hb _ n rfl h.hm h.mem h.hp k hk hq).mono fun e w' q => StepD.of_mem (s' := { s with mem := s.mem.set k (s.get a) }) h (by unfold dcOf; simp) rfl (by simp) rfl rfl rfl h.k0 q
    | false =>
      have e : s.op ((6 : Nat) : Int) a b n = s.flt := has_unless hh
      rw [e]
      exact (pl_store_bad w p (dcOf L s) h.mc a b ha hb _ n rfl h.hm (has_false hh)).mono fun e w' q => StepD.of_flt h hp0 q
  · exact (pl_jump w p (dcOf L s) h.mc _ _ _ _).mono fun e w' q => StepD.of_op (s' := s.op 7 a b n) h rfl rfl rfl rfl rfl h.k0 q
  · by_cases h0 : s.get a = 0
    · have e : s.op ((8 : Nat) : Int) a b n = { s with pc := wrap64 (s.pc + n) } := if_pos h0
      rw [e]
      exact (pl_zero w p (dcOf L s) h.mc a ha _ _ n).mono fun e w' q => StepD.of_op (s' := { s with pc := wrap64 (s.pc + n) }) h (by rw [if_pos (show (dcOf L s).get a = 0 from h0)]; rfl) rfl rfl rfl rfl h.k0 q
    · have e : s.op ((8 : Nat) : Int) a b n = s := if_neg h0
      rw [e]
      exact (pl_zero w p (dcOf L s) h.mc a ha _ _ n).mono fun e w' q => StepD.of_op (s' := s) h (by rw [if_neg (show ¬ (dcOf L s).get a = 0 from h0)]) rfl rfl rfl rfl h.k0 q
  · by_cases h0 : s.get a = 0
    · have e : s.op ((9 : Nat) : Int) a b n = s := if_pos h0
      rw [e]
      exact (pl_some w p (dcOf L s) h.mc a ha _ _ n).mono fun e w' q => StepD.of_op (s' := s) h (by rw [if_pos (show (dcOf L s).get a = 0 from h0)]) rfl rfl rfl rfl h.k0 q
    · have e : s.op ((9 : Nat) : Int) a b n = { s with pc := wrap64 (s.pc + n) } := if_neg h0
      rw [e]
      exact (pl_some w p (dcOf L s) h.mc a ha _ _ n).mono fun e w' q => StepD.of_op (s' := { s with pc := wrap64 (s.pc + n) }) h (by rw [if_neg (show ¬ (dcOf L s).get a = 0 from h0)]; rfl) rfl rfl rfl rfl h.k0 q
end
end Go.Proofs.Ythlcoocboidnlaa
