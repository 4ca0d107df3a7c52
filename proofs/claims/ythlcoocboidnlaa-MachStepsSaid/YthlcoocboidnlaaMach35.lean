/- The machine and the document's, side by side: what one step, an outcome, no step at all do to both. -/
import Derived.Test.YthlcoocboidnlaaMach33
namespace Go.Proofs.Ythlcoocboidnlaa
open Go.RowKit
set_option linter.unusedSimpArgs false
set_option linter.unusedVariables false

/-- both machines lie in w, apart, in blocks that were not there in wb; below c what a step may change -/
def Two (wb : World) (c : Nat) (w : World) (R1 R2 : Nat → Prop) (p q : Nat) (sa sb : Ms) : Prop :=
  Nw wb w ∧ c ≤ w.heap.size ∧ ∃ B1 B2 L D, wb.heap.size ≤ B1 ∧ wb.heap.size ≤ B2 ∧ MAtL B1 R1 w p L sa ∧ DAtL B2 R2 w q D sb ∧ (∀ x, (R1 x ∨ Ft p L x) → ¬ Fdd q D x) ∧ (∀ x, (R2 x ∨ Fdd q D x) → ¬ Ft p L x) ∧ (∀ x, (Ft p L x ∨ Fdd q D x) → x < c)
section
variable {wb w : World} {c p q : Nat} {R1 R2 : Nat → Prop} {sa sb : Ms}
theorem Two.base (h : Two wb c w R1 R2 p q sa sb) : Nw wb w := h.1
theorem Two.nw (h : Two wb c w R1 R2 p q sa sb) {w' : World} (k : Nw w w') : Two wb c w' R1 R2 p q sa sb := by
  obtain ⟨h1, h2, B1, B2, L, D, h3, h4, h5, h6, h7⟩ := h
  exact ⟨h1.trans k, Nat.le_trans h2 k.size, B1, B2, L, D, h3, h4, h5.nw k, h6.nw k, h7⟩
theorem Two.up (h : Two wb c w R1 R2 p q sa sb) : Two wb w.heap.size w R1 R2 p q sa sb := by
  obtain ⟨h1, h2, B1, B2, L, D, h3, h4, h5, h6, h7, h8, h9⟩ := h
  exact ⟨h1, Nat.le_refl _, B1, B2, L, D, h3, h4, h5, h6, h7, h8, fun x hx => Nat.lt_of_lt_of_le (h9 x hx) h2⟩
theorem Two.made {B1 B2 : Nat} {L : Lc} {D : Ld} (h1 : Nw wb w) (h3 : wb.heap.size ≤ B1) (h4 : wb.heap.size ≤ B2) (h5 : MAtL B1 R1 w p L sa) (h6 : DAtL B2 R2 w q D sb) (h7 : ∀ x, (R1 x ∨ Ft p L x) → ¬ Fdd q D x) (h8 : ∀ x, (R2 x ∨ Fdd q D x) → ¬ Ft p L x) :
    Two wb w.heap.size w R1 R2 p q sa sb :=
  ⟨h1, Nat.le_refl _, B1, B2, L, D, h3, h4, h5, h6, h7, h8, fun x hx => hx.elim (fun e => h5.all_lt x (.inr e)) (fun e => h6.all_lt x (.inr e))⟩
/-- the program's machine steps -/
theorem two_m (h : Two wb c w R1 R2 p q sa sb) : Calls Try.prog 24 #[.pointer (some ⟨p, 0, none⟩)] w fun e w' =>
    e = .returned (.bool (decide (sa.kind = 0))) ∧ Two wb w'.heap.size w' R1 R2 p q sa.step sb := by
  obtain ⟨h1, h2, B1, B2, L, D, h3, h4, h5, h6, h7, h8, h9⟩ := h
  refine (step_any h5).mono ?_
  rintro e w' ⟨rfl, L', m, k, b, v⟩
  refine ⟨rfl, ?_⟩
  have hf : ∀ x, Ft p L' x → Ft p L x ∨ w.heap.size ≤ x := by
    rintro x (e | e | e)
    · exact .inl (.inl e)
    · exact .inl (.inr (.inl (by rw [← b]; exact e)))
    · rcases v x e with e | e
      · exact .inl (.inr (.inr e))
      · exact .inr e
  refine Two.made (Kp.trans h1 k (fun x hx e => by have := h5.ft_ge x e; omega)) h3 h4 m (h6.kpo k h8) ?_ ?_
  · rintro x (e | e) hx
    · exact h7 x (.inl e) hx
    · rcases hf x e with e | e
      · exact h7 x (.inr e) hx
      · have := h6.all_lt x (.inr hx); omega
  · intro x hx e
    rcases hf x e with e | e
    · exact h8 x hx e
    · have := h6.all_lt x hx; omega
/-- where the document's machine is put anew -/
theorem two_set {B1 B2 : Nat} {L : Lc} {D : Ld} {w' : World} {sb' : Ms} (h1 : Nw wb w) (h3 : wb.heap.size ≤ B1) (h4 : wb.heap.size ≤ B2) (h5 : MAtL B1 R1 w p L sa) (h6 : DAtL B2 R2 w q D sb) (h7 : ∀ x, (R1 x ∨ Ft p L x) → ¬ Fdd q D x) (h8 : ∀ x, (R2 x ∨ Fdd q D x) → ¬ Ft p L x)
    (sd : SD B2 R2 w q D sb' w') : Two wb w'.heap.size w' R1 R2 p q sa sb' := by
  obtain ⟨D', m, k, b, _, v⟩ := sd
  have hf : ∀ x, Fdd q D' x → Fdd q D x ∨ w.heap.size ≤ x := by
    rintro x (e | e | e)
    · exact .inl (.inl e)
    · exact .inl (.inr (.inl (by rw [← b]; exact e)))
    · rcases v x e with e | e
      · exact .inl (.inr (.inr e))
      · exact .inr e
  refine Two.made (Kp.trans h1 k (fun x hx e => by have := h6.ft_ge x e; omega)) h3 h4 (h5.kpo k h7) m ?_ ?_
  · intro x hx e
    rcases hf x e with e | e
    · exact h7 x hx e
    · have := h5.all_lt x hx; omega
  · rintro x (e | e) hx
    · exact h8 x (.inl e) hx
    · rcases hf x e with e | e
      · exact h8 x (.inr e) hx
      · have := h5.all_lt x (.inr hx); omega
/-- the document's machine steps -/
theorem two_d (h : Two wb c w R1 R2 p q sa sb) : Calls Try.prog 27 #[.pointer (some ⟨q, 0, none⟩)] w fun e w' =>
    e = .returned (.bool (decide (sb.kind = 0))) ∧ Two wb w'.heap.size w' R1 R2 p q sa sb.step := by
  obtain ⟨h1, h2, B1, B2, L, D, h3, h4, h5, h6, h7, h8, h9⟩ := h
  refine (dstep_any h6).mono ?_
  rintro e w' ⟨rfl, sd⟩
  exact ⟨rfl, two_set h1 h3 h4 h5 h6 h7 h8 sd⟩
/-- what the program tells of its machine -/
theorem two_out (h : Two wb c w R1 R2 p q sa sb) : Calls Try.prog 22 #[.pointer (some ⟨p, 0, none⟩)] w fun e w' =>
    ∃ x z, e = .returned (.agg #[.int .i64 sa.oc.kind, .int .i64 sa.oc.panics, .slice x sa.oc.out.length z, .int .i64 sa.oc.steps]) ∧ w'.ownsRow c 5 1 (.slice x sa.oc.out.length z) sa.oc.out.length (byteV sa.oc.out) ∧ Nw w w' := by
  obtain ⟨h1, h2, B1, B2, L, D, h3, h4, h5, h6, h7, h8, h9⟩ := h
  refine (outcome_oc h5).mono ?_
  rintro e w' ⟨x, z, rfl, ho, k⟩
  exact ⟨x, z, rfl, own_weaken ho h2, k⟩
/-- the document's machine makes no step, and is told of; a row above c stays -/
theorem two_run0 (h : Two wb c w R1 R2 p q sa sb) {v : Value} {l : List UInt8} (hv : w.ownsRow c 5 1 v l.length (byteV l)) : Calls Try.prog 29 #[.pointer (some ⟨q, 0, none⟩), .int .i64 0] w fun e w' =>
    ∃ x z, e = .returned (.agg #[.int .i64 sb.oc.kind, .int .i64 sb.oc.panics, .slice x sb.oc.out.length z, .int .i64 sb.oc.steps]) ∧ BytesAt w' (.slice x sb.oc.out.length z) sb.oc.out ∧ BytesAt w' v l ∧ Two wb w'.heap.size w' R1 R2 p q sa sb := by
  obtain ⟨h1, h2, B1, B2, L, D, h3, h4, h5, h6, h7, h8, h9⟩ := h
  refine (drun_any h6 0 ⟨by decide, by decide⟩).mono ?_
  rintro e w' ⟨⟨x, z, rfl, ho⟩, sd⟩
  have k : Kp (Fdd q D) w w' := by obtain ⟨_, _, k, _⟩ := sd; exact k
  refine ⟨x, z, rfl, own_bytesAt ho, own_bytesAt (own_kp hv k (fun g hg e => ?_)), two_set h1 h3 h4 h5 h6 h7 h8 sd⟩
  have a1 := own_block hv g hg
  have a2 := h9 g (.inr e)
  omega
/-- what the program's machine tells -/
theorem two_pc (h : Two wb c w R1 R2 p q sa sb) : Calls Try.prog 26 #[.pointer (some ⟨p, 0, none⟩)] w (NumP sa.pc w) := by
  obtain ⟨h1, h2, B1, B2, L, D, h3, h4, h5, h6, h7, h8, h9⟩ := h
  exact pc_any h5
theorem two_reg (h : Two wb c w R1 R2 p q sa sb) (i : Int) : Calls Try.prog 16 #[.pointer (some ⟨p, 0, none⟩), .int .i64 i] w (NumP (sa.regAt i) w) := by
  obtain ⟨h1, h2, B1, B2, L, D, h3, h4, h5, h6, h7, h8, h9⟩ := h
  exact reg_any h5 i
theorem two_mem (h : Two wb c w R1 R2 p q sa sb) (i : Int) : Calls Try.prog 28 #[.pointer (some ⟨p, 0, none⟩), .int .i64 i] w (NumP (sa.memAt i) w) := by
  obtain ⟨h1, h2, B1, B2, L, D, h3, h4, h5, h6, h7, h8, h9⟩ := h
  exact mem_any h5 i
/-- the document's machine's cells -/
theorem two_cells (h : Two wb c w R1 R2 p q sa sb) : ∃ bm cm, w.cell? ⟨q, 18, none⟩ = some (.int .i64 sb.pc) ∧ (∀ a, a < 16 → w.cell? ⟨q, 2 + a, none⟩ = some (.int .i64 (sb.regAt (a : Int)))) ∧ w.cell? ⟨q, 1, none⟩ = some (.slice (some ⟨bm, 0, none⟩) sb.mem.length cm) ∧ sb.mem.length ≤ 262144 ∧
    ∀ k, k < sb.mem.length → w.cell? ⟨bm, k, none⟩ = some (.int .i64 (sb.memAt (k : Int))) := by
  obtain ⟨h1, h2, B1, B2, L, D, h3, h4, h5, h6, h7, h8, h9⟩ := h
  refine ⟨D.bm, D.cm, h6.mc.c18, fun a ha => ?_, h6.mc.c1, h6.hm, fun k hk => ?_⟩
  · rw [h6.mc.creg ha]
    have : sb.regAt (a : Int) = (dcOf D sb).get a := by
      unfold Ms.regAt
      rw [if_pos (by omega)]
      simp [Ms.get, Dc.get, dcOf]
    rw [this]
  · rw [h6.mem.cell hk]
    have : sb.memAt (k : Int) = sb.mem.getD k 0 := by
      unfold Ms.memAt
      have hh : sb.has (k : Int) = true := decide_eq_true (by omega)
      rw [if_pos hh]
      simp [Ms.at]
    rw [this]
end
theorem memAt_out (s : Ms) {i : Int} (h : i < 0 ∨ (s.mem.length : Int) ≤ i) : s.memAt i = 0 := by
  unfold Ms.memAt
  rw [if_neg]
  intro hh
  have := of_decide_eq_true hh
  omega
theorem regAt_out (s : Ms) {i : Int} (h : i < 0 ∨ 16 ≤ i) : s.regAt i = 0 := by
  unfold Ms.regAt
  rw [if_neg (by omega)]
end Go.Proofs.Ythlcoocboidnlaa
