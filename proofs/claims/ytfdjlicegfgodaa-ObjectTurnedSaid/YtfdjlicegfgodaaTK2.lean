/- Reading an object's bytes: the reader in memory; bytes, numbers, counts, texts, truths. -/
import Derived.Test.YtfdjlicegfgodaaTK1
import Derived.Deep.QuietTactic
import Derived.BigQuiet
import Derived.Deep.RegionHeld3
import Derived.Laws.Bits64b
namespace Go.Proofs.Ytfdjlicegfgodaa
open Go.RowKit
set_option linter.unusedSimpArgs false
set_option linter.unusedVariables false

/-- the reader at q holds the bytes r, which lie below B as in W; k things are about it -/
def RdAt (B : Nat) (W w : World) (q : Nat) (r : List UInt8) (k : Int) : Prop :=
  In B W w ∧ B ≤ q ∧ ∃ b o c, Blk w q [.slice (some ⟨b, o, none⟩) r.length c] 87 ∧ b < B ∧ r.length ≤ c ∧ c ≤ maxLen ∧ r.length ≤ 262144 ∧ ∀ i (h : i < r.length), W.cell? ⟨b, o + i, none⟩ = some (.int .u8 (r[i].toNat : Int))
theorem In.kp {S : Nat → Prop} {B : Nat} {W w w' : World} (h : In B W w) (k : Kp S w w') (hs : ∀ b, b < B → ¬ S b) : In B W w' :=
  ⟨h.bel.trans (Kp.below k h.le hs), Nat.le_trans h.le k.size⟩
theorem RdAt.kp {S : Nat → Prop} {B : Nat} {W w w' : World} {q : Nat} {r : List UInt8} {k : Int} (h : RdAt B W w q r k) (kk : Kp S w w') (hs : ∀ b, b < B → ¬ S b) (hq : ¬ S q) : RdAt B W w' q r k := by
  obtain ⟨h1, h2, b, o, c, h3, h4⟩ := h
  exact ⟨h1.kp kk hs, h2, b, o, c, h3.kp kk hq, h4⟩
theorem RdAt.nw {B : Nat} {W w w' : World} {q : Nat} {r : List UInt8} {k : Int} (h : RdAt B W w q r k) (kk : Nw w w') : RdAt B W w' q r k := h.kp kk (fun _ _ x => x) (fun x => x)
theorem RdAt.alloc {B : Nat} {W w : World} {q : Nat} {r : List UInt8} {k : Int} (h : RdAt B W w q r k) (o : Obj) : RdAt B W (w.alloc o) q r k := h.nw (Nw.new w o)
def PAN : Ending := .panicked [{ v := .iface 134 (.agg #[]), recovered := false }]

set_option maxRecDepth 100000 in
set_option maxHeartbeats 1000000 in
theorem rbytes_ok {B : Nat} {W w : World} {q : Nat} {r : List UInt8} {k : Int} (h : RdAt B W w q r k) (n : Nat) (hn : n ≤ r.length) :
    Calls Try.prog 64 #[.pointer (some ⟨q, 0, none⟩), .int .i64 n] w fun e w' =>
      ∃ b o c, e = .returned (.slice (some ⟨b, o, none⟩) n c) ∧ b < B ∧ n ≤ c ∧ c ≤ maxLen ∧ (∀ i (h : i < n), W.cell? ⟨b, o + i, none⟩ = some (.int .u8 ((r[i]'(Nat.lt_of_lt_of_le h hn)).toNat : Int))) ∧ RdAt B W w' q (r.drop n) k ∧ Kp (fun b => b = q) w w' := by
  obtain ⟨g, hB, b, o, c, hblk, hb, hc, hm, hz, hr⟩ := h
  have HC := Lib.hid hr
  obtain ⟨m, hmm⟩ : ∃ m, m = r.length := ⟨_, rfl⟩
  have HM := Lib.hid hmm
  rw [← hmm] at hblk hc hn hz
  clear hr hmm
  have f0 := hblk.cell 0
  have z0 := hblk.frozen 0
  simp only [List.getElem?_cons_zero] at f0
  have hq0 : (0 : Int) ≤ (n : Int) := by omega
  have hq1 : (n : Int) ≤ (m : Int) := by omega
  have hq2 : (n : Int) ≤ (c : Int) := by omega
  have hq3 : (m : Int) ≤ (c : Int) := by omega
  have hn0 : ¬ (n : Int) < 0 := by omega
  have hn1 : ¬ (m : Int) < (n : Int) := by omega
  by_cases hcn : c = n
  · have hnm : m = n := by omega
    subst hcn
    subst hnm
    have hmm : (m : Int) - m = 0 := by omega
    go_enter Try.func64, Try.ntmps64
    go_wp2_with fail
    go_returns
    refine ⟨b, o, _, rfl, hb, Nat.le_refl _, hm, fun i hi => HC.out i (by rw [← HM.out]; exact hi), ?_, (Kp.refl (fun x => x = q) w).setCell (p := ⟨q, 0, none⟩) (fun _ => rfl) _⟩
    have e : r.drop m = [] := by rw [HM.out]; exact List.drop_length
    have B1 := hblk.set 0 (.slice (some ⟨b, o, none⟩) 0 0)
    refine ⟨g.kp ((Kp.refl (fun x => x = q) w).setCell (fun _ => rfl) _) (fun x hx e => by omega), hB, b, o, 0, ?_, hb, by rw [e]; simp, Nat.zero_le _, by rw [e]; simp, ?_⟩
    · rw [e]; simpa using B1
    · intro i hi; rw [e] at hi; simp at hi
  · go_enter Try.func64, Try.ntmps64
    go_wp2_with fail
    go_returns
    refine ⟨b, o, _, rfl, hb, by omega, hm, fun i hi => HC.out i (by rw [← HM.out]; omega), ?_, (Kp.refl (fun x => x = q) w).setCell (p := ⟨q, 0, none⟩) (fun _ => rfl) _⟩
    have e : (r.drop n).length = m - n := by rw [List.length_drop, ← HM.out]
    have B1 := hblk.set 0 (.slice (some ⟨b, o + n, none⟩) (m - n) (c - n))
    refine ⟨g.kp ((Kp.refl (fun x => x = q) w).setCell (fun _ => rfl) _) (fun x hx e => by omega), hB, b, o + n, c - n, ?_, hb, by omega, by omega, by omega, ?_⟩
    · rw [e]; simpa using B1
    · intro i hi
      have := HC.out (n + i) (by rw [← HM.out]; omega)
      rw [Nat.add_assoc, this, List.getElem_drop]

set_option maxRecDepth 100000 in
set_option maxHeartbeats 1000000 in
theorem rbytes_bad {B : Nat} {W w : World} {q : Nat} {r : List UInt8} {k : Int} (h : RdAt B W w q r k) (n : Int) (hn : n < 0 ∨ (r.length : Int) < n) :
    Calls Try.prog 64 #[.pointer (some ⟨q, 0, none⟩), .int .i64 n] w fun e w' => e = PAN ∧ w' = w := by
  obtain ⟨g, hB, b, o, c, hblk, hb, hc, hm, hz, hr⟩ := h
  have f0 := hblk.cell 0
  simp only [List.getElem?_cons_zero, List.getElem?_cons_succ] at f0
  by_cases h0 : n < 0
  · go_enter Try.func64, Try.ntmps64
    go_wp2_with fail
    exact ⟨rfl, rfl, rfl⟩
  · have h1 : (r.length : Int) < n := by omega
    go_enter Try.func64, Try.ntmps64
    go_wp2_with fail
    exact ⟨rfl, rfl, rfl⟩

/-- the number that bytes come to, the lowest first -/
def leVal : List UInt8 → Nat
  | [] => 0
  | b :: r => b.toNat + 256 * leVal r
theorem leVal_lt : ∀ l : List UInt8, leVal l < 256 ^ l.length
  | [] => by simp [leVal]
  | b :: r => by
    have := leVal_lt r
    have hb := b.toNat_lt
    simp only [leVal, List.length_cons, Nat.pow_succ]
    omega
theorem leVal_snoc : ∀ (l : List UInt8) (c : UInt8), leVal (l ++ [c]) = leVal l + c.toNat * 256 ^ l.length
  | [], c => by simp [leVal]
  | b :: r, c => by
    simp only [List.cons_append, leVal, leVal_snoc r c, List.length_cons, Nat.pow_succ, Nat.mul_add]
    rw [Nat.mul_comm (256 ^ r.length) 256, Nat.mul_left_comm 256 c.toNat]
    omega
theorem le_round {r : List UInt8} {j : Nat} (hj : j < 8) (h : j < r.length) :
    bits .or .u64 ((leVal (r.take j) : Nat) : Int) (IntKind.u64.wrap (IntKind.u64.wrap (r[j].toNat : Int) * 2 ^ (8 * j))) = ((leVal (r.take (j + 1)) : Nat) : Int) := by
  have hb := (r[j]).toNat_lt
  have hl : (r.take j).length = j := by rw [List.length_take]; omega
  have h1 := leVal_lt (r.take j)
  rw [hl] at h1
  have hp : (256 : Nat) ^ j = 2 ^ (8 * j) := by rw [Nat.pow_mul]
  have h2 : (2 : Nat) ^ (8 * j) * 256 ≤ 18446744073709551616 := by
    have : (2 : Nat) ^ (8 * j) * 2 ^ 8 ≤ 2 ^ 64 := by rw [← Nat.pow_add]; exact Nat.pow_le_pow_right (by decide) (by omega)
    simpa using this
  rw [List.take_succ_eq_append_getElem h, leVal_snoc, hl, hp]
  rw [hp] at h1
  generalize leVal (r.take j) = s at *
  generalize r[j].toNat = c at *
  have h3 : c * 2 ^ (8 * j) < 18446744073709551616 := by
    have := Nat.mul_le_mul_right (2 ^ (8 * j)) (show c ≤ 255 by omega)
    have h4 : 0 < (2 : Nat) ^ (8 * j) := Nat.pow_pos (by decide)
    omega
  have e1 : IntKind.u64.wrap (c : Int) = c := by rw [IntKind.wrap_u64]; omega
  have e2 : IntKind.u64.wrap ((c : Int) * 2 ^ (8 * j)) = ((c * 2 ^ (8 * j) : Nat) : Int) := by
    have : (c : Int) * 2 ^ (8 * j) = ((c * 2 ^ (8 * j) : Nat) : Int) := by push_cast; rfl
    rw [this, IntKind.wrap_u64]
    omega
  rw [e1, e2, bits_or_u64_nat _ _ (by omega) h3]
  congr 1
  rw [Nat.or_comm, ← Nat.shiftLeft_eq, ← Nat.shiftLeft_add_eq_or_of_lt h1]
  omega
theorem leVal_mod (b : UInt8) (l : List UInt8) : leVal (b :: l) % 256 = b.toNat := by
  have := b.toNat_lt
  simp only [leVal]; omega
theorem leVal_div (b : UInt8) (l : List UInt8) : leVal (b :: l) / 256 = leVal l := by
  have := b.toNat_lt
  simp only [leVal]; omega
theorem le_dig {N K : Nat} {b : UInt8} {l : List UInt8} (h : N / K = leVal (b :: l)) : UInt8.ofNat ((N : Int) / (K : Int) % 256).toNat = b ∧ N / (K * 256) = leVal l := by
  refine ⟨?_, by rw [← Nat.div_div_eq_div_mul, h, leVal_div]⟩
  have e : (N : Int) / (K : Int) % 256 = (b.toNat : Int) := by
    rw [← Int.natCast_ediv, h, show ((leVal (b :: l) : Nat) : Int) % 256 = ((leVal (b :: l) % 256 : Nat) : Int) from rfl, leVal_mod]
  rw [e]; simp
theorem le_wrap {r : List UInt8} (h : 8 ≤ r.length) : le8 (IntKind.i64.wrap (leVal (r.take 8))) = r.take 8 := by
  obtain ⟨a, b, c, d, e, f, g, i, rest, rfl⟩ : ∃ a b c d e f g i rest, r = a :: b :: c :: d :: e :: f :: g :: i :: rest := by
    match r, h with
    | a :: b :: c :: d :: e :: f :: g :: i :: rest, _ => exact ⟨a, b, c, d, e, f, g, i, rest, rfl⟩
  simp only [List.take_succ_cons, List.take_zero]
  have hlt : leVal [a, b, c, d, e, f, g, i] < 18446744073709551616 := Nat.lt_of_lt_of_eq (leVal_lt _) (show (256 : Nat) ^ 8 = 18446744073709551616 by simp)
  obtain ⟨N, hN⟩ : ∃ N, N = leVal [a, b, c, d, e, f, g, i] := ⟨_, rfl⟩
  obtain ⟨h0, n1⟩ := le_dig (N := N) (K := 1) (b := a) (by rw [hN, Nat.div_one])
  obtain ⟨h1, n2⟩ := le_dig (b := b) n1
  obtain ⟨h2, n3⟩ := le_dig (b := c) n2
  obtain ⟨h3, n4⟩ := le_dig (b := d) n3
  obtain ⟨h4, n5⟩ := le_dig (b := e) n4
  obtain ⟨h5, n6⟩ := le_dig (b := f) n5
  obtain ⟨h6, n7⟩ := le_dig (b := g) n6
  obtain ⟨h7, _⟩ := le_dig (b := i) n7
  rw [← hN] at hlt ⊢
  have hu : IntKind.u64.wrap (IntKind.i64.wrap (N : Int)) = N := by
    clear h0 h1 h2 h3 h4 h5 h6 h7 n1 n2 n3 n4 n5 n6 n7 hN h
    simp only [IntKind.wrap, IntKind.bits, IntKind.signed]
    simp
    omega
  simp only [le8, leN, hu, List.map_cons, List.map_nil, List.cons.injEq, and_true]
  exact ⟨by simpa using h0, h1, h2, h3, h4, h5, h6, h7⟩
theorem wrap_i64 (n : Int) : I64 (IntKind.i64.wrap n) := by
  unfold I64
  simp only [IntKind.wrap, IntKind.bits, IntKind.signed]
  simp
  omega

/-- what a reader's function does: it takes a thing's bytes, or gives up where there is no such thing -/
def Rp {α : Type} (B : Nat) (W : World) (q : Nat) (r : List UInt8) (k : Int) (E : α → Prop) (enc : α → List UInt8) (V : (Nat → Prop) → World → α → Value → Prop) (w : World) (e : Ending) (w' : World) : Prop :=
  (∃ x r' v, e = .returned v ∧ E x ∧ r = enc x ++ r' ∧ V (fun b => w.heap.size ≤ b ∧ b < w'.heap.size) w' x v ∧ RdAt B W w' q r' k ∧ Kp (fun b => b = q) w w') ∨
  (e = PAN ∧ No E enc r ∧ Kp (fun b => b = q) w w')
def VI (T : Nat → Prop) (w : World) (x : Int) (v : Value) : Prop := v = .int .i64 x
def VS (T : Nat → Prop) (w : World) (x : ByteArray) (v : Value) : Prop := v = .string x
def VB (T : Nat → Prop) (w : World) (x : Bool) (v : Value) : Prop := v = .bool x

set_option maxRecDepth 100000 in
set_option maxHeartbeats 1000000 in
theorem rnum {B : Nat} {W w : World} {q : Nat} {r : List UInt8} {k : Int} (h : RdAt B W w q r k) :
    Calls Try.prog 46 #[.pointer (some ⟨q, 0, none⟩)] w (Rp B W q r k I64 le8 VI w) := by
  by_cases hn : 8 ≤ r.length
  · have BO := Lib.hid (rbytes_ok h 8 hn)
    go_enter Try.func46, Try.ntmps46
    go_wp2_with fail
    refine (BO.out).mono ?_
    rintro e1 w1 ⟨b, o, c, rfl, hb, hc, hm, hcell, hrd, hk⟩
    have R1 := Lib.hid hrd
    have K1 := Lib.hid hk
    have HC := Lib.hid (fun (i : Nat) (hi : i < 8) => (hrd.1.bel.cell (p := ⟨b, o + i, none⟩) hb).trans (hcell i hi))
    clear hrd hk hcell
    go_wp2_with fail
    go_loopw [3, 9] (fun v i wr => ∃ j : Nat, j ≤ 8 ∧ i = .int .i64 j ∧ v = .int .u64 (leVal (r.take j)) ∧ wr = w1) (fun v i _ => 8 - (intOf i).toNat)
    case atStart => exact ⟨0, Nat.zero_le _, rfl, rfl, rfl⟩
    case round =>
      obtain ⟨j, hj, rfl, rfl, rfl⟩ := hrel
      by_cases hlt : j < 8
      · have hq0 : (0 : Int) ≤ (j : Int) := by omega
        have hq1 : (j : Int) < 8 := by omega
        have f0 := HC.out j hlt
        have LR := Lib.hid (le_round hlt (show j < r.length by omega))
        clear BO
        go_wp2_with fail
        refine ⟨⟨j + 1, by omega, by go_num, by rw [LR.out], trivial⟩, ?_⟩
        simp [intOf]; omega
      · have hj8 : j = 8 := by omega
        subst hj8
        have FIN := Lib.hid (show Rp B W q r k I64 le8 VI w (.returned (.int .i64 (wrap64 (leVal (r.take 8))))) wr by
          rw [show wrap64 ((leVal (r.take 8) : Nat) : Int) = IntKind.i64.wrap (leVal (r.take 8)) by simp [wrap64, IntKind.wrap_i64]]
          exact .inl ⟨_, r.drop 8, _, rfl, wrap_i64 _, by rw [le_wrap hn, List.take_append_drop], rfl, R1.out, K1.out⟩)
        clear BO
        go_wp2_with fail
        go_returns
        exact FIN.out
  · have BB := Lib.hid (rbytes_bad h 8 (.inr (by omega)))
    have NO := Lib.hid (show No I64 le8 r by
      intro x r' _ e
      have := congrArg List.length e
      rw [List.length_append, le8_length] at this
      omega)
    go_enter Try.func46, Try.ntmps46
    go_wp2_with fail
    refine (BB.out).mono ?_
    rintro e1 w1 ⟨rfl, rfl⟩
    unfold PAN
    go_wp2_with fail
    exact ⟨rfl, .inr ⟨rfl, NO.out, Kp.refl _ _⟩⟩

/-- why a count is refused -/
def NoCount (r : List UInt8) : Prop := No I64 le8 r ∨ ∃ v r1, I64 v ∧ r = le8 v ++ r1 ∧ (v < 0 ∨ (r1.length : Int) < v)
theorem NoCount.no {α : Type} {E : α → Prop} {enc : α → List UInt8} (h1 : ∀ x, E x → 1 ≤ (enc x).length) {r : List UInt8} (h : NoCount r) : No (OkL E) (encL enc) r := by
  rcases h with h | ⟨v, r1, hv, hr, hb⟩
  · exact no_num h
  · exact no_count h1 hv hr hb
theorem NoCount.text {r : List UInt8} (h : NoCount r) : No Fits encS r := by
  intro s r' hs e
  unfold encS at e
  rw [List.append_assoc] at e
  rcases h with h | ⟨v, r1, hv, hr, hb⟩
  · exact h _ _ (by unfold Fits at hs; unfold I64; omega) e
  · rw [hr] at e
    obtain ⟨e1, e2⟩ := le8_pi hv (by unfold Fits at hs; unfold I64; omega) e
    have h3 := congrArg List.length e2
    rw [List.length_append] at h3
    have : s.data.toList.length = s.size := Array.length_toList
    omega
theorem RdAt.len {B : Nat} {W w : World} {q : Nat} {r : List UInt8} {k : Int} (h : RdAt B W w q r k) : r.length ≤ 262144 := by
  obtain ⟨_, _, _, _, _, _, _, _, _, h, _⟩ := h
  exact h

set_option maxRecDepth 100000 in
set_option maxHeartbeats 1000000 in
theorem rcount {B : Nat} {W w : World} {q : Nat} {r : List UInt8} {k : Int} (h : RdAt B W w q r k) :
    Calls Try.prog 66 #[.pointer (some ⟨q, 0, none⟩)] w fun e w' =>
      (∃ (n : Nat) (r1 : List UInt8), e = .returned (.int .i64 n) ∧ r = le8 n ++ r1 ∧ n ≤ r1.length ∧ RdAt B W w' q r1 k ∧ Kp (fun b => b = q) w w') ∨ (e = PAN ∧ NoCount r ∧ Kp (fun b => b = q) w w') := by
  have HN := Lib.hid (rnum h)
  go_enter Try.func66, Try.ntmps66
  go_wp2_with fail
  refine (HN.out).mono ?_
  rintro e1 w1 (⟨v, r1, _, rfl, hv, hr, rfl, hrd, hk⟩ | ⟨rfl, hno, hk⟩)
  · have R1 := Lib.hid hrd
    have K1 := Lib.hid hk
    have V1 := Lib.hid hv
    have L1 := Lib.hid hr
    clear HN
    obtain ⟨g, hB, b, o, c, hblk, hb, hc, hm, hz, _⟩ := hrd
    have f0 := hblk.cell 0
    simp only [List.getElem?_cons_zero, List.getElem?_cons_succ] at f0
    clear g hB hblk hb hc hm hr hk
    by_cases h0 : v < 0
    · clear hv
      go_wp2_with fail
      exact ⟨rfl, .inr ⟨rfl, .inr ⟨v, r1, V1.out, L1.out, .inl h0⟩, K1.out⟩⟩
    · by_cases h1 : (r1.length : Int) < v
      · clear hv
        have hw : IntKind.i64.wrap ((r1.length : Nat) : Int) = r1.length := IntWalk.i64_in _ (by omega)
        go_wp2_with fail
        exact ⟨rfl, .inr ⟨rfl, .inr ⟨v, r1, V1.out, L1.out, .inr h1⟩, K1.out⟩⟩
      · obtain ⟨n, rfl⟩ : ∃ n : Nat, v = n := ⟨v.toNat, by omega⟩
        clear hv
        have hq1 : (n : Int) ≤ (r1.length : Int) := by omega
        have hn : n ≤ r1.length := by omega
        have hw : IntKind.i64.wrap ((r1.length : Nat) : Int) = r1.length := IntWalk.i64_in _ (by omega)
        have hw2 : IntKind.i64.wrap ((n : Nat) : Int) = n := IntWalk.i64_in _ (by omega)
        go_wp2_with fail
        go_returns
        exact .inl ⟨n, r1, rfl, L1.out, hn, R1.out, K1.out⟩
  · unfold PAN
    go_wp2_with fail
    exact ⟨rfl, .inr ⟨rfl, .inl hno, hk⟩⟩

theorem Kp.thn {q : Nat} {a b c : World} (h : Kp (fun x => x = q) a b) (k : Kp (fun x => x = q) b c) : Kp (fun x => x = q) a c := Kp.trans h k (fun _ _ x => x)

set_option maxRecDepth 100000 in
set_option maxHeartbeats 1000000 in
theorem rtext {B : Nat} {W w : World} {q : Nat} {r : List UInt8} {k : Int} (h : RdAt B W w q r k) :
    Calls Try.prog 65 #[.pointer (some ⟨q, 0, none⟩)] w (Rp B W q r k Fits encS VS w) := by
  have HN := Lib.hid (rcount h)
  have LE := Lib.hid h.len
  go_enter Try.func65, Try.ntmps65
  go_wp2_with fail
  refine (HN.out).mono ?_
  rintro e1 w1 (⟨n, r1, rfl, hr, hn, hrd, hk⟩ | ⟨rfl, hno, hk⟩)
  · have BO := Lib.hid (rbytes_ok hrd n hn)
    have K1 := Lib.hid hk
    have L1 := Lib.hid hr
    have N1 := Lib.hid hn
    clear HN hrd hk hr
    go_wp2_with fail
    refine (BO.out).mono ?_
    rintro e2 w2 ⟨b, o, c, rfl, hb, hc, hm, hcell, hrd, hk⟩
    obtain ⟨s, hs⟩ : ∃ s : ByteArray, s = ⟨(r1.take n).toArray⟩ := ⟨_, rfl⟩
    have hlen : (r1.take n).length = n := by rw [List.length_take]; have := N1.out; omega
    have hcv : (convert 34 9 (.slice (some ⟨b, o, none⟩) n c)).run Try.prog w2 = .ok (.string s) w2 := by
      rw [hs]
      exact conv_bytes ⟨some ⟨b, o, none⟩, c, by rw [hlen], by rw [hlen]; exact hc, hm, fun _ => ⟨b, o, rfl, fun i hi => by
        have h1 := (hrd.1.bel.cell (p := ⟨b, o + i, none⟩) hb).trans (hcell i (by omega))
        rw [h1, List.getElem_take]⟩⟩
    have FIN := Lib.hid (show Rp B W q r k Fits encS VS w (.returned (.string s)) w2 from .inl ⟨s, r1.drop n, _, rfl, by
        rw [hs]; unfold Fits
        show (r1.take n).toArray.size ≤ _
        rw [List.size_toArray, hlen]
        have := LE.out; have h2 := congrArg List.length L1.out; rw [List.length_append] at h2; have := N1.out; omega, by
        rw [L1.out, hs]
        unfold encS
        show _ = le8 (((r1.take n).toArray.size : Nat) : Int) ++ (r1.take n).toArray.toList ++ _
        rw [List.size_toArray, hlen, List.append_assoc]
        simp, rfl, hrd, K1.out.thn hk⟩)
    clear hs hrd hk hcell BO
    go_wp2_with fail
    go_returns
    exact FIN.out
  · unfold PAN
    go_wp2_with fail
    exact ⟨rfl, .inr ⟨rfl, hno.text, hk⟩⟩

set_option maxRecDepth 100000 in
set_option maxHeartbeats 1000000 in
theorem rtruth {B : Nat} {W w : World} {q : Nat} {r : List UInt8} {k : Int} (h : RdAt B W w q r k) :
    Calls Try.prog 67 #[.pointer (some ⟨q, 0, none⟩)] w (Rp B W q r k (fun _ => True) encB VB w) := by
  have HN := Lib.hid (rnum h)
  go_enter Try.func67, Try.ntmps67
  go_wp2_with fail
  refine (HN.out).mono ?_
  rintro e1 w1 (⟨v, r1, _, rfl, hv, hr, rfl, hrd, hk⟩ | ⟨rfl, hno, hk⟩)
  · clear HN
    by_cases h0 : v = 0
    · subst h0
      have FIN := Lib.hid (show Rp B W q r k (fun _ => True) encB VB w (.returned (.bool false)) w1 from .inl ⟨false, r1, _, rfl, trivial, hr, rfl, hrd, hk⟩)
      clear hr hrd hk hv
      go_wp2_with fail
      go_returns
      exact FIN.out
    · by_cases h1 : v = 1
      · subst h1
        have FIN := Lib.hid (show Rp B W q r k (fun _ => True) encB VB w (.returned (.bool true)) w1 from .inl ⟨true, r1, _, rfl, trivial, hr, rfl, hrd, hk⟩)
        clear hr hrd hk hv
        go_wp2_with fail
        go_returns
        exact FIN.out
      · have NO := Lib.hid (show No (fun _ => True) encB r by
          intro b r' _ e
          rw [hr] at e
          obtain ⟨e1, _⟩ := le8_pi hv (by unfold I64; split <;> omega) e
          split at e1
          · exact h1 e1
          · exact h0 e1)
        have K1 := Lib.hid hk
        clear hr hrd hk hv
        obtain ⟨ne1, ne2, ne3, ne4⟩ := int_ne h0
        obtain ⟨nf1, nf2, nf3, nf4⟩ := int_ne h1
        go_wp2_with fail
        exact ⟨rfl, .inr ⟨rfl, NO.out, K1.out⟩⟩
  · unfold PAN
    go_wp2_with fail
    exact ⟨rfl, .inr ⟨rfl, by
      intro b r' _ e
      exact hno _ _ (by unfold I64; split <;> omega) e, hk⟩⟩
end Go.Proofs.Ytfdjlicegfgodaa
