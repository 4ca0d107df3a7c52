/- MachCalls: the plain law. -/
import Derived.Test.YthlcoocboidnlaaMach16
namespace Go.Proofs.Ythlcoocboidnlaa
open Go.RowKit
set_option linter.unusedSimpArgs false
set_option linter.unusedVariables false

theorem op8 (s : Ms) (a b n : Int) : s.op 8 a b n = if s.get a = 0 then { s with pc := wrap64 (s.pc + n) } else s := by kernel_rfl
theorem op10 (s : Ms) (a b n : Int) : s.op 10 a b n = if s.has (wrap64 (s.get 15 - 1)) = true then { s with reg := s.reg.set 15 (wrap64 (s.get 15 - 1)), mem := s.mem.set (wrap64 (s.get 15 - 1)).toNat s.pc, pc := n } else s.flt := by kernel_rfl
theorem op12 (s : Ms) (a b n : Int) : s.op 12 a b n = if s.has (s.get 15) = true then { s with reg := s.reg.set 15 (s.get 15 + 1), pc := s.at (s.get 15) } else s.flt := by kernel_rfl
theorem runN_add (s : Ms) (a b : Nat) : s.runN (a + b) = (s.runN a).runN b := by
  induction a generalizing s with
  | zero => rw [Nat.zero_add]; rfl
  | succ a ih => rw [show a + 1 + b = (a + b) + 1 by omega]; exact ih s.step
def callIns (n : Int) : List In5 := [⟨3, 1, 0, 0, n⟩, ⟨3, 2, 0, 0, 1⟩, ⟨10, 0, 0, 0, 4⟩, ⟨0, 0, 0, 0, 0⟩, ⟨8, 1, 0, 0, 3⟩, ⟨18, 1, 1, 2, 0⟩, ⟨10, 0, 0, 0, 4⟩, ⟨12, 0, 0, 0, 0⟩, ⟨12, 0, 0, 0, 0⟩]
/-- a machine on its way through the calls -/
def cst (cd mem : List Int) (r1 r15 pc t : Int) : Ms := ⟨cd, mem, [0, r1, 1, 0, 0, 0, 0, 0, 0, 0, 0, 0, 0, 0, 0, r15], pc, [], [], 0, 0, t⟩
def cstF (cd mem : List Int) (r1 r15 pc t : Int) : Ms := ⟨cd, mem, [0, r1, 1, 0, 0, 0, 0, 0, 0, 0, 0, 0, 0, 0, 0, r15], pc, [], [], 5, 0, t⟩
def cstD (cd mem : List Int) (r1 r15 pc t : Int) : Ms := ⟨cd, mem, [0, r1, 1, 0, 0, 0, 0, 0, 0, 0, 0, 0, 0, 0, 0, r15], pc, [], [], 1, 0, t⟩
theorem wrap_small {x : Int} (h : 0 ≤ x ∧ x ≤ 100000) : wrap64 x = x := by unfold wrap64; omega
section
variable {n : Int} {cd : List Int} (hcd : cd = wordsOf (callIns n)) {mem : List Int} {m : Nat} (hm : mem.length = m) (hm2 : m ≤ 255)
include hcd
theorem at_zero0 {r15 t : Int} (ht : 0 ≤ t ∧ t ≤ 5000) : (cst cd mem 0 r15 4 t).step = cst cd mem 0 r15 8 (t + 1) := by
  have hc : (cst cd mem 0 r15 4 t).code[4]? = some (In5.word ⟨8, 1, 0, 0, 3⟩) := by rw [show (cst cd mem 0 r15 4 t).code = cd from rfl, hcd]; rfl
  rw [step_ins ⟨8, 1, 0, 0, 3⟩ 4 rfl rfl hc (by decide), if_pos (by decide), op8]
  refine Eq.trans (if_pos (by rfl)) ?_
  have e := wrap_small (x := t + 1) (by omega)
  simp only [cst, Ms.tick, Ms.mk.injEq, true_and, e]
  exact ⟨by kernel_rfl, trivial⟩
theorem at_zero1 {r1 r15 t : Int} (h1 : ¬ r1 = 0) (ht : 0 ≤ t ∧ t ≤ 5000) : (cst cd mem r1 r15 4 t).step = cst cd mem r1 r15 5 (t + 1) := by
  have hc : (cst cd mem r1 r15 4 t).code[4]? = some (In5.word ⟨8, 1, 0, 0, 3⟩) := by rw [show (cst cd mem r1 r15 4 t).code = cd from rfl, hcd]; rfl
  rw [step_ins ⟨8, 1, 0, 0, 3⟩ 4 rfl rfl hc (by decide), if_pos (by decide), op8]
  refine Eq.trans (if_neg h1) ?_
  have e := wrap_small (x := t + 1) (by omega)
  simp only [cst, Ms.tick, Ms.mk.injEq, true_and, e]
  exact ⟨rfl, trivial⟩
theorem at_sub {r1 r15 t : Int} (h1 : 1 ≤ r1 ∧ r1 ≤ 255) (ht : 0 ≤ t ∧ t ≤ 5000) : (cst cd mem r1 r15 5 t).step = cst cd mem (r1 - 1) r15 6 (t + 1) := by
  have hc : (cst cd mem r1 r15 5 t).code[5]? = some (In5.word ⟨18, 1, 1, 2, 0⟩) := by rw [show (cst cd mem r1 r15 5 t).code = cd from rfl, hcd]; rfl
  rw [step_ins ⟨18, 1, 1, 2, 0⟩ 5 rfl rfl hc (by decide), if_neg (by decide)]
  have e := wrap_small (x := t + 1) (by omega)
  have hv : wordsV 18 ((cst cd mem r1 r15 5 t).get 1) ((cst cd mem r1 r15 5 t).get 2) = (wrap64 (r1 - 1), 0) := by kernel_rfl
  rw [hv]
  unfold Ms.words
  rw [if_pos rfl, wrap_small (x := r1 - 1) (by omega)]
  simp only [cst, Ms.tick, Ms.put, Ms.mk.injEq, true_and, e]
  exact ⟨rfl, rfl, trivial⟩
theorem at_call {pc0 : Nat} {r1 r15 t : Int} (hpc : pc0 = 2 ∨ pc0 = 6) (hm : mem.length = m) (hr : 1 ≤ r15 ∧ r15 ≤ (m : Int)) (hm2 : m ≤ 255) (ht : 0 ≤ t ∧ t ≤ 5000) :
    (cst cd mem r1 r15 (pc0 : Int) t).step = cst cd (mem.set (r15 - 1).toNat ((pc0 : Int) + 1)) r1 (r15 - 1) 4 (t + 1) := by
  have hc : (cst cd mem r1 r15 (pc0 : Int) t).code[pc0]? = some (In5.word ⟨10, 0, 0, 0, 4⟩) := by
    rw [show (cst cd mem r1 r15 (pc0 : Int) t).code = cd from rfl, hcd]
    rcases hpc with rfl | rfl <;> rfl
  have e := wrap_small (x := t + 1) (by omega)
  have e2 := wrap_small (x := r15 - 1) (by omega)
  have hg : Ms.get { (cst cd mem r1 r15 (pc0 : Int) t).tick with pc := (pc0 : Int) + 1 } 15 = r15 := rfl
  have hh : Ms.has { (cst cd mem r1 r15 (pc0 : Int) t).tick with pc := (pc0 : Int) + 1 } (r15 - 1) = true := by
    unfold Ms.has
    exact decide_eq_true ⟨by omega, by show r15 - 1 < (mem.length : Int); omega⟩
  rw [step_ins ⟨10, 0, 0, 0, 4⟩ pc0 rfl rfl hc (by decide), if_pos (by decide), op10, hg, e2, if_pos hh]
  simp only [cst, Ms.tick, Ms.mk.injEq, true_and, e]
  exact ⟨rfl, trivial⟩
theorem at_callF {pc0 : Nat} {r1 t : Int} (hpc : pc0 = 2 ∨ pc0 = 6) (ht : 0 ≤ t ∧ t ≤ 5000) :
    (cst cd mem r1 0 (pc0 : Int) t).step = cstF cd mem r1 0 ((pc0 : Int) + 1) (t + 1) := by
  have hc : (cst cd mem r1 0 (pc0 : Int) t).code[pc0]? = some (In5.word ⟨10, 0, 0, 0, 4⟩) := by
    rw [show (cst cd mem r1 0 (pc0 : Int) t).code = cd from rfl, hcd]
    rcases hpc with rfl | rfl <;> rfl
  have e := wrap_small (x := t + 1) (by omega)
  have hg : Ms.get { (cst cd mem r1 0 (pc0 : Int) t).tick with pc := (pc0 : Int) + 1 } 15 = 0 := rfl
  have e2 : wrap64 (0 - 1) = -1 := by unfold wrap64; omega
  have hh : Ms.has { (cst cd mem r1 0 (pc0 : Int) t).tick with pc := (pc0 : Int) + 1 } (-1) = false := by
    unfold Ms.has
    exact decide_eq_false (by omega)
  rw [step_ins ⟨10, 0, 0, 0, 4⟩ pc0 rfl rfl hc (by decide), if_pos (by decide), op10, hg, e2, if_neg (by rw [hh]; simp)]
  simp only [cst, cstF, Ms.flt, Ms.tick, Ms.mk.injEq, true_and, e]
theorem at_ret {pc0 : Nat} {r1 r15 t : Int} (hpc : pc0 = 7 ∨ pc0 = 8) (hm : mem.length = m) (hr : 0 ≤ r15 ∧ r15 < (m : Int)) (ht : 0 ≤ t ∧ t ≤ 5000) :
    (cst cd mem r1 r15 (pc0 : Int) t).step = cst cd mem r1 (r15 + 1) (mem.getD r15.toNat 0) (t + 1) := by
  have hc : (cst cd mem r1 r15 (pc0 : Int) t).code[pc0]? = some (In5.word ⟨12, 0, 0, 0, 0⟩) := by
    rw [show (cst cd mem r1 r15 (pc0 : Int) t).code = cd from rfl, hcd]
    rcases hpc with rfl | rfl <;> rfl
  have e := wrap_small (x := t + 1) (by omega)
  have hg : Ms.get { (cst cd mem r1 r15 (pc0 : Int) t).tick with pc := (pc0 : Int) + 1 } 15 = r15 := rfl
  have hh : Ms.has { (cst cd mem r1 r15 (pc0 : Int) t).tick with pc := (pc0 : Int) + 1 } r15 = true := by
    unfold Ms.has
    exact decide_eq_true ⟨by omega, by show r15 < (mem.length : Int); omega⟩
  rw [step_ins ⟨12, 0, 0, 0, 0⟩ pc0 rfl rfl hc (by decide), if_pos (by decide), op12, hg, if_pos hh]
  simp only [cst, Ms.tick, Ms.at, Ms.mk.injEq, true_and, e]
  exact ⟨rfl, trivial⟩
theorem at_halt {r1 r15 t : Int} (ht : 0 ≤ t ∧ t ≤ 5000) : (cst cd mem r1 r15 3 t).step = cstD cd mem r1 r15 4 (t + 1) := by
  have hc : (cst cd mem r1 r15 3 t).code[3]? = some (In5.word ⟨0, 0, 0, 0, 0⟩) := by rw [show (cst cd mem r1 r15 3 t).code = cd from rfl, hcd]; rfl
  have e := wrap_small (x := t + 1) (by omega)
  rw [step_ins ⟨0, 0, 0, 0, 0⟩ 3 rfl rfl hc (by decide), if_pos (by decide)]
  have h0 : ∀ s : Ms, s.op 0 0 0 0 = { s with kind := 1, panics := 0 } := fun s => by kernel_rfl
  rw [h0]
  simp only [cst, cstD, Ms.tick, Ms.mk.injEq, true_and, e]
  exact ⟨rfl, trivial⟩
/-- the returns -/
theorem calls_up (hm : mem.length = m) : ∀ (d : Nat) (t : Int), d ≤ m → (0 ≤ t ∧ t + d ≤ 4000) → (∀ i, 1 ≤ i → i ≤ d → mem.getD (m - i) 0 = if i = 1 then 3 else 7) →
    (cst cd mem 0 ((m : Int) - d) (if d = 0 then 3 else 7) t).runN (d + 1) = cstD cd mem 0 m 4 (t + d + 1) := by
  intro d
  induction d with
  | zero =>
    intro t _ ht _
    rw [if_pos rfl]
    show Ms.step (cst cd mem 0 ((m : Int) - ((0 : Nat) : Int)) 3 t) = _
    rw [at_halt hcd (by omega)]
    simp
  | succ d ih =>
    intro t hd ht hst
    rw [if_neg (by omega)]
    show Ms.runN (d + 1) (Ms.step _) = _
    have hr := at_ret (pc0 := 7) (r1 := 0) (r15 := (m : Int) - (d + 1 : Nat)) (t := t) (mem := mem) (m := m) hcd (.inl rfl) hm (by omega) (by omega)
    have hp : mem.getD ((m : Int) - (d + 1 : Nat)).toNat 0 = if d = 0 then 3 else 7 := by
      rw [show ((m : Int) - (d + 1 : Nat)).toNat = m - (d + 1) by omega, hst (d + 1) (by omega) (Nat.le_refl _)]
      by_cases h : d = 0
      · subst h; rfl
      · rw [if_neg (by omega), if_neg h]
    rw [hp, show (m : Int) - (d + 1 : Nat) + 1 = (m : Int) - d by omega] at hr
    have hr : (cst cd mem 0 ((m : Int) - (d + 1 : Nat)) 7 t).step = _ := hr
    rw [hr, ih (t + 1) (by omega) (by omega) (fun i h1 h2 => hst i h1 (by omega))]
    rw [show t + 1 + (d : Int) + 1 = t + ((d + 1 : Nat) : Int) + 1 by omega]
/-- the calls -/
theorem calls_down (hm2 : m ≤ 255) : ∀ (j d : Nat) (mem : List Int) (t : Int), mem.length = m → 1 ≤ d → d ≤ m → j ≤ 255 → (0 ≤ t ∧ t + 4 * j + d ≤ 3500) → (∀ i, 1 ≤ i → i ≤ d → mem.getD (m - i) 0 = if i = 1 then 3 else 7) →
    if d + j ≤ m then ∃ mem', (cst cd mem j ((m : Int) - d) 4 t).runN (4 * j + d + 2) = cstD cd mem' 0 m 4 (t + 4 * j + d + 2)
    else ∃ k, k ≤ 3 * j ∧ ((cst cd mem j ((m : Int) - d) 4 t).runN k).kind = 5 := by
  intro j
  induction j with
  | zero =>
    intro d mem t hm h1 hd _ ht hst
    rw [if_pos (by omega)]
    refine ⟨mem, ?_⟩
    rw [show 4 * 0 + d + 2 = (d - 1 + 1) + 1 + 1 by omega]
    show Ms.runN (d - 1 + 1) (Ms.step (Ms.step _)) = _
    have hz := at_zero0 (mem := mem) (r15 := (m : Int) - d) (t := t) hcd (by omega)
    have hz : (cst cd mem ((0 : Nat) : Int) ((m : Int) - d) 4 t).step = _ := hz
    rw [hz]
    have hr := at_ret (pc0 := 8) (r1 := 0) (r15 := (m : Int) - d) (t := t + 1) (mem := mem) (m := m) hcd (.inr rfl) hm (by omega) (by omega)
    have hp : mem.getD ((m : Int) - d).toNat 0 = if d - 1 = 0 then 3 else 7 := by
      rw [show ((m : Int) - d).toNat = m - d by omega, hst d h1 (Nat.le_refl _)]
      by_cases h : d = 1
      · subst h; rfl
      · rw [if_neg h, if_neg (by omega)]
    rw [hp, show (m : Int) - d + 1 = (m : Int) - (d - 1 : Nat) by omega] at hr
    have hr : (cst cd mem 0 ((m : Int) - d) 8 (t + 1)).step = _ := hr
    rw [hr, calls_up hcd hm (d - 1) (t + 1 + 1) (by omega) (by omega) (fun i a b => hst i a (by omega))]
    rw [show t + 1 + 1 + ((d - 1 : Nat) : Int) + 1 = t + 4 * ((0 : Nat) : Int) + d + 2 by omega]
  | succ j ih =>
    intro d mem t hm h1 hd hj ht hst
    have hz := at_zero1 (mem := mem) (r1 := ((j + 1 : Nat) : Int)) (r15 := (m : Int) - d) (t := t) hcd (by omega) (by omega)
    have hs := at_sub (mem := mem) (r1 := ((j + 1 : Nat) : Int)) (r15 := (m : Int) - d) (t := t + 1) hcd (by omega) (by omega)
    rw [show ((j + 1 : Nat) : Int) - 1 = (j : Int) by omega] at hs
    by_cases hdm : d = m
    · rw [if_neg (by omega)]
      refine ⟨3, by omega, ?_⟩
      show (Ms.step (Ms.step (Ms.step _))).kind = 5
      rw [hz, hs]
      have hc := at_callF (mem := mem) (pc0 := 6) (r1 := (j : Int)) (t := t + 1 + 1) hcd (.inr rfl) (by omega)
      rw [show (m : Int) - d = 0 by omega]
      have hc : (cst cd mem (j : Int) 0 6 (t + 1 + 1)).step = _ := hc
      rw [hc]
      rfl
    · have hc := at_call (mem := mem) (m := m) (pc0 := 6) (r1 := (j : Int)) (r15 := (m : Int) - d) (t := t + 1 + 1) hcd (.inr rfl) hm (by omega) hm2 (by omega)
      have hc : (cst cd mem (j : Int) ((m : Int) - d) 6 (t + 1 + 1)).step = _ := hc
      have ml : (mem.set ((m : Int) - d - 1).toNat (((6 : Nat) : Int) + 1)).length = m := by rw [List.length_set]; exact hm
      have hst' : ∀ i, 1 ≤ i → i ≤ d + 1 → (mem.set ((m : Int) - d - 1).toNat (((6 : Nat) : Int) + 1)).getD (m - i) 0 = if i = 1 then 3 else 7 := by
        intro i a b
        rw [show ((m : Int) - d - 1).toNat = m - (d + 1) by omega, List.getD_eq_getElem?_getD, List.getElem?_set]
        by_cases e : i = d + 1
        · subst e
          rw [if_pos rfl, if_pos (by omega), if_neg (by omega)]
          rfl
        · rw [if_neg (by omega), ← List.getD_eq_getElem?_getD]
          exact hst i a (by omega)
      have key := ih (d + 1) _ (t + 1 + 1 + 1) ml (by omega) (by omega) (by omega) (by omega) hst'
      rw [show (m : Int) - ((d + 1 : Nat) : Int) = (m : Int) - d - 1 by omega] at key
      by_cases hle : d + (j + 1) ≤ m
      · rw [if_pos hle]
        rw [if_pos (by omega)] at key
        obtain ⟨mem', hk⟩ := key
        refine ⟨mem', ?_⟩
        rw [show 4 * (j + 1) + d + 2 = (4 * j + (d + 1) + 2) + 1 + 1 + 1 by omega]
        show Ms.runN (4 * j + (d + 1) + 2) (Ms.step (Ms.step (Ms.step _))) = _
        rw [hz, hs, hc, hk]
        rw [show t + 1 + 1 + 1 + 4 * (j : Int) + ((d + 1 : Nat) : Int) + 2 = t + 4 * ((j + 1 : Nat) : Int) + d + 2 by omega]
      · rw [if_neg hle]
        rw [if_neg (by omega)] at key
        obtain ⟨k, hk, hk5⟩ := key
        refine ⟨k + 1 + 1 + 1, by omega, ?_⟩
        show (Ms.runN k (Ms.step (Ms.step (Ms.step _)))).kind = 5
        rw [hz, hs, hc]
        exact hk5
end
theorem runN_stop {s : Ms} {k n : Nat} (h : ¬ (s.runN k).kind = 0) (hk : k ≤ n) : s.runN n = s.runN k := by
  rw [show n = k + (n - k) by omega, runN_add, Ms.runN_end h]
/-- the whole of it -/
theorem calls_all (n m : Nat) (hn : n ≤ 255) (hm : m ≤ 255) :
    if m ≤ n then ((Ms.new (wordsOf (callIns n)) [] 0 m []).runN 3000).kind = 5
    else ∃ mem', (Ms.new (wordsOf (callIns n)) [] 0 m []).runN 3000 = cstD (wordsOf (callIns n)) mem' 0 m 4 (4 * n + 6) := by
  obtain ⟨cd, hcd⟩ : ∃ cd, cd = wordsOf (callIns n) := ⟨_, rfl⟩
  rw [← hcd]
  obtain ⟨mem, hmem⟩ : ∃ mem, mem = (Ms.new cd [] 0 m []).mem := ⟨_, rfl⟩
  have ml : mem.length = m := by
    rw [hmem]; show ([] ++ List.replicate ((m : Int).toNat - 0) (0 : Int)).length = m; simp
  have h0 : Ms.new cd [] 0 m [] = ⟨cd, mem, [0, 0, 0, 0, 0, 0, 0, 0, 0, 0, 0, 0, 0, 0, 0, m], 0, [], [], 0, 0, 0⟩ := by rw [hmem]; rfl
  have ok0 : okIns 3 1 0 0 n = true := by
    have e : okIns 3 1 0 0 n = decide (-2147483648 ≤ (n : Int) ∧ (n : Int) ≤ 2147483647) := rfl
    rw [e]; exact decide_eq_true (by omega)
  have s1 : Ms.step ⟨cd, mem, [0, 0, 0, 0, 0, 0, 0, 0, 0, 0, 0, 0, 0, 0, 0, m], 0, [], [], 0, 0, 0⟩ = ⟨cd, mem, [0, n, 0, 0, 0, 0, 0, 0, 0, 0, 0, 0, 0, 0, 0, m], 1, [], [], 0, 0, 1⟩ := by
    rw [step_ins ⟨3, 1, 0, 0, n⟩ 0 rfl rfl (by rw [hcd]; rfl) ok0]; kernel_rfl
  have s2 : Ms.step ⟨cd, mem, [0, n, 0, 0, 0, 0, 0, 0, 0, 0, 0, 0, 0, 0, 0, m], 1, [], [], 0, 0, 1⟩ = cst cd mem n m 2 2 := by
    rw [step_ins ⟨3, 2, 0, 0, 1⟩ 1 rfl rfl (by rw [hcd]; rfl) (by decide)]; kernel_rfl
  rw [h0]
  by_cases hz : m = 0
  · subst hz
    rw [if_pos (Nat.zero_le _)]
    have s3 := at_callF (mem := mem) (pc0 := 2) (r1 := (n : Int)) (t := 2) hcd (.inl rfl) (by omega)
    have k3 : (Ms.runN 3 ⟨cd, mem, [0, 0, 0, 0, 0, 0, 0, 0, 0, 0, 0, 0, 0, 0, 0, ((0 : Nat) : Int)], 0, [], [], 0, 0, 0⟩) = cstF cd mem n 0 (((2 : Nat) : Int) + 1) (2 + 1) := by
      show Ms.step (Ms.step (Ms.step _)) = _
      rw [s1, s2]; exact s3
    rw [runN_stop (k := 3) (by rw [k3]; show ¬ (5 : Int) = 0; decide) (by omega), k3]
    rfl
  · have s3 := at_call (mem := mem) (m := m) (pc0 := 2) (r1 := (n : Int)) (r15 := (m : Int)) (t := 2) hcd (.inl rfl) ml (by omega) hm (by omega)
    have ml' : (mem.set ((m : Int) - 1).toNat (((2 : Nat) : Int) + 1)).length = m := by rw [List.length_set]; exact ml
    have hst : ∀ i, 1 ≤ i → i ≤ 1 → (mem.set ((m : Int) - 1).toNat (((2 : Nat) : Int) + 1)).getD (m - i) 0 = if i = 1 then 3 else 7 := by
      intro i a b
      obtain rfl : i = 1 := by omega
      rw [show ((m : Int) - 1).toNat = m - 1 by omega, List.getD_eq_getElem?_getD, List.getElem?_set, if_pos rfl, if_pos (by omega)]
      rfl
    have key := calls_down hcd hm n 1 _ 3 ml' (by omega) (by omega) hn (by omega) hst
    have k3 : ∀ k, Ms.runN (k + 3) ⟨cd, mem, [0, 0, 0, 0, 0, 0, 0, 0, 0, 0, 0, 0, 0, 0, 0, m], 0, [], [], 0, 0, 0⟩ = (cst cd (mem.set ((m : Int) - 1).toNat (((2 : Nat) : Int) + 1)) n ((m : Int) - (1 : Nat)) 4 3).runN k := by
      intro k
      show Ms.runN k (Ms.step (Ms.step (Ms.step _))) = _
      rw [s1, s2]
      have s3 : (cst cd mem n m 2 2).step = _ := s3
      rw [s3]
      rfl
    by_cases hle : m ≤ n
    · rw [if_pos hle]
      rw [if_neg (by omega)] at key
      obtain ⟨k, hk, hk5⟩ := key
      rw [← k3] at hk5
      rw [runN_stop (k := k + 3) (by rw [hk5]; decide) (by omega)]
      exact hk5
    · rw [if_neg hle]
      rw [if_pos (by omega)] at key
      obtain ⟨mem', hk⟩ := key
      refine ⟨mem', ?_⟩
      rw [← k3] at hk
      rw [runN_stop (k := 4 * n + 1 + 2 + 3) (by rw [hk]; show ¬ (1 : Int) = 0; decide) (by omega), hk]
      rw [show (3 : Int) + 4 * (n : Int) + ((1 : Nat) : Int) + 2 = 4 * (n : Int) + 6 by omega]
end Go.Proofs.Ythlcoocboidnlaa
