/- Linking: which symbol counts for a name, where it lies, what is refused: plain words. -/
import Derived.Test.YtfdjlicegfgodaaLkMap
namespace Go.Proofs.Ytfdjlicegfgodaa
open Go.RowKit
set_option linter.unusedSimpArgs false
set_option linter.unusedVariables false

/-- a symbol that comes: of which object, as which of its symbols -/
structure Occ where
  i : Nat
  k : Nat
  s : Sy
/-- the symbol that counts so far -/
structure Cn where
  obj : Nat
  pos : Nat
  sym : Sy
  twice : Bool
def fromS (i : Nat) : Nat → List Sy → List Occ
  | _, [] => []
  | k, s :: r => ⟨i, k, s⟩ :: fromS i (k + 1) r
def fromO : Nat → List Ob → List Occ
  | _, [] => []
  | i, o :: r => fromS i 0 o.syms ++ fromO (i + 1) r
theorem fromS_append (i : Nat) : ∀ (l m : List Sy) (k : Nat), fromS i k (l ++ m) = fromS i k l ++ fromS i (k + l.length) m
  | [], m, k => by simp [fromS]
  | s :: r, m, k => by
    simp only [List.cons_append, fromS, List.length_cons]
    rw [fromS_append i r m (k + 1), show k + 1 + r.length = k + (r.length + 1) by omega]
theorem fromO_append : ∀ (l m : List Ob) (i : Nat), fromO i (l ++ m) = fromO i l ++ fromO (i + l.length) m
  | [], m, i => by simp [fromO]
  | o :: r, m, i => by
    simp only [List.cons_append, fromO, List.length_cons, List.append_assoc]
    rw [fromO_append r m (i + 1), show i + 1 + r.length = i + (r.length + 1) by omega]
/-- what has come ahead of symbol k of object i -/
def occP (os : List Ob) (i k : Nat) : List Occ := fromO 0 (os.take i) ++ fromS i 0 (((os[i]?.map Ob.syms).getD []).take k)
def occs (os : List Ob) : List Occ := fromO 0 os
theorem occP_zero (os : List Ob) : occP os 0 0 = [] := by simp [occP, fromO, fromS]
theorem occP_step {os : List Ob} {i k : Nat} (hi : i < os.length) (hk : k < os[i].syms.length) : occP os i (k + 1) = occP os i k ++ [⟨i, k, os[i].syms[k]⟩] := by
  unfold occP
  rw [List.getElem?_eq_getElem hi]
  simp only [Option.map_some, Option.getD_some]
  rw [List.take_succ_eq_append_getElem hk, fromS_append, List.append_assoc]
  simp [fromS, List.length_take, Nat.min_eq_left (Nat.le_of_lt hk)]
theorem occP_next {os : List Ob} {i k : Nat} (hi : i < os.length) (hk : os[i].syms.length ≤ k) : occP os (i + 1) 0 = occP os i k := by
  unfold occP
  rw [List.getElem?_eq_getElem hi]
  simp only [Option.map_some, Option.getD_some]
  rw [List.take_of_length_le hk, List.take_succ_eq_append_getElem hi, fromO_append]
  simp [fromO, fromS, List.length_take, Nat.min_eq_left (Nat.le_of_lt hi)]
theorem occP_all {os : List Ob} {i : Nat} (hi : os.length ≤ i) (k : Nat) : occP os i k = occs os := by
  unfold occP occs
  rw [List.take_of_length_le hi, List.getElem?_eq_none hi]
  simp [fromS]
/-- a symbol more has come: what counts for the name n -/
noncomputable def stepC (n : ByteArray) (acc : Option Cn) (x : Occ) : Option Cn :=
  if dc (x.s.name = n) then
    match acc with
    | none => some ⟨x.i, x.k, x.s, false⟩
    | some c => if c.sym.weak && !x.s.weak then some ⟨x.i, x.k, x.s, c.twice || (!c.sym.weak && !x.s.weak)⟩ else some ⟨c.obj, c.pos, c.sym, c.twice || (!c.sym.weak && !x.s.weak)⟩
  else acc
noncomputable def cnF (n : ByteArray) (l : List Occ) : Option Cn := l.foldl (stepC n) none
theorem cnF_nil (n : ByteArray) : cnF n [] = none := rfl
theorem cnF_snoc (n : ByteArray) (l : List Occ) (x : Occ) : cnF n (l ++ [x]) = stepC n (cnF n l) x := by simp [cnF]
theorem stepC_other {n : ByteArray} {x : Occ} (h : ¬ x.s.name = n) (acc : Option Cn) : stepC n acc x = acc := by unfold stepC; rw [dc_false h]; rfl
theorem stepC_new {n : ByteArray} {x : Occ} (h : x.s.name = n) : stepC n none x = some ⟨x.i, x.k, x.s, false⟩ := by unfold stepC; rw [dc_true h]; rfl
theorem stepC_old {n : ByteArray} {x : Occ} (h : x.s.name = n) (c : Cn) : stepC n (some c) x = if c.sym.weak && !x.s.weak then some ⟨x.i, x.k, x.s, c.twice || (!c.sym.weak && !x.s.weak)⟩ else some ⟨c.obj, c.pos, c.sym, c.twice || (!c.sym.weak && !x.s.weak)⟩ := by unfold stepC; rw [dc_true h]; rfl
theorem mem_occ {os : List Ob} {x : Occ} : x ∈ occs os ↔ ∃ (hi : x.i < os.length) (hk : x.k < os[x.i].syms.length), x.s = os[x.i].syms[x.k] := by
  have hs : ∀ (l : List Sy) (i k : Nat) (x : Occ), x ∈ fromS i k l ↔ x.i = i ∧ ∃ (h : x.k - k < l.length), k ≤ x.k ∧ x.s = l[x.k - k] := by
    intro l
    induction l with
    | nil => intro i k x; simp [fromS]
    | cons s r ih =>
      intro i k x
      simp only [fromS, List.mem_cons, ih, List.length_cons]
      constructor
      · rintro (rfl | ⟨h1, h2, h3, h4⟩)
        · exact ⟨rfl, by simp, Nat.le_refl _, by simp⟩
        · refine ⟨h1, by omega, by omega, ?_⟩
          have e : x.k - k = (x.k - (k + 1)) + 1 := by omega
          rw [h4]
          simp [e]
      · rintro ⟨h1, h2, h3, h4⟩
        by_cases e : x.k = k
        · left
          obtain ⟨xi, xk, xs⟩ := x
          simp only at h1 e h4
          subst h1; subst e
          simp at h4
          rw [h4]
        · right
          refine ⟨h1, by omega, by omega, ?_⟩
          have e2 : x.k - k = (x.k - (k + 1)) + 1 := by omega
          rw [h4]
          simp [e2]
  have ho : ∀ (l : List Ob) (i : Nat) (x : Occ), x ∈ fromO i l ↔ i ≤ x.i ∧ ∃ (h : x.i - i < l.length) (hk : x.k < l[x.i - i].syms.length), x.s = l[x.i - i].syms[x.k] := by
    intro l
    induction l with
    | nil => intro i x; simp [fromO]
    | cons o r ih =>
      intro i x
      simp only [fromO, List.mem_append, ih, hs, List.length_cons]
      constructor
      · rintro (⟨h1, h2, h3, h4⟩ | ⟨h1, h2, h3, h4⟩)
        · have e : x.i - i = 0 := by omega
          refine ⟨by omega, by omega, ?_⟩
          simp only [e, List.getElem_cons_zero]
          exact ⟨by omega, by simpa using h4⟩
        · have e : x.i - i = (x.i - (i + 1)) + 1 := by omega
          refine ⟨by omega, by omega, ?_⟩
          simp only [e, List.getElem_cons_succ]
          exact ⟨h3, h4⟩
      · rintro ⟨h1, h2, h3, h4⟩
        by_cases e : x.i = i
        · left
          have e0 : x.i - i = 0 := by omega
          simp only [e0, List.getElem_cons_zero] at h3 h4
          exact ⟨e, by omega, by omega, by simpa using h4⟩
        · right
          have e2 : x.i - i = (x.i - (i + 1)) + 1 := by omega
          simp only [e2, List.getElem_cons_succ] at h3 h4
          exact ⟨by omega, by omega, h3, h4⟩
  unfold occs
  rw [ho]
  simp
/-- of what counts: it has come, with that name; the strong ones come first; several strong ones -/
structure CnOk (n : ByteArray) (l : List Occ) (c : Cn) : Prop where
  mem : (⟨c.obj, c.pos, c.sym⟩ : Occ) ∈ l
  name : c.sym.name = n
  weak : c.sym.weak = true → ∀ x ∈ l, x.s.name = n → x.s.weak = true
  twice : c.twice = true → ∃ x ∈ l, ∃ y ∈ l, ∃ a b m, l = a ++ x :: (b ++ y :: m) ∧ x.s.name = n ∧ y.s.name = n ∧ x.s.weak = false ∧ y.s.weak = false
  once : c.twice = false → ∀ x ∈ l, x.s.name = n → x.s.weak = false → x = ⟨c.obj, c.pos, c.sym⟩
theorem rev_ind {α : Type} {p : List α → Prop} (h0 : p []) (h1 : ∀ l x, p l → p (l ++ [x])) (l : List α) : p l := by
  have : ∀ m : List α, p m.reverse := by
    intro m
    induction m with
    | nil => exact h0
    | cons a r ih => rw [List.reverse_cons]; exact h1 _ _ ih
  have h := this l.reverse
  rwa [List.reverse_reverse] at h
theorem cnF_none {n : ByteArray} : ∀ {l : List Occ}, cnF n l = none ↔ ∀ x ∈ l, ¬ x.s.name = n := by
  intro l
  induction l using rev_ind with
  | h0 => simp [cnF]
  | h1 l x ih =>
    rw [cnF_snoc]
    by_cases h : x.s.name = n
    · constructor
      · intro hx
        exfalso
        cases hc : cnF n l with
        | none => rw [hc, stepC_new h] at hx; cases hx
        | some c =>
          rw [hc, stepC_old h] at hx
          split at hx <;> cases hx
      · intro hx
        exact absurd h (hx x (by simp))
    · rw [stepC_other h, ih]
      constructor
      · intro hx y hy
        rcases List.mem_append.1 hy with hy | hy
        · exact hx y hy
        · rw [List.mem_singleton.1 hy]; exact h
      · exact fun hx y hy => hx y (List.mem_append_left _ hy)
theorem cnF_ok {n : ByteArray} : ∀ {l : List Occ} {c : Cn}, cnF n l = some c → CnOk n l c := by
  intro l
  induction l using rev_ind with
  | h0 => intro c h; cases h
  | h1 l x ih =>
    intro c h
    rw [cnF_snoc] at h
    by_cases hn : x.s.name = n
    · cases hc : cnF n l with
      | none =>
        rw [hc, stepC_new hn] at h
        injection h with h
        subst h
        have hno := cnF_none.1 hc
        refine ⟨by simp, hn, fun hw y hy hyn => ?_, fun h => (by cases h), fun _ y hy hyn hyw => ?_⟩
        · rcases List.mem_append.1 hy with hy | hy
          · exact absurd hyn (hno y hy)
          · rw [List.mem_singleton.1 hy]; exact hw
        · rcases List.mem_append.1 hy with hy | hy
          · exact absurd hyn (hno y hy)
          · exact List.mem_singleton.1 hy
      | some c0 =>
        rw [hc, stepC_old hn] at h
        have q := ih hc
        cases hw0 : c0.sym.weak with
        | true =>
          have hall := q.weak hw0
          have ht0 : c0.twice = false := by
            cases ht : c0.twice with
            | false => rfl
            | true =>
              obtain ⟨x1, h1, _, _, _, _, _, _, h2, _, h3, _⟩ := q.twice ht
              have := hall x1 h1 h2
              rw [h3] at this; cases this
          cases hwx : x.s.weak with
          | true =>
            simp only [hw0, hwx, ht0, Bool.not_true, Bool.and_false, Bool.false_and, Bool.or_false, Bool.false_eq_true, if_false] at h
            injection h with h
            subst h
            refine ⟨List.mem_append_left _ q.mem, q.name, fun _ y hy hyn => ?_, fun h => (by cases h), fun _ y hy hyn hyw => ?_⟩
            · rcases List.mem_append.1 hy with hy | hy
              · exact hall y hy hyn
              · rw [List.mem_singleton.1 hy]; exact hwx
            · rcases List.mem_append.1 hy with hy | hy
              · rw [hall y hy hyn] at hyw; cases hyw
              · rw [List.mem_singleton.1 hy, hwx] at hyw; cases hyw
          | false =>
            simp only [hw0, hwx, ht0, Bool.not_true, Bool.not_false, Bool.and_true, Bool.false_and, Bool.or_false, if_true] at h
            injection h with h
            subst h
            refine ⟨by simp, hn, fun hw => ?_, fun h => (by cases h), fun _ y hy hyn hyw => ?_⟩
            · rw [hwx] at hw; cases hw
            · rcases List.mem_append.1 hy with hy | hy
              · rw [hall y hy hyn] at hyw; cases hyw
              · exact List.mem_singleton.1 hy
        | false =>
          simp only [hw0, Bool.false_and, Bool.not_false, Bool.true_and, Bool.false_eq_true, if_false] at h
          injection h with h
          subst h
          refine ⟨List.mem_append_left _ q.mem, q.name, fun hw => ?_, fun ht => ?_, fun ht y hy hyn hyw => ?_⟩
          · simp only [hw0] at hw; cases hw
          · simp only [Bool.or_eq_true, Bool.not_eq_true'] at ht
            rcases ht with ht | ht
            · obtain ⟨x1, h1, y1, h2, a, b, m, e, h3, h4, h5, h6⟩ := q.twice ht
              exact ⟨x1, List.mem_append_left _ h1, y1, List.mem_append_left _ h2, a, b, m ++ [x], by rw [e]; simp, h3, h4, h5, h6⟩
            · obtain ⟨a, b, e⟩ := List.append_of_mem q.mem
              refine ⟨_, List.mem_append_left _ q.mem, x, by simp, a, b, [], by rw [e]; simp, q.name, hn, hw0, ht⟩
          · simp only [Bool.or_eq_false_iff, Bool.not_eq_false'] at ht
            rcases List.mem_append.1 hy with hy | hy
            · exact q.once ht.1 y hy hyn hyw
            · rw [List.mem_singleton.1 hy, ht.2] at hyw; cases hyw
    · rw [stepC_other hn] at h
      have q := ih h
      refine ⟨List.mem_append_left _ q.mem, q.name, fun hw y hy hyn => ?_, fun ht => ?_, fun ht y hy hyn hyw => ?_⟩
      · rcases List.mem_append.1 hy with hy | hy
        · exact q.weak hw y hy hyn
        · exact absurd hyn (by rw [List.mem_singleton.1 hy]; exact hn)
      · obtain ⟨x1, h1, y1, h2, a, b, m, e, h3, h4, h5, h6⟩ := q.twice ht
        exact ⟨x1, List.mem_append_left _ h1, y1, List.mem_append_left _ h2, a, b, m ++ [x], by rw [e]; simp, h3, h4, h5, h6⟩
      · rcases List.mem_append.1 hy with hy | hy
        · exact q.once ht y hy hyn hyw
        · exact absurd hyn (by rw [List.mem_singleton.1 hy]; exact hn)
/-- no place comes twice -/
theorem occ_pos_apart (os : List Ob) : (occs os).Pairwise (fun x y => ¬ (x.i = y.i ∧ x.k = y.k)) := by
  have hs : ∀ (l : List Sy) (i k : Nat), (fromS i k l).Pairwise (fun x y => ¬ (x.i = y.i ∧ x.k = y.k)) ∧ ∀ x ∈ fromS i k l, x.i = i ∧ k ≤ x.k := by
    intro l
    induction l with
    | nil => intro i k; simp [fromS]
    | cons s r ih =>
      intro i k
      obtain ⟨h1, h2⟩ := ih i (k + 1)
      simp only [fromS]
      refine ⟨List.pairwise_cons.2 ⟨fun y hy e => ?_, h1⟩, fun x hx => ?_⟩
      · have := (h2 y hy).2
        have := e.2
        simp only at this
        omega
      · rcases List.mem_cons.1 hx with rfl | hx
        · exact ⟨rfl, Nat.le_refl _⟩
        · exact ⟨(h2 x hx).1, by have := (h2 x hx).2; omega⟩
  have ho : ∀ (l : List Ob) (i : Nat), (fromO i l).Pairwise (fun x y => ¬ (x.i = y.i ∧ x.k = y.k)) ∧ ∀ x ∈ fromO i l, i ≤ x.i := by
    intro l
    induction l with
    | nil => intro i; simp [fromO]
    | cons o r ih =>
      intro i
      obtain ⟨h1, h2⟩ := ih (i + 1)
      obtain ⟨h3, h4⟩ := hs o.syms i 0
      simp only [fromO]
      refine ⟨List.pairwise_append.2 ⟨h3, h1, fun x hx y hy e => ?_⟩, fun x hx => ?_⟩
      · have := (h4 x hx).1
        have := h2 y hy
        have := e.1
        omega
      · rcases List.mem_append.1 hx with hx | hx
        · have := (h4 x hx).1; omega
        · have := h2 x hx; omega
  exact (ho os 0).1
/-- the program's test for two strong symbols of one name is the document's -/
theorem twice_iff (os : List Ob) : (∀ n c, cnF n (occs os) = some c → c.twice = false) ↔ ∀ x ∈ occs os, x.s.weak = false → ∃ c, cnF x.s.name (occs os) = some c ∧ c.obj = x.i ∧ c.pos = x.k := by
  constructor
  · intro h x hx hw
    cases hc : cnF x.s.name (occs os) with
    | none => exact absurd rfl (cnF_none.1 hc x hx)
    | some c =>
      have e := (cnF_ok hc).once (h _ _ hc) x hx rfl hw
      exact ⟨c, rfl, by rw [e], by rw [e]⟩
  · intro h n c hc
    cases ht : c.twice with
    | false => rfl
    | true =>
      obtain ⟨x, hx, y, hy, a, b, m, e, h1, h2, h3, h4⟩ := (cnF_ok hc).twice ht
      obtain ⟨c1, q1, q2, q3⟩ := h x hx h3
      obtain ⟨c2, q4, q5, q6⟩ := h y hy h4
      rw [h1] at q1
      rw [h2] at q4
      rw [q1] at q4
      injection q4 with q4
      subst q4
      have hp := occ_pos_apart os
      rw [e] at hp
      have := (List.pairwise_append.1 hp).2.1
      exact absurd ⟨q2.symm.trans q5, q3.symm.trans q6⟩ ((List.pairwise_cons.1 this).1 y (by simp))
end Go.Proofs.Ytfdjlicegfgodaa
