/- LinkHashes: the plain law. -/
import Derived.Test.YtfdjlicegfgodaaLkO
namespace Go.Proofs.Ytfdjlicegfgodaa
open Go.RowKit
set_option linter.unusedSimpArgs false
set_option linter.unusedVariables false

theorem xor_val (a b : Int) : bits .xor .i64 a b = (BitVec.ofInt 64 a ^^^ BitVec.ofInt 64 b).toInt := by
  have h : ∀ x : BitVec 64, IntKind.i64.wrap (x.toNat : Int) = x.toInt := by
    intro x
    rw [IntKind.wrap_i64, BitVec.toInt_eq_toNat_cond]
    have := x.isLt
    split <;> omega
  exact h _
theorem xor_i64 (a b : Int) : I64 (bits .xor .i64 a b) := by
  rw [xor_val]
  have h1 := BitVec.le_toInt (BitVec.ofInt 64 a ^^^ BitVec.ofInt 64 b)
  have h2 := BitVec.toInt_lt (x := BitVec.ofInt 64 a ^^^ BitVec.ofInt 64 b)
  unfold I64
  simp only [Nat.reduceSub] at h1 h2
  omega
theorem xor_ne {a b : Int} (ha : I64 a) (hb : I64 b) (h0 : ¬ b = 0) : ¬ bits .xor .i64 a b = a := by
  intro e
  rw [xor_val] at e
  have e2 : BitVec.ofInt 64 a ^^^ BitVec.ofInt 64 b = BitVec.ofInt 64 a := by
    have := congrArg (BitVec.ofInt 64) e
    rwa [BitVec.ofInt_toInt] at this
  have e3 : BitVec.ofInt 64 b = 0#64 := by
    have : BitVec.ofInt 64 a ^^^ (BitVec.ofInt 64 a ^^^ BitVec.ofInt 64 b) = BitVec.ofInt 64 a ^^^ BitVec.ofInt 64 a := by rw [e2]
    rw [← BitVec.xor_assoc, BitVec.xor_self, BitVec.zero_xor] at this
    exact this
  have e4 : (BitVec.ofInt 64 b).toInt = 0 := by rw [e3]; rfl
  rw [BitVec.toInt_ofInt] at e4
  have e5 : Int.bmod b (2 ^ 64) = b := by
    unfold I64 at hb
    rw [Int.bmod_def]
    split <;> omega
  omega
section
variable {os : List Ob} {k : Nat} {u u' : Ob}
theorem map_same {β : Type} {f : Ob → β} (hu : os[k]? = some u) (hf : f u' = f u) : (os.set k u').map f = os.map f := by
  obtain ⟨hk, rfl⟩ := List.getElem?_eq_some_iff.1 hu
  rw [List.map_set, hf]
  apply List.ext_getElem
  · simp
  · intro i h1 h2
    rw [List.getElem_set]
    split
    · rename_i e; subst e; simp
    · rfl
theorem flat_same {β : Type} {f : Ob → List β} (hu : os[k]? = some u) (hf : f u' = f u) : (os.set k u').flatMap f = os.flatMap f := by
  rw [List.flatMap_def, List.flatMap_def, map_same hu hf]
theorem fromO_congr : ∀ (l l' : List Ob) (i : Nat), l.map Ob.syms = l'.map Ob.syms → fromO i l = fromO i l'
  | [], [], _, _ => rfl
  | [], b :: r, _, h => by simp at h
  | a :: r, [], _, h => by simp at h
  | a :: r, b :: s, i, h => by
    simp only [List.map_cons, List.cons.injEq] at h
    simp only [fromO, h.1, fromO_congr r s (i + 1) h.2]
theorem set_get_other {i : Nat} (h : i ≠ k) : (os.set k u')[i]? = os[i]? := by
  rw [List.getElem?_set_ne (fun e => h e.symm)]
theorem hashF_other {h' : Int} (hu : os[k]? = some u) (hn : (pkgs os).Nodup) {n : ByteArray} (hne : ¬ n = u.pkg) : hashF (os.set k { u with hash := h' }) n = hashF os n := by
  have hp : pkgs (os.set k { u with hash := h' }) = pkgs os := map_same (f := Ob.pkg) hu rfl
  by_cases hm : n ∈ pkgs os
  · obtain ⟨v, hv, rfl⟩ := List.mem_map.1 hm
    obtain ⟨i, hi, hiv⟩ := List.getElem_of_mem hv
    have h1 : os[i]? = some v := by rw [List.getElem?_eq_getElem hi, hiv]
    have hik : i ≠ k := by
      intro e
      subst e
      rw [hu] at h1
      injection h1 with h1
      exact hne (by rw [h1])
    rw [hashF_nodup hn h1, hashF_nodup (i := i) (u := v) (by rw [hp]; exact hn) (by rw [set_get_other hik]; exact h1)]
  · rw [hashF_none.2 hm, hashF_none.2 (by rw [hp]; exact hm)]
/-- an object was made against another hash -/
theorem hashes_law {bg : List ByteArray} {h' : Int} (hu : os[k]? = some u) (hb : badV os bg = 0) (hh : ¬ h' = u.hash) :
    ((∃ m ∈ allI os, m.name = u.pkg) → badV (os.set k { u with hash := h' }) bg = 10) ∧ ((¬ ∃ m ∈ allI os, m.name = u.pkg) → badV (os.set k { u with hash := h' }) bg = 0) := by
  obtain ⟨hpk, hso, hlm⟩ := bad_parts hb
  have hv := packV_zero hpk
  have hn : (pkgs os).Nodup := by
    by_cases hn : (pkgs os).Nodup
    · exact hn
    · rw [pack7 hv hn] at hpk; cases hpk
  have hi0 : impV os = 0 := by rw [← packI hv hn]; exact hpk
  have hmiss : ¬ missP os (allI os) := by
    intro hm
    obtain ⟨m, h1, h2⟩ := hm
    rw [impV6 h1 h2] at hi0; cases hi0
  have hmis : ¬ misP os (allI os) := by
    intro hm
    obtain ⟨m, h1, h2⟩ := hm
    rw [impV10 hmiss h1 h2] at hi0; cases hi0
  have hp : pkgs (os.set k { u with hash := h' }) = pkgs os := map_same (f := Ob.pkg) hu rfl
  have hi : allI (os.set k { u with hash := h' }) = allI os := flat_same (f := Ob.imports) hu rfl
  have hn' : (pkgs (os.set k { u with hash := h' })).Nodup := by rw [hp]; exact hn
  have hv' : ∀ o ∈ os.set k { u with hash := h' }, codeV o = 0 := by
    intro o ho
    rcases List.mem_or_eq_of_mem_set ho with h1 | h1
    · exact hv o h1
    · rw [h1]
      exact (show codeV { u with hash := h' } = codeV u from rfl).trans (hv u (List.mem_of_getElem? hu))
  have hmiss' : ¬ missP (os.set k { u with hash := h' }) (allI (os.set k { u with hash := h' })) := by
    rw [hi]
    rintro ⟨m, h1, h2⟩
    exact hmiss ⟨m, h1, hashF_none.2 (by have := hashF_none.1 h2; rw [hp] at this; exact this)⟩
  have hku : (os.set k { u with hash := h' })[k]? = some { u with hash := h' } := by
    rw [List.getElem?_set_self (List.getElem?_eq_some_iff.1 hu).1]
  constructor
  · rintro ⟨m, h1, h2⟩
    have h3 : hashF os m.name = some m.hash := by
      by_cases e : hashF os m.name = some m.hash
      · exact e
      · exact absurd ⟨m, h1, e⟩ hmis
    have h4 : hashF os m.name = some u.hash := by rw [h2]; exact hashF_nodup hn hu
    have h5 : hashF (os.set k { u with hash := h' }) m.name = some h' := by
      rw [h2]; exact hashF_nodup (u := { u with hash := h' }) hn' hku
    have h6 : packV (os.set k { u with hash := h' }) = 10 := by
      rw [packI hv' hn', impV10 hmiss' (m := m) (by rw [hi]; exact h1)]
      rw [h5, ← h3, h4]
      intro e
      injection e with e
      exact hh e
    rw [bad_pack (by rw [h6]; decide), h6]
  · intro hw
    have h6 : packV (os.set k { u with hash := h' }) = 0 := by
      rw [packI hv' hn', impV0 hmiss']
      rw [hi]
      rintro ⟨m, h1, h2⟩
      rw [hashF_other hu hn (fun e => hw ⟨m, h1, e⟩)] at h2
      exact hmis ⟨m, h1, h2⟩
    have ho : occs (os.set k { u with hash := h' }) = occs os := fromO_congr _ _ 0 (map_same (f := Ob.syms) hu rfl)
    have hr : (os.set k { u with hash := h' }).flatMap Ob.relocs = os.flatMap Ob.relocs := flat_same (f := Ob.relocs) hu rfl
    have h7 : symsOK (os.set k { u with hash := h' }) bg := by
      unfold symsOK at hso ⊢
      rw [ho, hr]; exact hso
    have h8 : ¬ limP (os.set k { u with hash := h' }) bg.length := by
      have e1 : sumC (os.set k { u with hash := h' }) = sumC os := congrArg List.sum (map_same (u' := { u with hash := h' }) (f := fun o => o.code.length) hu rfl)
      have e2 : sumD (os.set k { u with hash := h' }) = sumD os := congrArg List.sum (map_same (u' := { u with hash := h' }) (f := fun o => o.data.length) hu rfl)
      unfold limP at hlm ⊢
      rw [e1, e2]
      exact hlm
    exact bad0 h6 h7 h8
end
end Go.Proofs.Ytfdjlicegfgodaa
