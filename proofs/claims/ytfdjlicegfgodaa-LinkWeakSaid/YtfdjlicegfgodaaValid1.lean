/- Which objects may be: the plain word. -/
import Derived.Test.YtfdjlicegfgodaaMap
namespace Go.Proofs.Ytfdjlicegfgodaa
open Go.RowKit
set_option linter.unusedSimpArgs false
set_option linter.unusedVariables false

section
variable {α κ : Type}
noncomputable def okPre (f : α → Bool) (key : α → κ) (l : List α) : Bool := l.all f && dc (l.map key).Nodup
theorem dc_congr {p q : Prop} (h : p ↔ q) : dc p = dc q := by
  by_cases hp : p
  · rw [dc_true hp, dc_true (h.1 hp)]
  · rw [dc_false hp, dc_false (fun hq => hp (h.2 hq))]
theorem dc_and {p q : Prop} : dc (p ∧ q) = (dc p && dc q) := by
  by_cases hp : p <;> by_cases hq : q <;> simp [dc, hp, hq]
theorem okPre_nil (f : α → Bool) (key : α → κ) : okPre f key [] = true := by simp [okPre, dc]
theorem okPre_snoc (f : α → Bool) (key : α → κ) {l : List α} {k : Nat} (h : k < l.length) :
    okPre f key (l.take (k + 1)) = (okPre f key (l.take k) && (f l[k] && dc (key l[k] ∉ (l.take k).map key))) := by
  have e : (((l.take k).map key ++ [key l[k]]).Nodup ↔ ((l.take k).map key).Nodup ∧ key l[k] ∉ (l.take k).map key) := by
    rw [List.nodup_append]
    constructor
    · rintro ⟨h1, _, h3⟩
      exact ⟨h1, fun hm => h3 _ hm _ (by simp) rfl⟩
    · rintro ⟨h1, h2⟩
      exact ⟨h1, by simp, fun a ha b hb e => h2 (by simp at hb; rw [← hb, ← e]; exact ha)⟩
  unfold okPre
  rw [List.take_succ_eq_append_getElem h, List.all_append, List.map_append, List.map_singleton, dc_congr e, dc_and]
  simp only [List.all_cons, List.all_nil, Bool.and_true]
  cases (l.take k).all f <;> cases dc ((l.take k).map key).Nodup <;> simp
theorem okPre_all (f : α → Bool) (key : α → κ) {l : List α} {k : Nat} (h : l.length ≤ k) : okPre f key (l.take k) = okPre f key l := by rw [List.take_of_length_le h]
theorem okPre_no (f : α → Bool) (key : α → κ) {l : List α} {k : Nat} (h : okPre f key (l.take k) = false) : okPre f key l = false := by
  by_cases hk : k < l.length
  · have h1 := okPre_snoc f key hk
    rw [h, Bool.false_and] at h1
    exact okPre_no f key h1
  · rw [← okPre_all f key (k := k) (by omega)]; exact h
termination_by l.length - k
end
noncomputable def impsB (l : List Im) : Bool := okPre (fun i => nameB i.name) Im.name l
noncomputable def symsB (nc nd : Nat) (l : List Sy) : Bool := okPre (fun s => symB nc nd s.name s.kind s.at_ s.size s.frame) Sy.name l
noncomputable def relsB (code data : List Int) (l : List Re) : Bool := okPre (fun r => nameB r.name && mendsB code data r.data r.at_) (fun r => (r.data, r.at_)) l
noncomputable def validB (o : Ob) : Bool := nameB o.pkg && (impsB o.imports && (symsB o.code.length o.data.length o.syms && relsB o.code o.data o.relocs))
noncomputable def codeV (o : Ob) : Int := if 65536 < o.code.length ∨ 16384 < o.data.length then 12 else if validB o = true then 0 else 4
theorem SlB.slice {α : Type} {B : Nat} {W : World} {n : Nat} {E : α → List Value → Prop} {l : List α} {v : Value} (h : SlB B W n E l v) : ∃ x m c, v = .slice x m c := by
  obtain ⟨x, c, rfl, _⟩ := h
  exact ⟨_, _, _, rfl⟩
/-- a code is handed back, with new blocks alone -/
def CodePost (w : World) (n : Int) (e : Ending) (w' : World) : Prop := e = .returned (.int .i64 n) ∧ Nw w w'
theorem strKeyed : Maps.Keyed Try.prog 9 := Maps.string_keyed Try.underlying9
theorem keyOf_str (s : ByteArray) (h : Fits s) : ∃ l, keyOf Try.prog 9 (.string s) = some l := by
  refine ⟨.string s.data.toList, ?_⟩
  have : s.size ≤ maxLen := by unfold maxLen; unfold Fits at h; omega
  simp [keyOf, Try.underlying9, mapKey, this]
theorem spotKeyed : Maps.Keyed Try.prog 66 :=
  Maps.Keyed.of_law (deep_law_laid (by kernel_rfl) (m := 3) (by decide) (of_decide_eq_true (by kernel_rfl)) (by kernel_rfl) (by kernel_rfl))
theorem keyOf_spot (d : Bool) (a : Int) (h : I64 a) : ∃ l, keyOf Try.prog 66 (.agg #[.bool d, .int .i64 a]) = some l := by
  have hw : (Lit.int .i64 a).wf = true := by simp [Lit.wf, IntKind.min, IntKind.max, IntKind.signed, IntKind.bits]; exact h
  have h1 : Try.prog.keyType 66 = true := by kernel_rfl
  have h2 : (Value.agg #[.bool d, .int .i64 a]).formed Try.prog 66 = true := by
    simp only [Value.formed, Try.underlying66]
    kernel_rfl
  have h3 : Try.prog.cellsOf 66 = 2 := by kernel_rfl
  have h4 : Try.prog.cellsOf 4 = 1 := by kernel_rfl
  have h5 : Try.prog.cellsOf 3 = 1 := by kernel_rfl
  obtain ⟨n, hn⟩ : ∃ n, Try.prog.types.size = n + 1 := ⟨Try.prog.types.size - 1, by have : 0 < Try.prog.types.size := of_decide_eq_true (by kernel_rfl); omega⟩
  have h6 : Try.prog.keyLits (Try.prog.types.size + 1) 66 [.bool d, .int .i64 a] = some [.bool d, .int .i64 a] := by
    rw [hn]
    simp [Program.keyLits, Try.underlying66, Try.underlying4, Try.underlying3, h3, h4, h5, hw]
  refine ⟨.string (keyBytes [.bool d, .int .i64 a]), ?_⟩
  simp only [keyOf, Try.underlying66, h1, h2, Bool.and_self, if_true]
  rw [show (Value.agg #[.bool d, .int .i64 a]).cells.toList = [.bool d, .int .i64 a] from rfl, h6]
  rfl
end Go.Proofs.Ytfdjlicegfgodaa
