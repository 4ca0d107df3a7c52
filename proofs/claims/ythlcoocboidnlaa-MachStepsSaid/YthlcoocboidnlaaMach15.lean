/- Words and their instructions; one step of a known instruction; the statements' example. -/
import Derived.Test.YthlcoocboidnlaaMach14
namespace Go.Proofs.Ythlcoocboidnlaa
open Go.RowKit
set_option linter.unusedSimpArgs false
set_option linter.unusedVariables false

theorem dec_enc {op a b c n : Int} (h : okIns op a b c n = true) :
    (0 ≤ encIns op a b c n ∧ encIns op a b c n < 9223372036854775808) ∧ opW (encIns op a b c n) = op ∧ aW (encIns op a b c n) = a ∧ bW (encIns op a b c n) = b ∧ cW (encIns op a b c n) = c ∧ nW (encIns op a b c n) = n ∧ okW (encIns op a b c n) = true := by
  have h' := h
  unfold okIns at h
  simp only [Bool.and_eq_true] at h
  obtain ⟨h0, h1, h2, h3, h4⟩ := h
  unfold isOp at h0
  have h0 := of_decide_eq_true h0
  unfold regB at h1 h2 h3
  have h1 := of_decide_eq_true h1
  have h2 := of_decide_eq_true h2
  have h3 := of_decide_eq_true h3
  have h4 : -2147483648 ≤ n ∧ n ≤ 2147483647 := by
    unfold immB at h4
    split at h4
    · exact of_decide_eq_true h4
    · have := of_decide_eq_true h4; omega
  have hv : 0 ≤ encIns op a b c n ∧ encIns op a b c n < 9223372036854775808 := by unfold encIns; omega
  obtain ⟨v, hvv⟩ : ∃ v, v = encIns op a b c n := ⟨_, rfl⟩
  have hu : IntKind.u64.wrap v = v := by
    rw [hvv]
    simp only [IntKind.wrap, IntKind.bits, IntKind.signed]
    simp
    omega
  have e1 : opW v = op := by unfold opW; rw [hu, hvv]; unfold encIns; omega
  have e2 : aW v = a := by unfold aW; rw [hu, hvv]; unfold encIns; omega
  have e3 : bW v = b := by unfold bW; rw [hu, hvv]; unfold encIns; omega
  have e4 : cW v = c := by unfold cW; rw [hu, hvv]; unfold encIns; omega
  have e5 : nW v = n := by unfold nW; rw [hu, hvv]; unfold encIns wrap32; omega
  rw [← hvv]
  refine ⟨by rw [hvv]; exact hv, e1, e2, e3, e4, e5, ?_⟩
  unfold okW
  rw [e1, e2, e3, e4, e5, h', ← hvv]
  simp
theorem word_i64 (i : In5) : -9223372036854775808 ≤ i.word ∧ i.word ≤ 9223372036854775807 := by
  unfold In5.word
  split
  · rename_i h; have := (dec_enc h).1; omega
  · omega
/-- a step at a known instruction -/
theorem step_ins {s : Ms} (i : In5) (k : Nat) (h0 : s.kind = 0) (hp : s.pc = (k : Int)) (hc : s.code[k]? = some i.word) (hok : okIns i.op i.a i.b i.c i.n = true) :
    s.step = if i.op < 16 then Ms.op { s.tick with pc := (k : Int) + 1 } i.op i.a i.b i.n else Ms.words { s.tick with pc := (k : Int) + 1 } i.a (wordsV i.op (s.get i.b) (s.get i.c)) := by
  obtain ⟨_, e1, e2, e3, e4, e5, e6⟩ := dec_enc hok
  have hk : k < s.code.length := (List.getElem?_eq_some_iff.1 hc).1
  have hw : s.code.getD k 0 = encIns i.op i.a i.b i.c i.n := by
    rw [List.getD_eq_getElem?_getD, hc]
    show i.word = _
    unfold In5.word; rw [if_pos hok]
  unfold Ms.step
  rw [if_pos h0]
  unfold Ms.step1
  rw [hp, if_pos (by omega), show ((k : Int)).toNat = k from rfl, hw, e6, if_pos rfl]
  unfold Ms.doit
  rw [e1, e2, e3, e4, e5]
  rfl
theorem img_of_code {l : List In5} {w w' : World} {x : Option Addr} {c : Nat} (ho : w'.ownsRow w.heap.size 2 1 (.slice x l.length c) l.length ((wordsOf l).map (Value.int .i64))) (hl : l.length ≤ 2000) :
    ImgAt (fun b => b < w'.heap.size) w' x none l.length c 0 0 0 ⟨wordsOf l, [], 0⟩ := by
  have hwl : (wordsOf l).length = l.length := by simp [wordsOf]
  rw [← hwl] at ho ⊢
  refine ⟨own_wordsR ho (fun g hg => (ho.lt g hg).2), ⟨none, 0, rfl, Nat.le_refl _, Nat.zero_le _, fun h => absurd rfl h⟩, fun b hb => hb, fun v hv => ?_, rfl, by show (wordsOf l).length ≤ _; omega, Nat.zero_le _⟩
  obtain ⟨i, _, rfl⟩ := List.mem_map.1 hv
  exact word_i64 i
theorem bytes_nil (R : Nat → Prop) (w : World) : BytesR R w (.slice none 0 0) [] := ⟨none, 0, rfl, Nat.le_refl _, Nat.zero_le _, fun h => absurd rfl h⟩
def exIns : List In5 := [⟨3, 1, 0, 0, 65⟩, ⟨14, 1, 0, 0, 0⟩, ⟨0, 0, 0, 0, 0⟩]
def exImg : Img := ⟨wordsOf exIns, [], 0⟩
set_option maxRecDepth 10000 in
theorem ex_run : exImg.run 1 [] 10 = ⟨1, 0, [65], 3⟩ := by kernel_rfl
end Go.Proofs.Ythlcoocboidnlaa
