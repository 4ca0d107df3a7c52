/- The machine as Lean's own: its state, one step, where it lies in memory; what each operation does. -/
import Derived.Test.YthlcoocboidnlaaMach2
import Derived.Test.YthlcoocboidnlaaMach4
import Derived.Test.YthlcoocboidnlaaMach5
namespace Go.Proofs.Ythlcoocboidnlaa
open Go.RowKit
set_option linter.unusedSimpArgs false
set_option linter.unusedVariables false

/-- a machine -/
structure Ms where
  code : List Int
  mem : List Int
  reg : List Int
  pc : Int
  inp : List UInt8
  out : List UInt8
  kind : Int
  panics : Int
  steps : Int
def Ms.flt (s : Ms) : Ms := { s with kind := 5, panics := 0 }
def Ms.get (s : Ms) (a : Int) : Int := s.reg.getD a.toNat 0
def Ms.put (s : Ms) (a : Int) (v : Int) : Ms := { s with reg := s.reg.set a.toNat v }
def Ms.has (s : Ms) (q : Int) : Bool := decide (0 ≤ q ∧ q < (s.mem.length : Int))
def Ms.at (s : Ms) (q : Int) : Int := s.mem.getD q.toNat 0
/-- one of the sixteen operations -/
def Ms.op (s : Ms) (op a b n : Int) : Ms :=
  if op = 0 then { s with kind := 1, panics := 0 }
  else if op = 1 then { s with kind := (trapV n).1, panics := (trapV n).2 }
  else if op = 2 then s.put a (s.get b)
  else if op = 3 then s.put a n
  else if op = 4 then s.put a (highV (s.get a) n)
  else if op = 5 then (if s.has (wrap64 (s.get b + n)) = true then s.put a (s.at (wrap64 (s.get b + n))) else s.flt)
  else if op = 6 then (if s.has (wrap64 (s.get b + n)) = true then { s with mem := s.mem.set (wrap64 (s.get b + n)).toNat (s.get a) } else s.flt)
  else if op = 7 then { s with pc := wrap64 (s.pc + n) }
  else if op = 8 then (if s.get a = 0 then { s with pc := wrap64 (s.pc + n) } else s)
  else if op = 9 then (if s.get a = 0 then s else { s with pc := wrap64 (s.pc + n) })
  else if op = 10 then (if s.has (wrap64 (s.get 15 - 1)) = true then { s with reg := s.reg.set 15 (wrap64 (s.get 15 - 1)), mem := s.mem.set (wrap64 (s.get 15 - 1)).toNat s.pc, pc := n } else s.flt)
  else if op = 11 then (if s.has (wrap64 (s.get 15 - 1)) = true then { s with reg := s.reg.set 15 (wrap64 (s.get 15 - 1)), mem := s.mem.set (wrap64 (s.get 15 - 1)).toNat s.pc, pc := (s.reg.set 15 (wrap64 (s.get 15 - 1))).getD a.toNat 0 } else s.flt)
  else if op = 12 then (if s.has (s.get 15) = true then { s with reg := s.reg.set 15 (s.get 15 + 1), pc := s.at (s.get 15) } else s.flt)
  else if op = 13 then (match s.inp with | [] => s.put a (-1) | y :: r => { s.put a (y.toNat : Int) with inp := r })
  else if op = 14 then (if s.out.length < 4096 then { s with out := s.out ++ [byteOf (s.get a)] } else s)
  else s.put a (s.mem.length : Int)
/-- an operation of words -/
def Ms.words (s : Ms) (a : Int) (v : Int × Int) : Ms := if v.2 = 0 then s.put a v.1 else { s with kind := 2, panics := v.2 }
def Ms.tick (s : Ms) : Ms := { s with steps := wrap64 (s.steps + 1) }
/-- whatever the word v tells -/
def Ms.doit (s : Ms) (v : Int) : Ms :=
  if opW v < 16 then s.op (opW v) (aW v) (bW v) (nW v) else s.words (aW v) (wordsV (opW v) (s.get (bW v)) (s.get (cW v)))
def Ms.step1 (s : Ms) : Ms :=
  if 0 ≤ s.pc ∧ s.pc < (s.code.length : Int) then
    (if okW (s.code.getD s.pc.toNat 0) = true then Ms.doit { s.tick with pc := s.pc + 1 } (s.code.getD s.pc.toNat 0) else s.tick.flt)
  else s.tick.flt
def Ms.step (s : Ms) : Ms := if s.kind = 0 then s.step1 else s

/-- the slice v reads as these words, in blocks of R -/
def WordsR (R : Nat → Prop) (w : World) (v : Value) (l : List Int) : Prop :=
  ∃ x cap, v = .slice x l.length cap ∧ l.length ≤ cap ∧ cap ≤ maxLen ∧ (l ≠ [] → ∃ b o, x = some ⟨b, o, none⟩ ∧ R b ∧ ∀ i (h : i < l.length), w.cell? ⟨b, o + i, none⟩ = some (.int .i64 l[i]))
theorem WordsR.kp {R S : Nat → Prop} {w w' : World} {v : Value} {l : List Int} (h : WordsR R w v l) (k : Kp S w w') (hs : ∀ b, R b → ¬ S b) : WordsR R w' v l := by
  obtain ⟨x, cap, hv, h1, h2, h3⟩ := h
  refine ⟨x, cap, hv, h1, h2, fun hne => ?_⟩
  obtain ⟨b, o, hx, hb, hc⟩ := h3 hne
  exact ⟨b, o, hx, hb, fun i hi => k.keeps (hc i hi) (hs b hb)⟩
def opF (k : Nat) : FuncId := [33, 34, 35, 36, 37, 38, 39, 40, 41, 42, 43, 44, 45, 46, 47, 48].getD k 0
/-- the sixteen operations, bound to the machine at p -/
def OpsR (R : Nat → Prop) (w : World) (v : Value) (p : Nat) : Prop :=
  ∃ b o, v = .slice (some ⟨b, o, none⟩) 16 16 ∧ R b ∧ ∀ i, i < 16 → w.cell? ⟨b, o + i, none⟩ = some (.func (.func (opF i)) #[.pointer (some ⟨p, 0, none⟩)] #[])
theorem OpsR.kp {R S : Nat → Prop} {w w' : World} {v : Value} {p : Nat} (h : OpsR R w v p) (k : Kp S w w') (hs : ∀ b, R b → ¬ S b) : OpsR R w' v p := by
  obtain ⟨b, o, hx, hb, hc⟩ := h
  exact ⟨b, o, hx, hb, fun i hi => k.keeps (hc i hi) (hs b hb)⟩
theorem call_enter {P : Program} {f : FuncId} {fn : Func} {c : Code} (hf : P.funcs[f]? = some fn) (hname : (fn.name == "runtime.NumGoroutine") = false) (hb : fn.body = some c) (args : Array Value) (w : World) :
    (callFunc f args).run P w = .ok (.enter f args) w := by
  have h1 : fn.name ≠ "runtime.NumGoroutine" := by simpa using hname
  simp [callFunc, hf, h1, hb]

/-- where a machine's parts lie -/
structure Lc where
  vc : Value
  vi : Value
  vo : Value
  vf : Value
  bm : Nat
  cm : Nat
def mcOf (L : Lc) (s : Ms) : Mc := ⟨L.vc, .slice (some ⟨L.bm, 0, none⟩) s.mem.length L.cm, s.reg, s.pc, L.vi, L.vo, s.kind, s.panics, s.steps, L.vf⟩
/-- the machine at p, its parts at L, what is read alone in R; all of it at B or behind it -/
structure MAtL (B : Nat) (R : Nat → Prop) (w : World) (p : Nat) (L : Lc) (s : Ms) : Prop where
  mc : McAt w p (mcOf L s)
  mem : MemAt w L.bm s.mem
  hm : s.mem.length ≤ 262144
  hp : L.bm ≠ p
  own : w.ownsRow B 5 1 L.vo s.out.length (byteV s.out)
  ho : s.out.length ≤ 4096
  op : L.vo.ownBlock ≠ some p
  om : L.vo.ownBlock ≠ some L.bm
  ro : ∀ x, R x → x < w.heap.size ∧ x ≠ p ∧ x ≠ L.bm ∧ L.vo.ownBlock ≠ some x
  code : WordsR R w L.vc s.code
  hc : s.code.length ≤ 65536
  ci : ∀ v ∈ s.code, -9223372036854775808 ≤ v ∧ v ≤ 9223372036854775807
  inp : BytesR R w L.vi s.inp
  ops : OpsR R w L.vf p
  bp : B ≤ p
  bb : B ≤ L.bm
/-- the blocks that a step may change -/
def Ft (p : Nat) (L : Lc) : Nat → Prop := fun x => x = p ∨ x = L.bm ∨ L.vo.ownBlock = some x
theorem MAtL.nw {B : Nat} {R : Nat → Prop} {w w' : World} {p : Nat} {L : Lc} {s : Ms} (h : MAtL B R w p L s) (k : Nw w w') : MAtL B R w' p L s :=
  ⟨h.mc.nw k, h.mem.nw k, h.hm, h.hp, own_kp h.own k (fun _ _ x => x), h.ho, h.op, h.om, fun x hx => ⟨Nat.lt_of_lt_of_le (h.ro x hx).1 k.size, (h.ro x hx).2⟩,
    h.code.kp k (fun _ _ x => x), h.hc, h.ci, h.inp.kp k (fun _ _ x => x), h.ops.kp k (fun _ _ x => x), h.bp, h.bb⟩
/-- an operation is done, or has faulted -/
def StepP (B : Nat) (R : Nat → Prop) (w : World) (p : Nat) (L : Lc) (s' sf : Ms) (e : Ending) (w' : World) : Prop :=
  (e = .returned (.tuple #[]) ∧ ∃ L', MAtL B R w' p L' s' ∧ Kp (Ft p L) w w' ∧ L'.bm = L.bm ∧ ∀ g, L'.vo.ownBlock = some g → L.vo.ownBlock = some g ∨ w.heap.size ≤ g) ∨ (e = FAULT ∧ s' = sf ∧ Nw w w')
section
variable {B : Nat} {R : Nat → Prop} {w : World} {p : Nat} {L : Lc} {s : Ms}
/-- the struct alone has changed, but for the slices -/
theorem StepP.of_op (h : MAtL B R w p L s) {m' : Mc} {s' sf : Ms} (hm : mcOf L s' = m') (h1 : s'.mem = s.mem) (h2 : s'.out = s.out) (h3 : s'.code = s.code) (h4 : s'.inp = s.inp) {e : Ending} {w' : World} (q : OpP w p m' e w') :
    StepP B R w p L s' sf e w' := by
  obtain ⟨rfl, q2, q3⟩ := q
  have k : Kp (Ft p L) w w' := q3.mono (fun _ _ x => .inl x)
  refine .inl ⟨rfl, L, ⟨by rw [hm]; exact q2, by rw [h1]; exact h.mem.kp q3 h.hp, by rw [h1]; exact h.hm, h.hp, ?_, by rw [h2]; exact h.ho, h.op, h.om,
    fun x hx => ⟨Nat.lt_of_lt_of_le (h.ro x hx).1 k.size, (h.ro x hx).2⟩, ?_, by rw [h3]; exact h.hc, by rw [h3]; exact h.ci, ?_, h.ops.kp q3 (fun b hb e => (h.ro b hb).2.1 e), h.bp, h.bb⟩, k, rfl, fun g hg => .inl hg⟩
  · rw [h2]; exact own_kp h.own q3 (fun g hg e => h.op (by rw [hg, e]))
  · rw [h3]; exact h.code.kp q3 (fun b hb e => (h.ro b hb).2.1 e)
  · rw [h4]; exact h.inp.kp q3 (fun b hb e => (h.ro b hb).2.1 e)
/-- the struct and the memory have changed -/
theorem StepP.of_mem (h : MAtL B R w p L s) {m' : Mc} {l' : List Int} {s' sf : Ms} (hm : mcOf L s' = m') (h1 : s'.mem = l') (h1' : l'.length = s.mem.length) (h2 : s'.out = s.out) (h3 : s'.code = s.code) (h4 : s'.inp = s.inp) {e : Ending} {w' : World} (q : MemP w p L.bm m' l' e w') :
    StepP B R w p L s' sf e w' := by
  obtain ⟨rfl, q2, q2', q3⟩ := q
  have k : Kp (Ft p L) w w' := q3.mono (fun _ _ x => x.elim .inl (fun x => .inr (.inl x)))
  have hn : ∀ b, R b → ¬ PM p L.bm b := fun b hb e => e.elim (h.ro b hb).2.1 (h.ro b hb).2.2.1
  refine .inl ⟨rfl, L, ⟨by rw [hm]; exact q2, by rw [h1]; exact q2', by rw [h1, h1']; exact h.hm, h.hp, ?_, by rw [h2]; exact h.ho, h.op, h.om,
    fun x hx => ⟨Nat.lt_of_lt_of_le (h.ro x hx).1 k.size, (h.ro x hx).2⟩, ?_, by rw [h3]; exact h.hc, by rw [h3]; exact h.ci, ?_, h.ops.kp q3 hn, h.bp, h.bb⟩, k, rfl, fun g hg => .inl hg⟩
  · rw [h2]; exact own_kp h.own q3 (fun g hg e => e.elim (fun e => h.op (by rw [hg, e])) (fun e => h.om (by rw [hg, e])))
  · rw [h3]; exact h.code.kp q3 hn
  · rw [h4]; exact h.inp.kp q3 hn
theorem StepP.of_flt {s' sf : Ms} {e : Ending} {w' : World} (hs : s' = sf) (q : FltP w e w') : StepP B R w p L s' sf e w' := .inr ⟨q.1, hs, q.2⟩
theorem has_true {q : Int} (h : s.has q = true) : ∃ k : Nat, q = (k : Int) ∧ k < s.mem.length := by
  unfold Ms.has at h
  have h := of_decide_eq_true h
  exact ⟨q.toNat, by omega, by omega⟩
theorem has_false {q : Int} (h : s.has q = false) : q < 0 ∨ (s.mem.length : Int) ≤ q := by
  unfold Ms.has at h
  have h := of_decide_eq_false h
  omega
end
end Go.Proofs.Ythlcoocboidnlaa
