/- The instructions' shapes: isa.of, isa.may, isa.Uses. -/
import Derived.Test.YtfdjlicegfgodaaBase
import Derived.Deep.WholeRow
import Derived.Deep.MidRow
namespace Go.Proofs.Ytfdjlicegfgodaa
open Go.RowKit
set_option linter.unusedSimpArgs false
set_option linter.unusedVariables false

/-- which registers an operation has -/
def regsOf (op : Int) : Int :=
  if op = 2 ∨ op = 5 ∨ op = 6 ∨ (41 ≤ op ∧ op ≤ 43) then 3
  else if op = 3 ∨ op = 4 ∨ op = 8 ∨ op = 9 ∨ op = 11 ∨ op = 13 ∨ op = 14 ∨ op = 15 then 1
  else if 17 ≤ op ∧ op ≤ 32 then 7 else 0
/-- has it a number? -/
def immOf (op : Int) : Bool := decide (op = 1 ∨ op = 3 ∨ op = 4 ∨ op = 5 ∨ op = 6 ∨ op = 7 ∨ op = 8 ∨ op = 9 ∨ op = 10)
/-- is there such an operation? -/
def isOp (op : Int) : Bool := decide ((0 ≤ op ∧ op ≤ 15) ∨ (17 ≤ op ∧ op ≤ 32) ∨ (41 ≤ op ∧ op ≤ 43))
def plainC : List Value := [.string ⟨#[104, 97, 108, 116]⟩, .int .i64 0, .bool false, .string ⟨#[116, 114, 97, 112]⟩, .int .i64 0, .bool true, .string ⟨#[109, 111, 118, 101]⟩, .int .i64 3, .bool false, .string ⟨#[99, 111, 110, 115, 116]⟩, .int .i64 1, .bool true, .string ⟨#[104, 105, 103, 104]⟩, .int .i64 1, .bool true, .string ⟨#[108, 111, 97, 100]⟩, .int .i64 3, .bool true, .string ⟨#[115, 116, 111, 114, 101]⟩, .int .i64 3, .bool true, .string ⟨#[106, 117, 109, 112]⟩, .int .i64 0, .bool true, .string ⟨#[122, 101, 114, 111]⟩, .int .i64 1, .bool true, .string ⟨#[115, 111, 109, 101]⟩, .int .i64 1, .bool true, .string ⟨#[99, 97, 108, 108]⟩, .int .i64 0, .bool true, .string ⟨#[97, 116]⟩, .int .i64 1, .bool false, .string ⟨#[114, 101, 116]⟩, .int .i64 0, .bool false, .string ⟨#[105, 110]⟩, .int .i64 1, .bool false, .string ⟨#[111, 117, 116]⟩, .int .i64 1, .bool false, .string ⟨#[114, 111, 111, 109]⟩, .int .i64 1, .bool false]
def twoC : List Value := [.string ⟨#[97, 100, 100]⟩, .string ⟨#[115, 117, 98]⟩, .string ⟨#[109, 117, 108]⟩, .string ⟨#[100, 105, 118]⟩, .string ⟨#[114, 101, 109]⟩, .string ⟨#[97, 110, 100]⟩, .string ⟨#[111, 114]⟩, .string ⟨#[120, 111, 114]⟩, .string ⟨#[115, 104, 108]⟩, .string ⟨#[115, 104, 114]⟩, .string ⟨#[101, 113]⟩, .string ⟨#[110, 101]⟩, .string ⟨#[108, 116]⟩, .string ⟨#[108, 101]⟩, .string ⟨#[103, 116]⟩, .string ⟨#[103, 101]⟩]
def oneC : List Value := [.string ⟨#[110, 101, 103]⟩, .string ⟨#[102, 108, 105, 112]⟩, .string ⟨#[98, 97, 110, 103]⟩]
theorem plain_at (k : Nat) (hk : k < 16) : ∃ nm, plainC[k * 3]? = some (.string nm) ∧ plainC[k * 3 + 1]? = some (.int .i64 (regsOf k)) ∧ plainC[k * 3 + 2]? = some (.bool (immOf k)) := by
  have h : k = 0 ∨ k = 1 ∨ k = 2 ∨ k = 3 ∨ k = 4 ∨ k = 5 ∨ k = 6 ∨ k = 7 ∨ k = 8 ∨ k = 9 ∨ k = 10 ∨ k = 11 ∨ k = 12 ∨ k = 13 ∨ k = 14 ∨ k = 15 := by omega
  rcases h with rfl | rfl | rfl | rfl | rfl | rfl | rfl | rfl | rfl | rfl | rfl | rfl | rfl | rfl | rfl | rfl <;> exact ⟨_, rfl, rfl, rfl⟩
theorem two_at (k : Nat) (hk : k < 16) : ∃ nm, twoC[k]? = some (.string nm) := by
  have h : k = 0 ∨ k = 1 ∨ k = 2 ∨ k = 3 ∨ k = 4 ∨ k = 5 ∨ k = 6 ∨ k = 7 ∨ k = 8 ∨ k = 9 ∨ k = 10 ∨ k = 11 ∨ k = 12 ∨ k = 13 ∨ k = 14 ∨ k = 15 := by omega
  rcases h with rfl | rfl | rfl | rfl | rfl | rfl | rfl | rfl | rfl | rfl | rfl | rfl | rfl | rfl | rfl | rfl <;> exact ⟨_, rfl⟩
theorem one_at (k : Nat) (hk : k < 3) : ∃ nm, oneC[k]? = some (.string nm) := by
  have h : k = 0 ∨ k = 1 ∨ k = 2 := by omega
  rcases h with rfl | rfl | rfl <;> exact ⟨_, rfl⟩
theorem wpList_store_new {P : Program} {ops : Array Oper} {rest : List Oper} {op : Oper} {a : Act} {w : World} {Q : Exit → Act → World → Prop} (hgd : op.guard = none) (ty : TypeId) (x y : Operand) (ho : op.op = .store ty x y)
    (g : Nat) (c c' : Array Value) (hg : w.heap.size = g) (hx : a.eval x = .pointer (some ⟨g, 0, none⟩)) (hy : a.eval y = .agg c')
    (hi : (P.info? ty).map (·.size) = some c'.size) (hs : c.size = c'.size) (h1 : c'.all (·.oneCell') = true)
    (h : wpList P ops Q rest (a.put op.dst undef) (w.alloc (.cells c' ty))) : wpList P ops Q (op :: rest) a (w.alloc (.cells c ty)) := by
  subst hg
  refine wpList_plain hgd fun K hK => ?_
  unfold Oper.wp execOp
  simp only [ho, hx, hy, Instr.storeAt, Instr.sureAddr, Sem.run_bind, Sem.run_pure, Result.andThen_ok, run_storeVar_new w ty c c' hi hs h1]
  exact hK _ _ h
theorem wpList_build {P : Program} {ops : Array Oper} {rest : List Oper} {op : Oper} {a : Act} {w : World} {Q : Exit → Act → World → Prop} (hgd : op.guard = none) (ty : TypeId) (fs : Array (Nat × Operand)) (ho : op.op = .build ty fs)
    (v : Value) (hr : ∀ w, (execOp a.eval op).run P w = .ok (.value v) w)
    (h : wpList P ops Q rest (a.put op.dst v) w) : wpList P ops Q (op :: rest) a w := by
  refine wpList_plain hgd fun K hK => ?_
  unfold Oper.wp
  rw [hr]
  exact hK _ _ h
def OfPost (w : World) (op : Int) (e : Ending) (w' : World) : Prop :=
  ∃ nm, e = .returned (.tuple #[.agg #[.string nm, .int .i64 (regsOf op), .bool (immOf op)], .bool (isOp op)]) ∧ Nw w w'
theorem of_results {tmps : Array Value} {w : World} {p : Nat} {a b c ok : Value} (h2 : tmps[2]?.getD undef = .pointer (some ⟨p, 0, none⟩)) (h3 : tmps[3]?.getD undef = ok)
    (hb : Blk w p [a, b, c] 127) : (results Try.f75 tmps).run Try.prog w = .ok (.tuple #[.agg #[a, b, c], ok]) w := by
  have f0 := hb.cell 0
  have f1 := hb.cell 1
  have f2 := hb.cell 2
  simp only [List.getElem?_cons_zero, List.getElem?_cons_succ] at f0 f1 f2
  simp [results, Try.results75, go_sem, h2, h3, f0, f1, f2]

set_option maxRecDepth 100000 in
set_option maxHeartbeats 8000000 in
theorem of_any (w : World) (op : Int) (hop : -9223372036854775808 ≤ op ∧ op ≤ 9223372036854775807) : Calls Try.prog 75 #[.int .i64 op] w (OfPost w op) := by
  have NA := Lib.hid (show Nw w ((((w.alloc (.cells #[.string ⟨#[]⟩, .int .i64 0, .bool false] 127)).alloc (.cells #[.string ⟨#[104, 97, 108, 116]⟩, .int .i64 0, .bool false, .string ⟨#[116, 114, 97, 112]⟩, .int .i64 0, .bool true, .string ⟨#[109, 111, 118, 101]⟩, .int .i64 3, .bool false, .string ⟨#[99, 111, 110, 115, 116]⟩, .int .i64 1, .bool true, .string ⟨#[104, 105, 103, 104]⟩, .int .i64 1, .bool true, .string ⟨#[108, 111, 97, 100]⟩, .int .i64 3, .bool true, .string ⟨#[115, 116, 111, 114, 101]⟩, .int .i64 3, .bool true, .string ⟨#[106, 117, 109, 112]⟩, .int .i64 0, .bool true, .string ⟨#[122, 101, 114, 111]⟩, .int .i64 1, .bool true, .string ⟨#[115, 111, 109, 101]⟩, .int .i64 1, .bool true, .string ⟨#[99, 97, 108, 108]⟩, .int .i64 0, .bool true, .string ⟨#[97, 116]⟩, .int .i64 1, .bool false, .string ⟨#[114, 101, 116]⟩, .int .i64 0, .bool false, .string ⟨#[105, 110]⟩, .int .i64 1, .bool false, .string ⟨#[111, 117, 116]⟩, .int .i64 1, .bool false, .string ⟨#[114, 111, 111, 109]⟩, .int .i64 1, .bool false] 139)).alloc (.cells #[.string ⟨#[97, 100, 100]⟩, .string ⟨#[115, 117, 98]⟩, .string ⟨#[109, 117, 108]⟩, .string ⟨#[100, 105, 118]⟩, .string ⟨#[114, 101, 109]⟩, .string ⟨#[97, 110, 100]⟩, .string ⟨#[111, 114]⟩, .string ⟨#[120, 111, 114]⟩, .string ⟨#[115, 104, 108]⟩, .string ⟨#[115, 104, 114]⟩, .string ⟨#[101, 113]⟩, .string ⟨#[110, 101]⟩, .string ⟨#[108, 116]⟩, .string ⟨#[108, 101]⟩, .string ⟨#[103, 116]⟩, .string ⟨#[103, 101]⟩] 140)).alloc (.cells #[.string ⟨#[110, 101, 103]⟩, .string ⟨#[102, 108, 105, 112]⟩, .string ⟨#[98, 97, 110, 103]⟩] 141)) from ((((Nw.refl w).alloc _).alloc _).alloc _).alloc _)
  have BR := Lib.hid ((((Blk.new w [.string ⟨#[]⟩, .int .i64 0, .bool false] 127).alloc (.cells #[.string ⟨#[104, 97, 108, 116]⟩, .int .i64 0, .bool false, .string ⟨#[116, 114, 97, 112]⟩, .int .i64 0, .bool true, .string ⟨#[109, 111, 118, 101]⟩, .int .i64 3, .bool false, .string ⟨#[99, 111, 110, 115, 116]⟩, .int .i64 1, .bool true, .string ⟨#[104, 105, 103, 104]⟩, .int .i64 1, .bool true, .string ⟨#[108, 111, 97, 100]⟩, .int .i64 3, .bool true, .string ⟨#[115, 116, 111, 114, 101]⟩, .int .i64 3, .bool true, .string ⟨#[106, 117, 109, 112]⟩, .int .i64 0, .bool true, .string ⟨#[122, 101, 114, 111]⟩, .int .i64 1, .bool true, .string ⟨#[115, 111, 109, 101]⟩, .int .i64 1, .bool true, .string ⟨#[99, 97, 108, 108]⟩, .int .i64 0, .bool true, .string ⟨#[97, 116]⟩, .int .i64 1, .bool false, .string ⟨#[114, 101, 116]⟩, .int .i64 0, .bool false, .string ⟨#[105, 110]⟩, .int .i64 1, .bool false, .string ⟨#[111, 117, 116]⟩, .int .i64 1, .bool false, .string ⟨#[114, 111, 111, 109]⟩, .int .i64 1, .bool false] 139)).alloc (.cells #[.string ⟨#[97, 100, 100]⟩, .string ⟨#[115, 117, 98]⟩, .string ⟨#[109, 117, 108]⟩, .string ⟨#[100, 105, 118]⟩, .string ⟨#[114, 101, 109]⟩, .string ⟨#[97, 110, 100]⟩, .string ⟨#[111, 114]⟩, .string ⟨#[120, 111, 114]⟩, .string ⟨#[115, 104, 108]⟩, .string ⟨#[115, 104, 114]⟩, .string ⟨#[101, 113]⟩, .string ⟨#[110, 101]⟩, .string ⟨#[108, 116]⟩, .string ⟨#[108, 101]⟩, .string ⟨#[103, 116]⟩, .string ⟨#[103, 101]⟩] 140)).alloc (.cells #[.string ⟨#[110, 101, 103]⟩, .string ⟨#[102, 108, 105, 112]⟩, .string ⟨#[98, 97, 110, 103]⟩] 141))
  have BP := Lib.hid (show Blk ((((w.alloc (.cells #[.string ⟨#[]⟩, .int .i64 0, .bool false] 127)).alloc (.cells #[.string ⟨#[104, 97, 108, 116]⟩, .int .i64 0, .bool false, .string ⟨#[116, 114, 97, 112]⟩, .int .i64 0, .bool true, .string ⟨#[109, 111, 118, 101]⟩, .int .i64 3, .bool false, .string ⟨#[99, 111, 110, 115, 116]⟩, .int .i64 1, .bool true, .string ⟨#[104, 105, 103, 104]⟩, .int .i64 1, .bool true, .string ⟨#[108, 111, 97, 100]⟩, .int .i64 3, .bool true, .string ⟨#[115, 116, 111, 114, 101]⟩, .int .i64 3, .bool true, .string ⟨#[106, 117, 109, 112]⟩, .int .i64 0, .bool true, .string ⟨#[122, 101, 114, 111]⟩, .int .i64 1, .bool true, .string ⟨#[115, 111, 109, 101]⟩, .int .i64 1, .bool true, .string ⟨#[99, 97, 108, 108]⟩, .int .i64 0, .bool true, .string ⟨#[97, 116]⟩, .int .i64 1, .bool false, .string ⟨#[114, 101, 116]⟩, .int .i64 0, .bool false, .string ⟨#[105, 110]⟩, .int .i64 1, .bool false, .string ⟨#[111, 117, 116]⟩, .int .i64 1, .bool false, .string ⟨#[114, 111, 111, 109]⟩, .int .i64 1, .bool false] 139)).alloc (.cells #[.string ⟨#[97, 100, 100]⟩, .string ⟨#[115, 117, 98]⟩, .string ⟨#[109, 117, 108]⟩, .string ⟨#[100, 105, 118]⟩, .string ⟨#[114, 101, 109]⟩, .string ⟨#[97, 110, 100]⟩, .string ⟨#[111, 114]⟩, .string ⟨#[120, 111, 114]⟩, .string ⟨#[115, 104, 108]⟩, .string ⟨#[115, 104, 114]⟩, .string ⟨#[101, 113]⟩, .string ⟨#[110, 101]⟩, .string ⟨#[108, 116]⟩, .string ⟨#[108, 101]⟩, .string ⟨#[103, 116]⟩, .string ⟨#[103, 101]⟩] 140)).alloc (.cells #[.string ⟨#[110, 101, 103]⟩, .string ⟨#[102, 108, 105, 112]⟩, .string ⟨#[98, 97, 110, 103]⟩] 141)) (w.heap.size + 1) plainC 139 from by
    have := ((Blk.new (w.alloc (.cells #[.string ⟨#[]⟩, .int .i64 0, .bool false] 127)) [.string ⟨#[104, 97, 108, 116]⟩, .int .i64 0, .bool false, .string ⟨#[116, 114, 97, 112]⟩, .int .i64 0, .bool true, .string ⟨#[109, 111, 118, 101]⟩, .int .i64 3, .bool false, .string ⟨#[99, 111, 110, 115, 116]⟩, .int .i64 1, .bool true, .string ⟨#[104, 105, 103, 104]⟩, .int .i64 1, .bool true, .string ⟨#[108, 111, 97, 100]⟩, .int .i64 3, .bool true, .string ⟨#[115, 116, 111, 114, 101]⟩, .int .i64 3, .bool true, .string ⟨#[106, 117, 109, 112]⟩, .int .i64 0, .bool true, .string ⟨#[122, 101, 114, 111]⟩, .int .i64 1, .bool true, .string ⟨#[115, 111, 109, 101]⟩, .int .i64 1, .bool true, .string ⟨#[99, 97, 108, 108]⟩, .int .i64 0, .bool true, .string ⟨#[97, 116]⟩, .int .i64 1, .bool false, .string ⟨#[114, 101, 116]⟩, .int .i64 0, .bool false, .string ⟨#[105, 110]⟩, .int .i64 1, .bool false, .string ⟨#[111, 117, 116]⟩, .int .i64 1, .bool false, .string ⟨#[114, 111, 111, 109]⟩, .int .i64 1, .bool false] 139).alloc (.cells #[.string ⟨#[97, 100, 100]⟩, .string ⟨#[115, 117, 98]⟩, .string ⟨#[109, 117, 108]⟩, .string ⟨#[100, 105, 118]⟩, .string ⟨#[114, 101, 109]⟩, .string ⟨#[97, 110, 100]⟩, .string ⟨#[111, 114]⟩, .string ⟨#[120, 111, 114]⟩, .string ⟨#[115, 104, 108]⟩, .string ⟨#[115, 104, 114]⟩, .string ⟨#[101, 113]⟩, .string ⟨#[110, 101]⟩, .string ⟨#[108, 116]⟩, .string ⟨#[108, 101]⟩, .string ⟨#[103, 116]⟩, .string ⟨#[103, 101]⟩] 140)).alloc (.cells #[.string ⟨#[110, 101, 103]⟩, .string ⟨#[102, 108, 105, 112]⟩, .string ⟨#[98, 97, 110, 103]⟩] 141)
    rw [size_alloc] at this; exact this)
  have BT := Lib.hid (show Blk ((((w.alloc (.cells #[.string ⟨#[]⟩, .int .i64 0, .bool false] 127)).alloc (.cells #[.string ⟨#[104, 97, 108, 116]⟩, .int .i64 0, .bool false, .string ⟨#[116, 114, 97, 112]⟩, .int .i64 0, .bool true, .string ⟨#[109, 111, 118, 101]⟩, .int .i64 3, .bool false, .string ⟨#[99, 111, 110, 115, 116]⟩, .int .i64 1, .bool true, .string ⟨#[104, 105, 103, 104]⟩, .int .i64 1, .bool true, .string ⟨#[108, 111, 97, 100]⟩, .int .i64 3, .bool true, .string ⟨#[115, 116, 111, 114, 101]⟩, .int .i64 3, .bool true, .string ⟨#[106, 117, 109, 112]⟩, .int .i64 0, .bool true, .string ⟨#[122, 101, 114, 111]⟩, .int .i64 1, .bool true, .string ⟨#[115, 111, 109, 101]⟩, .int .i64 1, .bool true, .string ⟨#[99, 97, 108, 108]⟩, .int .i64 0, .bool true, .string ⟨#[97, 116]⟩, .int .i64 1, .bool false, .string ⟨#[114, 101, 116]⟩, .int .i64 0, .bool false, .string ⟨#[105, 110]⟩, .int .i64 1, .bool false, .string ⟨#[111, 117, 116]⟩, .int .i64 1, .bool false, .string ⟨#[114, 111, 111, 109]⟩, .int .i64 1, .bool false] 139)).alloc (.cells #[.string ⟨#[97, 100, 100]⟩, .string ⟨#[115, 117, 98]⟩, .string ⟨#[109, 117, 108]⟩, .string ⟨#[100, 105, 118]⟩, .string ⟨#[114, 101, 109]⟩, .string ⟨#[97, 110, 100]⟩, .string ⟨#[111, 114]⟩, .string ⟨#[120, 111, 114]⟩, .string ⟨#[115, 104, 108]⟩, .string ⟨#[115, 104, 114]⟩, .string ⟨#[101, 113]⟩, .string ⟨#[110, 101]⟩, .string ⟨#[108, 116]⟩, .string ⟨#[108, 101]⟩, .string ⟨#[103, 116]⟩, .string ⟨#[103, 101]⟩] 140)).alloc (.cells #[.string ⟨#[110, 101, 103]⟩, .string ⟨#[102, 108, 105, 112]⟩, .string ⟨#[98, 97, 110, 103]⟩] 141)) (w.heap.size + 1 + 1) twoC 140 from by
    have := (Blk.new ((w.alloc (.cells #[.string ⟨#[]⟩, .int .i64 0, .bool false] 127)).alloc (.cells #[.string ⟨#[104, 97, 108, 116]⟩, .int .i64 0, .bool false, .string ⟨#[116, 114, 97, 112]⟩, .int .i64 0, .bool true, .string ⟨#[109, 111, 118, 101]⟩, .int .i64 3, .bool false, .string ⟨#[99, 111, 110, 115, 116]⟩, .int .i64 1, .bool true, .string ⟨#[104, 105, 103, 104]⟩, .int .i64 1, .bool true, .string ⟨#[108, 111, 97, 100]⟩, .int .i64 3, .bool true, .string ⟨#[115, 116, 111, 114, 101]⟩, .int .i64 3, .bool true, .string ⟨#[106, 117, 109, 112]⟩, .int .i64 0, .bool true, .string ⟨#[122, 101, 114, 111]⟩, .int .i64 1, .bool true, .string ⟨#[115, 111, 109, 101]⟩, .int .i64 1, .bool true, .string ⟨#[99, 97, 108, 108]⟩, .int .i64 0, .bool true, .string ⟨#[97, 116]⟩, .int .i64 1, .bool false, .string ⟨#[114, 101, 116]⟩, .int .i64 0, .bool false, .string ⟨#[105, 110]⟩, .int .i64 1, .bool false, .string ⟨#[111, 117, 116]⟩, .int .i64 1, .bool false, .string ⟨#[114, 111, 111, 109]⟩, .int .i64 1, .bool false] 139)) [.string ⟨#[97, 100, 100]⟩, .string ⟨#[115, 117, 98]⟩, .string ⟨#[109, 117, 108]⟩, .string ⟨#[100, 105, 118]⟩, .string ⟨#[114, 101, 109]⟩, .string ⟨#[97, 110, 100]⟩, .string ⟨#[111, 114]⟩, .string ⟨#[120, 111, 114]⟩, .string ⟨#[115, 104, 108]⟩, .string ⟨#[115, 104, 114]⟩, .string ⟨#[101, 113]⟩, .string ⟨#[110, 101]⟩, .string ⟨#[108, 116]⟩, .string ⟨#[108, 101]⟩, .string ⟨#[103, 116]⟩, .string ⟨#[103, 101]⟩] 140).alloc (.cells #[.string ⟨#[110, 101, 103]⟩, .string ⟨#[102, 108, 105, 112]⟩, .string ⟨#[98, 97, 110, 103]⟩] 141)
    rw [size_alloc, size_alloc] at this; exact this)
  have BO := Lib.hid (show Blk ((((w.alloc (.cells #[.string ⟨#[]⟩, .int .i64 0, .bool false] 127)).alloc (.cells #[.string ⟨#[104, 97, 108, 116]⟩, .int .i64 0, .bool false, .string ⟨#[116, 114, 97, 112]⟩, .int .i64 0, .bool true, .string ⟨#[109, 111, 118, 101]⟩, .int .i64 3, .bool false, .string ⟨#[99, 111, 110, 115, 116]⟩, .int .i64 1, .bool true, .string ⟨#[104, 105, 103, 104]⟩, .int .i64 1, .bool true, .string ⟨#[108, 111, 97, 100]⟩, .int .i64 3, .bool true, .string ⟨#[115, 116, 111, 114, 101]⟩, .int .i64 3, .bool true, .string ⟨#[106, 117, 109, 112]⟩, .int .i64 0, .bool true, .string ⟨#[122, 101, 114, 111]⟩, .int .i64 1, .bool true, .string ⟨#[115, 111, 109, 101]⟩, .int .i64 1, .bool true, .string ⟨#[99, 97, 108, 108]⟩, .int .i64 0, .bool true, .string ⟨#[97, 116]⟩, .int .i64 1, .bool false, .string ⟨#[114, 101, 116]⟩, .int .i64 0, .bool false, .string ⟨#[105, 110]⟩, .int .i64 1, .bool false, .string ⟨#[111, 117, 116]⟩, .int .i64 1, .bool false, .string ⟨#[114, 111, 111, 109]⟩, .int .i64 1, .bool false] 139)).alloc (.cells #[.string ⟨#[97, 100, 100]⟩, .string ⟨#[115, 117, 98]⟩, .string ⟨#[109, 117, 108]⟩, .string ⟨#[100, 105, 118]⟩, .string ⟨#[114, 101, 109]⟩, .string ⟨#[97, 110, 100]⟩, .string ⟨#[111, 114]⟩, .string ⟨#[120, 111, 114]⟩, .string ⟨#[115, 104, 108]⟩, .string ⟨#[115, 104, 114]⟩, .string ⟨#[101, 113]⟩, .string ⟨#[110, 101]⟩, .string ⟨#[108, 116]⟩, .string ⟨#[108, 101]⟩, .string ⟨#[103, 116]⟩, .string ⟨#[103, 101]⟩] 140)).alloc (.cells #[.string ⟨#[110, 101, 103]⟩, .string ⟨#[102, 108, 105, 112]⟩, .string ⟨#[98, 97, 110, 103]⟩] 141)) (w.heap.size + 1 + 1 + 1) oneC 141 from by
    have := Blk.new (((w.alloc (.cells #[.string ⟨#[]⟩, .int .i64 0, .bool false] 127)).alloc (.cells #[.string ⟨#[104, 97, 108, 116]⟩, .int .i64 0, .bool false, .string ⟨#[116, 114, 97, 112]⟩, .int .i64 0, .bool true, .string ⟨#[109, 111, 118, 101]⟩, .int .i64 3, .bool false, .string ⟨#[99, 111, 110, 115, 116]⟩, .int .i64 1, .bool true, .string ⟨#[104, 105, 103, 104]⟩, .int .i64 1, .bool true, .string ⟨#[108, 111, 97, 100]⟩, .int .i64 3, .bool true, .string ⟨#[115, 116, 111, 114, 101]⟩, .int .i64 3, .bool true, .string ⟨#[106, 117, 109, 112]⟩, .int .i64 0, .bool true, .string ⟨#[122, 101, 114, 111]⟩, .int .i64 1, .bool true, .string ⟨#[115, 111, 109, 101]⟩, .int .i64 1, .bool true, .string ⟨#[99, 97, 108, 108]⟩, .int .i64 0, .bool true, .string ⟨#[97, 116]⟩, .int .i64 1, .bool false, .string ⟨#[114, 101, 116]⟩, .int .i64 0, .bool false, .string ⟨#[105, 110]⟩, .int .i64 1, .bool false, .string ⟨#[111, 117, 116]⟩, .int .i64 1, .bool false, .string ⟨#[114, 111, 111, 109]⟩, .int .i64 1, .bool false] 139)).alloc (.cells #[.string ⟨#[97, 100, 100]⟩, .string ⟨#[115, 117, 98]⟩, .string ⟨#[109, 117, 108]⟩, .string ⟨#[100, 105, 118]⟩, .string ⟨#[114, 101, 109]⟩, .string ⟨#[97, 110, 100]⟩, .string ⟨#[111, 114]⟩, .string ⟨#[120, 111, 114]⟩, .string ⟨#[115, 104, 108]⟩, .string ⟨#[115, 104, 114]⟩, .string ⟨#[101, 113]⟩, .string ⟨#[110, 101]⟩, .string ⟨#[108, 116]⟩, .string ⟨#[108, 101]⟩, .string ⟨#[103, 116]⟩, .string ⟨#[103, 101]⟩] 140)) [.string ⟨#[110, 101, 103]⟩, .string ⟨#[102, 108, 105, 112]⟩, .string ⟨#[98, 97, 110, 103]⟩] 141
    rw [size_alloc, size_alloc, size_alloc] at this; exact this)
  go_enter Try.func75, Try.ntmps75
  go_upto_region 4 with (first
    | (refine wpList_build rfl 139 _ rfl (.agg #[.string ⟨#[104, 97, 108, 116]⟩, .int .i64 0, .bool false, .string ⟨#[116, 114, 97, 112]⟩, .int .i64 0, .bool true, .string ⟨#[109, 111, 118, 101]⟩, .int .i64 3, .bool false, .string ⟨#[99, 111, 110, 115, 116]⟩, .int .i64 1, .bool true, .string ⟨#[104, 105, 103, 104]⟩, .int .i64 1, .bool true, .string ⟨#[108, 111, 97, 100]⟩, .int .i64 3, .bool true, .string ⟨#[115, 116, 111, 114, 101]⟩, .int .i64 3, .bool true, .string ⟨#[106, 117, 109, 112]⟩, .int .i64 0, .bool true, .string ⟨#[122, 101, 114, 111]⟩, .int .i64 1, .bool true, .string ⟨#[115, 111, 109, 101]⟩, .int .i64 1, .bool true, .string ⟨#[99, 97, 108, 108]⟩, .int .i64 0, .bool true, .string ⟨#[97, 116]⟩, .int .i64 1, .bool false, .string ⟨#[114, 101, 116]⟩, .int .i64 0, .bool false, .string ⟨#[105, 110]⟩, .int .i64 1, .bool false, .string ⟨#[111, 117, 116]⟩, .int .i64 1, .bool false, .string ⟨#[114, 111, 111, 109]⟩, .int .i64 1, .bool false]) (fun _ => by kernel_rfl) ?_)
    | (refine wpList_build rfl 140 _ rfl (.agg #[.string ⟨#[97, 100, 100]⟩, .string ⟨#[115, 117, 98]⟩, .string ⟨#[109, 117, 108]⟩, .string ⟨#[100, 105, 118]⟩, .string ⟨#[114, 101, 109]⟩, .string ⟨#[97, 110, 100]⟩, .string ⟨#[111, 114]⟩, .string ⟨#[120, 111, 114]⟩, .string ⟨#[115, 104, 108]⟩, .string ⟨#[115, 104, 114]⟩, .string ⟨#[101, 113]⟩, .string ⟨#[110, 101]⟩, .string ⟨#[108, 116]⟩, .string ⟨#[108, 101]⟩, .string ⟨#[103, 116]⟩, .string ⟨#[103, 101]⟩]) (fun _ => by kernel_rfl) ?_)
    | (refine wpList_store_new rfl 139 (.tmp 4) (.tmp 23) rfl (w.heap.size + 1) _ _ (by simp) rfl rfl (by kernel_rfl) rfl (by kernel_rfl) ?_)
    | (refine wpList_store_new rfl 140 (.tmp 5) (.tmp 24) rfl (w.heap.size + 1 + 1) _ _ (by simp) rfl rfl (by kernel_rfl) rfl (by kernel_rfl) ?_)
    | (refine wpList_store_new rfl 141 (.tmp 6) (.tmp 25) rfl (w.heap.size + 1 + 1 + 1) _ _ (by simp) rfl rfl (by kernel_rfl) rfl (by kernel_rfl) ?_))
  generalize ((((w.alloc (.cells #[.string ⟨#[]⟩, .int .i64 0, .bool false] 127)).alloc (.cells #[.string ⟨#[104, 97, 108, 116]⟩, .int .i64 0, .bool false, .string ⟨#[116, 114, 97, 112]⟩, .int .i64 0, .bool true, .string ⟨#[109, 111, 118, 101]⟩, .int .i64 3, .bool false, .string ⟨#[99, 111, 110, 115, 116]⟩, .int .i64 1, .bool true, .string ⟨#[104, 105, 103, 104]⟩, .int .i64 1, .bool true, .string ⟨#[108, 111, 97, 100]⟩, .int .i64 3, .bool true, .string ⟨#[115, 116, 111, 114, 101]⟩, .int .i64 3, .bool true, .string ⟨#[106, 117, 109, 112]⟩, .int .i64 0, .bool true, .string ⟨#[122, 101, 114, 111]⟩, .int .i64 1, .bool true, .string ⟨#[115, 111, 109, 101]⟩, .int .i64 1, .bool true, .string ⟨#[99, 97, 108, 108]⟩, .int .i64 0, .bool true, .string ⟨#[97, 116]⟩, .int .i64 1, .bool false, .string ⟨#[114, 101, 116]⟩, .int .i64 0, .bool false, .string ⟨#[105, 110]⟩, .int .i64 1, .bool false, .string ⟨#[111, 117, 116]⟩, .int .i64 1, .bool false, .string ⟨#[114, 111, 111, 109]⟩, .int .i64 1, .bool false] 139)).alloc (.cells #[.string ⟨#[97, 100, 100]⟩, .string ⟨#[115, 117, 98]⟩, .string ⟨#[109, 117, 108]⟩, .string ⟨#[100, 105, 118]⟩, .string ⟨#[114, 101, 109]⟩, .string ⟨#[97, 110, 100]⟩, .string ⟨#[111, 114]⟩, .string ⟨#[120, 111, 114]⟩, .string ⟨#[115, 104, 108]⟩, .string ⟨#[115, 104, 114]⟩, .string ⟨#[101, 113]⟩, .string ⟨#[110, 101]⟩, .string ⟨#[108, 116]⟩, .string ⟨#[108, 101]⟩, .string ⟨#[103, 116]⟩, .string ⟨#[103, 101]⟩] 140)).alloc (.cells #[.string ⟨#[110, 101, 103]⟩, .string ⟨#[102, 108, 105, 112]⟩, .string ⟨#[98, 97, 110, 103]⟩] 141)) = wA at *
  have cR := BR.out.cell
  have zR := BR.out.frozen
  have f0 := cR 0
  have f1 := cR 1
  have f2 := cR 2
  simp only [List.getElem?_cons_zero, List.getElem?_cons_succ] at f0 f1 f2
  clear cR
  rcases (show (0 ≤ op ∧ op < 16) ∨ (17 ≤ op ∧ op ≤ 32) ∨ (41 ≤ op ∧ op ≤ 43) ∨ (¬ (0 ≤ op ∧ op < 16) ∧ ¬ (17 ≤ op ∧ op ≤ 32) ∧ ¬ (41 ≤ op ∧ op ≤ 43)) by omega) with h0 | h1 | h2 | ⟨h0, h1, h2⟩
  · obtain ⟨k, rfl⟩ : ∃ k : Nat, op = k := ⟨op.toNat, by omega⟩
    obtain ⟨nm, p0, p1, p2⟩ := plain_at k (by omega)
    have HOK := Lib.hid (show isOp k = true by unfold isOp; simp; omega)
    have g0 := (BP.out.cell (k * 3)).trans p0
    have g1 := (BP.out.cell (k * 3 + 1)).trans p1
    have g2 := (BP.out.cell (k * 3 + 2)).trans p2
    have q0 : (0 : Int) ≤ (k : Int) := by omega
    have q1 : (k : Int) < 16 := h0.2
    clear h0 hop p0 p1 p2
    generalize hreg : regsOf (k : Int) = rg at *
    generalize himm : immOf (k : Int) = im at *
    have HREG := Lib.hid hreg
    have HIMM := Lib.hid himm
    clear hreg himm
    go_wp2_with fail
    exact ⟨rfl, _, of_results rfl rfl (Blk.sets BR.out 0 [.string nm, .int .i64 rg, .bool im]), nm, by rw [HOK.out, HREG.out, HIMM.out]; rfl, Kp.sets NA.out (b := w.heap.size) (fun h => by omega) 0 [.string nm, .int .i64 rg, .bool im]⟩
  · obtain ⟨k, rfl⟩ : ∃ k : Nat, op = k + 17 := ⟨(op - 17).toNat, by omega⟩
    obtain ⟨nm, p0⟩ := two_at k (by omega)
    have HR := Lib.hid (show regsOf (k + 17) = 7 ∧ immOf (k + 17) = false ∧ isOp (k + 17) = true by
      refine ⟨?_, ?_, ?_⟩
      · unfold regsOf; rw [if_neg (by omega), if_neg (by omega), if_pos (by omega)]
      · unfold immOf; simp; omega
      · unfold isOp; simp; omega)
    have g0 := (BT.out.cell k).trans p0
    have q0 : (0 : Int) ≤ (k : Int) + 17 := by omega
    have q1 : ¬ (k : Int) + 17 < 16 := by omega
    have q2 : (17 : Int) ≤ (k : Int) + 17 := by omega
    have q3 : (k : Int) + 17 ≤ 32 := h1.2
    have q4 : IntKind.i64.wrap ((k : Int) + 17 - 16) = k + 1 := by rw [IntWalk.i64_in _ (by omega)]; omega
    have q5 : IntKind.i64.wrap ((k : Int) + 1 - 1) = k := by rw [IntWalk.i64_in _ (by omega)]; omega
    have q6 : (0 : Int) ≤ (k : Int) := by omega
    have q7 : (k : Int) < 16 := by omega
    clear h1 hop p0
    go_wp2_with fail
    exact ⟨rfl, _, of_results rfl rfl (Blk.sets BR.out 0 [.string nm, .int .i64 7, .bool false]), nm, by rw [HR.out.1, HR.out.2.1, HR.out.2.2]; rfl, Kp.sets NA.out (b := w.heap.size) (fun h => by omega) 0 [.string nm, .int .i64 7, .bool false]⟩
  · obtain ⟨k, rfl⟩ : ∃ k : Nat, op = k + 41 := ⟨(op - 41).toNat, by omega⟩
    obtain ⟨nm, p0⟩ := one_at k (by omega)
    have HR := Lib.hid (show regsOf (k + 41) = 3 ∧ immOf (k + 41) = false ∧ isOp (k + 41) = true by
      refine ⟨?_, ?_, ?_⟩
      · unfold regsOf; rw [if_pos (by omega)]
      · unfold immOf; simp; omega
      · unfold isOp; simp; omega)
    have g0 := (BO.out.cell k).trans p0
    have q0 : (0 : Int) ≤ (k : Int) + 41 := by omega
    have q1 : ¬ (k : Int) + 41 < 16 := by omega
    have q2 : (17 : Int) ≤ (k : Int) + 41 := by omega
    have q3 : ¬ (k : Int) + 41 ≤ 32 := by omega
    have q3a : (41 : Int) ≤ (k : Int) + 41 := by omega
    have q3b : (k : Int) + 41 ≤ 43 := h2.2
    have q4 : IntKind.i64.wrap ((k : Int) + 41 - 40) = k + 1 := by rw [IntWalk.i64_in _ (by omega)]; omega
    have q5 : IntKind.i64.wrap ((k : Int) + 1 - 1) = k := by rw [IntWalk.i64_in _ (by omega)]; omega
    have q6 : (0 : Int) ≤ (k : Int) := by omega
    have q7 : (k : Int) < 3 := by omega
    clear h2 hop p0
    go_wp2_with fail
    exact ⟨rfl, _, of_results rfl rfl (Blk.sets BR.out 0 [.string nm, .int .i64 3, .bool false]), nm, by rw [HR.out.1, HR.out.2.1, HR.out.2.2]; rfl, Kp.sets NA.out (b := w.heap.size) (fun h => by omega) 0 [.string nm, .int .i64 3, .bool false]⟩
  · have HR := Lib.hid (show regsOf op = 0 ∧ immOf op = false ∧ isOp op = false by
      refine ⟨?_, ?_, ?_⟩
      · unfold regsOf; rw [if_neg (by omega), if_neg (by omega), if_neg (by omega)]
      · unfold immOf; simp; omega
      · unfold isOp; simp; omega)
    have FIN := Lib.hid (show OfPost w op (.returned (.tuple #[.agg #[.string ⟨#[]⟩, .int .i64 0, .bool false], .bool false])) (lays wA w.heap.size 0 [.string ⟨#[]⟩, .int .i64 0, .bool false]) from
      ⟨_, by rw [HR.out.1, HR.out.2.1, HR.out.2.2], Kp.sets NA.out (b := w.heap.size) (fun h => by omega) 0 [.string ⟨#[]⟩, .int .i64 0, .bool false]⟩)
    by_cases q0 : 0 ≤ op
    · have q1 : ¬ op < 16 := by omega
      by_cases q2 : 17 ≤ op
      · have q3 : ¬ op ≤ 32 := by omega
        by_cases q4 : 41 ≤ op
        · have q5 : ¬ op ≤ 43 := by omega
          clear h0 h1 h2 hop
          go_wp2_with fail
          exact ⟨rfl, _, of_results rfl rfl (Blk.sets BR.out 0 [.string ⟨#[]⟩, .int .i64 0, .bool false]), FIN.out⟩
        · clear h0 h1 h2 hop
          go_wp2_with fail
          exact ⟨rfl, _, of_results rfl rfl (Blk.sets BR.out 0 [.string ⟨#[]⟩, .int .i64 0, .bool false]), FIN.out⟩
      · have q3 : ¬ 41 ≤ op := by omega
        clear h0 h1 h2 hop
        go_wp2_with fail
        exact ⟨rfl, _, of_results rfl rfl (Blk.sets BR.out 0 [.string ⟨#[]⟩, .int .i64 0, .bool false]), FIN.out⟩
    · have q2 : ¬ 17 ≤ op := by omega
      have q3 : ¬ 41 ≤ op := by omega
      clear h0 h1 h2 hop
      go_wp2_with fail
      exact ⟨rfl, _, of_results rfl rfl (Blk.sets BR.out 0 [.string ⟨#[]⟩, .int .i64 0, .bool false]), FIN.out⟩
end Go.Proofs.Ytfdjlicegfgodaa
