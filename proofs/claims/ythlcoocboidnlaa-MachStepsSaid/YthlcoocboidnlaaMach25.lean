/- The document's machine in memory; cell, trap, the operations without memory. -/
import Derived.Test.YthlcoocboidnlaaMach24
import Derived.Test.YthlcoocboidnlaaMach17
namespace Go.Proofs.Ythlcoocboidnlaa
open Go.RowKit
set_option linter.unusedSimpArgs false
set_option linter.unusedVariables false

structure Dc where
  vc : Value
  vm : Value
  reg : List Int
  pc : Int
  vi : Value
  at_ : Int
  kind : Int
  panics : Int
  vo : Value
  steps : Int
def Dc.tail (m : Dc) : List Value := [.int .i64 m.pc, m.vi, .int .i64 m.at_, .int .i64 m.kind, .int .i64 m.panics, m.vo, .int .i64 m.steps]
def Dc.cells (m : Dc) : List Value := m.vc :: m.vm :: (m.reg.map (Value.int .i64) ++ m.tail)
structure DcAt (w : World) (p : Nat) (m : Dc) : Prop where
  blk : Blk w p m.cells 51
  len : m.reg.length = 16
def Dc.get (m : Dc) (a : Nat) : Int := m.reg.getD a 0
section
variable {w : World} {p : Nat} {m : Dc}
theorem DcAt.lt (h : DcAt w p m) : p < w.heap.size := h.blk.lt
theorem DcAt.kp {S : Nat → Prop} {w' : World} (h : DcAt w p m) (k : Kp S w w') (hs : ¬ S p) : DcAt w' p m := ⟨h.blk.kp k hs, h.len⟩
theorem DcAt.nw {w' : World} (h : DcAt w p m) (k : Nw w w') : DcAt w' p m := h.kp k (fun x => x)
theorem DcAt.alloc (h : DcAt w p m) (o : Obj) : DcAt (w.alloc o) p m := h.nw (Nw.new w o)
theorem DcAt.drew (h : DcAt w p m) : DcAt w.drew p m := ⟨h.blk.drew, h.len⟩
theorem DcAt.setOther (h : DcAt w p m) {a : Addr} (hne : p ≠ a.block) (v : Value) : DcAt (w.setCell a v) p m := ⟨h.blk.setOther hne v, h.len⟩
theorem DcAt.frozen (h : DcAt w p m) (o : Nat) : w.frozen? ⟨p, o, none⟩ = false := h.blk.frozen o
theorem DcAt.c0 (h : DcAt w p m) : w.cell? ⟨p, 0, none⟩ = some m.vc := h.blk.cell 0
theorem DcAt.c1 (h : DcAt w p m) : w.cell? ⟨p, 1, none⟩ = some m.vm := h.blk.cell 1
theorem DcAt.creg (h : DcAt w p m) {a : Nat} (ha : a < 16) : w.cell? ⟨p, 2 + a, none⟩ = some (.int .i64 (m.get a)) := by
  rw [h.blk.cell]
  have hl : a < m.reg.length := by rw [h.len]; exact ha
  rw [show 2 + a = a + 1 + 1 by omega]
  simp only [Dc.cells, List.getElem?_cons_succ]
  rw [List.getElem?_append_left (by simpa using hl), List.getElem?_map, List.getElem?_eq_getElem hl]
  simp [Dc.get, List.getD_eq_getElem?_getD, List.getElem?_eq_getElem hl]
theorem DcAt.ctail (h : DcAt w p m) (k : Nat) : w.cell? ⟨p, 18 + k, none⟩ = m.tail[k]? := by
  rw [h.blk.cell, show 18 + k = 16 + k + 1 + 1 by omega]
  simp only [Dc.cells, List.getElem?_cons_succ]
  rw [List.getElem?_append_right (by simp [h.len])]
  simp [h.len]
theorem DcAt.c18 (h : DcAt w p m) : w.cell? ⟨p, 18, none⟩ = some (.int .i64 m.pc) := h.ctail 0
theorem DcAt.c19 (h : DcAt w p m) : w.cell? ⟨p, 19, none⟩ = some m.vi := h.ctail 1
theorem DcAt.c20 (h : DcAt w p m) : w.cell? ⟨p, 20, none⟩ = some (.int .i64 m.at_) := h.ctail 2
theorem DcAt.c21 (h : DcAt w p m) : w.cell? ⟨p, 21, none⟩ = some (.int .i64 m.kind) := h.ctail 3
theorem DcAt.c22 (h : DcAt w p m) : w.cell? ⟨p, 22, none⟩ = some (.int .i64 m.panics) := h.ctail 4
theorem DcAt.c23 (h : DcAt w p m) : w.cell? ⟨p, 23, none⟩ = some m.vo := h.ctail 5
theorem DcAt.c24 (h : DcAt w p m) : w.cell? ⟨p, 24, none⟩ = some (.int .i64 m.steps) := h.ctail 6
theorem DcAt.setReg (h : DcAt w p m) {a : Nat} (ha : a < 16) (v : Int) : DcAt (w.setCell ⟨p, 2 + a, none⟩ (.int .i64 v)) p { m with reg := m.reg.set a v } := by
  refine ⟨?_, by simp [h.len]⟩
  have e : m.cells.set (2 + a) (.int .i64 v) = Dc.cells { m with reg := m.reg.set a v } := by
    rw [show 2 + a = a + 1 + 1 by omega]
    simp only [Dc.cells, List.set_cons_succ]
    rw [List.set_append_left _ _ (by simpa [h.len] using ha), List.map_set]
    rfl
  rw [← e]
  exact h.blk.set _ _
theorem DcAt.setTail (h : DcAt w p m) (k : Nat) (v : Value) : Blk (w.setCell ⟨p, 18 + k, none⟩ v) p (m.vc :: m.vm :: (m.reg.map (Value.int .i64) ++ m.tail.set k v)) 51 := by
  have e : m.cells.set (18 + k) v = m.vc :: m.vm :: (m.reg.map (Value.int .i64) ++ m.tail.set k v) := by
    rw [show 18 + k = 16 + k + 1 + 1 by omega]
    simp only [Dc.cells, List.set_cons_succ]
    rw [List.set_append_right _ _ (by simp [h.len])]
    simp [h.len]
  rw [← e]
  exact h.blk.set _ _
theorem DcAt.setPc (h : DcAt w p m) (v : Int) : DcAt (w.setCell ⟨p, 18, none⟩ (.int .i64 v)) p { m with pc := v } := ⟨h.setTail 0 _, h.len⟩
theorem DcAt.setAt (h : DcAt w p m) (v : Int) : DcAt (w.setCell ⟨p, 20, none⟩ (.int .i64 v)) p { m with at_ := v } := ⟨h.setTail 2 _, h.len⟩
theorem DcAt.setKind (h : DcAt w p m) (v : Int) : DcAt (w.setCell ⟨p, 21, none⟩ (.int .i64 v)) p { m with kind := v } := ⟨h.setTail 3 _, h.len⟩
theorem DcAt.setPanics (h : DcAt w p m) (v : Int) : DcAt (w.setCell ⟨p, 22, none⟩ (.int .i64 v)) p { m with panics := v } := ⟨h.setTail 4 _, h.len⟩
theorem DcAt.setVo (h : DcAt w p m) (v : Value) : DcAt (w.setCell ⟨p, 23, none⟩ v) p { m with vo := v } := ⟨h.setTail 5 _, h.len⟩
theorem DcAt.setSteps (h : DcAt w p m) (v : Int) : DcAt (w.setCell ⟨p, 24, none⟩ (.int .i64 v)) p { m with steps := v } := ⟨h.setTail 6 _, h.len⟩
end
/-- an operation is done: the struct alone has changed -/
def OpD (w : World) (p : Nat) (m' : Dc) (e : Ending) (w' : World) : Prop := e = .returned (.tuple #[]) ∧ DcAt w' p m' ∧ Kp (fun x => x = p) w w'
/-- there is no such word: the run has faulted -/
def BadD (w : World) (p : Nat) (m' : Dc) (e : Ending) (w' : World) : Prop := e = .returned (.int .i64 (-1)) ∧ DcAt w' p m' ∧ Kp (fun x => x = p) w w'
theorem wrap_mul (a : Int) : IntKind.i64.wrap a = wrap64 a := i64wrap a
set_option maxRecDepth 100000 in
set_option maxHeartbeats 1000000 in
theorem cell_ok (w : World) (p : Nat) (m : Dc) (h : DcAt w p m) (bm n c k : Nat) (hv : m.vm = .slice (some ⟨bm, 0, none⟩) n c) (hn : n ≤ 262144) (hk : k < n) :
    Calls Try.prog 67 #[.pointer (some ⟨p, 0, none⟩), .int .i64 (k : Int)] w fun e w' => e = .returned (.int .i64 (k : Int)) ∧ w' = w := by
  have f1 := h.c1
  rw [hv] at f1
  clear h hv
  have hq0 : (0 : Int) ≤ (k : Int) := by omega
  have hq1 : (k : Int) < (n : Int) := by omega
  have hq2 : decide ((k : Int) < 0) = false := decide_eq_false (by omega)
  have hw : IntKind.i64.wrap ((n : Nat) : Int) = n := IntWalk.i64_in _ (by omega)
  have hwk : IntKind.i64.wrap ((k : Nat) : Int) = k := IntWalk.i64_in _ (by omega)
  go_enter Try.func67, Try.ntmps67
  go_wp2_with fail
  go_returns
  exact ⟨rfl, rfl⟩
set_option maxRecDepth 100000 in
set_option maxHeartbeats 1000000 in
theorem cell_bad (w : World) (p : Nat) (m : Dc) (h : DcAt w p m) (x : Option Addr) (n c : Nat) (k : Int) (hv : m.vm = .slice x n c) (hn : n ≤ 262144) (hk : k < 0 ∨ (n : Int) ≤ k) :
    Calls Try.prog 67 #[.pointer (some ⟨p, 0, none⟩), .int .i64 k] w (BadD w p { m with kind := 5 }) := by
  have f1 := h.c1
  rw [hv] at f1
  have f2 := h.c21
  have z2 := h.frozen 21
  have FIN := Lib.hid (show BadD w p { m with kind := 5 } (.returned (.int .i64 (-1))) (w.setCell ⟨p, 21, none⟩ (.int .i64 5)) from ⟨rfl, h.setKind 5, set_kp (Nw.refl w) 21 _⟩)
  clear h hv
  have hw : IntKind.i64.wrap ((n : Nat) : Int) = n := IntWalk.i64_in _ (by omega)
  by_cases h0 : k < 0
  · go_enter Try.func67, Try.ntmps67
    go_wp2_with fail
    go_returns
    exact FIN.out
  · have h1 : (n : Int) ≤ k := by omega
    go_enter Try.func67, Try.ntmps67
    go_wp2_with fail
    go_returns
    exact FIN.out
set_option maxRecDepth 100000 in
set_option maxHeartbeats 1000000 in
theorem dtrap_any (w : World) (p : Nat) (m : Dc) (h : DcAt w p m) (hp0 : m.panics = 0) (n : Int) (hn : -9223372036854775808 ≤ n ∧ n ≤ 9223372036854775807) :
    Calls Try.prog 66 #[.pointer (some ⟨p, 0, none⟩), .int .i64 n] w (OpD w p { m with kind := (trapV n).1, panics := (trapV n).2 }) := by
  obtain ⟨vc, vm, reg, pc, vi, at_, kind, panics, vo, steps⟩ := m
  simp only at hp0
  subst hp0
  have f1 := h.c21
  have f2 := h.c22
  have z1 := h.frozen 21
  have z2 := h.frozen 22
  simp only at f1 f2
  have HN := Lib.hid hn
  clear hn
  have g1 := (h.setKind 5).c21
  have y1 := (h.setKind 5).frozen 21
  have g2 := ((h.setKind 5).setKind 2).c22
  have y2 := ((h.setKind 5).setKind 2).frozen 22
  by_cases h1 : 1 ≤ n ∧ n ≤ 999
  · obtain ⟨ha, hb⟩ := h1
    have hwn : IntKind.i64.wrap n = n := IntWalk.i64_in _ (by omega)
    have FIN := Lib.hid (show OpD w p _ (.returned (.tuple #[])) (((w.setCell ⟨p, 21, none⟩ (.int .i64 5)).setCell ⟨p, 21, none⟩ (.int .i64 2)).setCell ⟨p, 22, none⟩ (.int .i64 n)) from
      ⟨rfl, ((h.setKind 5).setKind 2).setPanics n, kp_set (kp_set (set_kp (Nw.refl w) 21 _) 21 _) 22 _⟩)
    rw [show trapV n = (2, n) from if_pos ⟨ha, hb⟩]
    clear h
    go_enter Try.func66, Try.ntmps66
    go_wp2_with fail
    go_returns
    exact FIN.out
  have hd : decide (1 ≤ n) = false ∨ decide (1 ≤ n) = true ∧ decide (n ≤ 999) = false := by
    by_cases ha : 1 ≤ n
    · exact .inr ⟨decide_eq_true ha, decide_eq_false (fun hb => h1 ⟨ha, hb⟩)⟩
    · exact .inl (decide_eq_false ha)
  have e1 : trapV n = if n = 1000 then (3, 0) else if n = 1001 then (4, 0) else (5, 0) := if_neg h1
  by_cases h2 : n = 1000
  · subst h2
    have FIN := Lib.hid (show OpD w p _ (.returned (.tuple #[])) ((w.setCell ⟨p, 21, none⟩ (.int .i64 5)).setCell ⟨p, 21, none⟩ (.int .i64 3)) from
      ⟨rfl, (h.setKind 5).setKind 3, kp_set (set_kp (Nw.refl w) 21 _) 21 _⟩)
    rw [show trapV 1000 = (3, 0) from by rw [e1, if_pos rfl]]
    clear h hd
    go_enter Try.func66, Try.ntmps66
    go_wp2_with fail
    go_returns
    exact FIN.out
  by_cases h3 : n = 1001
  · subst h3
    have FIN := Lib.hid (show OpD w p _ (.returned (.tuple #[])) ((w.setCell ⟨p, 21, none⟩ (.int .i64 5)).setCell ⟨p, 21, none⟩ (.int .i64 4)) from
      ⟨rfl, (h.setKind 5).setKind 4, kp_set (set_kp (Nw.refl w) 21 _) 21 _⟩)
    rw [show trapV 1001 = (4, 0) from by rw [e1, if_neg (by decide), if_pos rfl]]
    clear h hd
    go_enter Try.func66, Try.ntmps66
    go_wp2_with fail
    go_returns
    exact FIN.out
  have FIN := Lib.hid (show OpD w p _ (.returned (.tuple #[])) (w.setCell ⟨p, 21, none⟩ (.int .i64 5)) from ⟨rfl, h.setKind 5, set_kp (Nw.refl w) 21 _⟩)
  rw [show trapV n = (5, 0) from by rw [e1, if_neg h2, if_neg h3]]
  obtain ⟨ne1, ne2, ne3, ne4⟩ := int_ne h2
  obtain ⟨me1, me2, me3, me4⟩ := int_ne h3
  clear h e1
  rcases hd with hd | ⟨hd, hd2⟩
  · have hd3 : n < 1 := by have := of_decide_eq_false hd; omega
    go_enter Try.func66, Try.ntmps66
    go_wp2_with fail
    go_returns
    exact FIN.out
  · have hd3 : 1 ≤ n := of_decide_eq_true hd
    have hd4 : 999 < n := by have := of_decide_eq_false hd2; omega
    go_enter Try.func66, Try.ntmps66
    go_wp2_with fail
    go_returns
    exact FIN.out
/-! ### plain: the operations without memory -/
def DI (w : World) (p : Nat) (m' : Dc) (e : Ending) (w' : World) : Prop := OpD w p m' e w'

set_option maxRecDepth 100000 in
set_option maxHeartbeats 1000000 in
theorem pl_halt (w : World) (p : Nat) (m : Dc) (h : DcAt w p m) (a : Int) (b : Int) (c n : Int) :
    Calls Try.prog 57 #[.pointer (some ⟨p, 0, none⟩), .agg #[.int .i64 0, .int .i64 a, .int .i64 b, .int .i64 c, .int .i64 n]] w (OpD w p { m with kind := 1 }) := by
  have N0 := Lib.hid (Nw.new w (.cells #[.int .i64 0, .int .i64 a, .int .i64 b, .int .i64 c, .int .i64 n] 26))
  have M0 := Lib.hid (h.alloc (.cells #[.int .i64 0, .int .i64 a, .int .i64 b, .int .i64 c, .int .i64 n] 26))
  have B0 := Lib.hid (Blk.new w [.int .i64 0, .int .i64 a, .int .i64 b, .int .i64 c, .int .i64 n] 26)
  have hlt := h.lt
  clear h
  go_enter Try.func57, Try.ntmps57
  go_upto_region 1 with fail
  generalize w.alloc (.cells #[.int .i64 0, .int .i64 a, .int .i64 b, .int .i64 c, .int .i64 n] 26) = w0 at *
  generalize w.heap.size = bi at *
  have i0 := B0.out.cell 0
  have i1 := B0.out.cell 1
  have i2 := B0.out.cell 2
  have i3 := B0.out.cell 3
  have i4 := B0.out.cell 4
  simp only [List.getElem?_cons_zero, List.getElem?_cons_succ] at i0 i1 i2 i3 i4
  have hpb : ¬ p = bi := fun e => by omega
  have f21 := M0.out.c21
  have z21 := M0.out.frozen 21
  go_wp2_with fail
  go_returns
  exact ⟨rfl, M0.out.setKind 1, set_kp N0.out _ _⟩
set_option maxRecDepth 100000 in
set_option maxHeartbeats 1000000 in
theorem pl_trap (w : World) (p : Nat) (m : Dc) (h : DcAt w p m) (hp0 : m.panics = 0) (a b c n : Int) (hn : -9223372036854775808 ≤ n ∧ n ≤ 9223372036854775807) :
    Calls Try.prog 57 #[.pointer (some ⟨p, 0, none⟩), .agg #[.int .i64 1, .int .i64 a, .int .i64 b, .int .i64 c, .int .i64 n]] w (OpD w p { m with kind := (trapV n).1, panics := (trapV n).2 }) := by
  have N0 := Lib.hid (Nw.new w (.cells #[.int .i64 1, .int .i64 a, .int .i64 b, .int .i64 c, .int .i64 n] 26))
  have M0 := Lib.hid (h.alloc (.cells #[.int .i64 1, .int .i64 a, .int .i64 b, .int .i64 c, .int .i64 n] 26))
  have B0 := Lib.hid (Blk.new w [.int .i64 1, .int .i64 a, .int .i64 b, .int .i64 c, .int .i64 n] 26)
  have hlt := h.lt
  clear h
  go_enter Try.func57, Try.ntmps57
  go_upto_region 1 with fail
  generalize w.alloc (.cells #[.int .i64 1, .int .i64 a, .int .i64 b, .int .i64 c, .int .i64 n] 26) = w0 at *
  generalize w.heap.size = bi at *
  have i0 := B0.out.cell 0
  have i1 := B0.out.cell 1
  have i2 := B0.out.cell 2
  have i3 := B0.out.cell 3
  have i4 := B0.out.cell 4
  simp only [List.getElem?_cons_zero, List.getElem?_cons_succ] at i0 i1 i2 i3 i4
  have hpb : ¬ p = bi := fun e => by omega
  have TR := Lib.hid (dtrap_any w0 p m M0.out hp0 n hn)
  clear hp0 hn
  go_wp2_with fail
  refine TR.out.mono ?_
  rintro e1 w1 ⟨rfl, m1, k1⟩
  have FIN := Lib.hid (show OpD w p _ (.returned (.tuple #[])) w1 from ⟨rfl, m1, Kp.trans (kpp N0.out) k1 (fun _ _ x => x)⟩)
  clear m1 k1 TR
  go_wp2_with fail
  go_returns
  exact FIN.out
set_option maxRecDepth 100000 in
set_option maxHeartbeats 1000000 in
theorem pl_move (w : World) (p : Nat) (m : Dc) (h : DcAt w p m) (a : Nat) (b : Nat) (ha : a < 16) (hb : b < 16) (c n : Int) :
    Calls Try.prog 57 #[.pointer (some ⟨p, 0, none⟩), .agg #[.int .i64 2, .int .i64 (a : Int), .int .i64 (b : Int), .int .i64 c, .int .i64 n]] w (OpD w p { m with reg := m.reg.set a (m.get b) }) := by
  have N0 := Lib.hid (Nw.new w (.cells #[.int .i64 2, .int .i64 (a : Int), .int .i64 (b : Int), .int .i64 c, .int .i64 n] 26))
  have M0 := Lib.hid (h.alloc (.cells #[.int .i64 2, .int .i64 (a : Int), .int .i64 (b : Int), .int .i64 c, .int .i64 n] 26))
  have B0 := Lib.hid (Blk.new w [.int .i64 2, .int .i64 (a : Int), .int .i64 (b : Int), .int .i64 c, .int .i64 n] 26)
  have hlt := h.lt
  clear h
  have ha0 : (0 : Int) ≤ (a : Int) := by omega
  have ha1 : (a : Int) < 16 := by omega
  have hb0 : (0 : Int) ≤ (b : Int) := by omega
  have hb1 : (b : Int) < 16 := by omega
  go_enter Try.func57, Try.ntmps57
  go_upto_region 1 with fail
  generalize w.alloc (.cells #[.int .i64 2, .int .i64 (a : Int), .int .i64 (b : Int), .int .i64 c, .int .i64 n] 26) = w0 at *
  generalize w.heap.size = bi at *
  have i0 := B0.out.cell 0
  have i1 := B0.out.cell 1
  have i2 := B0.out.cell 2
  have i3 := B0.out.cell 3
  have i4 := B0.out.cell 4
  simp only [List.getElem?_cons_zero, List.getElem?_cons_succ] at i0 i1 i2 i3 i4
  have hpb : ¬ p = bi := fun e => by omega
  have ra := M0.out.creg ha
  have rb := M0.out.creg hb
  have za := M0.out.frozen (2 + a)
  go_wp2_with fail
  go_region
  go_wp2_with fail
  go_returns
  exact ⟨rfl, (M0.out.setReg ha _).drew, (set_kp N0.out _ _).drew⟩
set_option maxRecDepth 100000 in
set_option maxHeartbeats 1000000 in
theorem pl_konst (w : World) (p : Nat) (m : Dc) (h : DcAt w p m) (a : Nat) (b : Int) (ha : a < 16) (c n : Int) :
    Calls Try.prog 57 #[.pointer (some ⟨p, 0, none⟩), .agg #[.int .i64 3, .int .i64 (a : Int), .int .i64 b, .int .i64 c, .int .i64 n]] w (OpD w p { m with reg := m.reg.set a n }) := by
  have N0 := Lib.hid (Nw.new w (.cells #[.int .i64 3, .int .i64 (a : Int), .int .i64 b, .int .i64 c, .int .i64 n] 26))
  have M0 := Lib.hid (h.alloc (.cells #[.int .i64 3, .int .i64 (a : Int), .int .i64 b, .int .i64 c, .int .i64 n] 26))
  have B0 := Lib.hid (Blk.new w [.int .i64 3, .int .i64 (a : Int), .int .i64 b, .int .i64 c, .int .i64 n] 26)
  have hlt := h.lt
  clear h
  have ha0 : (0 : Int) ≤ (a : Int) := by omega
  have ha1 : (a : Int) < 16 := by omega
  go_enter Try.func57, Try.ntmps57
  go_upto_region 1 with fail
  generalize w.alloc (.cells #[.int .i64 3, .int .i64 (a : Int), .int .i64 b, .int .i64 c, .int .i64 n] 26) = w0 at *
  generalize w.heap.size = bi at *
  have i0 := B0.out.cell 0
  have i1 := B0.out.cell 1
  have i2 := B0.out.cell 2
  have i3 := B0.out.cell 3
  have i4 := B0.out.cell 4
  simp only [List.getElem?_cons_zero, List.getElem?_cons_succ] at i0 i1 i2 i3 i4
  have hpb : ¬ p = bi := fun e => by omega
  have ra := M0.out.creg ha
  have za := M0.out.frozen (2 + a)
  go_wp2_with fail
  go_region
  go_wp2_with fail
  go_returns
  exact ⟨rfl, (M0.out.setReg ha _).drew, (set_kp N0.out _ _).drew⟩
set_option maxRecDepth 100000 in
set_option maxHeartbeats 1000000 in
theorem pl_high (w : World) (p : Nat) (m : Dc) (h : DcAt w p m) (a : Nat) (b : Int) (ha : a < 16) (c n : Int) :
    Calls Try.prog 57 #[.pointer (some ⟨p, 0, none⟩), .agg #[.int .i64 4, .int .i64 (a : Int), .int .i64 b, .int .i64 c, .int .i64 n]] w (OpD w p { m with reg := m.reg.set a (highV (m.get a) n) }) := by
  have N0 := Lib.hid (Nw.new w (.cells #[.int .i64 4, .int .i64 (a : Int), .int .i64 b, .int .i64 c, .int .i64 n] 26))
  have M0 := Lib.hid (h.alloc (.cells #[.int .i64 4, .int .i64 (a : Int), .int .i64 b, .int .i64 c, .int .i64 n] 26))
  have B0 := Lib.hid (Blk.new w [.int .i64 4, .int .i64 (a : Int), .int .i64 b, .int .i64 c, .int .i64 n] 26)
  have hlt := h.lt
  clear h
  have ha0 : (0 : Int) ≤ (a : Int) := by omega
  have ha1 : (a : Int) < 16 := by omega
  go_enter Try.func57, Try.ntmps57
  go_upto_region 1 with fail
  generalize w.alloc (.cells #[.int .i64 4, .int .i64 (a : Int), .int .i64 b, .int .i64 c, .int .i64 n] 26) = w0 at *
  generalize w.heap.size = bi at *
  have i0 := B0.out.cell 0
  have i1 := B0.out.cell 1
  have i2 := B0.out.cell 2
  have i3 := B0.out.cell 3
  have i4 := B0.out.cell 4
  simp only [List.getElem?_cons_zero, List.getElem?_cons_succ] at i0 i1 i2 i3 i4
  have hpb : ¬ p = bi := fun e => by omega
  have ra := M0.out.creg ha
  have za := M0.out.frozen (2 + a)
  generalize m.get a = va at *
  have hal := and_low n
  go_wp2_with fail
  go_region
  go_wp2_with fail
  go_returns
  exact ⟨rfl, by rw [← high_eq]; exact (M0.out.setReg ha _).drew, (set_kp N0.out _ _).drew⟩
set_option maxRecDepth 100000 in
set_option maxHeartbeats 1000000 in
theorem pl_jump (w : World) (p : Nat) (m : Dc) (h : DcAt w p m) (a : Int) (b : Int) (c n : Int) :
    Calls Try.prog 57 #[.pointer (some ⟨p, 0, none⟩), .agg #[.int .i64 7, .int .i64 a, .int .i64 b, .int .i64 c, .int .i64 n]] w (OpD w p { m with pc := wrap64 (m.pc + n) }) := by
  have N0 := Lib.hid (Nw.new w (.cells #[.int .i64 7, .int .i64 a, .int .i64 b, .int .i64 c, .int .i64 n] 26))
  have M0 := Lib.hid (h.alloc (.cells #[.int .i64 7, .int .i64 a, .int .i64 b, .int .i64 c, .int .i64 n] 26))
  have B0 := Lib.hid (Blk.new w [.int .i64 7, .int .i64 a, .int .i64 b, .int .i64 c, .int .i64 n] 26)
  have hlt := h.lt
  clear h
  go_enter Try.func57, Try.ntmps57
  go_upto_region 1 with fail
  generalize w.alloc (.cells #[.int .i64 7, .int .i64 a, .int .i64 b, .int .i64 c, .int .i64 n] 26) = w0 at *
  generalize w.heap.size = bi at *
  have i0 := B0.out.cell 0
  have i1 := B0.out.cell 1
  have i2 := B0.out.cell 2
  have i3 := B0.out.cell 3
  have i4 := B0.out.cell 4
  simp only [List.getElem?_cons_zero, List.getElem?_cons_succ] at i0 i1 i2 i3 i4
  have hpb : ¬ p = bi := fun e => by omega
  have f18 := M0.out.c18
  have z18 := M0.out.frozen 18
  go_wp2_with fail
  try go_region
  try go_wp2_with fail
  go_returns
  first
    | exact ⟨rfl, M0.out.setPc _, set_kp N0.out _ _⟩
    | exact ⟨rfl, (M0.out.setPc _).drew, (set_kp N0.out _ _).drew⟩
set_option maxRecDepth 100000 in
set_option maxHeartbeats 1000000 in
theorem pl_zero (w : World) (p : Nat) (m : Dc) (h : DcAt w p m) (a : Nat) (ha : a < 16) (b c n : Int) :
    Calls Try.prog 57 #[.pointer (some ⟨p, 0, none⟩), .agg #[.int .i64 8, .int .i64 (a : Int), .int .i64 b, .int .i64 c, .int .i64 n]] w (OpD w p (if m.get a = 0 then { m with pc := wrap64 (m.pc + n) } else m)) := by
  have N0 := Lib.hid (Nw.new w (.cells #[.int .i64 8, .int .i64 (a : Int), .int .i64 b, .int .i64 c, .int .i64 n] 26))
  have M0 := Lib.hid (h.alloc (.cells #[.int .i64 8, .int .i64 (a : Int), .int .i64 b, .int .i64 c, .int .i64 n] 26))
  have B0 := Lib.hid (Blk.new w [.int .i64 8, .int .i64 (a : Int), .int .i64 b, .int .i64 c, .int .i64 n] 26)
  have hlt := h.lt
  clear h
  have ha0 : (0 : Int) ≤ (a : Int) := by omega
  have ha1 : (a : Int) < 16 := by omega
  go_enter Try.func57, Try.ntmps57
  go_upto_region 1 with fail
  generalize w.alloc (.cells #[.int .i64 8, .int .i64 (a : Int), .int .i64 b, .int .i64 c, .int .i64 n] 26) = w0 at *
  generalize w.heap.size = bi at *
  have i0 := B0.out.cell 0
  have i1 := B0.out.cell 1
  have i2 := B0.out.cell 2
  have i3 := B0.out.cell 3
  have i4 := B0.out.cell 4
  simp only [List.getElem?_cons_zero, List.getElem?_cons_succ] at i0 i1 i2 i3 i4
  have hpb : ¬ p = bi := fun e => by omega
  have ra := M0.out.creg ha
  have f18 := M0.out.c18
  have z18 := M0.out.frozen 18
  by_cases hz : m.get a = 0
  · rw [if_pos hz]
    rw [hz] at ra
    go_wp2_with fail
    go_region
    go_wp2_with fail
    go_region
    go_wp2_with fail
    go_returns
    exact ⟨rfl, (M0.out.drew.setPc _).drew, (set_kp N0.out.drew _ _).drew⟩
  · rw [if_neg hz]
    generalize m.get a = va at *
    obtain ⟨ne1, ne2, ne3, ne4⟩ := int_ne hz
    go_wp2_with fail
    go_region
    go_wp2_with fail
    skip
    skip
    go_returns
    exact ⟨rfl, M0.out.drew, kpp N0.out.drew⟩
set_option maxRecDepth 100000 in
set_option maxHeartbeats 1000000 in
theorem pl_some (w : World) (p : Nat) (m : Dc) (h : DcAt w p m) (a : Nat) (ha : a < 16) (b c n : Int) :
    Calls Try.prog 57 #[.pointer (some ⟨p, 0, none⟩), .agg #[.int .i64 9, .int .i64 (a : Int), .int .i64 b, .int .i64 c, .int .i64 n]] w (OpD w p (if m.get a = 0 then m else { m with pc := wrap64 (m.pc + n) })) := by
  have N0 := Lib.hid (Nw.new w (.cells #[.int .i64 9, .int .i64 (a : Int), .int .i64 b, .int .i64 c, .int .i64 n] 26))
  have M0 := Lib.hid (h.alloc (.cells #[.int .i64 9, .int .i64 (a : Int), .int .i64 b, .int .i64 c, .int .i64 n] 26))
  have B0 := Lib.hid (Blk.new w [.int .i64 9, .int .i64 (a : Int), .int .i64 b, .int .i64 c, .int .i64 n] 26)
  have hlt := h.lt
  clear h
  have ha0 : (0 : Int) ≤ (a : Int) := by omega
  have ha1 : (a : Int) < 16 := by omega
  go_enter Try.func57, Try.ntmps57
  go_upto_region 1 with fail
  generalize w.alloc (.cells #[.int .i64 9, .int .i64 (a : Int), .int .i64 b, .int .i64 c, .int .i64 n] 26) = w0 at *
  generalize w.heap.size = bi at *
  have i0 := B0.out.cell 0
  have i1 := B0.out.cell 1
  have i2 := B0.out.cell 2
  have i3 := B0.out.cell 3
  have i4 := B0.out.cell 4
  simp only [List.getElem?_cons_zero, List.getElem?_cons_succ] at i0 i1 i2 i3 i4
  have hpb : ¬ p = bi := fun e => by omega
  have ra := M0.out.creg ha
  have f18 := M0.out.c18
  have z18 := M0.out.frozen 18
  by_cases hz : m.get a = 0
  · rw [if_pos hz]
    rw [hz] at ra
    go_wp2_with fail
    go_region
    go_wp2_with fail
    skip
    skip
    go_returns
    exact ⟨rfl, M0.out.drew, kpp N0.out.drew⟩
  · rw [if_neg hz]
    generalize m.get a = va at *
    obtain ⟨ne1, ne2, ne3, ne4⟩ := int_ne hz
    go_wp2_with fail
    go_region
    go_wp2_with fail
    go_region
    go_wp2_with fail
    go_returns
    exact ⟨rfl, (M0.out.drew.setPc _).drew, (set_kp N0.out.drew _ _).drew⟩
end Go.Proofs.Ythlcoocboidnlaa
