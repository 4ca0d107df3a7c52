/- The machine's struct in memory; what its operations do. -/
import Derived.Test.YthlcoocboidnlaaIsa7
import Derived.Test.YthlcoocboidnlaaWord
import Derived.RegionTactic
import Derived.ChangeAlike
import Derived.BigRegion
namespace Go.Proofs.Ythlcoocboidnlaa
open Go.RowKit
set_option linter.unusedSimpArgs false
set_option linter.unusedVariables false

structure Mc where
  vc : Value
  vm : Value
  reg : List Int
  pc : Int
  vi : Value
  vo : Value
  kind : Int
  panics : Int
  steps : Int
  vf : Value
def Mc.tail (m : Mc) : List Value := [.int .i64 m.pc, m.vi, m.vo, .int .i64 m.kind, .int .i64 m.panics, .int .i64 m.steps, m.vf]
def Mc.cells (m : Mc) : List Value := m.vc :: m.vm :: (m.reg.map (Value.int .i64) ++ m.tail)
structure McAt (w : World) (p : Nat) (m : Mc) : Prop where
  blk : Blk w p m.cells 63
  len : m.reg.length = 16
def Mc.get (m : Mc) (a : Nat) : Int := m.reg.getD a 0
section
variable {w : World} {p : Nat} {m : Mc}
theorem McAt.lt (h : McAt w p m) : p < w.heap.size := h.blk.lt
theorem McAt.kp {S : Nat → Prop} {w' : World} (h : McAt w p m) (k : Kp S w w') (hs : ¬ S p) : McAt w' p m := ⟨h.blk.kp k hs, h.len⟩
theorem McAt.nw {w' : World} (h : McAt w p m) (k : Nw w w') : McAt w' p m := h.kp k (fun x => x)
theorem McAt.alloc (h : McAt w p m) (o : Obj) : McAt (w.alloc o) p m := h.nw (Nw.new w o)
theorem McAt.drew (h : McAt w p m) : McAt w.drew p m := ⟨h.blk.drew, h.len⟩
theorem McAt.frozen (h : McAt w p m) (o : Nat) : w.frozen? ⟨p, o, none⟩ = false := h.blk.frozen o
theorem McAt.c0 (h : McAt w p m) : w.cell? ⟨p, 0, none⟩ = some m.vc := h.blk.cell 0
theorem McAt.c1 (h : McAt w p m) : w.cell? ⟨p, 1, none⟩ = some m.vm := h.blk.cell 1
theorem McAt.creg (h : McAt w p m) {a : Nat} (ha : a < 16) : w.cell? ⟨p, 2 + a, none⟩ = some (.int .i64 (m.get a)) := by
  rw [h.blk.cell]
  have hl : a < m.reg.length := by rw [h.len]; exact ha
  rw [show 2 + a = a + 1 + 1 by omega]
  simp only [Mc.cells, List.getElem?_cons_succ]
  rw [List.getElem?_append_left (by simpa using hl), List.getElem?_map, List.getElem?_eq_getElem hl]
  simp [Mc.get, List.getD_eq_getElem?_getD, List.getElem?_eq_getElem hl]
theorem McAt.ctail (h : McAt w p m) (k : Nat) : w.cell? ⟨p, 18 + k, none⟩ = m.tail[k]? := by
  rw [h.blk.cell, show 18 + k = 16 + k + 1 + 1 by omega]
  simp only [Mc.cells, List.getElem?_cons_succ]
  rw [List.getElem?_append_right (by simp [h.len])]
  simp [h.len]
theorem McAt.c18 (h : McAt w p m) : w.cell? ⟨p, 18, none⟩ = some (.int .i64 m.pc) := h.ctail 0
theorem McAt.c19 (h : McAt w p m) : w.cell? ⟨p, 19, none⟩ = some m.vi := h.ctail 1
theorem McAt.c20 (h : McAt w p m) : w.cell? ⟨p, 20, none⟩ = some m.vo := h.ctail 2
theorem McAt.c21 (h : McAt w p m) : w.cell? ⟨p, 21, none⟩ = some (.int .i64 m.kind) := h.ctail 3
theorem McAt.c22 (h : McAt w p m) : w.cell? ⟨p, 22, none⟩ = some (.int .i64 m.panics) := h.ctail 4
theorem McAt.c23 (h : McAt w p m) : w.cell? ⟨p, 23, none⟩ = some (.int .i64 m.steps) := h.ctail 5
theorem McAt.c24 (h : McAt w p m) : w.cell? ⟨p, 24, none⟩ = some m.vf := h.ctail 6
theorem McAt.setReg (h : McAt w p m) {a : Nat} (ha : a < 16) (v : Int) : McAt (w.setCell ⟨p, 2 + a, none⟩ (.int .i64 v)) p { m with reg := m.reg.set a v } := by
  refine ⟨?_, by simp [h.len]⟩
  have e : m.cells.set (2 + a) (.int .i64 v) = Mc.cells { m with reg := m.reg.set a v } := by
    rw [show 2 + a = a + 1 + 1 by omega]
    simp only [Mc.cells, List.set_cons_succ]
    rw [List.set_append_left _ _ (by simpa [h.len] using ha), List.map_set]
    rfl
  rw [← e]
  exact h.blk.set _ _
theorem McAt.setTail (h : McAt w p m) (k : Nat) (v : Value) : Blk (w.setCell ⟨p, 18 + k, none⟩ v) p (m.vc :: m.vm :: (m.reg.map (Value.int .i64) ++ m.tail.set k v)) 63 := by
  have e : m.cells.set (18 + k) v = m.vc :: m.vm :: (m.reg.map (Value.int .i64) ++ m.tail.set k v) := by
    rw [show 18 + k = 16 + k + 1 + 1 by omega]
    simp only [Mc.cells, List.set_cons_succ]
    rw [List.set_append_right _ _ (by simp [h.len])]
    simp [h.len]
  rw [← e]
  exact h.blk.set _ _
theorem McAt.setPc (h : McAt w p m) (v : Int) : McAt (w.setCell ⟨p, 18, none⟩ (.int .i64 v)) p { m with pc := v } := ⟨h.setTail 0 _, h.len⟩
theorem McAt.setVi (h : McAt w p m) (v : Value) : McAt (w.setCell ⟨p, 19, none⟩ v) p { m with vi := v } := ⟨h.setTail 1 _, h.len⟩
theorem McAt.setVo (h : McAt w p m) (v : Value) : McAt (w.setCell ⟨p, 20, none⟩ v) p { m with vo := v } := ⟨h.setTail 2 _, h.len⟩
theorem McAt.setKind (h : McAt w p m) (v : Int) : McAt (w.setCell ⟨p, 21, none⟩ (.int .i64 v)) p { m with kind := v } := ⟨h.setTail 3 _, h.len⟩
theorem McAt.setPanics (h : McAt w p m) (v : Int) : McAt (w.setCell ⟨p, 22, none⟩ (.int .i64 v)) p { m with panics := v } := ⟨h.setTail 4 _, h.len⟩
theorem McAt.setSteps (h : McAt w p m) (v : Int) : McAt (w.setCell ⟨p, 23, none⟩ (.int .i64 v)) p { m with steps := v } := ⟨h.setTail 5 _, h.len⟩
end
def FAULT : Ending := .panicked [{ v := .iface 67 (.agg #[]), recovered := false }]
/-- an operation is done: the struct alone has changed -/
def OpP (w : World) (p : Nat) (m' : Mc) (e : Ending) (w' : World) : Prop := e = .returned (.tuple #[]) ∧ McAt w' p m' ∧ Kp (fun x => x = p) w w'
theorem set_kp {w w' : World} {p : Nat} (h : Nw w w') (i : Nat) (v : Value) : Kp (fun x => x = p) w (w'.setCell ⟨p, i, none⟩ v) :=
  Kp.setCell (S := fun x => x = p) (h.mono (fun _ _ x => x.elim)) (p := ⟨p, i, none⟩) (fun _ => rfl) v
theorem kp_set {w w' : World} {p : Nat} (h : Kp (fun x => x = p) w w') (i : Nat) (v : Value) : Kp (fun x => x = p) w (w'.setCell ⟨p, i, none⟩ v) :=
  Kp.setCell (S := fun x => x = p) h (p := ⟨p, i, none⟩) (fun _ => rfl) v
set_option maxRecDepth 100000 in
theorem ends_any (w : World) (p : Nat) (m : Mc) (h : McAt w p m) (k c : Int) :
    Calls Try.prog 51 #[.pointer (some ⟨p, 0, none⟩), .int .i64 k, .int .i64 c] w (OpP w p { m with kind := k, panics := c }) := by
  have f1 := h.c21
  have f2 := h.c22
  have z1 := h.frozen 21
  have z2 := h.frozen 22
  have FIN := Lib.hid (show OpP w p { m with kind := k, panics := c } (.returned (.tuple #[])) ((w.setCell ⟨p, 21, none⟩ (.int .i64 k)).setCell ⟨p, 22, none⟩ (.int .i64 c)) from
    ⟨rfl, (h.setKind k).setPanics c, kp_set (set_kp (Nw.refl w) 21 _) 22 _⟩)
  clear h
  go_enter Try.func51, Try.ntmps51
  go_wp2_with fail
  go_returns
  exact FIN.out
set_option maxRecDepth 100000 in
theorem word_ok (w : World) (p : Nat) (m : Mc) (h : McAt w p m) (bm n c k : Nat) (hv : m.vm = .slice (some ⟨bm, 0, none⟩) n c) (hn : n ≤ 262144) (hk : k < n) :
    Calls Try.prog 60 #[.pointer (some ⟨p, 0, none⟩), .int .i64 (k : Int)] w fun e w' => e = .returned (.pointer (some ⟨bm, k, none⟩)) ∧ w = w' := by
  have f1 := h.c1
  rw [hv] at f1
  clear h hv
  have hq0 : (0 : Int) ≤ (k : Int) := by omega
  have hq1 : (k : Int) < (n : Int) := by omega
  have hw : IntKind.i64.wrap ((n : Nat) : Int) = n := IntWalk.i64_in _ (by omega)
  go_enter Try.func60, Try.ntmps60
  go_wp2_with fail
  go_returns
  exact ⟨by first | rfl | simp, rfl⟩
set_option maxRecDepth 100000 in
theorem word_bad (w : World) (p : Nat) (m : Mc) (h : McAt w p m) (x : Option Addr) (n c : Nat) (k : Int) (hv : m.vm = .slice x n c) (hn : n ≤ 262144) (hk : k < 0 ∨ (n : Int) ≤ k) :
    Calls Try.prog 60 #[.pointer (some ⟨p, 0, none⟩), .int .i64 k] w fun e w' => e = FAULT ∧ w = w' := by
  have f1 := h.c1
  rw [hv] at f1
  clear h hv
  have hw : IntKind.i64.wrap ((n : Nat) : Int) = n := IntWalk.i64_in _ (by omega)
  by_cases h0 : k < 0
  · go_enter Try.func60, Try.ntmps60
    go_wp2_with fail
    exact ⟨rfl, rfl, rfl⟩
  · have h1 : (n : Int) ≤ k := by omega
    go_enter Try.func60, Try.ntmps60
    go_wp2_with fail
    exact ⟨rfl, rfl, rfl⟩
set_option maxRecDepth 100000 in
set_option maxHeartbeats 1000000 in
theorem move_any (w : World) (p : Nat) (m : Mc) (h : McAt w p m) (a : Nat) (b : Nat) (ha : a < 16) (hb : b < 16) (op c n : Int) :
    Calls Try.prog 35 #[.pointer (some ⟨p, 0, none⟩), .agg #[.int .i64 op, .int .i64 (a : Int), .int .i64 (b : Int), .int .i64 c, .int .i64 n]] w (OpP w p { m with reg := m.reg.set a (m.get b) }) := by
  have N0 := Lib.hid (Nw.new w (.cells #[.int .i64 op, .int .i64 (a : Int), .int .i64 (b : Int), .int .i64 c, .int .i64 n] 26))
  have M0 := Lib.hid (h.alloc (.cells #[.int .i64 op, .int .i64 (a : Int), .int .i64 (b : Int), .int .i64 c, .int .i64 n] 26))
  have B0 := Lib.hid (Blk.new w [.int .i64 op, .int .i64 (a : Int), .int .i64 (b : Int), .int .i64 c, .int .i64 n] 26)
  have hlt := h.lt
  clear h
  have ha0 : (0 : Int) ≤ (a : Int) := by omega
  have ha1 : (a : Int) < 16 := by omega
  have hb0 : (0 : Int) ≤ (b : Int) := by omega
  have hb1 : (b : Int) < 16 := by omega
  go_enter Try.func35, Try.ntmps35
  go_upto_region 1 with fail
  generalize w.alloc (.cells #[.int .i64 op, .int .i64 (a : Int), .int .i64 (b : Int), .int .i64 c, .int .i64 n] 26) = w0 at *
  generalize w.heap.size = bi at *
  have i0 := B0.out.cell 0
  have i1 := B0.out.cell 1
  have i2 := B0.out.cell 2
  have i3 := B0.out.cell 3
  have i4 := B0.out.cell 4
  simp only [List.getElem?_cons_zero, List.getElem?_cons_succ] at i0 i1 i2 i3 i4
  have hpb : ¬ p = bi := fun e => by omega
  have ra := M0.out.creg ha
  have za := M0.out.frozen (2 + a)
  have rb := M0.out.creg hb
  go_region
  go_wp2_with fail
  go_returns
  exact ⟨rfl, (M0.out.setReg ha _).drew, (set_kp N0.out _ _).drew⟩
set_option maxRecDepth 100000 in
set_option maxHeartbeats 1000000 in
theorem konst_any (w : World) (p : Nat) (m : Mc) (h : McAt w p m) (a : Nat) (b : Int) (ha : a < 16) (op c n : Int) :
    Calls Try.prog 36 #[.pointer (some ⟨p, 0, none⟩), .agg #[.int .i64 op, .int .i64 (a : Int), .int .i64 (b : Int), .int .i64 c, .int .i64 n]] w (OpP w p { m with reg := m.reg.set a n }) := by
  have N0 := Lib.hid (Nw.new w (.cells #[.int .i64 op, .int .i64 (a : Int), .int .i64 (b : Int), .int .i64 c, .int .i64 n] 26))
  have M0 := Lib.hid (h.alloc (.cells #[.int .i64 op, .int .i64 (a : Int), .int .i64 (b : Int), .int .i64 c, .int .i64 n] 26))
  have B0 := Lib.hid (Blk.new w [.int .i64 op, .int .i64 (a : Int), .int .i64 (b : Int), .int .i64 c, .int .i64 n] 26)
  have hlt := h.lt
  clear h
  have ha0 : (0 : Int) ≤ (a : Int) := by omega
  have ha1 : (a : Int) < 16 := by omega
  go_enter Try.func36, Try.ntmps36
  go_upto_region 1 with fail
  generalize w.alloc (.cells #[.int .i64 op, .int .i64 (a : Int), .int .i64 (b : Int), .int .i64 c, .int .i64 n] 26) = w0 at *
  generalize w.heap.size = bi at *
  have i0 := B0.out.cell 0
  have i1 := B0.out.cell 1
  have i2 := B0.out.cell 2
  have i3 := B0.out.cell 3
  have i4 := B0.out.cell 4
  simp only [List.getElem?_cons_zero, List.getElem?_cons_succ] at i0 i1 i2 i3 i4
  have hpb : ¬ p = bi := fun e => by omega
  have ra := M0.out.creg ha
  have za := M0.out.frozen (2 + a)
  go_region
  go_wp2_with fail
  go_returns
  exact ⟨rfl, (M0.out.setReg ha _).drew, (set_kp N0.out _ _).drew⟩
/-- OpHigh's word -/
def highV (r n : Int) : Int := wrap64 (r * 4294967296 + n % 4294967296)
theorem high_eq (r n : Int) : wrap64 (wrap64 (r * 4294967296) + n % 4294967296) = highV r n := by unfold highV wrap64; omega
set_option maxRecDepth 100000 in
set_option maxHeartbeats 1000000 in
theorem high_any (w : World) (p : Nat) (m : Mc) (h : McAt w p m) (a : Nat) (b : Int) (ha : a < 16) (op c n : Int) :
    Calls Try.prog 37 #[.pointer (some ⟨p, 0, none⟩), .agg #[.int .i64 op, .int .i64 (a : Int), .int .i64 (b : Int), .int .i64 c, .int .i64 n]] w (OpP w p { m with reg := m.reg.set a (highV (m.get a) n) }) := by
  have N0 := Lib.hid (Nw.new w (.cells #[.int .i64 op, .int .i64 (a : Int), .int .i64 (b : Int), .int .i64 c, .int .i64 n] 26))
  have M0 := Lib.hid (h.alloc (.cells #[.int .i64 op, .int .i64 (a : Int), .int .i64 (b : Int), .int .i64 c, .int .i64 n] 26))
  have B0 := Lib.hid (Blk.new w [.int .i64 op, .int .i64 (a : Int), .int .i64 (b : Int), .int .i64 c, .int .i64 n] 26)
  have hlt := h.lt
  clear h
  have ha0 : (0 : Int) ≤ (a : Int) := by omega
  have ha1 : (a : Int) < 16 := by omega
  go_enter Try.func37, Try.ntmps37
  go_upto_region 1 with fail
  generalize w.alloc (.cells #[.int .i64 op, .int .i64 (a : Int), .int .i64 (b : Int), .int .i64 c, .int .i64 n] 26) = w0 at *
  generalize w.heap.size = bi at *
  have i0 := B0.out.cell 0
  have i1 := B0.out.cell 1
  have i2 := B0.out.cell 2
  have i3 := B0.out.cell 3
  have i4 := B0.out.cell 4
  simp only [List.getElem?_cons_zero, List.getElem?_cons_succ] at i0 i1 i2 i3 i4
  have hpb : ¬ p = bi := fun e => by omega
  have ra := M0.out.creg ha
  have za := M0.out.frozen (2 + a)
  generalize m.get a = va at *
  go_region
  go_wp2_with fail
  go_returns
  exact ⟨rfl, by rw [← high_eq]; exact (M0.out.setReg ha _).drew, (set_kp N0.out _ _).drew⟩
set_option maxRecDepth 100000 in
set_option maxHeartbeats 1000000 in
theorem jump_any (w : World) (p : Nat) (m : Mc) (h : McAt w p m) (a : Int) (b : Int)  (op c n : Int) :
    Calls Try.prog 40 #[.pointer (some ⟨p, 0, none⟩), .agg #[.int .i64 op, .int .i64 (a : Int), .int .i64 (b : Int), .int .i64 c, .int .i64 n]] w (OpP w p { m with pc := wrap64 (m.pc + n) }) := by
  have N0 := Lib.hid (Nw.new w (.cells #[.int .i64 op, .int .i64 (a : Int), .int .i64 (b : Int), .int .i64 c, .int .i64 n] 26))
  have M0 := Lib.hid (h.alloc (.cells #[.int .i64 op, .int .i64 (a : Int), .int .i64 (b : Int), .int .i64 c, .int .i64 n] 26))
  have B0 := Lib.hid (Blk.new w [.int .i64 op, .int .i64 (a : Int), .int .i64 (b : Int), .int .i64 c, .int .i64 n] 26)
  have hlt := h.lt
  clear h
  go_enter Try.func40, Try.ntmps40
  go_upto_region 1 with fail
  generalize w.alloc (.cells #[.int .i64 op, .int .i64 (a : Int), .int .i64 (b : Int), .int .i64 c, .int .i64 n] 26) = w0 at *
  generalize w.heap.size = bi at *
  have i0 := B0.out.cell 0
  have i1 := B0.out.cell 1
  have i2 := B0.out.cell 2
  have i3 := B0.out.cell 3
  have i4 := B0.out.cell 4
  simp only [List.getElem?_cons_zero, List.getElem?_cons_succ] at i0 i1 i2 i3 i4
  have hpb : ¬ p = bi := fun e => by omega
  have rp := M0.out.c18
  have zp := M0.out.frozen 18
  go_region
  go_wp2_with fail
  go_returns
  exact ⟨rfl, (M0.out.setPc _).drew, (set_kp N0.out _ _).drew⟩
set_option maxRecDepth 100000 in
set_option maxHeartbeats 1000000 in
theorem room_any (w : World) (p : Nat) (m : Mc) (h : McAt w p m) (a : Nat) (b : Int) (ha : a < 16) (op c n : Int) {x : Option Addr} {l cl : Nat} (hvm : m.vm = .slice x l cl) (hl : l ≤ 262144) :
    Calls Try.prog 48 #[.pointer (some ⟨p, 0, none⟩), .agg #[.int .i64 op, .int .i64 (a : Int), .int .i64 (b : Int), .int .i64 c, .int .i64 n]] w (OpP w p { m with reg := m.reg.set a (l : Int) }) := by
  have N0 := Lib.hid (Nw.new w (.cells #[.int .i64 op, .int .i64 (a : Int), .int .i64 (b : Int), .int .i64 c, .int .i64 n] 26))
  have M0 := Lib.hid (h.alloc (.cells #[.int .i64 op, .int .i64 (a : Int), .int .i64 (b : Int), .int .i64 c, .int .i64 n] 26))
  have B0 := Lib.hid (Blk.new w [.int .i64 op, .int .i64 (a : Int), .int .i64 (b : Int), .int .i64 c, .int .i64 n] 26)
  have hlt := h.lt
  clear h
  have ha0 : (0 : Int) ≤ (a : Int) := by omega
  have ha1 : (a : Int) < 16 := by omega
  go_enter Try.func48, Try.ntmps48
  go_upto_region 1 with fail
  generalize w.alloc (.cells #[.int .i64 op, .int .i64 (a : Int), .int .i64 (b : Int), .int .i64 c, .int .i64 n] 26) = w0 at *
  generalize w.heap.size = bi at *
  have i0 := B0.out.cell 0
  have i1 := B0.out.cell 1
  have i2 := B0.out.cell 2
  have i3 := B0.out.cell 3
  have i4 := B0.out.cell 4
  simp only [List.getElem?_cons_zero, List.getElem?_cons_succ] at i0 i1 i2 i3 i4
  have hpb : ¬ p = bi := fun e => by omega
  have ra := M0.out.creg ha
  have za := M0.out.frozen (2 + a)
  have rm := M0.out.c1
  rw [hvm] at rm
  have hwl : IntKind.i64.wrap ((l : Nat) : Int) = l := IntWalk.i64_in _ (by omega)
  go_region
  go_wp2_with fail
  go_returns
  exact ⟨rfl, (M0.out.setReg ha _).drew, (set_kp N0.out _ _).drew⟩
set_option maxRecDepth 100000 in
set_option maxHeartbeats 1000000 in
theorem halt_any (w : World) (p : Nat) (m : Mc) (h : McAt w p m) (a : Int) (b : Int)  (op c n : Int) :
    Calls Try.prog 33 #[.pointer (some ⟨p, 0, none⟩), .agg #[.int .i64 op, .int .i64 (a : Int), .int .i64 (b : Int), .int .i64 c, .int .i64 n]] w (OpP w p { m with kind := 1, panics := 0 }) := by
  have N0 := Lib.hid (Nw.new w (.cells #[.int .i64 op, .int .i64 (a : Int), .int .i64 (b : Int), .int .i64 c, .int .i64 n] 26))
  have M0 := Lib.hid (h.alloc (.cells #[.int .i64 op, .int .i64 (a : Int), .int .i64 (b : Int), .int .i64 c, .int .i64 n] 26))
  have B0 := Lib.hid (Blk.new w [.int .i64 op, .int .i64 (a : Int), .int .i64 (b : Int), .int .i64 c, .int .i64 n] 26)
  have hlt := h.lt
  clear h
  go_enter Try.func33, Try.ntmps33
  go_upto_region 1 with fail
  generalize w.alloc (.cells #[.int .i64 op, .int .i64 (a : Int), .int .i64 (b : Int), .int .i64 c, .int .i64 n] 26) = w0 at *
  generalize w.heap.size = bi at *
  have i0 := B0.out.cell 0
  have i1 := B0.out.cell 1
  have i2 := B0.out.cell 2
  have i3 := B0.out.cell 3
  have i4 := B0.out.cell 4
  simp only [List.getElem?_cons_zero, List.getElem?_cons_succ] at i0 i1 i2 i3 i4
  have hpb : ¬ p = bi := fun e => by omega
  have EN := Lib.hid (ends_any w0 p m M0.out (1) (0))
  go_wp2_with fail
  refine EN.out.mono ?_
  rintro e1 w1 ⟨rfl, m1, k1⟩
  have M1 := Lib.hid m1
  have K1 := Lib.hid (Kp.trans (N0.out.mono (fun _ _ x => x.elim)) k1 (fun _ _ x => x))
  clear m1 k1 EN i0 i1 i2 i3 i4
  go_wp2_with fail
  go_returns
  exact ⟨rfl, M1.out, K1.out⟩
/-- OpTrap's end -/
def trapV (n : Int) : Int × Int := if 1 ≤ n ∧ n ≤ 999 then (2, n) else if n = 1000 then (3, 0) else if n = 1001 then (4, 0) else (5, 0)
set_option maxRecDepth 100000 in
set_option maxHeartbeats 1000000 in
theorem trap_any (w : World) (p : Nat) (m : Mc) (h : McAt w p m) (a b op c n : Int) :
    Calls Try.prog 34 #[.pointer (some ⟨p, 0, none⟩), .agg #[.int .i64 op, .int .i64 a, .int .i64 b, .int .i64 c, .int .i64 n]] w (OpP w p { m with kind := (trapV n).1, panics := (trapV n).2 }) := by
  have N0 := Lib.hid (Nw.new w (.cells #[.int .i64 op, .int .i64 a, .int .i64 b, .int .i64 c, .int .i64 n] 26))
  have M0 := Lib.hid (h.alloc (.cells #[.int .i64 op, .int .i64 a, .int .i64 b, .int .i64 c, .int .i64 n] 26))
  have B0 := Lib.hid (Blk.new w [.int .i64 op, .int .i64 a, .int .i64 b, .int .i64 c, .int .i64 n] 26)
  clear h
  by_cases h1 : 1 ≤ n
  · by_cases h2 : n ≤ 999
    · skip
      have TV := Lib.hid (show trapV n = (2, n) by unfold trapV; rw [if_pos ⟨h1, h2⟩])
      rw [TV.out]
      go_enter Try.func34, Try.ntmps34
      go_upto_region 2 with fail
      generalize w.alloc (.cells #[.int .i64 op, .int .i64 a, .int .i64 b, .int .i64 c, .int .i64 n] 26) = w0 at *
      generalize w.heap.size = bi at *
      have i4 := B0.out.cell 4
      simp only [List.getElem?_cons_zero, List.getElem?_cons_succ] at i4
      have EN := Lib.hid (ends_any w0 p m M0.out (2) (n))
      go_wp2_with fail
      refine EN.out.mono ?_
      rintro e1 w1 ⟨rfl, m1, k1⟩
      have M1 := Lib.hid m1
      have K1 := Lib.hid (Kp.trans (N0.out.mono (fun _ _ x => x.elim)) k1 (fun _ _ x => x))
      clear m1 k1 EN i4
      go_wp2_with fail
      go_returns
      exact ⟨rfl, M1.out, K1.out⟩
    · by_cases h3 : n = 1000
      · subst h3
        have TV := Lib.hid (show trapV 1000 = (3, 0) by unfold trapV; rfl)
        rw [TV.out]
        go_enter Try.func34, Try.ntmps34
        go_upto_region 2 with fail
        generalize w.alloc (.cells #[.int .i64 op, .int .i64 a, .int .i64 b, .int .i64 c, .int .i64 1000] 26) = w0 at *
        generalize w.heap.size = bi at *
        have i4 := B0.out.cell 4
        simp only [List.getElem?_cons_zero, List.getElem?_cons_succ] at i4
        have EN := Lib.hid (ends_any w0 p m M0.out (3) (0))
        go_wp2_with fail
        refine EN.out.mono ?_
        rintro e1 w1 ⟨rfl, m1, k1⟩
        have M1 := Lib.hid m1
        have K1 := Lib.hid (Kp.trans (N0.out.mono (fun _ _ x => x.elim)) k1 (fun _ _ x => x))
        clear m1 k1 EN i4
        go_wp2_with fail
        go_returns
        exact ⟨rfl, M1.out, K1.out⟩
      · obtain ⟨ne1, ne2, ne3, ne4⟩ := int_ne h3
        by_cases h4 : n = 1001
        · subst h4
          have TV := Lib.hid (show trapV 1001 = (4, 0) by unfold trapV; rfl)
          rw [TV.out]
          go_enter Try.func34, Try.ntmps34
          go_upto_region 2 with fail
          generalize w.alloc (.cells #[.int .i64 op, .int .i64 a, .int .i64 b, .int .i64 c, .int .i64 1001] 26) = w0 at *
          generalize w.heap.size = bi at *
          have i4 := B0.out.cell 4
          simp only [List.getElem?_cons_zero, List.getElem?_cons_succ] at i4
          have EN := Lib.hid (ends_any w0 p m M0.out (4) (0))
          go_wp2_with fail
          refine EN.out.mono ?_
          rintro e1 w1 ⟨rfl, m1, k1⟩
          have M1 := Lib.hid m1
          have K1 := Lib.hid (Kp.trans (N0.out.mono (fun _ _ x => x.elim)) k1 (fun _ _ x => x))
          clear m1 k1 EN i4
          go_wp2_with fail
          go_returns
          exact ⟨rfl, M1.out, K1.out⟩
        · obtain ⟨nf1, nf2, nf3, nf4⟩ := int_ne h4
          have TV := Lib.hid (show trapV n = (5, 0) by unfold trapV; rw [if_neg (by omega), if_neg h3, if_neg h4])
          rw [TV.out]
          go_enter Try.func34, Try.ntmps34
          go_upto_region 2 with fail
          generalize w.alloc (.cells #[.int .i64 op, .int .i64 a, .int .i64 b, .int .i64 c, .int .i64 n] 26) = w0 at *
          generalize w.heap.size = bi at *
          have i4 := B0.out.cell 4
          simp only [List.getElem?_cons_zero, List.getElem?_cons_succ] at i4
          have EN := Lib.hid (ends_any w0 p m M0.out (5) (0))
          go_wp2_with fail
          refine EN.out.mono ?_
          rintro e1 w1 ⟨rfl, m1, k1⟩
          have M1 := Lib.hid m1
          have K1 := Lib.hid (Kp.trans (N0.out.mono (fun _ _ x => x.elim)) k1 (fun _ _ x => x))
          clear m1 k1 EN i4
          go_wp2_with fail
          go_returns
          exact ⟨rfl, M1.out, K1.out⟩
  · have h3 : ¬ n = 1000 := by omega
    have h4 : ¬ n = 1001 := by omega
    obtain ⟨ne1, ne2, ne3, ne4⟩ := int_ne h3
    obtain ⟨nf1, nf2, nf3, nf4⟩ := int_ne h4
    have TV := Lib.hid (show trapV n = (5, 0) by unfold trapV; rw [if_neg (by omega), if_neg h3, if_neg h4])
    rw [TV.out]
    go_enter Try.func34, Try.ntmps34
    go_upto_region 2 with fail
    generalize w.alloc (.cells #[.int .i64 op, .int .i64 a, .int .i64 b, .int .i64 c, .int .i64 n] 26) = w0 at *
    generalize w.heap.size = bi at *
    have i4 := B0.out.cell 4
    simp only [List.getElem?_cons_zero, List.getElem?_cons_succ] at i4
    have EN := Lib.hid (ends_any w0 p m M0.out (5) (0))
    go_wp2_with fail
    refine EN.out.mono ?_
    rintro e1 w1 ⟨rfl, m1, k1⟩
    have M1 := Lib.hid m1
    have K1 := Lib.hid (Kp.trans (N0.out.mono (fun _ _ x => x.elim)) k1 (fun _ _ x => x))
    clear m1 k1 EN i4
    go_wp2_with fail
    go_returns
    exact ⟨rfl, M1.out, K1.out⟩
set_option maxRecDepth 100000 in
set_option maxHeartbeats 1000000 in
theorem zero_any (w : World) (p : Nat) (m : Mc) (h : McAt w p m) (a : Nat) (b : Int) (ha : a < 16) (op c n : Int) :
    Calls Try.prog 41 #[.pointer (some ⟨p, 0, none⟩), .agg #[.int .i64 op, .int .i64 (a : Int), .int .i64 b, .int .i64 c, .int .i64 n]] w (OpP w p (if m.get a = 0 then { m with pc := wrap64 (m.pc + n) } else m)) := by
  have N0 := Lib.hid (Nw.new w (.cells #[.int .i64 op, .int .i64 (a : Int), .int .i64 b, .int .i64 c, .int .i64 n] 26))
  have M0 := Lib.hid (h.alloc (.cells #[.int .i64 op, .int .i64 (a : Int), .int .i64 b, .int .i64 c, .int .i64 n] 26))
  have B0 := Lib.hid (Blk.new w [.int .i64 op, .int .i64 (a : Int), .int .i64 b, .int .i64 c, .int .i64 n] 26)
  have hlt := h.lt
  clear h
  have ha0 : (0 : Int) ≤ (a : Int) := by omega
  have ha1 : (a : Int) < 16 := by omega
  by_cases hz : m.get a = 0
  · rw [if_pos hz]
    go_enter Try.func41, Try.ntmps41
    go_upto_region 1 with fail
    generalize w.alloc (.cells #[.int .i64 op, .int .i64 (a : Int), .int .i64 b, .int .i64 c, .int .i64 n] 26) = w0 at *
    generalize w.heap.size = bi at *
    have i0 := B0.out.cell 0
    have i1 := B0.out.cell 1
    have i4 := B0.out.cell 4
    simp only [List.getElem?_cons_zero, List.getElem?_cons_succ] at i0 i1 i4
    have hpb : ¬ p = bi := fun e => by omega
    have ra := M0.out.creg ha
    have rp := M0.out.c18
    have zp := M0.out.frozen 18
    rw [hz] at ra
    go_region
    go_wp2_with fail
    go_region
    go_wp2_with fail
    go_returns
    exact ⟨rfl, (M0.out.drew.setPc _).drew, (set_kp N0.out.drew _ _).drew⟩
  · rw [if_neg hz]
    go_enter Try.func41, Try.ntmps41
    go_upto_region 1 with fail
    generalize w.alloc (.cells #[.int .i64 op, .int .i64 (a : Int), .int .i64 b, .int .i64 c, .int .i64 n] 26) = w0 at *
    generalize w.heap.size = bi at *
    have i0 := B0.out.cell 0
    have i1 := B0.out.cell 1
    have i4 := B0.out.cell 4
    simp only [List.getElem?_cons_zero, List.getElem?_cons_succ] at i0 i1 i4
    have hpb : ¬ p = bi := fun e => by omega
    have ra := M0.out.creg ha
    have rp := M0.out.c18
    have zp := M0.out.frozen 18
    obtain ⟨ne1, ne2, ne3, ne4⟩ := int_ne hz
    go_region
    go_wp2_with fail
    go_returns
    exact ⟨rfl, M0.out.drew, (N0.out.mono (fun _ _ x => x.elim)).drew⟩
set_option maxRecDepth 100000 in
set_option maxHeartbeats 1000000 in
theorem some_any (w : World) (p : Nat) (m : Mc) (h : McAt w p m) (a : Nat) (b : Int) (ha : a < 16) (op c n : Int) :
    Calls Try.prog 42 #[.pointer (some ⟨p, 0, none⟩), .agg #[.int .i64 op, .int .i64 (a : Int), .int .i64 b, .int .i64 c, .int .i64 n]] w (OpP w p (if m.get a = 0 then m else { m with pc := wrap64 (m.pc + n) })) := by
  have N0 := Lib.hid (Nw.new w (.cells #[.int .i64 op, .int .i64 (a : Int), .int .i64 b, .int .i64 c, .int .i64 n] 26))
  have M0 := Lib.hid (h.alloc (.cells #[.int .i64 op, .int .i64 (a : Int), .int .i64 b, .int .i64 c, .int .i64 n] 26))
  have B0 := Lib.hid (Blk.new w [.int .i64 op, .int .i64 (a : Int), .int .i64 b, .int .i64 c, .int .i64 n] 26)
  have hlt := h.lt
  clear h
  have ha0 : (0 : Int) ≤ (a : Int) := by omega
  have ha1 : (a : Int) < 16 := by omega
  by_cases hz : m.get a = 0
  · rw [if_pos hz]
    go_enter Try.func42, Try.ntmps42
    go_upto_region 1 with fail
    generalize w.alloc (.cells #[.int .i64 op, .int .i64 (a : Int), .int .i64 b, .int .i64 c, .int .i64 n] 26) = w0 at *
    generalize w.heap.size = bi at *
    have i0 := B0.out.cell 0
    have i1 := B0.out.cell 1
    have i4 := B0.out.cell 4
    simp only [List.getElem?_cons_zero, List.getElem?_cons_succ] at i0 i1 i4
    have hpb : ¬ p = bi := fun e => by omega
    have ra := M0.out.creg ha
    have rp := M0.out.c18
    have zp := M0.out.frozen 18
    rw [hz] at ra
    go_region
    go_wp2_with fail
    go_returns
    exact ⟨rfl, M0.out.drew, (N0.out.mono (fun _ _ x => x.elim)).drew⟩
  · rw [if_neg hz]
    go_enter Try.func42, Try.ntmps42
    go_upto_region 1 with fail
    generalize w.alloc (.cells #[.int .i64 op, .int .i64 (a : Int), .int .i64 b, .int .i64 c, .int .i64 n] 26) = w0 at *
    generalize w.heap.size = bi at *
    have i0 := B0.out.cell 0
    have i1 := B0.out.cell 1
    have i4 := B0.out.cell 4
    simp only [List.getElem?_cons_zero, List.getElem?_cons_succ] at i0 i1 i4
    have hpb : ¬ p = bi := fun e => by omega
    have ra := M0.out.creg ha
    have rp := M0.out.c18
    have zp := M0.out.frozen 18
    obtain ⟨ne1, ne2, ne3, ne4⟩ := int_ne hz
    go_region
    go_wp2_with fail
    go_region
    go_wp2_with fail
    go_returns
    exact ⟨rfl, (M0.out.drew.setPc _).drew, (set_kp N0.out.drew _ _).drew⟩
end Go.Proofs.Ythlcoocboidnlaa
