/- The machine's operations of memory: load, store, enter, call, at, ret. -/
import Derived.Test.YthlcoocboidnlaaMach1
import Derived.Deep.RegionHeld3
import Derived.Deep.QuietTactic
import Derived.BigQuiet
import Derived.StillTailTactics
import Derived.Deep.RegionWith
import Derived.Deep.RegionLaw
namespace Go.Proofs.Ythlcoocboidnlaa
open Go.RowKit
set_option linter.unusedSimpArgs false
set_option linter.unusedVariables false

/-- block b is a row of these words -/
def MemAt (w : World) (b : Nat) (l : List Int) : Prop := ∃ t, Blk w b (l.map (Value.int .i64)) t
theorem MemAt.lt {w : World} {b : Nat} {l : List Int} (h : MemAt w b l) : b < w.heap.size := by obtain ⟨t, h⟩ := h; exact h.lt
theorem MemAt.kp {S : Nat → Prop} {w w' : World} {b : Nat} {l : List Int} (h : MemAt w b l) (k : Kp S w w') (hs : ¬ S b) : MemAt w' b l := by obtain ⟨t, h⟩ := h; exact ⟨t, h.kp k hs⟩
theorem MemAt.nw {w w' : World} {b : Nat} {l : List Int} (h : MemAt w b l) (k : Nw w w') : MemAt w' b l := h.kp k (fun x => x)
theorem MemAt.cell {w : World} {b : Nat} {l : List Int} (h : MemAt w b l) {k : Nat} (hk : k < l.length) : w.cell? ⟨b, k, none⟩ = some (.int .i64 (l.getD k 0)) := by
  obtain ⟨t, h⟩ := h
  rw [h.cell, List.getElem?_map, List.getElem?_eq_getElem hk]
  simp [List.getD_eq_getElem?_getD, List.getElem?_eq_getElem hk]
theorem MemAt.frozen {w : World} {b : Nat} {l : List Int} (h : MemAt w b l) (k : Nat) : w.frozen? ⟨b, k, none⟩ = false := by obtain ⟨t, h⟩ := h; exact h.frozen k
theorem MemAt.set {w : World} {b : Nat} {l : List Int} (h : MemAt w b l) (k : Nat) (v : Int) : MemAt (w.setCell ⟨b, k, none⟩ (.int .i64 v)) b (l.set k v) := by
  obtain ⟨t, h⟩ := h
  refine ⟨t, ?_⟩
  rw [List.map_set]
  exact h.set k _
theorem MemAt.setOther {w : World} {b : Nat} {l : List Int} (h : MemAt w b l) {a : Addr} (hne : b ≠ a.block) (v : Value) : MemAt (w.setCell a v) b l := by
  obtain ⟨t, h⟩ := h; exact ⟨t, h.setOther hne v⟩
theorem McAt.setOther {w : World} {p : Nat} {m : Mc} (h : McAt w p m) {a : Addr} (hne : p ≠ a.block) (v : Value) : McAt (w.setCell a v) p m := ⟨h.blk.setOther hne v, h.len⟩
theorem kpp {w w' : World} {p : Nat} (h : Nw w w') : Kp (fun x => x = p) w w' := h.mono (fun _ _ x => x.elim)
def PM (p bm : Nat) : Nat → Prop := fun x => x = p ∨ x = bm
theorem PM.nw {w w' : World} (p bm : Nat) (h : Nw w w') : Kp (PM p bm) w w' := h.mono (fun _ _ x => x.elim)
theorem PM.of {w w' : World} {p : Nat} (bm : Nat) (h : Kp (fun x => x = p) w w') : Kp (PM p bm) w w' := h.mono (fun _ _ x => .inl x)
theorem PM.set {w w' : World} {p bm : Nat} (h : Kp (PM p bm) w w') (i : Nat) (v : Value) : Kp (PM p bm) w (w'.setCell ⟨p, i, none⟩ v) := h.setCell (p := ⟨p, i, none⟩) (fun _ => .inl rfl) v
theorem PM.setM {w w' : World} {p bm : Nat} (h : Kp (PM p bm) w w') (i : Nat) (v : Value) : Kp (PM p bm) w (w'.setCell ⟨bm, i, none⟩ v) := h.setCell (p := ⟨bm, i, none⟩) (fun _ => .inr rfl) v
theorem PM.trans {a b c : World} {p bm : Nat} (h : Kp (PM p bm) a b) (k : Kp (PM p bm) b c) : Kp (PM p bm) a c := Kp.trans h k (fun _ _ x => x)
/-- an operation is done: the struct and the memory alone have changed -/
def MemP (w : World) (p bm : Nat) (m' : Mc) (l' : List Int) (e : Ending) (w' : World) : Prop := e = .returned (.tuple #[]) ∧ McAt w' p m' ∧ MemAt w' bm l' ∧ Kp (PM p bm) w w'
/-- an operation has faulted: nothing has changed -/
def FltP (w : World) (e : Ending) (w' : World) : Prop := e = FAULT ∧ Nw w w'
theorem i64wrap (x : Int) : IntKind.i64.wrap x = wrap64 x := by simp [wrap64, IntKind.wrap_i64]

set_option maxRecDepth 100000 in
set_option maxHeartbeats 1000000 in
theorem load_ok (w : World) (p : Nat) (m : Mc) (h : McAt w p m) (a b : Nat) (ha : a < 16) (hb : b < 16) (op c n : Int) {bm cm : Nat} {l : List Int} (hv : m.vm = .slice (some ⟨bm, 0, none⟩) l.length cm) (hl : l.length ≤ 262144) (hm : MemAt w bm l) (hne : bm ≠ p)
    (k : Nat) (hk : k < l.length) (hq : wrap64 (m.get b + n) = (k : Int)) :
    Calls Try.prog 38 #[.pointer (some ⟨p, 0, none⟩), .agg #[.int .i64 op, .int .i64 (a : Int), .int .i64 (b : Int), .int .i64 c, .int .i64 n]] w (OpP w p { m with reg := m.reg.set a (l.getD k 0) }) := by
  have N0 := Lib.hid (Nw.new w (.cells #[.int .i64 op, .int .i64 (a : Int), .int .i64 (b : Int), .int .i64 c, .int .i64 n] 26))
  have M0 := Lib.hid (h.alloc (.cells #[.int .i64 op, .int .i64 (a : Int), .int .i64 (b : Int), .int .i64 c, .int .i64 n] 26))
  have B0 := Lib.hid (Blk.new w [.int .i64 op, .int .i64 (a : Int), .int .i64 (b : Int), .int .i64 c, .int .i64 n] 26)
  have hlt := h.lt
  clear h
  have ha0 : (0 : Int) ≤ (a : Int) := by omega
  have ha1 : (a : Int) < 16 := by omega
  have hb0 : (0 : Int) ≤ (b : Int) := by omega
  have hb1 : (b : Int) < 16 := by omega
  have E0 := Lib.hid (hm.nw N0.out)
  have hbl := hm.lt
  clear hm
  go_enter Try.func38, Try.ntmps38
  go_upto_region 1 with fail
  generalize w.alloc (.cells #[.int .i64 op, .int .i64 (a : Int), .int .i64 (b : Int), .int .i64 c, .int .i64 n] 26) = w0 at *
  generalize w.heap.size = bi at *
  have i0 := B0.out.cell 0
  have i1 := B0.out.cell 1
  have i2 := B0.out.cell 2
  have i3 := B0.out.cell 3
  have i4 := B0.out.cell 4
  simp only [List.getElem?_cons_zero, List.getElem?_cons_succ] at i0 i1 i2 i3 i4
  have hpb : ¬ p = bi := fun e => by omega
  have hmb : ¬ bm = bi := fun e => by omega
  have ra := M0.out.creg ha
  have rb := M0.out.creg hb
  have rm := M0.out.c1
  rw [hv] at rm
  have cm0 := E0.out.cell hk
  have za := M0.out.frozen (2 + a)
  have zm := E0.out.frozen k
  have WD := Lib.hid (fun (wz : World) (hz : Nw w0 wz) => word_ok wz p m (M0.out.nw hz) bm l.length cm k hv hl hk)
  clear hv
  generalize m.get b = vb at *
  generalize hva : m.get a = va at *
  have HVA := Lib.hid hva
  clear hva
  have hq2 : IntKind.i64.wrap (vb + n) = (k : Int) := by rw [i64wrap]; exact hq
  clear hq
  generalize hx : l.getD k 0 = x at *
  have HX := Lib.hid hx
  clear hx
  have FC := Lib.hid (fun (wz : World) (hz : Nw w0 wz) => (⟨hz.keeps i1, hz.keeps i2, hz.keeps i4, hz.keeps rb, hz.keeps cm0⟩ : _ ∧ _ ∧ _ ∧ _ ∧ _))
  refine wp_region_still_tail 20 (by kernel_rfl) (by kernel_rfl) ?_
  simp only [List.take_succ_cons, List.take_zero, List.drop_succ_cons, List.drop_zero]
  repeat still_step
  still_call ((WD.out _ (Nw.refl _).drew).mono fun _ _ q => ⟨q.1, q.2.symm⟩)
  repeat still_step
  refine wpStill_nil ?_
  change wpList _ _ _ _ _ w0.drew
  go_wp2_with fail
  go_returns
  exact ⟨rfl, (M0.out.drew.setReg ha _), (set_kp N0.out.drew _ _)⟩
set_option maxRecDepth 100000 in
set_option maxHeartbeats 1000000 in
theorem load_bad (w : World) (p : Nat) (m : Mc) (h : McAt w p m) (a b : Nat) (ha : a < 16) (hb : b < 16) (op c n : Int) {bm cm : Nat} {l : List Int} (hv : m.vm = .slice (some ⟨bm, 0, none⟩) l.length cm) (hl : l.length ≤ 262144)
    (q : Int) (hk : q < 0 ∨ (l.length : Int) ≤ q) (hq : wrap64 (m.get b + n) = q) :
    Calls Try.prog 38 #[.pointer (some ⟨p, 0, none⟩), .agg #[.int .i64 op, .int .i64 (a : Int), .int .i64 (b : Int), .int .i64 c, .int .i64 n]] w (FltP w) := by
  have N0 := Lib.hid (Nw.new w (.cells #[.int .i64 op, .int .i64 (a : Int), .int .i64 (b : Int), .int .i64 c, .int .i64 n] 26))
  have M0 := Lib.hid (h.alloc (.cells #[.int .i64 op, .int .i64 (a : Int), .int .i64 (b : Int), .int .i64 c, .int .i64 n] 26))
  have B0 := Lib.hid (Blk.new w [.int .i64 op, .int .i64 (a : Int), .int .i64 (b : Int), .int .i64 c, .int .i64 n] 26)
  have hlt := h.lt
  clear h
  have ha0 : (0 : Int) ≤ (a : Int) := by omega
  have ha1 : (a : Int) < 16 := by omega
  have hb0 : (0 : Int) ≤ (b : Int) := by omega
  have hb1 : (b : Int) < 16 := by omega
  go_enter Try.func38, Try.ntmps38
  go_upto_region 1 with fail
  generalize w.alloc (.cells #[.int .i64 op, .int .i64 (a : Int), .int .i64 (b : Int), .int .i64 c, .int .i64 n] 26) = w0 at *
  generalize w.heap.size = bi at *
  have i0 := B0.out.cell 0
  have i1 := B0.out.cell 1
  have i2 := B0.out.cell 2
  have i3 := B0.out.cell 3
  have i4 := B0.out.cell 4
  simp only [List.getElem?_cons_zero, List.getElem?_cons_succ] at i0 i1 i2 i3 i4
  have hpb : ¬ p = bi := fun e => by omega
  have ra := M0.out.creg ha
  have rb := M0.out.creg hb
  have WD := Lib.hid (fun (wz : World) (hz : Nw w0 wz) => word_bad wz p m (M0.out.nw hz) _ l.length cm q hv hl hk)
  clear hv hk
  generalize m.get b = vb at *
  generalize m.get a = va at *
  have hq2 : IntKind.i64.wrap (vb + n) = q := by rw [i64wrap]; exact hq
  clear hq
  have FC := Lib.hid (fun (wz : World) (hz : Nw w0 wz) => (⟨hz.keeps i1, hz.keeps i2, hz.keeps i4, hz.keeps rb, hz.keeps ra⟩ : _ ∧ _ ∧ _ ∧ _ ∧ _))
  refine wp_region_held_drew (S := fun wz => wz.cell? ⟨bi, 1, none⟩ = some (.int .i64 (a : Int)) ∧ wz.cell? ⟨bi, 2, none⟩ = some (.int .i64 (b : Int)) ∧ wz.cell? ⟨bi, 4, none⟩ = some (.int .i64 n) ∧ wz.cell? ⟨p, 2 + b, none⟩ = some (.int .i64 vb) ∧ wz.cell? ⟨p, 2 + a, none⟩ = some (.int .i64 va)) (by kernel_rfl) (FC.out _ (Nw.refl _).drew) (fun hHeld => ?_)
  refine wpAnyH_take (i := 0) (v := (.pointer (some ⟨p, 0, none⟩))) rfl (by kernel_rfl) (by kernel_rfl) (by kernel_rfl) (fun _ _ _ h => h) (Or.inl ⟨by rfl, ?_⟩) (by assumption) ?_
  · intro wq hSw
    (try dsimp only at hSw)
    go_simp
  try simp only [Act.put, List.setIfInBounds_toArray, List.set_cons_zero, List.set_cons_succ]
  refine wpAnyH_take (i := 1) (v := (.pointer (some ⟨bi, 1, none⟩))) rfl (by kernel_rfl) (by kernel_rfl) (by kernel_rfl) (fun _ _ _ h => h) (Or.inl ⟨by rfl, ?_⟩) (by assumption) ?_
  · intro wq hSw
    (try dsimp only at hSw)
    go_simp
  try simp only [Act.put, List.setIfInBounds_toArray, List.set_cons_zero, List.set_cons_succ]
  refine wpAnyH_take (i := 2) (v := (.int .i64 (a : Int))) rfl (by kernel_rfl) (by kernel_rfl) (by kernel_rfl) (fun _ _ _ h => h) (Or.inl ⟨by rfl, ?_⟩) (by assumption) ?_
  · intro wq hSw
    (try dsimp only at hSw)
    go_simp
  try simp only [Act.put, List.setIfInBounds_toArray, List.set_cons_zero, List.set_cons_succ]
  refine wpAnyH_take (i := 3) (v := (.pointer (some ⟨p, 0, none⟩))) rfl (by kernel_rfl) (by kernel_rfl) (by kernel_rfl) (fun _ _ _ h => h) (Or.inl ⟨by rfl, ?_⟩) (by assumption) ?_
  · intro wq hSw
    (try dsimp only at hSw)
    go_simp
  try simp only [Act.put, List.setIfInBounds_toArray, List.set_cons_zero, List.set_cons_succ]
  refine wpAnyH_take (i := 4) (v := (.pointer (some ⟨p, 0, none⟩))) rfl (by kernel_rfl) (by kernel_rfl) (by kernel_rfl) (fun _ _ _ h => h) (Or.inl ⟨by rfl, ?_⟩) (by assumption) ?_
  · intro wq hSw
    (try dsimp only at hSw)
    go_simp
  try simp only [Act.put, List.setIfInBounds_toArray, List.set_cons_zero, List.set_cons_succ]
  refine wpAnyH_take (i := 5) (v := (.pointer (some ⟨bi, 2, none⟩))) rfl (by kernel_rfl) (by kernel_rfl) (by kernel_rfl) (fun _ _ _ h => h) (Or.inl ⟨by rfl, ?_⟩) (by assumption) ?_
  · intro wq hSw
    (try dsimp only at hSw)
    go_simp
  try simp only [Act.put, List.setIfInBounds_toArray, List.set_cons_zero, List.set_cons_succ]
  refine wpAnyH_take (i := 6) (v := (.int .i64 (b : Int))) rfl (by kernel_rfl) (by kernel_rfl) (by kernel_rfl) (fun _ _ _ h => h) (Or.inl ⟨by rfl, ?_⟩) (by assumption) ?_
  · intro wq hSw
    (try dsimp only at hSw)
    go_simp
  try simp only [Act.put, List.setIfInBounds_toArray, List.set_cons_zero, List.set_cons_succ]
  refine wpAnyH_take (i := 7) (v := (.pointer (some ⟨p, 0, none⟩))) rfl (by kernel_rfl) (by kernel_rfl) (by kernel_rfl) (fun _ _ _ h => h) (Or.inl ⟨by rfl, ?_⟩) (by assumption) ?_
  · intro wq hSw
    (try dsimp only at hSw)
    go_simp
  try simp only [Act.put, List.setIfInBounds_toArray, List.set_cons_zero, List.set_cons_succ]
  refine wpAnyH_take (i := 8) (v := (.pointer (some ⟨p, 2, none⟩))) rfl (by kernel_rfl) (by kernel_rfl) (by kernel_rfl) (fun _ _ _ h => h) (Or.inl ⟨by rfl, ?_⟩) (by assumption) ?_
  · intro wq hSw
    (try dsimp only at hSw)
    go_simp
  try simp only [Act.put, List.setIfInBounds_toArray, List.set_cons_zero, List.set_cons_succ]
  refine wpAnyH_take (i := 9) (v := (.pointer (some ⟨p, 2 + b, none⟩))) rfl (by kernel_rfl) (by kernel_rfl) (by kernel_rfl) (fun _ _ _ h => h) (Or.inl ⟨by rfl, ?_⟩) (by assumption) ?_
  · intro wq hSw
    (try dsimp only at hSw)
    go_simp
  try simp only [Act.put, List.setIfInBounds_toArray, List.set_cons_zero, List.set_cons_succ]
  refine wpAnyH_take (i := 10) (v := (.int .i64 vb)) rfl (by kernel_rfl) (by kernel_rfl) (by kernel_rfl) (fun _ _ _ h => h) (Or.inl ⟨by rfl, ?_⟩) (by assumption) ?_
  · intro wq hSw
    (try dsimp only at hSw)
    go_simp
  try simp only [Act.put, List.setIfInBounds_toArray, List.set_cons_zero, List.set_cons_succ]
  refine wpAnyH_take (i := 11) (v := (.pointer (some ⟨bi, 4, none⟩))) rfl (by kernel_rfl) (by kernel_rfl) (by kernel_rfl) (fun _ _ _ h => h) (Or.inl ⟨by rfl, ?_⟩) (by assumption) ?_
  · intro wq hSw
    (try dsimp only at hSw)
    go_simp
  try simp only [Act.put, List.setIfInBounds_toArray, List.set_cons_zero, List.set_cons_succ]
  refine wpAnyH_take (i := 12) (v := (.int .i64 n)) rfl (by kernel_rfl) (by kernel_rfl) (by kernel_rfl) (fun _ _ _ h => h) (Or.inl ⟨by rfl, ?_⟩) (by assumption) ?_
  · intro wq hSw
    (try dsimp only at hSw)
    go_simp
  try simp only [Act.put, List.setIfInBounds_toArray, List.set_cons_zero, List.set_cons_succ]
  refine wpAnyH_take (i := 13) (v := (.int .i64 q)) rfl (by kernel_rfl) (by kernel_rfl) (by kernel_rfl) (fun _ _ _ h => h) (Or.inl ⟨by rfl, ?_⟩) (by assumption) ?_
  · intro wq hSw
    (try dsimp only at hSw)
    go_simp
  try simp only [Act.put, List.setIfInBounds_toArray, List.set_cons_zero, List.set_cons_succ]
  refine wpAnyH_take (i := 17) (v := (.pointer (some ⟨p, 0, none⟩))) rfl (by kernel_rfl) (by kernel_rfl) (by kernel_rfl) (fun _ _ _ h => h) (Or.inl ⟨by rfl, ?_⟩) (by assumption) ?_
  · intro wq hSw
    (try dsimp only at hSw)
    go_simp
  try simp only [Act.put, List.setIfInBounds_toArray, List.set_cons_zero, List.set_cons_succ]
  refine wpAnyH_take (i := 18) (v := (.pointer (some ⟨p, 2, none⟩))) rfl (by kernel_rfl) (by kernel_rfl) (by kernel_rfl) (fun _ _ _ h => h) (Or.inl ⟨by rfl, ?_⟩) (by assumption) ?_
  · intro wq hSw
    (try dsimp only at hSw)
    go_simp
  try simp only [Act.put, List.setIfInBounds_toArray, List.set_cons_zero, List.set_cons_succ]
  refine wpAnyH_ready (rs := [14]) (by kernel_rfl) (by simp) ?_
  refine AllReadyH.cons rfl (fun K hK => ?_) AllReadyH.nil
  rw [if_pos (by rfl)]
  go_simp
  refine (WD.out _ (Nw.refl _).drew).mono ?_
  rintro e1 w1 ⟨rfl, rfl⟩
  unfold FAULT
  exact ⟨rfl, rfl, N0.out.drew⟩

set_option maxRecDepth 100000 in
set_option maxHeartbeats 1000000 in
theorem store_ok (w : World) (p : Nat) (m : Mc) (h : McAt w p m) (a b : Nat) (ha : a < 16) (hb : b < 16) (op c n : Int) {bm cm : Nat} {l : List Int} (hv : m.vm = .slice (some ⟨bm, 0, none⟩) l.length cm) (hl : l.length ≤ 262144) (hm : MemAt w bm l) (hne : bm ≠ p)
    (k : Nat) (hk : k < l.length) (hq : wrap64 (m.get b + n) = (k : Int)) :
    Calls Try.prog 39 #[.pointer (some ⟨p, 0, none⟩), .agg #[.int .i64 op, .int .i64 (a : Int), .int .i64 (b : Int), .int .i64 c, .int .i64 n]] w (MemP w p bm m (l.set k (m.get a))) := by
  have N0 := Lib.hid (Nw.new w (.cells #[.int .i64 op, .int .i64 (a : Int), .int .i64 (b : Int), .int .i64 c, .int .i64 n] 26))
  have M0 := Lib.hid (h.alloc (.cells #[.int .i64 op, .int .i64 (a : Int), .int .i64 (b : Int), .int .i64 c, .int .i64 n] 26))
  have B0 := Lib.hid (Blk.new w [.int .i64 op, .int .i64 (a : Int), .int .i64 (b : Int), .int .i64 c, .int .i64 n] 26)
  have hlt := h.lt
  clear h
  have ha0 : (0 : Int) ≤ (a : Int) := by omega
  have ha1 : (a : Int) < 16 := by omega
  have hb0 : (0 : Int) ≤ (b : Int) := by omega
  have hb1 : (b : Int) < 16 := by omega
  have E0 := Lib.hid (hm.nw N0.out)
  have hbl := hm.lt
  clear hm
  go_enter Try.func39, Try.ntmps39
  go_upto_region 1 with fail
  generalize w.alloc (.cells #[.int .i64 op, .int .i64 (a : Int), .int .i64 (b : Int), .int .i64 c, .int .i64 n] 26) = w0 at *
  generalize w.heap.size = bi at *
  have i0 := B0.out.cell 0
  have i1 := B0.out.cell 1
  have i2 := B0.out.cell 2
  have i3 := B0.out.cell 3
  have i4 := B0.out.cell 4
  simp only [List.getElem?_cons_zero, List.getElem?_cons_succ] at i0 i1 i2 i3 i4
  have hpb : ¬ p = bi := fun e => by omega
  have hmb : ¬ bm = bi := fun e => by omega
  have ra := M0.out.creg ha
  have rb := M0.out.creg hb
  have rm := M0.out.c1
  rw [hv] at rm
  have cm0 := E0.out.cell hk
  have za := M0.out.frozen (2 + a)
  have zm := E0.out.frozen k
  have WD := Lib.hid (fun (wz : World) (hz : Nw w0 wz) => word_ok wz p m (M0.out.nw hz) bm l.length cm k hv hl hk)
  clear hv
  generalize m.get b = vb at *
  generalize hva : m.get a = va at *
  have HVA := Lib.hid hva
  clear hva
  have hq2 : IntKind.i64.wrap (vb + n) = (k : Int) := by rw [i64wrap]; exact hq
  clear hq
  generalize hx : l.getD k 0 = x at *
  have HX := Lib.hid hx
  clear hx
  have FC := Lib.hid (fun (wz : World) (hz : Nw w0 wz) => (⟨hz.keeps i1, hz.keeps i2, hz.keeps i4, hz.keeps rb, hz.keeps ra⟩ : _ ∧ _ ∧ _ ∧ _ ∧ _))
  refine wp_region_still_tail 20 (by kernel_rfl) (by kernel_rfl) ?_
  simp only [List.take_succ_cons, List.take_zero, List.drop_succ_cons, List.drop_zero]
  repeat still_step
  still_call ((WD.out _ (Nw.refl _).drew).mono fun _ _ q => ⟨q.1, q.2.symm⟩)
  repeat still_step
  refine wpStill_nil ?_
  change wpList _ _ _ _ _ w0.drew
  go_wp2_with fail
  go_returns
  exact ⟨rfl, M0.out.drew.setOther (fun e => hne e.symm) _, (by rw [← HVA.out]; exact (E0.out.nw (Nw.refl _).drew).set k _), PM.setM (PM.nw p bm N0.out.drew) _ _⟩
set_option maxRecDepth 100000 in
set_option maxHeartbeats 1000000 in
theorem store_bad (w : World) (p : Nat) (m : Mc) (h : McAt w p m) (a b : Nat) (ha : a < 16) (hb : b < 16) (op c n : Int) {bm cm : Nat} {l : List Int} (hv : m.vm = .slice (some ⟨bm, 0, none⟩) l.length cm) (hl : l.length ≤ 262144)
    (q : Int) (hk : q < 0 ∨ (l.length : Int) ≤ q) (hq : wrap64 (m.get b + n) = q) :
    Calls Try.prog 39 #[.pointer (some ⟨p, 0, none⟩), .agg #[.int .i64 op, .int .i64 (a : Int), .int .i64 (b : Int), .int .i64 c, .int .i64 n]] w (FltP w) := by
  have N0 := Lib.hid (Nw.new w (.cells #[.int .i64 op, .int .i64 (a : Int), .int .i64 (b : Int), .int .i64 c, .int .i64 n] 26))
  have M0 := Lib.hid (h.alloc (.cells #[.int .i64 op, .int .i64 (a : Int), .int .i64 (b : Int), .int .i64 c, .int .i64 n] 26))
  have B0 := Lib.hid (Blk.new w [.int .i64 op, .int .i64 (a : Int), .int .i64 (b : Int), .int .i64 c, .int .i64 n] 26)
  have hlt := h.lt
  clear h
  have ha0 : (0 : Int) ≤ (a : Int) := by omega
  have ha1 : (a : Int) < 16 := by omega
  have hb0 : (0 : Int) ≤ (b : Int) := by omega
  have hb1 : (b : Int) < 16 := by omega
  go_enter Try.func39, Try.ntmps39
  go_upto_region 1 with fail
  generalize w.alloc (.cells #[.int .i64 op, .int .i64 (a : Int), .int .i64 (b : Int), .int .i64 c, .int .i64 n] 26) = w0 at *
  generalize w.heap.size = bi at *
  have i0 := B0.out.cell 0
  have i1 := B0.out.cell 1
  have i2 := B0.out.cell 2
  have i3 := B0.out.cell 3
  have i4 := B0.out.cell 4
  simp only [List.getElem?_cons_zero, List.getElem?_cons_succ] at i0 i1 i2 i3 i4
  have hpb : ¬ p = bi := fun e => by omega
  have ra := M0.out.creg ha
  have rb := M0.out.creg hb
  have WD := Lib.hid (fun (wz : World) (hz : Nw w0 wz) => word_bad wz p m (M0.out.nw hz) _ l.length cm q hv hl hk)
  clear hv hk
  generalize m.get b = vb at *
  generalize m.get a = va at *
  have hq2 : IntKind.i64.wrap (vb + n) = q := by rw [i64wrap]; exact hq
  clear hq
  have FC := Lib.hid (fun (wz : World) (hz : Nw w0 wz) => (⟨hz.keeps i1, hz.keeps i2, hz.keeps i4, hz.keeps rb, hz.keeps ra⟩ : _ ∧ _ ∧ _ ∧ _ ∧ _))
  refine wp_region_held_drew (S := fun wz => wz.cell? ⟨bi, 1, none⟩ = some (.int .i64 (a : Int)) ∧ wz.cell? ⟨bi, 2, none⟩ = some (.int .i64 (b : Int)) ∧ wz.cell? ⟨bi, 4, none⟩ = some (.int .i64 n) ∧ wz.cell? ⟨p, 2 + b, none⟩ = some (.int .i64 vb) ∧ wz.cell? ⟨p, 2 + a, none⟩ = some (.int .i64 va)) (by kernel_rfl) (FC.out _ (Nw.refl _).drew) (fun hHeld => ?_)
  refine wpAnyH_take (i := 0) (v := (.pointer (some ⟨p, 0, none⟩))) rfl (by kernel_rfl) (by kernel_rfl) (by kernel_rfl) (fun _ _ _ h => h) (Or.inl ⟨by rfl, ?_⟩) (by assumption) ?_
  · intro wq hSw
    (try dsimp only at hSw)
    go_simp
  try simp only [Act.put, List.setIfInBounds_toArray, List.set_cons_zero, List.set_cons_succ]
  refine wpAnyH_take (i := 1) (v := (.pointer (some ⟨p, 0, none⟩))) rfl (by kernel_rfl) (by kernel_rfl) (by kernel_rfl) (fun _ _ _ h => h) (Or.inl ⟨by rfl, ?_⟩) (by assumption) ?_
  · intro wq hSw
    (try dsimp only at hSw)
    go_simp
  try simp only [Act.put, List.setIfInBounds_toArray, List.set_cons_zero, List.set_cons_succ]
  refine wpAnyH_take (i := 2) (v := (.pointer (some ⟨bi, 2, none⟩))) rfl (by kernel_rfl) (by kernel_rfl) (by kernel_rfl) (fun _ _ _ h => h) (Or.inl ⟨by rfl, ?_⟩) (by assumption) ?_
  · intro wq hSw
    (try dsimp only at hSw)
    go_simp
  try simp only [Act.put, List.setIfInBounds_toArray, List.set_cons_zero, List.set_cons_succ]
  refine wpAnyH_take (i := 3) (v := (.int .i64 (b : Int))) rfl (by kernel_rfl) (by kernel_rfl) (by kernel_rfl) (fun _ _ _ h => h) (Or.inl ⟨by rfl, ?_⟩) (by assumption) ?_
  · intro wq hSw
    (try dsimp only at hSw)
    go_simp
  try simp only [Act.put, List.setIfInBounds_toArray, List.set_cons_zero, List.set_cons_succ]
  refine wpAnyH_take (i := 4) (v := (.pointer (some ⟨p, 0, none⟩))) rfl (by kernel_rfl) (by kernel_rfl) (by kernel_rfl) (fun _ _ _ h => h) (Or.inl ⟨by rfl, ?_⟩) (by assumption) ?_
  · intro wq hSw
    (try dsimp only at hSw)
    go_simp
  try simp only [Act.put, List.setIfInBounds_toArray, List.set_cons_zero, List.set_cons_succ]
  refine wpAnyH_take (i := 5) (v := (.pointer (some ⟨p, 2, none⟩))) rfl (by kernel_rfl) (by kernel_rfl) (by kernel_rfl) (fun _ _ _ h => h) (Or.inl ⟨by rfl, ?_⟩) (by assumption) ?_
  · intro wq hSw
    (try dsimp only at hSw)
    go_simp
  try simp only [Act.put, List.setIfInBounds_toArray, List.set_cons_zero, List.set_cons_succ]
  refine wpAnyH_take (i := 6) (v := (.pointer (some ⟨p, 2 + b, none⟩))) rfl (by kernel_rfl) (by kernel_rfl) (by kernel_rfl) (fun _ _ _ h => h) (Or.inl ⟨by rfl, ?_⟩) (by assumption) ?_
  · intro wq hSw
    (try dsimp only at hSw)
    go_simp
  try simp only [Act.put, List.setIfInBounds_toArray, List.set_cons_zero, List.set_cons_succ]
  refine wpAnyH_take (i := 7) (v := (.int .i64 vb)) rfl (by kernel_rfl) (by kernel_rfl) (by kernel_rfl) (fun _ _ _ h => h) (Or.inl ⟨by rfl, ?_⟩) (by assumption) ?_
  · intro wq hSw
    (try dsimp only at hSw)
    go_simp
  try simp only [Act.put, List.setIfInBounds_toArray, List.set_cons_zero, List.set_cons_succ]
  refine wpAnyH_take (i := 8) (v := (.pointer (some ⟨bi, 4, none⟩))) rfl (by kernel_rfl) (by kernel_rfl) (by kernel_rfl) (fun _ _ _ h => h) (Or.inl ⟨by rfl, ?_⟩) (by assumption) ?_
  · intro wq hSw
    (try dsimp only at hSw)
    go_simp
  try simp only [Act.put, List.setIfInBounds_toArray, List.set_cons_zero, List.set_cons_succ]
  refine wpAnyH_take (i := 9) (v := (.int .i64 n)) rfl (by kernel_rfl) (by kernel_rfl) (by kernel_rfl) (fun _ _ _ h => h) (Or.inl ⟨by rfl, ?_⟩) (by assumption) ?_
  · intro wq hSw
    (try dsimp only at hSw)
    go_simp
  try simp only [Act.put, List.setIfInBounds_toArray, List.set_cons_zero, List.set_cons_succ]
  refine wpAnyH_take (i := 10) (v := (.int .i64 q)) rfl (by kernel_rfl) (by kernel_rfl) (by kernel_rfl) (fun _ _ _ h => h) (Or.inl ⟨by rfl, ?_⟩) (by assumption) ?_
  · intro wq hSw
    (try dsimp only at hSw)
    go_simp
  try simp only [Act.put, List.setIfInBounds_toArray, List.set_cons_zero, List.set_cons_succ]
  refine wpAnyH_take (i := 12) (v := (.pointer (some ⟨p, 0, none⟩))) rfl (by kernel_rfl) (by kernel_rfl) (by kernel_rfl) (fun _ _ _ h => h) (Or.inl ⟨by rfl, ?_⟩) (by assumption) ?_
  · intro wq hSw
    (try dsimp only at hSw)
    go_simp
  try simp only [Act.put, List.setIfInBounds_toArray, List.set_cons_zero, List.set_cons_succ]
  refine wpAnyH_take (i := 13) (v := (.pointer (some ⟨bi, 1, none⟩))) rfl (by kernel_rfl) (by kernel_rfl) (by kernel_rfl) (fun _ _ _ h => h) (Or.inl ⟨by rfl, ?_⟩) (by assumption) ?_
  · intro wq hSw
    (try dsimp only at hSw)
    go_simp
  try simp only [Act.put, List.setIfInBounds_toArray, List.set_cons_zero, List.set_cons_succ]
  refine wpAnyH_take (i := 14) (v := (.int .i64 (a : Int))) rfl (by kernel_rfl) (by kernel_rfl) (by kernel_rfl) (fun _ _ _ h => h) (Or.inl ⟨by rfl, ?_⟩) (by assumption) ?_
  · intro wq hSw
    (try dsimp only at hSw)
    go_simp
  try simp only [Act.put, List.setIfInBounds_toArray, List.set_cons_zero, List.set_cons_succ]
  refine wpAnyH_take (i := 15) (v := (.pointer (some ⟨p, 0, none⟩))) rfl (by kernel_rfl) (by kernel_rfl) (by kernel_rfl) (fun _ _ _ h => h) (Or.inl ⟨by rfl, ?_⟩) (by assumption) ?_
  · intro wq hSw
    (try dsimp only at hSw)
    go_simp
  try simp only [Act.put, List.setIfInBounds_toArray, List.set_cons_zero, List.set_cons_succ]
  refine wpAnyH_take (i := 16) (v := (.pointer (some ⟨p, 2, none⟩))) rfl (by kernel_rfl) (by kernel_rfl) (by kernel_rfl) (fun _ _ _ h => h) (Or.inl ⟨by rfl, ?_⟩) (by assumption) ?_
  · intro wq hSw
    (try dsimp only at hSw)
    go_simp
  try simp only [Act.put, List.setIfInBounds_toArray, List.set_cons_zero, List.set_cons_succ]
  refine wpAnyH_take (i := 17) (v := (.pointer (some ⟨p, 2 + a, none⟩))) rfl (by kernel_rfl) (by kernel_rfl) (by kernel_rfl) (fun _ _ _ h => h) (Or.inl ⟨by rfl, ?_⟩) (by assumption) ?_
  · intro wq hSw
    (try dsimp only at hSw)
    go_simp
  try simp only [Act.put, List.setIfInBounds_toArray, List.set_cons_zero, List.set_cons_succ]
  refine wpAnyH_take (i := 18) (v := (.int .i64 va)) rfl (by kernel_rfl) (by kernel_rfl) (by kernel_rfl) (fun _ _ _ h => h) (Or.inl ⟨by rfl, ?_⟩) (by assumption) ?_
  · intro wq hSw
    (try dsimp only at hSw)
    go_simp
  try simp only [Act.put, List.setIfInBounds_toArray, List.set_cons_zero, List.set_cons_succ]
  refine wpAnyH_ready (rs := [11]) (by kernel_rfl) (by simp) ?_
  refine AllReadyH.cons rfl (fun K hK => ?_) AllReadyH.nil
  rw [if_pos (by rfl)]
  go_simp
  refine (WD.out _ (Nw.refl _).drew).mono ?_
  rintro e1 w1 ⟨rfl, rfl⟩
  unfold FAULT
  exact ⟨rfl, rfl, N0.out.drew⟩

end Go.Proofs.Ythlcoocboidnlaa
