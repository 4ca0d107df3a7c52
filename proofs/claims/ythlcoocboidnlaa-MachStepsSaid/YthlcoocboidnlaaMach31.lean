/- mortiseref3.New: refused; whatever comes in. -/
import Derived.Test.YthlcoocboidnlaaMach30
namespace Go.Proofs.Ythlcoocboidnlaa
open Go.RowKit
set_option linter.unusedSimpArgs false
set_option linter.unusedVariables false

def zcs : List Value := [.slice none 0 0, .slice none 0 0, .int .i64 0, .int .i64 0, .int .i64 0, .int .i64 0, .int .i64 0, .int .i64 0, .int .i64 0, .int .i64 0, .int .i64 0, .int .i64 0, .int .i64 0, .int .i64 0, .int .i64 0, .int .i64 0, .int .i64 0, .int .i64 0, .int .i64 0, .slice none 0 0, .int .i64 0, .int .i64 0, .int .i64 0, .slice none 0 0, .int .i64 0]
theorem zcs_one : zcs.toArray.all (fun v => v.oneCell') = true := one_all rfl
theorem zcs_info : (Try.prog.info? 51).map (·.size) = some zcs.toArray.size := by kernel_rfl
theorem blk_there {w : World} {q : Nat} {cs vs : List Value} {t : TypeId} (h : Blk w q cs t) (hl : cs.length = vs.length) : w.there q 0 vs.toArray.size := fun j hj => by
  have hj : j < vs.length := by simpa using hj
  rw [Nat.zero_add, h.cell, List.getElem?_eq_getElem (by omega)]
  exact ⟨rfl, h.frozen j⟩
set_option maxRecDepth 100000 in
set_option maxHeartbeats 4000000 in
theorem dnew_bad (w : World) (xc xd xi : Option Addr) (nc cc nd cd ni ci : Nat) (entry mem : Int) (err : Int) (hnc : nc ≤ 140737488355328) (hnd : nd ≤ 140737488355328) (hni : ni ≤ 9223372036854775807)
    (h : ((nc < 1 ∨ 65536 < nc ∨ 16384 < nd ∨ entry < 0 ∨ (nc : Int) ≤ entry) ∧ err = 4) ∨ ((¬ (nc < 1 ∨ 65536 < nc ∨ 16384 < nd ∨ entry < 0 ∨ (nc : Int) ≤ entry)) ∧ (mem < (nd : Int) ∨ 262144 < mem ∨ 4096 < ni) ∧ err = 1)) :
    Calls Try.prog 25 #[.agg #[.slice xc nc cc, .slice xd nd cd, .int .i64 entry], .int .i64 mem, .slice xi ni ci] w fun e w' => e = .returned (.tuple #[.agg zcs.toArray, .int .i64 err]) ∧ Nw w w' := by
  have N0 := Lib.hid ((Nw.new w (.cells #[.slice xc nc cc, .slice xd nd cd, .int .i64 entry] 29)).alloc (.cells #[.slice none 0 0, .slice none 0 0, .int .i64 0, .int .i64 0, .int .i64 0, .int .i64 0, .int .i64 0, .int .i64 0, .int .i64 0, .int .i64 0, .int .i64 0, .int .i64 0, .int .i64 0, .int .i64 0, .int .i64 0, .int .i64 0, .int .i64 0, .int .i64 0, .int .i64 0, .slice none 0 0, .int .i64 0, .int .i64 0, .int .i64 0, .slice none 0 0, .int .i64 0] 51))
  have B0 := Lib.hid ((Blk.new w [.slice xc nc cc, .slice xd nd cd, .int .i64 entry] 29).alloc (.cells #[.slice none 0 0, .slice none 0 0, .int .i64 0, .int .i64 0, .int .i64 0, .int .i64 0, .int .i64 0, .int .i64 0, .int .i64 0, .int .i64 0, .int .i64 0, .int .i64 0, .int .i64 0, .int .i64 0, .int .i64 0, .int .i64 0, .int .i64 0, .int .i64 0, .int .i64 0, .slice none 0 0, .int .i64 0, .int .i64 0, .int .i64 0, .slice none 0 0, .int .i64 0] 51))
  have BQ0 := Lib.hid (show Blk ((w.alloc (.cells #[.slice xc nc cc, .slice xd nd cd, .int .i64 entry] 29)).alloc (.cells #[.slice none 0 0, .slice none 0 0, .int .i64 0, .int .i64 0, .int .i64 0, .int .i64 0, .int .i64 0, .int .i64 0, .int .i64 0, .int .i64 0, .int .i64 0, .int .i64 0, .int .i64 0, .int .i64 0, .int .i64 0, .int .i64 0, .int .i64 0, .int .i64 0, .int .i64 0, .slice none 0 0, .int .i64 0, .int .i64 0, .int .i64 0, .slice none 0 0, .int .i64 0] 51)) (w.heap.size + 1) zcs 51 by
    have := Blk.new (w.alloc (.cells #[.slice xc nc cc, .slice xd nd cd, .int .i64 entry] 29)) [.slice none 0 0, .slice none 0 0, .int .i64 0, .int .i64 0, .int .i64 0, .int .i64 0, .int .i64 0, .int .i64 0, .int .i64 0, .int .i64 0, .int .i64 0, .int .i64 0, .int .i64 0, .int .i64 0, .int .i64 0, .int .i64 0, .int .i64 0, .int .i64 0, .int .i64 0, .slice none 0 0, .int .i64 0, .int .i64 0, .int .i64 0, .slice none 0 0, .int .i64 0] 51
    rw [size_alloc] at this; exact this)
  have hwc : IntKind.i64.wrap ((nc : Nat) : Int) = nc := IntWalk.i64_in _ (by omega)
  have hwd : IntKind.i64.wrap ((nd : Nat) : Int) = nd := IntWalk.i64_in _ (by omega)
  have hwi : IntKind.i64.wrap ((ni : Nat) : Int) = ni := IntWalk.i64_in _ (by omega)
  by_cases hc0 : nc < 1
  · skip
    obtain rfl : err = 4 := by omega
    have hx0 : (nc : Int) = 0 := by omega
    obtain rfl : nc = 0 := by omega
    clear h
    go_enter Try.func25, Try.ntmps25
    go_upto_region 1 with fail
    generalize (w.alloc (.cells #[.slice xc 0 cc, .slice xd nd cd, .int .i64 entry] 29)).alloc (.cells #[.slice none 0 0, .slice none 0 0, .int .i64 0, .int .i64 0, .int .i64 0, .int .i64 0, .int .i64 0, .int .i64 0, .int .i64 0, .int .i64 0, .int .i64 0, .int .i64 0, .int .i64 0, .int .i64 0, .int .i64 0, .int .i64 0, .int .i64 0, .int .i64 0, .int .i64 0, .slice none 0 0, .int .i64 0, .int .i64 0, .int .i64 0, .slice none 0 0, .int .i64 0] 51) = w1 at *
    obtain ⟨q, hq⟩ : ∃ q, q = w.heap.size + 1 := ⟨_, rfl⟩
    rw [← hq] at BQ0 ⊢
    have FIN2 := Lib.hid (show ∀ wf, wf = lays w1 q 0 zcs → Blk wf q zcs 51 ∧ Nw w wf from fun wf e => by rw [e]; exact ⟨BQ0.out.over zcs rfl, Kp.sets (S := fun _ => False) (b := q) N0.out (fun h => absurd h (by rw [hq]; omega)) 0 zcs⟩)
    have E1 := Lib.hid (blk_there (vs := zcs) BQ0.out rfl)
    clear hq
    generalize w.heap.size = bi at *
    have i0 := B0.out.cell 0
    have i1 := B0.out.cell 1
    have i2 := B0.out.cell 2
    simp only [List.getElem?_cons_zero, List.getElem?_cons_succ] at i0 i1 i2
    go_wp2_with (refine wpList_store_mid rfl 51 (.tmp 6) (.tmp 39) rfl q 0 zcs.toArray rfl rfl E1.out zcs_info zcs_one ?_; rw [setCells_lays, toL]; (simp only [Act.put, List.setIfInBounds_toArray, List.set_cons_zero, List.set_cons_succ]); (generalize hwf : lays w1 q 0 zcs = wf); obtain ⟨hb9, hn9⟩ := FIN2.out wf hwf.symm; have FB := Lib.hid hb9; have FIN := Lib.hid hn9; clear hwf hb9 hn9 FIN2 E1)
    refine bodyPost_ret (v := .tuple #[.agg zcs.toArray, .int .i64 4]) (dnew_res rfl rfl FB.out rfl) rfl ?_
    exact ⟨rfl, FIN.out⟩
  by_cases hc1 : 65536 < nc
  · skip
    obtain rfl : err = 4 := by omega
    have hx0 : (1 : Int) ≤ (nc : Int) := by omega
    have hx1 : (65536 : Int) < (nc : Int) := by omega
    have q0 : (nc == 0) = false := by simpa using (show nc ≠ 0 by omega)
    have q0' : ((nc : Int) == 0) = false := by simpa using (show nc ≠ 0 by omega)
    have q0'' : ¬ nc = 0 := by omega
    clear h
    go_enter Try.func25, Try.ntmps25
    go_upto_region 1 with fail
    generalize (w.alloc (.cells #[.slice xc nc cc, .slice xd nd cd, .int .i64 entry] 29)).alloc (.cells #[.slice none 0 0, .slice none 0 0, .int .i64 0, .int .i64 0, .int .i64 0, .int .i64 0, .int .i64 0, .int .i64 0, .int .i64 0, .int .i64 0, .int .i64 0, .int .i64 0, .int .i64 0, .int .i64 0, .int .i64 0, .int .i64 0, .int .i64 0, .int .i64 0, .int .i64 0, .slice none 0 0, .int .i64 0, .int .i64 0, .int .i64 0, .slice none 0 0, .int .i64 0] 51) = w1 at *
    obtain ⟨q, hq⟩ : ∃ q, q = w.heap.size + 1 := ⟨_, rfl⟩
    rw [← hq] at BQ0 ⊢
    have FIN2 := Lib.hid (show ∀ wf, wf = lays w1 q 0 zcs → Blk wf q zcs 51 ∧ Nw w wf from fun wf e => by rw [e]; exact ⟨BQ0.out.over zcs rfl, Kp.sets (S := fun _ => False) (b := q) N0.out (fun h => absurd h (by rw [hq]; omega)) 0 zcs⟩)
    have E1 := Lib.hid (blk_there (vs := zcs) BQ0.out rfl)
    clear hq
    generalize w.heap.size = bi at *
    have i0 := B0.out.cell 0
    have i1 := B0.out.cell 1
    have i2 := B0.out.cell 2
    simp only [List.getElem?_cons_zero, List.getElem?_cons_succ] at i0 i1 i2
    go_wp2_with (refine wpList_store_mid rfl 51 (.tmp 6) (.tmp 39) rfl q 0 zcs.toArray rfl rfl E1.out zcs_info zcs_one ?_; rw [setCells_lays, toL]; (simp only [Act.put, List.setIfInBounds_toArray, List.set_cons_zero, List.set_cons_succ]); (generalize hwf : lays w1 q 0 zcs = wf); obtain ⟨hb9, hn9⟩ := FIN2.out wf hwf.symm; have FB := Lib.hid hb9; have FIN := Lib.hid hn9; clear hwf hb9 hn9 FIN2 E1)
    refine bodyPost_ret (v := .tuple #[.agg zcs.toArray, .int .i64 4]) (dnew_res rfl rfl FB.out rfl) rfl ?_
    exact ⟨rfl, FIN.out⟩
  by_cases hc2 : 16384 < nd
  · skip
    obtain rfl : err = 4 := by omega
    have hx0 : (1 : Int) ≤ (nc : Int) := by omega
    have hx1 : (nc : Int) ≤ 65536 := by omega
    have hx2 : (16384 : Int) < (nd : Int) := by omega
    have q0 : (nc == 0) = false := by simpa using (show nc ≠ 0 by omega)
    have q0' : ((nc : Int) == 0) = false := by simpa using (show nc ≠ 0 by omega)
    have q0'' : ¬ nc = 0 := by omega
    clear h
    go_enter Try.func25, Try.ntmps25
    go_upto_region 1 with fail
    generalize (w.alloc (.cells #[.slice xc nc cc, .slice xd nd cd, .int .i64 entry] 29)).alloc (.cells #[.slice none 0 0, .slice none 0 0, .int .i64 0, .int .i64 0, .int .i64 0, .int .i64 0, .int .i64 0, .int .i64 0, .int .i64 0, .int .i64 0, .int .i64 0, .int .i64 0, .int .i64 0, .int .i64 0, .int .i64 0, .int .i64 0, .int .i64 0, .int .i64 0, .int .i64 0, .slice none 0 0, .int .i64 0, .int .i64 0, .int .i64 0, .slice none 0 0, .int .i64 0] 51) = w1 at *
    obtain ⟨q, hq⟩ : ∃ q, q = w.heap.size + 1 := ⟨_, rfl⟩
    rw [← hq] at BQ0 ⊢
    have FIN2 := Lib.hid (show ∀ wf, wf = lays w1 q 0 zcs → Blk wf q zcs 51 ∧ Nw w wf from fun wf e => by rw [e]; exact ⟨BQ0.out.over zcs rfl, Kp.sets (S := fun _ => False) (b := q) N0.out (fun h => absurd h (by rw [hq]; omega)) 0 zcs⟩)
    have E1 := Lib.hid (blk_there (vs := zcs) BQ0.out rfl)
    clear hq
    generalize w.heap.size = bi at *
    have i0 := B0.out.cell 0
    have i1 := B0.out.cell 1
    have i2 := B0.out.cell 2
    simp only [List.getElem?_cons_zero, List.getElem?_cons_succ] at i0 i1 i2
    go_wp2_with (refine wpList_store_mid rfl 51 (.tmp 6) (.tmp 39) rfl q 0 zcs.toArray rfl rfl E1.out zcs_info zcs_one ?_; rw [setCells_lays, toL]; (simp only [Act.put, List.setIfInBounds_toArray, List.set_cons_zero, List.set_cons_succ]); (generalize hwf : lays w1 q 0 zcs = wf); obtain ⟨hb9, hn9⟩ := FIN2.out wf hwf.symm; have FB := Lib.hid hb9; have FIN := Lib.hid hn9; clear hwf hb9 hn9 FIN2 E1)
    refine bodyPost_ret (v := .tuple #[.agg zcs.toArray, .int .i64 4]) (dnew_res rfl rfl FB.out rfl) rfl ?_
    exact ⟨rfl, FIN.out⟩
  by_cases hc3 : entry < 0
  · skip
    obtain rfl : err = 4 := by omega
    have hx0 : (1 : Int) ≤ (nc : Int) := by omega
    have hx1 : (nc : Int) ≤ 65536 := by omega
    have hx2 : (nd : Int) ≤ 16384 := by omega
    have hx3 : entry < 0 := by omega
    have q0 : (nc == 0) = false := by simpa using (show nc ≠ 0 by omega)
    have q0' : ((nc : Int) == 0) = false := by simpa using (show nc ≠ 0 by omega)
    have q0'' : ¬ nc = 0 := by omega
    clear h
    go_enter Try.func25, Try.ntmps25
    go_upto_region 1 with fail
    generalize (w.alloc (.cells #[.slice xc nc cc, .slice xd nd cd, .int .i64 entry] 29)).alloc (.cells #[.slice none 0 0, .slice none 0 0, .int .i64 0, .int .i64 0, .int .i64 0, .int .i64 0, .int .i64 0, .int .i64 0, .int .i64 0, .int .i64 0, .int .i64 0, .int .i64 0, .int .i64 0, .int .i64 0, .int .i64 0, .int .i64 0, .int .i64 0, .int .i64 0, .int .i64 0, .slice none 0 0, .int .i64 0, .int .i64 0, .int .i64 0, .slice none 0 0, .int .i64 0] 51) = w1 at *
    obtain ⟨q, hq⟩ : ∃ q, q = w.heap.size + 1 := ⟨_, rfl⟩
    rw [← hq] at BQ0 ⊢
    have FIN2 := Lib.hid (show ∀ wf, wf = lays w1 q 0 zcs → Blk wf q zcs 51 ∧ Nw w wf from fun wf e => by rw [e]; exact ⟨BQ0.out.over zcs rfl, Kp.sets (S := fun _ => False) (b := q) N0.out (fun h => absurd h (by rw [hq]; omega)) 0 zcs⟩)
    have E1 := Lib.hid (blk_there (vs := zcs) BQ0.out rfl)
    clear hq
    generalize w.heap.size = bi at *
    have i0 := B0.out.cell 0
    have i1 := B0.out.cell 1
    have i2 := B0.out.cell 2
    simp only [List.getElem?_cons_zero, List.getElem?_cons_succ] at i0 i1 i2
    go_wp2_with (refine wpList_store_mid rfl 51 (.tmp 6) (.tmp 39) rfl q 0 zcs.toArray rfl rfl E1.out zcs_info zcs_one ?_; rw [setCells_lays, toL]; (simp only [Act.put, List.setIfInBounds_toArray, List.set_cons_zero, List.set_cons_succ]); (generalize hwf : lays w1 q 0 zcs = wf); obtain ⟨hb9, hn9⟩ := FIN2.out wf hwf.symm; have FB := Lib.hid hb9; have FIN := Lib.hid hn9; clear hwf hb9 hn9 FIN2 E1)
    refine bodyPost_ret (v := .tuple #[.agg zcs.toArray, .int .i64 4]) (dnew_res rfl rfl FB.out rfl) rfl ?_
    exact ⟨rfl, FIN.out⟩
  by_cases hc4 : (nc : Int) ≤ entry
  · skip
    obtain rfl : err = 4 := by omega
    have hx0 : (1 : Int) ≤ (nc : Int) := by omega
    have hx1 : (nc : Int) ≤ 65536 := by omega
    have hx2 : (nd : Int) ≤ 16384 := by omega
    have hx3 : 0 ≤ entry := by omega
    have hx4 : (nc : Int) ≤ entry := by omega
    have q0 : (nc == 0) = false := by simpa using (show nc ≠ 0 by omega)
    have q0' : ((nc : Int) == 0) = false := by simpa using (show nc ≠ 0 by omega)
    have q0'' : ¬ nc = 0 := by omega
    clear h
    go_enter Try.func25, Try.ntmps25
    go_upto_region 1 with fail
    generalize (w.alloc (.cells #[.slice xc nc cc, .slice xd nd cd, .int .i64 entry] 29)).alloc (.cells #[.slice none 0 0, .slice none 0 0, .int .i64 0, .int .i64 0, .int .i64 0, .int .i64 0, .int .i64 0, .int .i64 0, .int .i64 0, .int .i64 0, .int .i64 0, .int .i64 0, .int .i64 0, .int .i64 0, .int .i64 0, .int .i64 0, .int .i64 0, .int .i64 0, .int .i64 0, .slice none 0 0, .int .i64 0, .int .i64 0, .int .i64 0, .slice none 0 0, .int .i64 0] 51) = w1 at *
    obtain ⟨q, hq⟩ : ∃ q, q = w.heap.size + 1 := ⟨_, rfl⟩
    rw [← hq] at BQ0 ⊢
    have FIN2 := Lib.hid (show ∀ wf, wf = lays w1 q 0 zcs → Blk wf q zcs 51 ∧ Nw w wf from fun wf e => by rw [e]; exact ⟨BQ0.out.over zcs rfl, Kp.sets (S := fun _ => False) (b := q) N0.out (fun h => absurd h (by rw [hq]; omega)) 0 zcs⟩)
    have E1 := Lib.hid (blk_there (vs := zcs) BQ0.out rfl)
    clear hq
    generalize w.heap.size = bi at *
    have i0 := B0.out.cell 0
    have i1 := B0.out.cell 1
    have i2 := B0.out.cell 2
    simp only [List.getElem?_cons_zero, List.getElem?_cons_succ] at i0 i1 i2
    go_wp2_with (refine wpList_store_mid rfl 51 (.tmp 6) (.tmp 39) rfl q 0 zcs.toArray rfl rfl E1.out zcs_info zcs_one ?_; rw [setCells_lays, toL]; (simp only [Act.put, List.setIfInBounds_toArray, List.set_cons_zero, List.set_cons_succ]); (generalize hwf : lays w1 q 0 zcs = wf); obtain ⟨hb9, hn9⟩ := FIN2.out wf hwf.symm; have FB := Lib.hid hb9; have FIN := Lib.hid hn9; clear hwf hb9 hn9 FIN2 E1)
    refine bodyPost_ret (v := .tuple #[.agg zcs.toArray, .int .i64 4]) (dnew_res rfl rfl FB.out rfl) rfl ?_
    exact ⟨rfl, FIN.out⟩
  by_cases hc5 : mem < (nd : Int)
  · skip
    obtain rfl : err = 1 := by omega
    have hx0 : (1 : Int) ≤ (nc : Int) := by omega
    have hx1 : (nc : Int) ≤ 65536 := by omega
    have hx2 : (nd : Int) ≤ 16384 := by omega
    have hx3 : 0 ≤ entry := by omega
    have hx4 : entry < (nc : Int) := by omega
    have hx5 : mem < (nd : Int) := by omega
    have q0 : (nc == 0) = false := by simpa using (show nc ≠ 0 by omega)
    have q0' : ((nc : Int) == 0) = false := by simpa using (show nc ≠ 0 by omega)
    have q0'' : ¬ nc = 0 := by omega
    clear h
    go_enter Try.func25, Try.ntmps25
    go_upto_region 1 with fail
    generalize (w.alloc (.cells #[.slice xc nc cc, .slice xd nd cd, .int .i64 entry] 29)).alloc (.cells #[.slice none 0 0, .slice none 0 0, .int .i64 0, .int .i64 0, .int .i64 0, .int .i64 0, .int .i64 0, .int .i64 0, .int .i64 0, .int .i64 0, .int .i64 0, .int .i64 0, .int .i64 0, .int .i64 0, .int .i64 0, .int .i64 0, .int .i64 0, .int .i64 0, .int .i64 0, .slice none 0 0, .int .i64 0, .int .i64 0, .int .i64 0, .slice none 0 0, .int .i64 0] 51) = w1 at *
    obtain ⟨q, hq⟩ : ∃ q, q = w.heap.size + 1 := ⟨_, rfl⟩
    rw [← hq] at BQ0 ⊢
    have FIN2 := Lib.hid (show ∀ wf, wf = lays w1 q 0 zcs → Blk wf q zcs 51 ∧ Nw w wf from fun wf e => by rw [e]; exact ⟨BQ0.out.over zcs rfl, Kp.sets (S := fun _ => False) (b := q) N0.out (fun h => absurd h (by rw [hq]; omega)) 0 zcs⟩)
    have E1 := Lib.hid (blk_there (vs := zcs) BQ0.out rfl)
    clear hq
    generalize w.heap.size = bi at *
    have i0 := B0.out.cell 0
    have i1 := B0.out.cell 1
    have i2 := B0.out.cell 2
    simp only [List.getElem?_cons_zero, List.getElem?_cons_succ] at i0 i1 i2
    go_wp2_with (refine wpList_store_mid rfl 51 (.tmp 6) (.tmp 54) rfl q 0 zcs.toArray rfl rfl E1.out zcs_info zcs_one ?_; rw [setCells_lays, toL]; (simp only [Act.put, List.setIfInBounds_toArray, List.set_cons_zero, List.set_cons_succ]); (generalize hwf : lays w1 q 0 zcs = wf); obtain ⟨hb9, hn9⟩ := FIN2.out wf hwf.symm; have FB := Lib.hid hb9; have FIN := Lib.hid hn9; clear hwf hb9 hn9 FIN2 E1)
    refine bodyPost_ret (v := .tuple #[.agg zcs.toArray, .int .i64 1]) (dnew_res rfl rfl FB.out rfl) rfl ?_
    exact ⟨rfl, FIN.out⟩
  by_cases hc6 : 262144 < mem
  · skip
    obtain rfl : err = 1 := by omega
    have hx0 : (1 : Int) ≤ (nc : Int) := by omega
    have hx1 : (nc : Int) ≤ 65536 := by omega
    have hx2 : (nd : Int) ≤ 16384 := by omega
    have hx3 : 0 ≤ entry := by omega
    have hx4 : entry < (nc : Int) := by omega
    have hx5 : (nd : Int) ≤ mem := by omega
    have hx6 : 262144 < mem := by omega
    have q0 : (nc == 0) = false := by simpa using (show nc ≠ 0 by omega)
    have q0' : ((nc : Int) == 0) = false := by simpa using (show nc ≠ 0 by omega)
    have q0'' : ¬ nc = 0 := by omega
    clear h
    go_enter Try.func25, Try.ntmps25
    go_upto_region 1 with fail
    generalize (w.alloc (.cells #[.slice xc nc cc, .slice xd nd cd, .int .i64 entry] 29)).alloc (.cells #[.slice none 0 0, .slice none 0 0, .int .i64 0, .int .i64 0, .int .i64 0, .int .i64 0, .int .i64 0, .int .i64 0, .int .i64 0, .int .i64 0, .int .i64 0, .int .i64 0, .int .i64 0, .int .i64 0, .int .i64 0, .int .i64 0, .int .i64 0, .int .i64 0, .int .i64 0, .slice none 0 0, .int .i64 0, .int .i64 0, .int .i64 0, .slice none 0 0, .int .i64 0] 51) = w1 at *
    obtain ⟨q, hq⟩ : ∃ q, q = w.heap.size + 1 := ⟨_, rfl⟩
    rw [← hq] at BQ0 ⊢
    have FIN2 := Lib.hid (show ∀ wf, wf = lays w1 q 0 zcs → Blk wf q zcs 51 ∧ Nw w wf from fun wf e => by rw [e]; exact ⟨BQ0.out.over zcs rfl, Kp.sets (S := fun _ => False) (b := q) N0.out (fun h => absurd h (by rw [hq]; omega)) 0 zcs⟩)
    have E1 := Lib.hid (blk_there (vs := zcs) BQ0.out rfl)
    clear hq
    generalize w.heap.size = bi at *
    have i0 := B0.out.cell 0
    have i1 := B0.out.cell 1
    have i2 := B0.out.cell 2
    simp only [List.getElem?_cons_zero, List.getElem?_cons_succ] at i0 i1 i2
    go_wp2_with (refine wpList_store_mid rfl 51 (.tmp 6) (.tmp 54) rfl q 0 zcs.toArray rfl rfl E1.out zcs_info zcs_one ?_; rw [setCells_lays, toL]; (simp only [Act.put, List.setIfInBounds_toArray, List.set_cons_zero, List.set_cons_succ]); (generalize hwf : lays w1 q 0 zcs = wf); obtain ⟨hb9, hn9⟩ := FIN2.out wf hwf.symm; have FB := Lib.hid hb9; have FIN := Lib.hid hn9; clear hwf hb9 hn9 FIN2 E1)
    refine bodyPost_ret (v := .tuple #[.agg zcs.toArray, .int .i64 1]) (dnew_res rfl rfl FB.out rfl) rfl ?_
    exact ⟨rfl, FIN.out⟩
  skip
  have hc7 : 4096 < ni := by omega
  obtain rfl : err = 1 := by omega
  have hx0 : (1 : Int) ≤ (nc : Int) := by omega
  have hx1 : (nc : Int) ≤ 65536 := by omega
  have hx2 : (nd : Int) ≤ 16384 := by omega
  have hx3 : 0 ≤ entry := by omega
  have hx4 : entry < (nc : Int) := by omega
  have hx5 : (nd : Int) ≤ mem := by omega
  have hx6 : mem ≤ 262144 := by omega
  have hx7 : (4096 : Int) < (ni : Int) := by omega
  have q0 : (nc == 0) = false := by simpa using (show nc ≠ 0 by omega)
  have q0' : ((nc : Int) == 0) = false := by simpa using (show nc ≠ 0 by omega)
  have q0'' : ¬ nc = 0 := by omega
  clear h
  go_enter Try.func25, Try.ntmps25
  go_upto_region 1 with fail
  generalize (w.alloc (.cells #[.slice xc nc cc, .slice xd nd cd, .int .i64 entry] 29)).alloc (.cells #[.slice none 0 0, .slice none 0 0, .int .i64 0, .int .i64 0, .int .i64 0, .int .i64 0, .int .i64 0, .int .i64 0, .int .i64 0, .int .i64 0, .int .i64 0, .int .i64 0, .int .i64 0, .int .i64 0, .int .i64 0, .int .i64 0, .int .i64 0, .int .i64 0, .int .i64 0, .slice none 0 0, .int .i64 0, .int .i64 0, .int .i64 0, .slice none 0 0, .int .i64 0] 51) = w1 at *
  obtain ⟨q, hq⟩ : ∃ q, q = w.heap.size + 1 := ⟨_, rfl⟩
  rw [← hq] at BQ0 ⊢
  have FIN2 := Lib.hid (show ∀ wf, wf = lays w1 q 0 zcs → Blk wf q zcs 51 ∧ Nw w wf from fun wf e => by rw [e]; exact ⟨BQ0.out.over zcs rfl, Kp.sets (S := fun _ => False) (b := q) N0.out (fun h => absurd h (by rw [hq]; omega)) 0 zcs⟩)
  have E1 := Lib.hid (blk_there (vs := zcs) BQ0.out rfl)
  clear hq
  generalize w.heap.size = bi at *
  have i0 := B0.out.cell 0
  have i1 := B0.out.cell 1
  have i2 := B0.out.cell 2
  simp only [List.getElem?_cons_zero, List.getElem?_cons_succ] at i0 i1 i2
  go_wp2_with (refine wpList_store_mid rfl 51 (.tmp 6) (.tmp 54) rfl q 0 zcs.toArray rfl rfl E1.out zcs_info zcs_one ?_; rw [setCells_lays, toL]; (simp only [Act.put, List.setIfInBounds_toArray, List.set_cons_zero, List.set_cons_succ]); (generalize hwf : lays w1 q 0 zcs = wf); obtain ⟨hb9, hn9⟩ := FIN2.out wf hwf.symm; have FB := Lib.hid hb9; have FIN := Lib.hid hn9; clear hwf hb9 hn9 FIN2 E1)
  refine bodyPost_ret (v := .tuple #[.agg zcs.toArray, .int .i64 1]) (dnew_res rfl rfl FB.out rfl) rfl ?_
  exact ⟨rfl, FIN.out⟩
/-- New of the document, whatever comes in -/
def DNewP (m : Img) (mem : Int) (inp : List UInt8) (w : World) (e : Ending) (w' : World) : Prop :=
  ∃ cs : List Value, e = .returned (.tuple #[.agg cs.toArray, .int .i64 (m.err mem inp)]) ∧ cs.length = 25 ∧ cs.toArray.all (fun v => v.oneCell') = true ∧ Nw w w' ∧
    (m.err mem inp = 0 → ∃ bm x1 c1 x2 c2, cs = mcs (.slice x1 m.code.length c1) (.slice (some ⟨bm, 0, none⟩) mem.toNat mem.toNat) (.int .i64 mem) (.int .i64 m.entry) (.slice x2 inp.length c2) ∧ NewV w w' m.code m.data mem inp bm x1 x2 c1 c2)
theorem dnew_any {R R' : Nat → Prop} {w : World} {xc xd xi : Option Addr} {nc cc nd cd ni ci : Nat} {entry : Int} {m : Img} {inp : List UInt8} (h : ImgAt R w xc xd nc cc nd cd entry m) (hi : BytesR R' w (.slice xi ni ci) inp) (hr : ∀ b, R' b → b < w.heap.size) (hli : inp.length ≤ 9223372036854775807) (mem : Int) :
    Calls Try.prog 25 #[.agg #[.slice xc nc cc, .slice xd nd cd, .int .i64 entry], .int .i64 mem, .slice xi ni ci] w (DNewP m mem inp w) := by
  have h1 := h.code.len
  have h2 := h.data.len
  have h3 := hi.len
  have h4 := h.lc
  have h5 := h.ld
  have h6 := h.en
  by_cases c1 : nc < 1 ∨ 65536 < nc ∨ 16384 < nd ∨ entry < 0 ∨ (nc : Int) ≤ entry
  · have e : m.err mem inp = 4 := if_pos (by rw [← h1, ← h2, ← h6]; exact c1)
    refine (dnew_bad w xc xd xi nc cc nd cd ni ci entry mem 4 (by omega) (by omega) (by omega) (.inl ⟨c1, rfl⟩)).mono fun e' w' q => ⟨zcs, by rw [e]; exact q.1, rfl, zcs_one, q.2, fun he => by rw [e] at he; exact absurd he (by decide)⟩
  · have e0 : m.err mem inp = if mem < (m.data.length : Int) ∨ 262144 < mem ∨ 4096 < inp.length then 1 else 0 := if_neg (by rw [← h1, ← h2, ← h6]; exact c1)
    by_cases c2 : mem < (nd : Int) ∨ 262144 < mem ∨ 4096 < ni
    · have e : m.err mem inp = 1 := by rw [e0, if_pos (by rw [← h2, ← h3]; exact c2)]
      refine (dnew_bad w xc xd xi nc cc nd cd ni ci entry mem 1 (by omega) (by omega) (by omega) (.inr ⟨c1, c2, rfl⟩)).mono fun e' w' q => ⟨zcs, by rw [e]; exact q.1, rfl, zcs_one, q.2, fun he => by rw [e] at he; exact absurd he (by decide)⟩
    · have e : m.err mem inp = 0 := by rw [e0, if_neg (by rw [← h2, ← h3]; exact c2)]
      have hi2 : BytesR (fun b => R b ∨ R' b) w (.slice xi ni ci) inp := by
        obtain ⟨x, c, e1, e2, e3, e4⟩ := hi
        exact ⟨x, c, e1, e2, e3, fun hne => by obtain ⟨b, o, q1, q2, q3⟩ := e4 hne; exact ⟨b, o, q1, .inr q2, q3⟩⟩
      have hw : ∀ v l, WordsR R w v l → WordsR (fun b => R b ∨ R' b) w v l := fun v l hh => by
        obtain ⟨x, c, e1, e2, e3, e4⟩ := hh
        exact ⟨x, c, e1, e2, e3, fun hne => by obtain ⟨b, o, q1, q2, q3⟩ := e4 hne; exact ⟨b, o, q1, .inl q2, q3⟩⟩
      refine (dnew_ok w (fun b => R b ∨ R' b) xc xd xi nc cc nd cd ni ci entry mem m.code m.data inp (hw _ _ h.code) (hw _ _ h.data) hi2 (fun b hb => hb.elim (h.hr b) (hr b)) (by omega) (by omega) (by omega) (by omega) (by omega) (by omega) (by omega) (by omega)).mono ?_
      rintro e' w' ⟨bm, x1, c1, x2, c2, q1, q2⟩
      exact ⟨_, by rw [e]; exact q1, rfl, mcs_one _ _ _ _ _ rfl rfl rfl rfl rfl, q2.nw, fun _ => ⟨bm, x1, c1, x2, c2, by rw [← h6], q2⟩⟩
/-- where the new machine's slices lie -/
def ldOf (bm : Nat) (x1 x2 : Option Addr) (c1 c2 nc mn : Nat) (inp : List UInt8) : Ld := ⟨.slice x1 nc c1, .slice x2 inp.length c2, .slice none 0 0, bm, mn, inp, 0⟩
/-- the new machine in a block of its caller -/
theorem datl_new {B : Nat} {wa w' w2 : World} {m : Img} {mem : Int} {inp : List UInt8} {bm p : Nat} {x1 x2 : Option Addr} {c1 c2 : Nat} (v : NewV wa w' m.code m.data mem inp bm x1 x2 c1 c2) (he : m.err mem inp = 0) (hci : ∀ v ∈ m.code, -9223372036854775808 ≤ v ∧ v ≤ 9223372036854775807)
    (hB : B ≤ wa.heap.size) (k : Kp (fun x => x = p) w' w2) (pB : B ≤ p) (hne : p < wa.heap.size ∨ w'.heap.size ≤ p)
    (hp : Blk w2 p (mcs (.slice x1 m.code.length c1) (.slice (some ⟨bm, 0, none⟩) mem.toNat mem.toNat) (.int .i64 mem) (.int .i64 m.entry) (.slice x2 inp.length c2)) 51) :
    DAtL B (fun x => (Value.slice x1 m.code.length c1).ownBlock = some x ∨ (Value.slice x2 inp.length c2).ownBlock = some x) w2 p (ldOf bm x1 x2 c1 c2 m.code.length mem.toNat inp) (m.ms mem inp) ∧
    (∀ x, ((Value.slice x1 m.code.length c1).ownBlock = some x ∨ (Value.slice x2 inp.length c2).ownBlock = some x) → wa.heap.size ≤ x) := by
  unfold Img.err newErr at he
  split at he
  · cases he
  rename_i n1
  split at he
  · cases he
  rename_i n2
  have l1 := v.vmem.lt
  have pm : bm ≠ p := fun e => by have := v.bb; omega
  have ml : (m.ms mem inp).mem.length = mem.toNat := by
    show (m.data ++ List.replicate (mem.toNat - m.data.length) 0).length = mem.toNat
    simp; omega
  have p1 : ∀ g, (Value.slice x1 m.code.length c1).ownBlock = some g → g ≠ p := fun g hg e => by have := v.vcode.lt g hg; omega
  have p2 : ∀ g, (Value.slice x2 inp.length c2).ownBlock = some g → g ≠ p := fun g hg e => by have := v.vinp.lt g hg; omega
  have o1 := own_kp v.vcode k (fun g hg e => p1 g hg e)
  have o2 := own_kp v.vinp k (fun g hg e => p2 g hg e)
  refine ⟨⟨⟨?_, rfl⟩, v.vmem.kp k pm, by rw [ml]; omega, pm, ⟨rfl, .inl ⟨rfl, rfl⟩⟩, Nat.zero_le _, by simp [ldOf, Value.ownBlock], by simp [ldOf, Value.ownBlock], ?_, own_wordsR o1 (fun g hg => .inl hg), by show m.code.length ≤ _; omega, hci, own_bytesR o2 (fun g hg => .inr hg), Nat.zero_le _, rfl, pB, Nat.le_trans hB v.bb, fun _ => rfl⟩, ?_⟩
  · have : (dcOf (ldOf bm x1 x2 c1 c2 m.code.length mem.toNat inp) (m.ms mem inp)).cells = mcs (.slice x1 m.code.length c1) (.slice (some ⟨bm, 0, none⟩) mem.toNat mem.toNat) (.int .i64 mem) (.int .i64 m.entry) (.slice x2 inp.length c2) := by
      unfold dcOf Dc.cells Dc.tail
      rw [ml]
      rfl
    rw [this]
    exact hp
  · rintro x (hx | hx)
    · exact ⟨(o1.lt x hx).2, p1 x hx, v.cp x hx, by simp [ldOf, Value.ownBlock]⟩
    · exact ⟨(o2.lt x hx).2, p2 x hx, v.ip x hx, by simp [ldOf, Value.ownBlock]⟩
  · rintro x (hx | hx)
    · exact (v.vcode.lt x hx).1
    · exact (v.vinp.lt x hx).1
end Go.Proofs.Ythlcoocboidnlaa
