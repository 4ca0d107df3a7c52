/- Reading an object's bytes: Decode. -/
import Derived.Test.YtfdjlicegfgodaaTK6
import Derived.Lib.SmallJoins
namespace Go.Proofs.Ytfdjlicegfgodaa
open Go.RowKit
set_option linter.unusedSimpArgs false
set_option linter.unusedVariables false

/-- no valid object has these bytes -/
def NoDec (l : List UInt8) : Prop := ∀ o, OkOb o → codeV o = 0 → l.length ≤ 262144 → objB o ≠ l
def DecP (w : World) (l : List UInt8) (e : Ending) (w' : World) : Prop :=
  (∃ o cs, e = .returned (.tuple #[.agg cs.toArray, .int .i64 0]) ∧ OkOb o ∧ codeV o = 0 ∧ objB o = l ∧ l.length ≤ 262144 ∧ ObT (fun b => w.heap.size ≤ b ∧ b < w'.heap.size) w' o cs ∧ Nw w w') ∨
  (e = .returned (.tuple #[.agg #[.string ⟨#[]⟩, .int .i64 0, .slice none 0 0, .slice none 0 0, .slice none 0 0, .slice none 0 0, .slice none 0 0], .int .i64 4]) ∧ NoDec l ∧ Nw w w')
theorem mkO_len (u : Ob) : 4 ≤ (mkO u).length := by
  unfold mkO; simp only [List.length_append]; simp
theorem mkO_take (u : Ob) : (mkO u).take 4 = [77, 79, 49, 10] := by
  unfold mkO; simp
theorem no_short {l : List UInt8} (h : l.length < 12) : NoDec l := by
  intro u _ _ _ e
  have h1 := objB_length u
  rw [e] at h1
  omega
theorem no_long {l : List UInt8} (h : 262144 < l.length) : NoDec l := fun u _ _ hl _ => by omega
theorem no_mark {l : List UInt8} (h : ¬ l.take 4 = [77, 79, 49, 10]) : NoDec l := by
  intro u _ _ _ e
  apply h
  rw [← e]
  unfold objB
  rw [List.take_append_of_le_length (mkO_len u)]
  exact mkO_take u
theorem fnv_I64 (l : List UInt8) : I64 (fnv l) := by rw [← fnv_wrap]; exact wrap_i64 _
theorem dec_parts {l t : List UInt8} {z : Int} (hl : l = t ++ le8 z) (hz : I64 z) {u : Ob} (e : objB u = l) : mkO u = t ∧ fnv t = z := by
  rw [hl] at e
  unfold objB at e
  obtain ⟨e1, e2⟩ := List.append_inj' e (by rw [le8_length, le8_length])
  exact ⟨e1, by rw [← e1]; exact le8_inj (fnv_I64 _) hz e2⟩
theorem no_sum {l t : List UInt8} {z : Int} (hl : l = t ++ le8 z) (hz : I64 z) (hne : ¬ z = fnv t) : NoDec l := fun u _ _ _ e => hne (dec_parts hl hz e).2.symm
theorem no_rest {l t : List UInt8} {z : Int} (hl : l = t ++ le8 z) (hz : I64 z) (hno : ∀ u, OkOb u → codeV u = 0 → encO u ≠ t.drop 4) : NoDec l := by
  intro u hu hv _ e
  have h := (dec_parts hl hz e).1
  unfold mkO at h
  refine hno u hu hv ?_
  rw [← h]; simp
theorem no_fail {r : List UInt8} (h : No OkOb encO r) : ∀ u, OkOb u → codeV u = 0 → encO u ≠ r := fun u hu _ e => h u [] hu (by rw [List.append_nil]; exact e.symm)
theorem no_more {r rn : List UInt8} {u : Ob} (hu : OkOb u) (hr : r = encO u ++ rn) (hne : rn ≠ []) : ∀ v, OkOb v → codeV v = 0 → encO v ≠ r := by
  intro v hv _ e
  have h1 : encO v ++ [] = encO u ++ rn := by rw [List.append_nil, e, hr]
  exact hne (pi_OkOb v u hv hu _ _ h1).2.symm
theorem no_bad {r : List UInt8} {u : Ob} (hu : OkOb u) (hr : r = encO u ++ []) (hc : ¬ codeV u = 0) : ∀ v, OkOb v → codeV v = 0 → encO v ≠ r := by
  intro v hv hcv e
  have h1 : encO v ++ [] = encO u ++ [] := by rw [List.append_nil, e, hr]
  exact hc (by rw [← (pi_OkOb v u hv hu _ _ h1).1]; exact hcv)
theorem dec_yes {l t : List UInt8} {z : Int} {u : Ob} (hl : l = t ++ le8 z) (hs : z = fnv t) (hm : l.take 4 = [77, 79, 49, 10]) (ht : 4 ≤ t.length) (hr : t.drop 4 = encO u) : objB u = l := by
  have h1 : t.take 4 = [77, 79, 49, 10] := by rw [hl, List.take_append_of_le_length ht] at hm; exact hm
  have h2 : mkO u = t := by unfold mkO; rw [← hr, ← h1, List.take_append_drop]
  unfold objB
  rw [h2, hl, hs]
theorem carry_Ob : Carry ObT := by
  rintro T T' W W' o cs hT hW ⟨vi, vs, vr, vc, vd, h0, h1, h2, h3, h4, h5, h6, h7⟩
  exact ⟨vi, vs, vr, vc, vd, h0, h1, h2, h3.mono hT hW fun _ _ _ h => h, h4.mono hT hW fun _ _ _ h => h, h5.mono hT hW fun _ _ _ h => h, h6.mono hT hW fun _ _ _ h => h, h7.mono hT hW fun _ _ _ h => h⟩
theorem size_set (w : World) (a : Addr) (v : Value) : (w.setCell a v).heap.size = w.heap.size := by simp [World.setCell]
theorem bytesAt_kp {S : Nat → Prop} {w w' : World} {v : Value} {l : List UInt8} (h : BytesAt w v l) (k : Kp S w w') (hs : ∀ b, b < w.heap.size → ¬ S b) : BytesAt w' v l := by
  obtain ⟨x, cap, h1, h2, h3, h4⟩ := h
  refine ⟨x, cap, h1, h2, h3, fun hne => ?_⟩
  obtain ⟨b, o, h5, h6⟩ := h4 hne
  exact ⟨b, o, h5, fun i hi => k.keeps (h6 i hi) (hs _ (World.block_lt_of_cell? w _ (h6 i hi)))⟩
theorem RdAt.sets2 {B : Nat} {W w : World} {q : Nat} {r : List UInt8} {k : Int} (h : RdAt B W w q r k) {b : Nat} (hq : q ≠ b) (hB : B ≤ b) (o : Nat) (vs : List Value) : RdAt B W (lays w b o vs) q r k :=
  h.kp ((Kp.refl (fun x => x = b) w).sets (fun _ => rfl) o vs) (fun x hx e => by omega) (fun e => hq e)
theorem Kp.nw {q : Nat} {w w' : World} (h : Kp (fun b => b = q) w w') (hq : w.heap.size ≤ q) : Nw w w' := Kp.mono h (fun x hx e => by omega)
theorem dec_results {tmps : Array Value} {w : World} {pu pe : Nat} {a b c d f g i e0 : Value} (h2 : tmps[2]?.getD undef = .pointer (some ⟨pu, 0, none⟩)) (h3 : tmps[3]?.getD undef = .pointer (some ⟨pe, 0, none⟩))
    (hu : Blk w pu [a, b, c, d, f, g, i] 27) (he : Blk w pe [e0] 31) : (results Try.f18 tmps).run Try.prog w = .ok (.tuple #[.agg #[a, b, c, d, f, g, i], e0]) w := by
  have f0 := hu.cell 0
  have f1 := hu.cell 1
  have f2 := hu.cell 2
  have f3 := hu.cell 3
  have f4 := hu.cell 4
  have f5 := hu.cell 5
  have f6 := hu.cell 6
  have g0 := he.cell 0
  simp only [List.getElem?_cons_zero, List.getElem?_cons_succ] at f0 f1 f2 f3 f4 f5 f6 g0
  simp [results, Try.results18, go_sem, h2, h3, f0, f1, f2, f3, f4, f5, f6, g0]
/-- eight bytes are a number -/
theorem rnum8 {B : Nat} {W w : World} {q : Nat} {z : Int} {k : Int} (hz : I64 z) (h : RdAt B W w q (le8 z) k) :
    Calls Try.prog 46 #[.pointer (some ⟨q, 0, none⟩)] w fun e w' => e = .returned (.int .i64 z) ∧ RdAt B W w' q [] k ∧ Kp (fun b => b = q) w w' := by
  refine (rnum h).mono ?_
  rintro e w' (⟨x, r', v, rfl, hx, hr, rfl, hrd, hk⟩ | ⟨_, hno, _⟩)
  · obtain ⟨e1, e2⟩ := le8_pi (r := []) hz hx (by rw [List.append_nil]; exact hr)
    subst e1 e2
    exact ⟨rfl, hrd, hk⟩
  · exact absurd (List.append_nil (le8 z)).symm (hno z [] hz)

set_option maxRecDepth 100000 in
set_option maxHeartbeats 8000000 in
theorem decode_any (w : World) (v : Value) (l : List UInt8) (h : BytesAt w v l) :
    Calls Try.prog 18 #[v] w (DecP w l) := by
  have hmf : ∀ (fn : Fn) (first cap : Array Value) (w : World), (Instr.makeFunc fn first cap).run Try.prog w = .ok (.func fn first cap) w := fun _ _ _ _ => rfl
  have H := Lib.hid h
  obtain ⟨x, c, rfl, hlc, hm, hcell⟩ := h
  have HC := Lib.hid hcell
  obtain ⟨n, hn⟩ : ∃ n, n = l.length := ⟨_, rfl⟩
  rw [← hn] at hlc H ⊢
  have HN := Lib.hid hn
  have hmm : n ≤ 9223372036854775807 := by unfold maxLen at hm; omega
  clear hcell hn
  have NA := Lib.hid (((Nw.refl w).alloc (.cells #[.string ⟨#[]⟩, .int .i64 0, .slice none 0 0, .slice none 0 0, .slice none 0 0, .slice none 0 0, .slice none 0 0] 27)).alloc (.cells #[.int .i64 0] 31))
  have BU := Lib.hid ((Blk.new w [.string ⟨#[]⟩, .int .i64 0, .slice none 0 0, .slice none 0 0, .slice none 0 0, .slice none 0 0, .slice none 0 0] 27).alloc (.cells #[.int .i64 0] 31))
  have BE := Lib.hid (show Blk ((w.alloc (.cells #[.string ⟨#[]⟩, .int .i64 0, .slice none 0 0, .slice none 0 0, .slice none 0 0, .slice none 0 0, .slice none 0 0] 27)).alloc (.cells #[.int .i64 0] 31)) (w.heap.size + 1) [.int .i64 0] 31 by
    have := Blk.new (w.alloc (.cells #[.string ⟨#[]⟩, .int .i64 0, .slice none 0 0, .slice none 0 0, .slice none 0 0, .slice none 0 0, .slice none 0 0] 27)) [.int .i64 0] 31
    rw [size_alloc] at this; exact this)
  have sA : w.heap.size + 2 ≤ ((w.alloc (.cells #[.string ⟨#[]⟩, .int .i64 0, .slice none 0 0, .slice none 0 0, .slice none 0 0, .slice none 0 0, .slice none 0 0] 27)).alloc (.cells #[.int .i64 0] 31)).heap.size := by simp
  by_cases h12 : n < 12
  · have hq : (n : Int) < 12 := by omega
    have NO := Lib.hid (no_short (l := l) (by rw [← HN.out]; exact h12))
    go_enter_defers Try.func18, Try.ntmps18
    go_upto_region 1 with fail
    generalize ((w.alloc (.cells #[.string ⟨#[]⟩, .int .i64 0, .slice none 0 0, .slice none 0 0, .slice none 0 0, .slice none 0 0, .slice none 0 0] 27)).alloc (.cells #[.int .i64 0] 31)) = wA at *
    have cU := BU.out.cell
    have zU := BU.out.frozen
    have cE := BE.out.cell
    have zE := BE.out.frozen
    go_wp2_with fail
    refine ⟨_, dec_results rfl rfl (Blk.setsO (Blk.sets BU.out 0 [.string ⟨#[]⟩, .int .i64 0, .slice none 0 0, .slice none 0 0, .slice none 0 0, .slice none 0 0, .slice none 0 0]) (b' := w.heap.size + 1) (by omega) 0 [.int .i64 4]) (Blk.sets (Blk.setsO BE.out (b' := w.heap.size) (by omega) 0 [.string ⟨#[]⟩, .int .i64 0, .slice none 0 0, .slice none 0 0, .slice none 0 0, .slice none 0 0, .slice none 0 0]) 0 [.int .i64 4]), .inr ⟨rfl, NO.out, Kp.sets (Kp.sets NA.out (fun h => by omega) 0 [.string ⟨#[]⟩, .int .i64 0, .slice none 0 0, .slice none 0 0, .slice none 0 0, .slice none 0 0, .slice none 0 0]) (fun h => by omega) 0 [.int .i64 4]⟩⟩
  · by_cases h26 : 262144 < n
    · have hq : ¬ (n : Int) < 12 := by omega
      have hq2 : (262144 : Int) < (n : Int) := by omega
      have NO := Lib.hid (no_long (l := l) (by rw [← HN.out]; exact h26))
      go_enter_defers Try.func18, Try.ntmps18
      go_upto_region 1 with fail
      generalize ((w.alloc (.cells #[.string ⟨#[]⟩, .int .i64 0, .slice none 0 0, .slice none 0 0, .slice none 0 0, .slice none 0 0, .slice none 0 0] 27)).alloc (.cells #[.int .i64 0] 31)) = wA at *
      have cU := BU.out.cell
      have zU := BU.out.frozen
      have cE := BE.out.cell
      have zE := BE.out.frozen
      go_wp2_with fail
      refine ⟨_, dec_results rfl rfl (Blk.setsO (Blk.sets BU.out 0 [.string ⟨#[]⟩, .int .i64 0, .slice none 0 0, .slice none 0 0, .slice none 0 0, .slice none 0 0, .slice none 0 0]) (b' := w.heap.size + 1) (by omega) 0 [.int .i64 4]) (Blk.sets (Blk.setsO BE.out (b' := w.heap.size) (by omega) 0 [.string ⟨#[]⟩, .int .i64 0, .slice none 0 0, .slice none 0 0, .slice none 0 0, .slice none 0 0, .slice none 0 0]) 0 [.int .i64 4]), .inr ⟨rfl, NO.out, Kp.sets (Kp.sets NA.out (fun h => by omega) 0 [.string ⟨#[]⟩, .int .i64 0, .slice none 0 0, .slice none 0 0, .slice none 0 0, .slice none 0 0, .slice none 0 0]) (fun h => by omega) 0 [.int .i64 4]⟩⟩
    · obtain ⟨b, o, rfl, hcell⟩ := HC.out (by intro e; rw [e] at HN; have := HN.out; simp at this; omega)
      have hq : ¬ (n : Int) < 12 := by omega
      have hq2 : ¬ (262144 : Int) < (n : Int) := by omega
      have hbl : b < w.heap.size := World.block_lt_of_cell? w _ (hcell 0 (by rw [← HN.out]; omega))
      have HCE := Lib.hid hcell
      clear hcell HC
      go_enter_defers Try.func18, Try.ntmps18
      go_upto_region 1 with fail
      generalize ((w.alloc (.cells #[.string ⟨#[]⟩, .int .i64 0, .slice none 0 0, .slice none 0 0, .slice none 0 0, .slice none 0 0, .slice none 0 0] 27)).alloc (.cells #[.int .i64 0] 31)) = wA at *
      have cU := BU.out.cell
      have zU := BU.out.frozen
      have cE := BE.out.cell
      have zE := BE.out.frozen
      have hcv := Joins.run_convert_bytes_const_at (P := Try.prog) wA 34 5 #[.int .u8 77, .int .u8 79, .int .u8 49, .int .u8 10] 4 4 wA.heap.size rfl Try.underlying34 Try.underlying5
      have PX := Lib.hid (prefix_any (w := wA.alloc (.cells #[.int .u8 77, .int .u8 79, .int .u8 49, .int .u8 10] 5 (4, 5))) (b := b) (o := o) (n := n) (c := c) (a' := some ⟨wA.heap.size, 0, none⟩) (c' := 4) (l := l) (l' := [77, 79, 49, 10]) (bytesAt_nw H.out (NA.out.alloc _))
        ⟨_, 4, rfl, by decide, by decide, fun _ => ⟨wA.heap.size, 0, rfl, fun i hi => by
          have h1 := Joins.cell_alloc_mark_at wA #[.int .u8 77, .int .u8 79, .int .u8 49, .int .u8 10] 5 (4, 5) wA.heap.size (0 + i) rfl
          have : i = 0 ∨ i = 1 ∨ i = 2 ∨ i = 3 := by simp at hi; omega
          rcases this with rfl | rfl | rfl | rfl <;> exact h1⟩⟩ (by omega))
      by_cases hmk : l.take 4 = [77, 79, 49, 10]
      rotate_left
      · have D := Lib.hid (dc_false hmk)
        have NO := Lib.hid (no_mark hmk)
        clear hmk
        go_wp2_with fail
        refine (PX.out).mono ?_
        rintro e1 w1 ⟨rfl, rfl⟩
        rw [D.out]
        have NA' := Lib.hid (NA.out.alloc (.cells #[.int .u8 77, .int .u8 79, .int .u8 49, .int .u8 10] 5 (4, 5)))
        have BU' := Lib.hid (BU.out.alloc (.cells #[.int .u8 77, .int .u8 79, .int .u8 49, .int .u8 10] 5 (4, 5)))
        have BE' := Lib.hid (BE.out.alloc (.cells #[.int .u8 77, .int .u8 79, .int .u8 49, .int .u8 10] 5 (4, 5)))
        clear NA BU BE cU zU cE zE PX
        generalize wA.alloc (.cells #[.int .u8 77, .int .u8 79, .int .u8 49, .int .u8 10] 5 (4, 5)) = wP at *
        have NA := Lib.hid NA'.out
        have BU := Lib.hid BU'.out
        have BE := Lib.hid BE'.out
        have cU := BU.out.cell
        have zU := BU.out.frozen
        have cE := BE.out.cell
        have zE := BE.out.frozen
        go_wp2_with fail
        refine ⟨_, dec_results rfl rfl (Blk.setsO (Blk.sets BU.out 0 [.string ⟨#[]⟩, .int .i64 0, .slice none 0 0, .slice none 0 0, .slice none 0 0, .slice none 0 0, .slice none 0 0]) (b' := w.heap.size + 1) (by omega) 0 [.int .i64 4]) (Blk.sets (Blk.setsO BE.out (b' := w.heap.size) (by omega) 0 [.string ⟨#[]⟩, .int .i64 0, .slice none 0 0, .slice none 0 0, .slice none 0 0, .slice none 0 0, .slice none 0 0]) 0 [.int .i64 4]), .inr ⟨rfl, NO.out, Kp.sets (Kp.sets NA.out (fun h => by omega) 0 [.string ⟨#[]⟩, .int .i64 0, .slice none 0 0, .slice none 0 0, .slice none 0 0, .slice none 0 0, .slice none 0 0]) (fun h => by omega) 0 [.int .i64 4]⟩⟩
      · have D := Lib.hid (dc_true hmk)
        have HM := Lib.hid hmk
        clear hmk
        go_wp2_with fail
        refine (PX.out).mono ?_
        rintro e1 w1 ⟨rfl, rfl⟩
        rw [D.out]
        have NA' := Lib.hid (NA.out.alloc (.cells #[.int .u8 77, .int .u8 79, .int .u8 49, .int .u8 10] 5 (4, 5)))
        have BU' := Lib.hid (BU.out.alloc (.cells #[.int .u8 77, .int .u8 79, .int .u8 49, .int .u8 10] 5 (4, 5)))
        have BE' := Lib.hid (BE.out.alloc (.cells #[.int .u8 77, .int .u8 79, .int .u8 49, .int .u8 10] 5 (4, 5)))
        have sP : w.heap.size + 2 ≤ (wA.alloc (.cells #[.int .u8 77, .int .u8 79, .int .u8 49, .int .u8 10] 5 (4, 5))).heap.size := by simp; omega
        clear NA BU BE cU zU cE zE PX sA
        generalize wA.alloc (.cells #[.int .u8 77, .int .u8 79, .int .u8 49, .int .u8 10] 5 (4, 5)) = wP at *
        have NA := Lib.hid NA'.out
        have BU := Lib.hid BU'.out
        have BE := Lib.hid BE'.out
        clear NA' BU' BE'
        obtain ⟨m, rfl⟩ : ∃ m, n = m + 8 := ⟨n - 8, by omega⟩
        have hw1 : IntKind.i64.wrap ((m : Int) + 8 - 8) = m := by rw [IntWalk.i64_in _ (by omega)]; omega
        have hq3 : (m : Int) ≤ (m : Int) + 8 := by omega
        have hq4 : (0 : Int) ≤ (m : Int) := by omega
        have hq5 : (m : Int) + 8 ≤ (c : Int) := by omega
        have hq6 : (4 : Int) ≤ (m : Int) := by omega
        have hq7 : (m : Int) ≤ (c : Int) := by omega
        have hne : ¬ c = m := by omega
        have hne4 : ¬ c = 4 := by omega
        obtain ⟨t, ht⟩ : ∃ t, t = l.take m := ⟨_, rfl⟩
        have hdl : (l.drop m).length = 8 := by rw [List.length_drop, ← HN.out]; omega
        obtain ⟨z, hz, hlz⟩ : ∃ z, I64 z ∧ l.drop m = le8 z := ⟨_, wrap_i64 _, ((le_wrap (r := l.drop m) (by omega)).trans (List.take_of_length_le (by omega))).symm⟩
        have HZ := Lib.hid hz
        have HL := Lib.hid (show l = t ++ le8 z by rw [ht, ← hlz, List.take_append_drop])
        have HT := Lib.hid (show 4 ≤ t.length by rw [ht, List.length_take, ← HN.out]; omega)
        have HLN := Lib.hid (show l.length ≤ 262144 by rw [← HN.out]; omega)
        have HTT := Lib.hid ht
        have HLZ := Lib.hid hlz
        have HDL := Lib.hid hdl
        clear hz ht hlz hdl
        go_upto_region 6 with fail
        have NQ := Lib.hid (NA.out.alloc (.cells #[.slice (some ⟨b, o + m, none⟩) 8 (c - m)] 87))
        have BUQ := Lib.hid (BU.out.alloc (.cells #[.slice (some ⟨b, o + m, none⟩) 8 (c - m)] 87))
        have BEQ := Lib.hid (BE.out.alloc (.cells #[.slice (some ⟨b, o + m, none⟩) 8 (c - m)] 87))
        have sQ : wP.heap.size + 1 ≤ (wP.alloc (.cells #[.slice (some ⟨b, o + m, none⟩) 8 (c - m)] 87)).heap.size := by simp
        have RQ := Lib.hid (show RdAt w.heap.size w (wP.alloc (.cells #[.slice (some ⟨b, o + m, none⟩) 8 (c - m)] 87)) wP.heap.size (le8 z) 0 from
          ⟨(In.self w).nw NQ.out, by omega, b, o + m, c - m, Blk.new wP _ _, hbl, by rw [le8_length]; omega, by omega, by rw [le8_length]; omega, fun i hi => by
            have h1 := HCE.out (m + i) (by rw [le8_length] at hi; rw [← HN.out]; omega)
            rw [Nat.add_assoc, h1]
            have h2 : (l.drop m)[i]'(by rw [HLZ.out]; exact hi) = l[m + i]'(by rw [le8_length] at hi; rw [← HN.out]; omega) := List.getElem_drop
            rw [← h2]
            simp only [HLZ.out]⟩)
        clear NA BU BE
        generalize wP.alloc (.cells #[.slice (some ⟨b, o + m, none⟩) 8 (c - m)] 87) = wQ at *
        generalize wP.heap.size = q at *
        have KQ := Lib.hid (show Kp (fun b => b = q) w wQ from Kp.mono NQ.out (fun _ _ x => x.elim))
        have SM := Lib.hid (fun (wz : World) (hz : Kp (fun b => b = q) wQ wz) => sum_any wz (.slice (some ⟨b, o, none⟩) m c) t (by
          rw [HTT.out]; exact bytesAt_kp (H.out.take (m := m) (by rw [← HN.out]; omega)) (KQ.out.thn hz) (fun x hx e => by omega)))
        obtain ⟨fs, hfs⟩ : ∃ fs, fs = fnv t := ⟨_, rfl⟩
        rw [← hfs] at SM
        have FS := Lib.hid hfs
        clear hfs
        by_cases hzf : z = fs
        rotate_left
        · obtain ⟨ne1, ne2, ne3, ne4⟩ := int_ne hzf
          have NO := Lib.hid (no_sum HL.out HZ.out (by rw [← FS.out]; exact hzf))
          clear hzf
          go_region_held3 (fun wz => Kp (fun b => b = q) wQ wz)
            (first | assumption | exact Kp.refl _ _ | exact (Kp.refl _ _).drew)
            (first
              | (go_at_call 46; refine (rnum8 HZ.out (RdAt.nw RQ.out (by repeat (first | exact Nw.refl _ | refine Nw.drew ?_)))).mono ?_; rintro e1 w1 ⟨rfl, hrd1, hk1⟩; have kk1 : Kp (fun b => b = q) wQ w1 := Kp.thn (by first | exact Kp.refl _ _ | exact (Kp.refl _ _).drew) hk1; clear hk1)
              | (go_at_call 36; refine (SM.out _ (by first | assumption | exact Kp.refl _ _)).mono ?_; rintro e2 w2 ⟨rfl, rfl⟩))
          have BU' := Lib.hid (Blk.kp BUQ.out (by assumption) (fun e => by omega))
          have BE' := Lib.hid (Blk.kp BEQ.out (by assumption) (fun e => by omega))
          have NF := Lib.hid (Kp.nw (KQ.out.thn (by assumption)) (by omega))
          have cU := BU'.out.cell
          have zU := BU'.out.frozen
          have cE := BE'.out.cell
          have zE := BE'.out.frozen
          go_wp2_with fail
          refine leaves_cons (f := 45) (args := #[.pointer (some ⟨w.heap.size, 0, none⟩), .pointer (some ⟨w.heap.size + 1, 0, none⟩)]) (by simp) (by simp [go_sem]) ?_
          refine (undo_idle w.heap.size (w.heap.size + 1) _).mono ?_
          rintro e u' w'' ⟨rfl, rfl, rfl⟩
          exact ⟨_, dec_results rfl rfl (Blk.setsO (Blk.sets BU'.out 0 [.string ⟨#[]⟩, .int .i64 0, .slice none 0 0, .slice none 0 0, .slice none 0 0, .slice none 0 0, .slice none 0 0]) (b' := w.heap.size + 1) (by omega) 0 [.int .i64 4]) (Blk.sets (Blk.setsO BE'.out (b' := w.heap.size) (by omega) 0 [.string ⟨#[]⟩, .int .i64 0, .slice none 0 0, .slice none 0 0, .slice none 0 0, .slice none 0 0, .slice none 0 0]) 0 [.int .i64 4]), .inr ⟨rfl, NO.out, Kp.sets (Kp.sets NF.out (fun h => by omega) 0 [.string ⟨#[]⟩, .int .i64 0, .slice none 0 0, .slice none 0 0, .slice none 0 0, .slice none 0 0, .slice none 0 0]) (fun h => by omega) 0 [.int .i64 4]⟩⟩
        · have HS := Lib.hid (show z = fnv t by rw [← FS.out]; exact hzf)
          subst hzf
          go_region_held3 (fun wz => Kp (fun b => b = q) wQ wz)
            (first | assumption | exact Kp.refl _ _ | exact (Kp.refl _ _).drew)
            (first
              | (go_at_call 46; refine (rnum8 HZ.out (RdAt.nw RQ.out (by repeat (first | exact Nw.refl _ | refine Nw.drew ?_)))).mono ?_; rintro e1 w1 ⟨rfl, hrd1, hk1⟩; have kk1 : Kp (fun b => b = q) wQ w1 := Kp.thn (by first | exact Kp.refl _ _ | exact (Kp.refl _ _).drew) hk1; clear hk1)
              | (go_at_call 36; refine (SM.out _ (by first | assumption | exact Kp.refl _ _)).mono ?_; rintro e2 w2 ⟨rfl, rfl⟩))
          have K8 := Lib.hid (KQ.out.thn kk1)
          have BU' := Lib.hid (Blk.kp BUQ.out kk1 (fun e => by omega))
          have BE' := Lib.hid (Blk.kp BEQ.out kk1 (fun e => by omega))
          have s8 := Nat.le_trans sQ kk1.size
          have R8 := Lib.hid hrd1
          obtain ⟨_, _, b8, o8, c8, hb8, _⟩ := hrd1
          have B8 := Lib.hid hb8
          have f8 := hb8.cell 0
          have z8 := hb8.frozen
          simp only [List.getElem?_cons_zero, List.getElem?_cons_succ] at f8
          clear hb8
          go_upto_region 9 with fail
          obtain ⟨r, hr⟩ : ∃ r, r = t.drop 4 := ⟨_, rfl⟩
          have HR := Lib.hid hr
          have hrl : r.length = m - 4 := by rw [hr, HTT.out, List.length_drop, List.length_take, ← HN.out]; omega
          have R9 := Lib.hid (show RdAt w.heap.size w (w1.setCell ⟨q, 0, none⟩ (.slice (some ⟨b, o + 4, none⟩) (m - 4) (c - 4))) q r 0 from
            ⟨R8.out.1.kp ((Kp.refl (fun x => x = q) w1).setCell (p := ⟨q, 0, none⟩) (fun _ => rfl) _) (fun x hx e => by omega), by omega, b, o + 4, c - 4, by
              have := B8.out.set 0 (.slice (some ⟨b, o + 4, none⟩) (m - 4) (c - 4))
              rw [hrl]; exact this, hbl, by omega, by omega, by omega, fun i hi => by
              have h1 := HCE.out (4 + i) (by rw [← HN.out]; omega)
              rw [Nat.add_assoc, h1]
              simp only [hr, HTT.out, List.getElem_drop, List.getElem_take]⟩)
          have K9 := Lib.hid (K8.out.setCell (p := ⟨q, 0, none⟩) (fun _ => rfl) (.slice (some ⟨b, o + 4, none⟩) (m - 4) (c - 4)))
          have DU9 := Lib.hid (BU'.out.setOther (a := ⟨q, 0, none⟩) (by simp only; omega) (.slice (some ⟨b, o + 4, none⟩) (m - 4) (c - 4)))
          have DE9 := Lib.hid (BE'.out.setOther (a := ⟨q, 0, none⟩) (by simp only; omega) (.slice (some ⟨b, o + 4, none⟩) (m - 4) (c - 4)))
          have s9 : q + 1 ≤ (w1.setCell ⟨q, 0, none⟩ (.slice (some ⟨b, o + 4, none⟩) (m - 4) (c - 4))).heap.size := by rw [size_set]; exact s8
          clear hr hrl
          generalize w1.setCell ⟨q, 0, none⟩ (.slice (some ⟨b, o + 4, none⟩) (m - 4) (c - 4)) = wS at *
          clear R8 K8 BU' BE' B8 f8 z8
          have cD := DU9.out.cell
          have zD := DU9.out.frozen
          have cE := DE9.out.cell
          have zE := DE9.out.frozen
          go_wp2_with fail
          refine (tobject wS r R9.out).mono ?_
          rintro e3 w3 (⟨ob, rn, _, rfl, hok, hre, ⟨cs, rfl, hcs⟩, hrd, hk⟩ | ⟨rfl, hno, hk⟩)
          rotate_left
          · have NO := Lib.hid (no_rest HL.out HZ.out (by rw [← HR.out]; exact no_fail hno))
            have KF := Lib.hid (Kp.nw (K9.out.thn hk) (by omega))
            have FD := Lib.hid (DU9.out.kp hk (fun e => by omega))
            have FE := Lib.hid (DE9.out.kp hk (fun e => by omega))
            clear hno hk
            unfold PAN
            go_wp2_with fail
            refine leaves_cons (f := 45) (args := #[.pointer (some ⟨w.heap.size, 0, none⟩), .pointer (some ⟨w.heap.size + 1, 0, none⟩)]) (by simp) (by simp [go_sem]) ?_
            refine (undo_panicking w.heap.size (w.heap.size + 1) _ _ [] w3 FD.out FE.out rfl rfl (by omega)).mono ?_
            rintro e u' w'' ⟨rfl, rfl, rfl⟩
            have FU := Blk.setsO (Blk.sets FD.out 0 [.string ⟨#[]⟩, .int .i64 0, .slice none 0 0, .slice none 0 0, .slice none 0 0, .slice none 0 0, .slice none 0 0]) (b' := w.heap.size + 1) (by omega) 0 [.int .i64 4]
            have FF := Blk.sets (Blk.setsO FE.out (b' := w.heap.size) (by omega) 0 [.string ⟨#[]⟩, .int .i64 0, .slice none 0 0, .slice none 0 0, .slice none 0 0, .slice none 0 0, .slice none 0 0]) 0 [.int .i64 4]
            exact ⟨_, dec_results rfl rfl FU FF, .inr ⟨rfl, NO.out, Kp.sets (Kp.sets KF.out (fun h => by omega) 0 [.string ⟨#[]⟩, .int .i64 0, .slice none 0 0, .slice none 0 0, .slice none 0 0, .slice none 0 0, .slice none 0 0]) (fun h => by omega) 0 [.int .i64 4]⟩⟩
          · have OKO := Lib.hid hok
            have HRE := Lib.hid hre
            have OT := Lib.hid hcs
            obtain ⟨vi, vs, vr, vc, vd, rfl, _, _, g2, g3, g4, g5, g6⟩ := hcs
            obtain ⟨x2, m2, c2, rfl⟩ := SlT.slice g2
            obtain ⟨x3, m3, c3, rfl⟩ := SlT.slice g3
            obtain ⟨x4, m4, c4, rfl⟩ := SlT.slice g4
            obtain ⟨x5, m5, c5, rfl⟩ := SlT.slice g5
            obtain ⟨x6, m6, c6, rfl⟩ := SlT.slice g6
            have K3 := Lib.hid (K9.out.thn hk)
            have s3 := Nat.le_trans s9 hk.size
            have D3 := Lib.hid (DU9.out.kp hk (fun e => by omega))
            have E3 := Lib.hid (DE9.out.kp hk (fun e => by omega))
            have R3 := Lib.hid hrd
            have HK := Lib.hid hk
            clear hok hre hrd hk g2 g3 g4 g5 g6 cD zD cE zE
            have cD := D3.out.cell
            have zD := D3.out.frozen
            go_upto_region 10 with fail
            have KS := Lib.hid (Kp.sets (Kp.refl (fun b => b = w.heap.size) w3) (b := w.heap.size) (fun _ => rfl) 0 [.string ob.pkg, .int .i64 ob.hash, .slice x2 m2 c2, .slice x3 m3 c3, .slice x4 m4 c4, .slice x5 m5 c5, .slice x6 m6 c6])
            have D4 := Lib.hid (show Blk (((((((w3.setCell ⟨w.heap.size, 0, none⟩ (.string ob.pkg)).setCell ⟨w.heap.size, 1, none⟩ (.int .i64 ob.hash)).setCell ⟨w.heap.size, 2, none⟩ (.slice x2 m2 c2)).setCell ⟨w.heap.size, 3, none⟩ (.slice x3 m3 c3)).setCell ⟨w.heap.size, 4, none⟩ (.slice x4 m4 c4)).setCell ⟨w.heap.size, 5, none⟩ (.slice x5 m5 c5)).setCell ⟨w.heap.size, 6, none⟩ (.slice x6 m6 c6)) w.heap.size [.string ob.pkg, .int .i64 ob.hash, .slice x2 m2 c2, .slice x3 m3 c3, .slice x4 m4 c4, .slice x5 m5 c5, .slice x6 m6 c6] 27 from Blk.sets D3.out 0 [.string ob.pkg, .int .i64 ob.hash, .slice x2 m2 c2, .slice x3 m3 c3, .slice x4 m4 c4, .slice x5 m5 c5, .slice x6 m6 c6])
            have E4 := Lib.hid (show Blk (((((((w3.setCell ⟨w.heap.size, 0, none⟩ (.string ob.pkg)).setCell ⟨w.heap.size, 1, none⟩ (.int .i64 ob.hash)).setCell ⟨w.heap.size, 2, none⟩ (.slice x2 m2 c2)).setCell ⟨w.heap.size, 3, none⟩ (.slice x3 m3 c3)).setCell ⟨w.heap.size, 4, none⟩ (.slice x4 m4 c4)).setCell ⟨w.heap.size, 5, none⟩ (.slice x5 m5 c5)).setCell ⟨w.heap.size, 6, none⟩ (.slice x6 m6 c6)) (w.heap.size + 1) [.int .i64 0] 31 from Blk.setsO E3.out (b' := w.heap.size) (by omega) 0 [.string ob.pkg, .int .i64 ob.hash, .slice x2 m2 c2, .slice x3 m3 c3, .slice x4 m4 c4, .slice x5 m5 c5, .slice x6 m6 c6])
            have R4 := Lib.hid (show RdAt w.heap.size w (((((((w3.setCell ⟨w.heap.size, 0, none⟩ (.string ob.pkg)).setCell ⟨w.heap.size, 1, none⟩ (.int .i64 ob.hash)).setCell ⟨w.heap.size, 2, none⟩ (.slice x2 m2 c2)).setCell ⟨w.heap.size, 3, none⟩ (.slice x3 m3 c3)).setCell ⟨w.heap.size, 4, none⟩ (.slice x4 m4 c4)).setCell ⟨w.heap.size, 5, none⟩ (.slice x5 m5 c5)).setCell ⟨w.heap.size, 6, none⟩ (.slice x6 m6 c6)) q rn 0 from R3.out.sets2 (b := w.heap.size) (by omega) (by omega) 0 [.string ob.pkg, .int .i64 ob.hash, .slice x2 m2 c2, .slice x3 m3 c3, .slice x4 m4 c4, .slice x5 m5 c5, .slice x6 m6 c6])
            have K4 := Lib.hid (show Nw w (((((((w3.setCell ⟨w.heap.size, 0, none⟩ (.string ob.pkg)).setCell ⟨w.heap.size, 1, none⟩ (.int .i64 ob.hash)).setCell ⟨w.heap.size, 2, none⟩ (.slice x2 m2 c2)).setCell ⟨w.heap.size, 3, none⟩ (.slice x3 m3 c3)).setCell ⟨w.heap.size, 4, none⟩ (.slice x4 m4 c4)).setCell ⟨w.heap.size, 5, none⟩ (.slice x5 m5 c5)).setCell ⟨w.heap.size, 6, none⟩ (.slice x6 m6 c6)) from Kp.nw (Kp.sets K3.out (b := w.heap.size) (fun h => by omega) 0 [.string ob.pkg, .int .i64 ob.hash, .slice x2 m2 c2, .slice x3 m3 c3, .slice x4 m4 c4, .slice x5 m5 c5, .slice x6 m6 c6]) (by omega))
            have s4 : q + 1 ≤ (((((((w3.setCell ⟨w.heap.size, 0, none⟩ (.string ob.pkg)).setCell ⟨w.heap.size, 1, none⟩ (.int .i64 ob.hash)).setCell ⟨w.heap.size, 2, none⟩ (.slice x2 m2 c2)).setCell ⟨w.heap.size, 3, none⟩ (.slice x3 m3 c3)).setCell ⟨w.heap.size, 4, none⟩ (.slice x4 m4 c4)).setCell ⟨w.heap.size, 5, none⟩ (.slice x5 m5 c5)).setCell ⟨w.heap.size, 6, none⟩ (.slice x6 m6 c6)).heap.size := Nat.le_trans s3 KS.out.size
            have OT4 := Lib.hid (show ObT (fun b => w.heap.size + 2 ≤ b ∧ b < (((((((w3.setCell ⟨w.heap.size, 0, none⟩ (.string ob.pkg)).setCell ⟨w.heap.size, 1, none⟩ (.int .i64 ob.hash)).setCell ⟨w.heap.size, 2, none⟩ (.slice x2 m2 c2)).setCell ⟨w.heap.size, 3, none⟩ (.slice x3 m3 c3)).setCell ⟨w.heap.size, 4, none⟩ (.slice x4 m4 c4)).setCell ⟨w.heap.size, 5, none⟩ (.slice x5 m5 c5)).setCell ⟨w.heap.size, 6, none⟩ (.slice x6 m6 c6)).heap.size) (((((((w3.setCell ⟨w.heap.size, 0, none⟩ (.string ob.pkg)).setCell ⟨w.heap.size, 1, none⟩ (.int .i64 ob.hash)).setCell ⟨w.heap.size, 2, none⟩ (.slice x2 m2 c2)).setCell ⟨w.heap.size, 3, none⟩ (.slice x3 m3 c3)).setCell ⟨w.heap.size, 4, none⟩ (.slice x4 m4 c4)).setCell ⟨w.heap.size, 5, none⟩ (.slice x5 m5 c5)).setCell ⟨w.heap.size, 6, none⟩ (.slice x6 m6 c6)) ob [.string ob.pkg, .int .i64 ob.hash, .slice x2 m2 c2, .slice x3 m3 c3, .slice x4 m4 c4, .slice x5 m5 c5, .slice x6 m6 c6] from carry_Ob _ _ _ _ _ _ (fun b hb => ⟨by omega, Nat.lt_of_lt_of_le hb.2 KS.out.size⟩) (fun b hb => KS.out.block b hb.2 (fun e => by omega)) OT.out)
            clear KS D3 E3 R3 K3 OT HK cD zD s3
            generalize (((((((w3.setCell ⟨w.heap.size, 0, none⟩ (.string ob.pkg)).setCell ⟨w.heap.size, 1, none⟩ (.int .i64 ob.hash)).setCell ⟨w.heap.size, 2, none⟩ (.slice x2 m2 c2)).setCell ⟨w.heap.size, 3, none⟩ (.slice x3 m3 c3)).setCell ⟨w.heap.size, 4, none⟩ (.slice x4 m4 c4)).setCell ⟨w.heap.size, 5, none⟩ (.slice x5 m5 c5)).setCell ⟨w.heap.size, 6, none⟩ (.slice x6 m6 c6)) = wT at *
            have hrdq := R4.out
            obtain ⟨_, _, bq, oq, cq, hbq, _⟩ := hrdq
            have fq := hbq.cell 0
            simp only [List.getElem?_cons_zero, List.getElem?_cons_succ] at fq
            clear hbq
            have cU := D4.out.cell
            have zU := D4.out.frozen
            have cE := E4.out.cell
            have zE := E4.out.frozen
            by_cases hrn : rn = []
            · subst hrn
              simp only [List.length_nil] at fq
              have VA := Lib.hid (valid_any (B := wT.heap.size) (W := wT) (w := wT) ob [.string ob.pkg, .int .i64 ob.hash, .slice x2 m2 c2, .slice x3 m3 c3, .slice x4 m4 c4, .slice x5 m5 c5, .slice x6 m6 c6] (at_Ob (fun b hb => hb.2) OT4.out) (In.self wT))
              by_cases hcv : codeV ob = 0
              · have HCV := Lib.hid hcv
                rw [hcv] at VA
                clear hcv
                go_wp2_with fail
                refine VA.out.mono ?_
                rintro e5 w5 ⟨rfl, k5⟩
                have K5 := Lib.hid k5
                have D5 := Lib.hid (D4.out.nw k5)
                have E5 := Lib.hid (E4.out.nw k5)
                clear k5 cU zU cE zE fq
                have cU := D5.out.cell
                have zU := D5.out.frozen
                have cE := E5.out.cell
                have zE := E5.out.frozen
                go_upto_region 12 with fail
                have u0c := cU 0
                have u1c := cU 1
                have u2c := cU 2
                have u3c := cU 3
                have u4c := cU 4
                have u5c := cU 5
                have u6c := cU 6
                simp only [List.getElem?_cons_zero, List.getElem?_cons_succ] at u0c u1c u2c u3c u4c u5c u6c
                have FU := Lib.hid (Blk.setsO (Blk.sets D5.out 0 [.string ob.pkg, .int .i64 ob.hash, .slice x2 m2 c2, .slice x3 m3 c3, .slice x4 m4 c4, .slice x5 m5 c5, .slice x6 m6 c6]) (b' := w.heap.size + 1) (by omega) 0 [.int .i64 0])
                have FF := Lib.hid (Blk.sets (Blk.setsO E5.out (b' := w.heap.size) (by omega) 0 [.string ob.pkg, .int .i64 ob.hash, .slice x2 m2 c2, .slice x3 m3 c3, .slice x4 m4 c4, .slice x5 m5 c5, .slice x6 m6 c6]) 0 [.int .i64 0])
                have KF := Lib.hid (show Kp (fun b => b = w.heap.size ∨ b = w.heap.size + 1) wT (lays (lays w5 w.heap.size 0 [.string ob.pkg, .int .i64 ob.hash, .slice x2 m2 c2, .slice x3 m3 c3, .slice x4 m4 c4, .slice x5 m5 c5, .slice x6 m6 c6]) (w.heap.size + 1) 0 [.int .i64 0]) from Kp.sets (Kp.sets (K5.out.mono (fun _ _ x => x.elim)) (b := w.heap.size) (fun _ => .inl rfl) 0 [.string ob.pkg, .int .i64 ob.hash, .slice x2 m2 c2, .slice x3 m3 c3, .slice x4 m4 c4, .slice x5 m5 c5, .slice x6 m6 c6]) (b := w.heap.size + 1) (fun _ => .inr rfl) 0 [.int .i64 0])
                have FIN := Lib.hid (show DecP w l (.returned (.tuple #[.agg #[.string ob.pkg, .int .i64 ob.hash, .slice x2 m2 c2, .slice x3 m3 c3, .slice x4 m4 c4, .slice x5 m5 c5, .slice x6 m6 c6], .int .i64 0])) (lays (lays w5 w.heap.size 0 [.string ob.pkg, .int .i64 ob.hash, .slice x2 m2 c2, .slice x3 m3 c3, .slice x4 m4 c4, .slice x5 m5 c5, .slice x6 m6 c6]) (w.heap.size + 1) 0 [.int .i64 0]) from
                  .inl ⟨ob, [.string ob.pkg, .int .i64 ob.hash, .slice x2 m2 c2, .slice x3 m3 c3, .slice x4 m4 c4, .slice x5 m5 c5, .slice x6 m6 c6], rfl, OKO.out, HCV.out, dec_yes HL.out HS.out HM.out HT.out (by rw [← HR.out, HRE.out, List.append_nil]), HLN.out, carry_Ob _ _ _ _ _ _ (fun b hb => ⟨by omega, Nat.lt_of_lt_of_le hb.2 KF.out.size⟩) (fun b hb => KF.out.block b hb.2 (by rintro (e | e) <;> omega)) OT4.out, Kp.trans K4.out KF.out (fun x hx e => by rcases e with e | e <;> omega)⟩)
                go_wp2_with fail
                refine leaves_cons (f := 45) (args := #[.pointer (some ⟨w.heap.size, 0, none⟩), .pointer (some ⟨w.heap.size + 1, 0, none⟩)]) (by simp) (by simp [go_sem]) ?_
                refine (undo_idle w.heap.size (w.heap.size + 1) _).mono ?_
                rintro e u' w'' ⟨rfl, rfl, rfl⟩
                exact ⟨_, dec_results rfl rfl FU.out FF.out, FIN.out⟩
              · have NO := Lib.hid (no_rest HL.out HZ.out (by rw [← HR.out]; exact no_bad OKO.out HRE.out hcv))
                obtain ⟨cv, hce⟩ : ∃ n, n = codeV ob := ⟨_, rfl⟩
                rw [← hce] at hcv VA
                obtain ⟨vn1, vn2, vn3, vn4⟩ := int_ne hcv
                clear hce hcv
                go_wp2_with fail
                refine VA.out.mono ?_
                rintro e5 w5 ⟨rfl, k5⟩
                have K5 := Lib.hid (K4.out.trans k5)
                have D5 := Lib.hid (D4.out.nw k5)
                have E5 := Lib.hid (E4.out.nw k5)
                clear k5 cU zU cE zE fq
                have cU := D5.out.cell
                have zU := D5.out.frozen
                have cE := E5.out.cell
                have zE := E5.out.frozen
                go_wp2_with fail
                refine leaves_cons (f := 45) (args := #[.pointer (some ⟨w.heap.size, 0, none⟩), .pointer (some ⟨w.heap.size + 1, 0, none⟩)]) (by simp) (by simp [go_sem]) ?_
                refine (undo_idle w.heap.size (w.heap.size + 1) _).mono ?_
                rintro e u' w'' ⟨rfl, rfl, rfl⟩
                exact ⟨_, dec_results rfl rfl (Blk.setsO (Blk.sets D5.out 0 [.string ⟨#[]⟩, .int .i64 0, .slice none 0 0, .slice none 0 0, .slice none 0 0, .slice none 0 0, .slice none 0 0]) (b' := w.heap.size + 1) (by omega) 0 [.int .i64 4]) (Blk.sets (Blk.setsO E5.out (b' := w.heap.size) (by omega) 0 [.string ⟨#[]⟩, .int .i64 0, .slice none 0 0, .slice none 0 0, .slice none 0 0, .slice none 0 0, .slice none 0 0]) 0 [.int .i64 4]), .inr ⟨rfl, NO.out, Kp.sets (Kp.sets K5.out (fun h => by omega) 0 [.string ⟨#[]⟩, .int .i64 0, .slice none 0 0, .slice none 0 0, .slice none 0 0, .slice none 0 0, .slice none 0 0]) (fun h => by omega) 0 [.int .i64 4]⟩⟩
            · have hrp : (0 : Int) < (rn.length : Int) := by have := List.length_pos_iff.2 hrn; omega
              have NO := Lib.hid (no_rest HL.out HZ.out (by rw [← HR.out]; exact no_more OKO.out HRE.out hrn))
              clear hrn
              obtain ⟨nr, hnr⟩ : ∃ nr, nr = rn.length := ⟨_, rfl⟩
              rw [← hnr] at fq hrp
              clear hnr
              obtain ⟨nk, rfl⟩ : ∃ nk, nr = nk + 1 := ⟨nr - 1, by omega⟩
              clear hrp
              have hrp : (0 : Int) < (nk : Int) + 1 := by omega
              go_wp2_with fail
              refine leaves_cons (f := 45) (args := #[.pointer (some ⟨w.heap.size, 0, none⟩), .pointer (some ⟨w.heap.size + 1, 0, none⟩)]) (by simp) (by simp [go_sem]) ?_
              refine (undo_idle w.heap.size (w.heap.size + 1) _).mono ?_
              rintro e u' w'' ⟨rfl, rfl, rfl⟩
              exact ⟨_, dec_results rfl rfl (Blk.setsO (Blk.sets D4.out 0 [.string ⟨#[]⟩, .int .i64 0, .slice none 0 0, .slice none 0 0, .slice none 0 0, .slice none 0 0, .slice none 0 0]) (b' := w.heap.size + 1) (by omega) 0 [.int .i64 4]) (Blk.sets (Blk.setsO E4.out (b' := w.heap.size) (by omega) 0 [.string ⟨#[]⟩, .int .i64 0, .slice none 0 0, .slice none 0 0, .slice none 0 0, .slice none 0 0, .slice none 0 0]) 0 [.int .i64 4]), .inr ⟨rfl, NO.out, Kp.sets (Kp.sets K4.out (fun h => by omega) 0 [.string ⟨#[]⟩, .int .i64 0, .slice none 0 0, .slice none 0 0, .slice none 0 0, .slice none 0 0, .slice none 0 0]) (fun h => by omega) 0 [.int .i64 4]⟩⟩
end Go.Proofs.Ytfdjlicegfgodaa
