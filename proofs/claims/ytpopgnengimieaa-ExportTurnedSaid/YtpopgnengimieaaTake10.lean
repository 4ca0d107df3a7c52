/- Reading a unit's bytes: Decode. -/
import Derived.Test.YtpopgnengimieaaTake9
import Derived.Lib.SmallJoins
namespace Go.Proofs.Ytpopgnengimieaa
open Go.RowKit
set_option linter.unusedSimpArgs false
set_option linter.unusedVariables false

/-- no unit has these bytes -/
def NoDec (l : List UInt8) : Prop := ∀ u, OkUn u → l.length ≤ 262144 → encB u ≠ l
def DecP (w : World) (l : List UInt8) (e : Ending) (w' : World) : Prop :=
  (∃ u cs, e = .returned (.tuple #[.agg cs.toArray, .int .i64 0]) ∧ OkUn u ∧ encB u = l ∧ l.length ≤ 262144 ∧ UnT (fun b => w.heap.size ≤ b ∧ b < w'.heap.size) w' u cs ∧ Nw w w') ∨
  (e = .returned (.tuple #[.agg #[.string ⟨#[]⟩, .slice none 0 0, .slice none 0 0, .slice none 0 0], .int .i64 4]) ∧ NoDec l ∧ Nw w w')
theorem encUn_take (u : Un) : (encUn u).take 4 = [77, 85, 49, 10] := by
  unfold encUn; simp
theorem encUn_len (u : Un) : 4 ≤ (encUn u).length := by
  unfold encUn; simp only [List.length_append]; simp; omega
theorem encB_len (u : Un) : (encB u).length = (encUn u).length + 8 := by
  unfold encB; rw [List.length_append, le8_length]
theorem no_short {l : List UInt8} (h : l.length < 12) : NoDec l := by
  intro u _ _ e
  have h1 := encB_len u
  have h2 := encUn_len u
  rw [e] at h1
  omega
theorem no_long {l : List UInt8} (h : 262144 < l.length) : NoDec l := fun u _ hl _ => by omega
theorem no_mark {l : List UInt8} (h : ¬ l.take 4 = [77, 85, 49, 10]) : NoDec l := by
  intro u _ _ e
  apply h
  rw [← e]
  unfold encB
  rw [List.take_append_of_le_length (encUn_len u)]
  exact encUn_take u
theorem fnv_I64 (l : List UInt8) : I64 (fnv l) := by rw [← fnv_wrap]; exact wrap_i64 _
theorem dec_parts {l t : List UInt8} {z : Int} (hl : l = t ++ le8 z) (hz : I64 z) {u : Un} (e : encB u = l) : encUn u = t ∧ fnv t = z := by
  rw [hl] at e
  unfold encB at e
  obtain ⟨e1, e2⟩ := List.append_inj' e (by rw [le8_length, le8_length])
  exact ⟨e1, by rw [← e1]; exact le8_inj (fnv_I64 _) hz e2⟩
theorem no_sum {l t : List UInt8} {z : Int} (hl : l = t ++ le8 z) (hz : I64 z) (hne : ¬ z = fnv t) : NoDec l := fun u _ _ e => hne (dec_parts hl hz e).2.symm
def encR (u : Un) : List UInt8 := encS u.pkg ++ encL encIm u.imports ++ encL encDe u.decls ++ encL encFn u.bodies
theorem encUn_mk (a : ByteArray) (b : List Im) (c : List De) (d : List Fn1) : encR ⟨a, b, c, d⟩ = encS a ++ encL encIm b ++ encL encDe c ++ encL encFn d := rfl
theorem encUn_R (u : Un) : encUn u = [77, 85, 49, 10] ++ encR u := by unfold encUn encR; simp only [List.append_assoc]
theorem no_rest {l t : List UInt8} {z : Int} (hl : l = t ++ le8 z) (hz : I64 z) (hno : ∀ u, OkUn u → encR u ≠ t.drop 4) : NoDec l := by
  intro u hu _ e
  have h := (dec_parts hl hz e).1
  rw [encUn_R] at h
  refine hno u hu ?_
  rw [← h]; simp
theorem no_more {r rn : List UInt8} {u : Un} (hu : OkUn u) (hr : r = encR u ++ rn) (hne : rn ≠ []) : ∀ v, OkUn v → encR v ≠ r := by
  intro v hv e
  have h1 : encUn v ++ [] = encUn u ++ rn := by rw [encUn_R, encUn_R, List.append_nil, List.append_assoc, e, hr]
  exact hne (pi_OkUn v u hv hu _ _ h1).2.symm
theorem dec_yes {l t : List UInt8} {z : Int} {u : Un} (hl : l = t ++ le8 z) (hs : z = fnv t) (hm : l.take 4 = [77, 85, 49, 10]) (ht : 4 ≤ t.length) (hr : t.drop 4 = encR u) : encB u = l := by
  have h1 : t.take 4 = [77, 85, 49, 10] := by rw [hl, List.take_append_of_le_length ht] at hm; exact hm
  have h2 : encUn u = t := by rw [encUn_R, ← hr, ← h1, List.take_append_drop]
  unfold encB
  rw [h2, hl, hs]
theorem bytesAt_kp {S : Nat → Prop} {w w' : World} {v : Value} {l : List UInt8} (h : BytesAt w v l) (k : Kp S w w') (hs : ∀ b, b < w.heap.size → ¬ S b) : BytesAt w' v l := by
  obtain ⟨x, cap, h1, h2, h3, h4⟩ := h
  refine ⟨x, cap, h1, h2, h3, fun hne => ?_⟩
  obtain ⟨b, o, h5, h6⟩ := h4 hne
  exact ⟨b, o, h5, fun i hi => k.keeps (h6 i hi) (hs _ (World.block_lt_of_cell? w _ (h6 i hi)))⟩
theorem RdAt.sets2 {B : Nat} {W w : World} {q : Nat} {r : List UInt8} {k : Int} (h : RdAt B W w q r k) {b : Nat} (hq : q ≠ b) (hB : B ≤ b) (o : Nat) (vs : List Value) : RdAt B W (lays w b o vs) q r k :=
  h.kp ((Kp.refl (fun x => x = b) w).sets (fun _ => rfl) o vs) (fun x hx e => by omega) (fun e => hq e)
theorem Kp.nw {q : Nat} {w w' : World} (h : Kp (fun b => b = q) w w') (hq : w.heap.size ≤ q) : Nw w w' := Kp.mono h (fun x hx e => by omega)
theorem dec_results {tmps : Array Value} {w : World} {pu pe : Nat} {a b c d e0 : Value} (h2 : tmps[2]?.getD undef = .pointer (some ⟨pu, 0, none⟩)) (h3 : tmps[3]?.getD undef = .pointer (some ⟨pe, 0, none⟩))
    (hu : Blk w pu [a, b, c, d] 30) (he : Blk w pe [e0] 32) : (results Try.f15 tmps).run Try.prog w = .ok (.tuple #[.agg #[a, b, c, d], e0]) w := by
  have f0 := hu.cell 0
  have f1 := hu.cell 1
  have f2 := hu.cell 2
  have f3 := hu.cell 3
  have g0 := he.cell 0
  simp only [List.getElem?_cons_zero, List.getElem?_cons_succ] at f0 f1 f2 f3 g0
  simp [results, Try.results15, go_sem, h2, h3, f0, f1, f2, f3, g0]
/-- eight bytes are a number -/
theorem rnum8 {B : Nat} {W w : World} {q : Nat} {z : Int} {k : Int} (hz : I64 z) (h : RdAt B W w q (le8 z) k) :
    Calls Try.prog 33 #[.pointer (some ⟨q, 0, none⟩)] w fun e w' => e = .returned (.int .i64 z) ∧ RdAt B W w' q [] k ∧ Kp (fun b => b = q) w w' := by
  refine (rnum h).mono ?_
  rintro e w' (⟨x, r', v, rfl, hx, hr, rfl, hrd, hk⟩ | ⟨_, hno, _⟩)
  · obtain ⟨e1, e2⟩ := le8_pi (r := []) hz hx (by rw [List.append_nil]; exact hr)
    subst e1 e2
    exact ⟨rfl, hrd, hk⟩
  · exact absurd (List.append_nil (le8 z)).symm (hno z [] hz)

set_option maxRecDepth 100000 in
set_option maxHeartbeats 8000000 in
theorem decode_any (w : World) (v : Value) (l : List UInt8) (h : BytesAt w v l) :
    Calls Try.prog 15 #[v] w (DecP w l) := by
  have hmf : ∀ (fn : Fn) (first cap : Array Value) (w : World), (Instr.makeFunc fn first cap).run Try.prog w = .ok (.func fn first cap) w := fun _ _ _ _ => rfl
  have H := Lib.hid h
  obtain ⟨x, c, rfl, hlc, hm, hcell⟩ := h
  have HC := Lib.hid hcell
  obtain ⟨n, hn⟩ : ∃ n, n = l.length := ⟨_, rfl⟩
  rw [← hn] at hlc H ⊢
  have HN := Lib.hid hn
  have hmm : n ≤ 9223372036854775807 := by unfold maxLen at hm; omega
  clear hcell hn
  have NA := Lib.hid (((Nw.refl w).alloc (.cells #[.string ⟨#[]⟩, .slice none 0 0, .slice none 0 0, .slice none 0 0] 30)).alloc (.cells #[.int .i64 0] 32))
  have BU := Lib.hid ((Blk.new w [.string ⟨#[]⟩, .slice none 0 0, .slice none 0 0, .slice none 0 0] 30).alloc (.cells #[.int .i64 0] 32))
  have BE := Lib.hid (show Blk ((w.alloc (.cells #[.string ⟨#[]⟩, .slice none 0 0, .slice none 0 0, .slice none 0 0] 30)).alloc (.cells #[.int .i64 0] 32)) (w.heap.size + 1) [.int .i64 0] 32 by
    have := Blk.new (w.alloc (.cells #[.string ⟨#[]⟩, .slice none 0 0, .slice none 0 0, .slice none 0 0] 30)) [.int .i64 0] 32
    rw [size_alloc] at this; exact this)
  have sA : w.heap.size + 2 ≤ ((w.alloc (.cells #[.string ⟨#[]⟩, .slice none 0 0, .slice none 0 0, .slice none 0 0] 30)).alloc (.cells #[.int .i64 0] 32)).heap.size := by simp
  by_cases h12 : n < 12
  · have hq : (n : Int) < 12 := by omega
    have NO := Lib.hid (no_short (l := l) (by rw [← HN.out]; exact h12))
    go_enter_defers Try.func15, Try.ntmps15
    go_upto_region 2 with fail
    generalize ((w.alloc (.cells #[.string ⟨#[]⟩, .slice none 0 0, .slice none 0 0, .slice none 0 0] 30)).alloc (.cells #[.int .i64 0] 32)) = wA at *
    have cU := BU.out.cell
    have zU := BU.out.frozen
    have cE := BE.out.cell
    have zE := BE.out.frozen
    go_wp2_with fail
    refine ⟨_, dec_results rfl rfl (Blk.setsO (Blk.sets BU.out 0 [.string ⟨#[]⟩, .slice none 0 0, .slice none 0 0, .slice none 0 0]) (b' := w.heap.size + 1) (by omega) 0 [.int .i64 4]) (Blk.sets (Blk.setsO BE.out (b' := w.heap.size) (by omega) 0 [.string ⟨#[]⟩, .slice none 0 0, .slice none 0 0, .slice none 0 0]) 0 [.int .i64 4]), .inr ⟨rfl, NO.out, Kp.sets (Kp.sets NA.out (fun h => by omega) 0 [.string ⟨#[]⟩, .slice none 0 0, .slice none 0 0, .slice none 0 0]) (fun h => by omega) 0 [.int .i64 4]⟩⟩
  · by_cases h26 : 262144 < n
    · have hq : ¬ (n : Int) < 12 := by omega
      have hq2 : (262144 : Int) < (n : Int) := by omega
      have NO := Lib.hid (no_long (l := l) (by rw [← HN.out]; exact h26))
      go_enter_defers Try.func15, Try.ntmps15
      go_upto_region 2 with fail
      generalize ((w.alloc (.cells #[.string ⟨#[]⟩, .slice none 0 0, .slice none 0 0, .slice none 0 0] 30)).alloc (.cells #[.int .i64 0] 32)) = wA at *
      have cU := BU.out.cell
      have zU := BU.out.frozen
      have cE := BE.out.cell
      have zE := BE.out.frozen
      go_wp2_with fail
      refine ⟨_, dec_results rfl rfl (Blk.setsO (Blk.sets BU.out 0 [.string ⟨#[]⟩, .slice none 0 0, .slice none 0 0, .slice none 0 0]) (b' := w.heap.size + 1) (by omega) 0 [.int .i64 4]) (Blk.sets (Blk.setsO BE.out (b' := w.heap.size) (by omega) 0 [.string ⟨#[]⟩, .slice none 0 0, .slice none 0 0, .slice none 0 0]) 0 [.int .i64 4]), .inr ⟨rfl, NO.out, Kp.sets (Kp.sets NA.out (fun h => by omega) 0 [.string ⟨#[]⟩, .slice none 0 0, .slice none 0 0, .slice none 0 0]) (fun h => by omega) 0 [.int .i64 4]⟩⟩
    · obtain ⟨b, o, rfl, hcell⟩ := HC.out (by intro e; rw [e] at HN; have := HN.out; simp at this; omega)
      have hq : ¬ (n : Int) < 12 := by omega
      have hq2 : ¬ (262144 : Int) < (n : Int) := by omega
      have hbl : b < w.heap.size := World.block_lt_of_cell? w _ (hcell 0 (by rw [← HN.out]; omega))
      have HCE := Lib.hid hcell
      clear hcell HC
      go_enter_defers Try.func15, Try.ntmps15
      go_upto_region 2 with fail
      generalize ((w.alloc (.cells #[.string ⟨#[]⟩, .slice none 0 0, .slice none 0 0, .slice none 0 0] 30)).alloc (.cells #[.int .i64 0] 32)) = wA at *
      have cU := BU.out.cell
      have zU := BU.out.frozen
      have cE := BE.out.cell
      have zE := BE.out.frozen
      have hcv := Joins.run_convert_bytes_const_at (P := Try.prog) wA 22 5 #[.int .u8 77, .int .u8 85, .int .u8 49, .int .u8 10] 4 4 wA.heap.size rfl Try.underlying22 Try.underlying5
      have PX := Lib.hid (prefix_any (w := wA.alloc (.cells #[.int .u8 77, .int .u8 85, .int .u8 49, .int .u8 10] 5 (4, 5))) (b := b) (o := o) (n := n) (c := c) (a' := some ⟨wA.heap.size, 0, none⟩) (c' := 4) (l := l) (l' := [77, 85, 49, 10]) (bytesAt_nw H.out (NA.out.alloc _))
        ⟨_, 4, rfl, by decide, by decide, fun _ => ⟨wA.heap.size, 0, rfl, fun i hi => by
          have h1 := Joins.cell_alloc_mark_at wA #[.int .u8 77, .int .u8 85, .int .u8 49, .int .u8 10] 5 (4, 5) wA.heap.size (0 + i) rfl
          have : i = 0 ∨ i = 1 ∨ i = 2 ∨ i = 3 := by simp at hi; omega
          rcases this with rfl | rfl | rfl | rfl <;> exact h1⟩⟩ (by omega))
      by_cases hmk : l.take 4 = [77, 85, 49, 10]
      rotate_left
      · have D := Lib.hid (dc_false hmk)
        have NO := Lib.hid (no_mark hmk)
        clear hmk
        go_wp2_with fail
        refine (PX.out).mono ?_
        rintro e1 w1 ⟨rfl, rfl⟩
        rw [D.out]
        have NA' := Lib.hid (NA.out.alloc (.cells #[.int .u8 77, .int .u8 85, .int .u8 49, .int .u8 10] 5 (4, 5)))
        have BU' := Lib.hid (BU.out.alloc (.cells #[.int .u8 77, .int .u8 85, .int .u8 49, .int .u8 10] 5 (4, 5)))
        have BE' := Lib.hid (BE.out.alloc (.cells #[.int .u8 77, .int .u8 85, .int .u8 49, .int .u8 10] 5 (4, 5)))
        clear NA BU BE cU zU cE zE PX
        generalize wA.alloc (.cells #[.int .u8 77, .int .u8 85, .int .u8 49, .int .u8 10] 5 (4, 5)) = wP at *
        have NA := Lib.hid NA'.out
        have BU := Lib.hid BU'.out
        have BE := Lib.hid BE'.out
        have cU := BU.out.cell
        have zU := BU.out.frozen
        have cE := BE.out.cell
        have zE := BE.out.frozen
        go_wp2_with fail
        refine ⟨_, dec_results rfl rfl (Blk.setsO (Blk.sets BU.out 0 [.string ⟨#[]⟩, .slice none 0 0, .slice none 0 0, .slice none 0 0]) (b' := w.heap.size + 1) (by omega) 0 [.int .i64 4]) (Blk.sets (Blk.setsO BE.out (b' := w.heap.size) (by omega) 0 [.string ⟨#[]⟩, .slice none 0 0, .slice none 0 0, .slice none 0 0]) 0 [.int .i64 4]), .inr ⟨rfl, NO.out, Kp.sets (Kp.sets NA.out (fun h => by omega) 0 [.string ⟨#[]⟩, .slice none 0 0, .slice none 0 0, .slice none 0 0]) (fun h => by omega) 0 [.int .i64 4]⟩⟩
      · have D := Lib.hid (dc_true hmk)
        have HM := Lib.hid hmk
        clear hmk
        go_wp2_with fail
        refine (PX.out).mono ?_
        rintro e1 w1 ⟨rfl, rfl⟩
        rw [D.out]
        have NA' := Lib.hid (NA.out.alloc (.cells #[.int .u8 77, .int .u8 85, .int .u8 49, .int .u8 10] 5 (4, 5)))
        have BU' := Lib.hid (BU.out.alloc (.cells #[.int .u8 77, .int .u8 85, .int .u8 49, .int .u8 10] 5 (4, 5)))
        have BE' := Lib.hid (BE.out.alloc (.cells #[.int .u8 77, .int .u8 85, .int .u8 49, .int .u8 10] 5 (4, 5)))
        have sP : w.heap.size + 2 ≤ (wA.alloc (.cells #[.int .u8 77, .int .u8 85, .int .u8 49, .int .u8 10] 5 (4, 5))).heap.size := by simp; omega
        clear NA BU BE cU zU cE zE PX sA
        generalize wA.alloc (.cells #[.int .u8 77, .int .u8 85, .int .u8 49, .int .u8 10] 5 (4, 5)) = wP at *
        have NA := Lib.hid NA'.out
        have BU := Lib.hid BU'.out
        have BE := Lib.hid BE'.out
        clear NA' BU' BE'
        obtain ⟨m, rfl⟩ : ∃ m, n = m + 8 := ⟨n - 8, by omega⟩
        have hw1 : IntKind.i64.wrap ((m : Int) + 8 - 8) = m := by rw [IntWalk.i64_in _ (by omega)]; omega
        have hq3 : (m : Int) ≤ (m : Int) + 8 := by omega
        have hq4 : (0 : Int) ≤ (m : Int) := by omega
        have hq5 : (m : Int) + 8 ≤ (c : Int) := by omega
        have hq6 : (4 : Int) ≤ (m : Int) := by omega
        have hq7 : (m : Int) ≤ (c : Int) := by omega
        have hne : ¬ c = m := by omega
        have hne4 : ¬ c = 4 := by omega
        obtain ⟨t, ht⟩ : ∃ t, t = l.take m := ⟨_, rfl⟩
        have hdl : (l.drop m).length = 8 := by rw [List.length_drop, ← HN.out]; omega
        obtain ⟨z, hz, hlz⟩ : ∃ z, I64 z ∧ l.drop m = le8 z := ⟨_, wrap_i64 _, ((le_wrap (r := l.drop m) (by omega)).trans (List.take_of_length_le (by omega))).symm⟩
        have HZ := Lib.hid hz
        have HL := Lib.hid (show l = t ++ le8 z by rw [ht, ← hlz, List.take_append_drop])
        have HT := Lib.hid (show 4 ≤ t.length by rw [ht, List.length_take, ← HN.out]; omega)
        have HLN := Lib.hid (show l.length ≤ 262144 by rw [← HN.out]; omega)
        have HTT := Lib.hid ht
        have HLZ := Lib.hid hlz
        have HDL := Lib.hid hdl
        clear hz ht hlz hdl
        go_upto_region 7 with fail
        have NQ := Lib.hid (NA.out.alloc (.cells #[.slice (some ⟨b, o + m, none⟩) 8 (c - m), .int .i64 0] 74))
        have BUQ := Lib.hid (BU.out.alloc (.cells #[.slice (some ⟨b, o + m, none⟩) 8 (c - m), .int .i64 0] 74))
        have BEQ := Lib.hid (BE.out.alloc (.cells #[.slice (some ⟨b, o + m, none⟩) 8 (c - m), .int .i64 0] 74))
        have sQ : wP.heap.size + 1 ≤ (wP.alloc (.cells #[.slice (some ⟨b, o + m, none⟩) 8 (c - m), .int .i64 0] 74)).heap.size := by simp
        have RQ := Lib.hid (show RdAt w.heap.size w (wP.alloc (.cells #[.slice (some ⟨b, o + m, none⟩) 8 (c - m), .int .i64 0] 74)) wP.heap.size (le8 z) 0 from
          ⟨(In.self w).nw NQ.out, by omega, b, o + m, c - m, Blk.new wP _ _, hbl, by rw [le8_length]; omega, by omega, by rw [le8_length]; omega, fun i hi => by
            have h1 := HCE.out (m + i) (by rw [le8_length] at hi; rw [← HN.out]; omega)
            rw [Nat.add_assoc, h1]
            have h2 : (l.drop m)[i]'(by rw [HLZ.out]; exact hi) = l[m + i]'(by rw [le8_length] at hi; rw [← HN.out]; omega) := List.getElem_drop
            rw [← h2]
            simp only [HLZ.out]⟩)
        clear NA BU BE
        generalize wP.alloc (.cells #[.slice (some ⟨b, o + m, none⟩) 8 (c - m), .int .i64 0] 74) = wQ at *
        generalize wP.heap.size = q at *
        have KQ := Lib.hid (show Kp (fun b => b = q) w wQ from Kp.mono NQ.out (fun _ _ x => x.elim))
        have SM := Lib.hid (fun (wz : World) (hz : Kp (fun b => b = q) wQ wz) => sum_any wz (.slice (some ⟨b, o, none⟩) m c) t (by
          rw [HTT.out]; exact bytesAt_kp (H.out.take (m := m) (by rw [← HN.out]; omega)) (KQ.out.thn hz) (fun x hx e => by omega)))
        obtain ⟨fs, hfs⟩ : ∃ fs, fs = fnv t := ⟨_, rfl⟩
        rw [← hfs] at SM
        have FS := Lib.hid hfs
        clear hfs
        by_cases hzf : z = fs
        rotate_left
        · obtain ⟨ne1, ne2, ne3, ne4⟩ := int_ne hzf
          have NO := Lib.hid (no_sum HL.out HZ.out (by rw [← FS.out]; exact hzf))
          clear hzf
          go_region_held3 (fun wz => Kp (fun b => b = q) wQ wz)
            (first | assumption | exact Kp.refl _ _ | exact (Kp.refl _ _).drew)
            (first
              | (go_at_call 33; refine (rnum8 HZ.out (RdAt.nw RQ.out (by repeat (first | exact Nw.refl _ | refine Nw.drew ?_)))).mono ?_; rintro e1 w1 ⟨rfl, hrd1, hk1⟩; have kk1 : Kp (fun b => b = q) wQ w1 := Kp.thn (by first | exact Kp.refl _ _ | exact (Kp.refl _ _).drew) hk1; clear hk1)
              | (go_at_call 10; refine (SM.out _ (by first | assumption | exact Kp.refl _ _)).mono ?_; rintro e2 w2 ⟨rfl, rfl⟩))
          have BU' := Lib.hid (Blk.kp BUQ.out (by assumption) (fun e => by omega))
          have BE' := Lib.hid (Blk.kp BEQ.out (by assumption) (fun e => by omega))
          have NF := Lib.hid (Kp.nw (KQ.out.thn (by assumption)) (by omega))
          have cU := BU'.out.cell
          have zU := BU'.out.frozen
          have cE := BE'.out.cell
          have zE := BE'.out.frozen
          go_wp2_with fail
          refine leaves_cons (f := 32) (args := #[.pointer (some ⟨w.heap.size, 0, none⟩), .pointer (some ⟨w.heap.size + 1, 0, none⟩)]) (by simp) (by simp [go_sem]) ?_
          refine (undo_idle w.heap.size (w.heap.size + 1) _).mono ?_
          rintro e u' w'' ⟨rfl, rfl, rfl⟩
          exact ⟨_, dec_results rfl rfl (Blk.setsO (Blk.sets BU'.out 0 [.string ⟨#[]⟩, .slice none 0 0, .slice none 0 0, .slice none 0 0]) (b' := w.heap.size + 1) (by omega) 0 [.int .i64 4]) (Blk.sets (Blk.setsO BE'.out (b' := w.heap.size) (by omega) 0 [.string ⟨#[]⟩, .slice none 0 0, .slice none 0 0, .slice none 0 0]) 0 [.int .i64 4]), .inr ⟨rfl, NO.out, Kp.sets (Kp.sets NF.out (fun h => by omega) 0 [.string ⟨#[]⟩, .slice none 0 0, .slice none 0 0, .slice none 0 0]) (fun h => by omega) 0 [.int .i64 4]⟩⟩
        · have HS := Lib.hid (show z = fnv t by rw [← FS.out]; exact hzf)
          subst hzf
          go_region_held3 (fun wz => Kp (fun b => b = q) wQ wz)
            (first | assumption | exact Kp.refl _ _ | exact (Kp.refl _ _).drew)
            (first
              | (go_at_call 33; refine (rnum8 HZ.out (RdAt.nw RQ.out (by repeat (first | exact Nw.refl _ | refine Nw.drew ?_)))).mono ?_; rintro e1 w1 ⟨rfl, hrd1, hk1⟩; have kk1 : Kp (fun b => b = q) wQ w1 := Kp.thn (by first | exact Kp.refl _ _ | exact (Kp.refl _ _).drew) hk1; clear hk1)
              | (go_at_call 10; refine (SM.out _ (by first | assumption | exact Kp.refl _ _)).mono ?_; rintro e2 w2 ⟨rfl, rfl⟩))
          have K8 := Lib.hid (KQ.out.thn kk1)
          have BU' := Lib.hid (Blk.kp BUQ.out kk1 (fun e => by omega))
          have BE' := Lib.hid (Blk.kp BEQ.out kk1 (fun e => by omega))
          have s8 := Nat.le_trans sQ kk1.size
          have R8 := Lib.hid hrd1
          obtain ⟨_, _, b8, o8, c8, hb8, _⟩ := hrd1
          have B8 := Lib.hid hb8
          have f8 := hb8.cell 0
          have z8 := hb8.frozen
          simp only [List.getElem?_cons_zero, List.getElem?_cons_succ] at f8
          clear hb8
          go_upto_region 10 with fail
          obtain ⟨r, hr⟩ : ∃ r, r = t.drop 4 := ⟨_, rfl⟩
          have HR := Lib.hid hr
          have hrl : r.length = m - 4 := by rw [hr, HTT.out, List.length_drop, List.length_take, ← HN.out]; omega
          have R9 := Lib.hid (show RdAt w.heap.size w (w1.setCell ⟨q, 0, none⟩ (.slice (some ⟨b, o + 4, none⟩) (m - 4) (c - 4))) q r 0 from
            ⟨R8.out.1.kp ((Kp.refl (fun x => x = q) w1).setCell (p := ⟨q, 0, none⟩) (fun _ => rfl) _) (fun x hx e => by omega), by omega, b, o + 4, c - 4, by
              have := B8.out.set 0 (.slice (some ⟨b, o + 4, none⟩) (m - 4) (c - 4))
              rw [hrl]; exact this, hbl, by omega, by omega, by omega, fun i hi => by
              have h1 := HCE.out (4 + i) (by rw [← HN.out]; omega)
              rw [Nat.add_assoc, h1]
              simp only [hr, HTT.out, List.getElem_drop, List.getElem_take]⟩)
          have K9 := Lib.hid (K8.out.setCell (p := ⟨q, 0, none⟩) (fun _ => rfl) (.slice (some ⟨b, o + 4, none⟩) (m - 4) (c - 4)))
          have DU9 := Lib.hid (BU'.out.setOther (a := ⟨q, 0, none⟩) (by simp only; omega) (.slice (some ⟨b, o + 4, none⟩) (m - 4) (c - 4)))
          have DE9 := Lib.hid (BE'.out.setOther (a := ⟨q, 0, none⟩) (by simp only; omega) (.slice (some ⟨b, o + 4, none⟩) (m - 4) (c - 4)))
          have s9 : q + 1 ≤ (w1.setCell ⟨q, 0, none⟩ (.slice (some ⟨b, o + 4, none⟩) (m - 4) (c - 4))).heap.size := by rw [size_set]; exact s8
          clear hr hrl
          generalize w1.setCell ⟨q, 0, none⟩ (.slice (some ⟨b, o + 4, none⟩) (m - 4) (c - 4)) = wS at *
          clear R8 K8 BU' BE' B8 f8 z8
          have cD := DU9.out.cell
          have zD := DU9.out.frozen
          have cE := DE9.out.cell
          have zE := DE9.out.frozen
          have C0 := Lib.hid (fun (wz : World) (hz : RdAt w.heap.size w wz q r 0) => rtext hz)
          go_wp2_with fail
          refine (C0.out _ R9.out).mono ?_
          rintro e0 w0 (⟨a0, r0, _, rfl, hx0, hr0, rfl, hrd0, hk0⟩ | ⟨rfl, hno, hk0⟩)
          rotate_left
          · have NO := Lib.hid (no_rest HL.out HZ.out (show ∀ u, OkUn u → encR u ≠ t.drop 4 by
              rw [← HR.out]
              intro z hz e
              have e := ((List.append_nil _).trans e).symm
              obtain ⟨c0, c1, c2, c3⟩ := z
              obtain ⟨g0, g1, g2, g3⟩ := hz
              simp only [encUn_mk, List.append_assoc] at e
              exact hno _ _ g0 e
              ))
            have KF := Lib.hid (Kp.nw (Kp.thn K9.out hk0) (by omega))
            have FD := Lib.hid (show Blk w0 w.heap.size [.string ⟨#[]⟩, .slice none 0 0, .slice none 0 0, .slice none 0 0] 30 from Blk.kp DU9.out hk0 (fun e => by omega))
            have FE := Lib.hid (show Blk w0 (w.heap.size + 1) [.int .i64 0] 32 from Blk.kp DE9.out hk0 (fun e => by omega))
            clear hno hk0 C0
            unfold PAN
            go_wp2_with fail
            refine leaves_cons (f := 32) (args := #[.pointer (some ⟨w.heap.size, 0, none⟩), .pointer (some ⟨w.heap.size + 1, 0, none⟩)]) (by simp) (by simp [go_sem]) ?_
            refine (undo_panicking w.heap.size (w.heap.size + 1) _ _ [] w0 FD.out FE.out rfl rfl (by omega)).mono ?_
            rintro e u' w'' ⟨rfl, rfl, rfl⟩
            have FU := Blk.setsO (Blk.sets FD.out 0 [.string ⟨#[]⟩, .slice none 0 0, .slice none 0 0, .slice none 0 0]) (b' := w.heap.size + 1) (by omega) 0 [.int .i64 4]
            have FF := Blk.sets (Blk.setsO FE.out (b' := w.heap.size) (by omega) 0 [.string ⟨#[]⟩, .slice none 0 0, .slice none 0 0, .slice none 0 0]) 0 [.int .i64 4]
            exact ⟨_, dec_results rfl rfl FU FF, .inr ⟨rfl, NO.out, Kp.sets (Kp.sets KF.out (fun h => by omega) 0 [.string ⟨#[]⟩, .slice none 0 0, .slice none 0 0, .slice none 0 0]) (fun h => by omega) 0 [.int .i64 4]⟩⟩
          · clear C0
            have R0 := Lib.hid hrd0
            have K0 := Lib.hid (Kp.thn K9.out hk0)
            have X0 := Lib.hid hx0
            have HR0 := Lib.hid hr0
            have s0 : q + 1 ≤ w0.heap.size := by
              have := hk0.size
              try simp only [size_sets, size_alloc] at this
              omega
            have DD0 := Lib.hid (show Blk w0 w.heap.size [.string ⟨#[]⟩, .slice none 0 0, .slice none 0 0, .slice none 0 0] 30 from Blk.kp DU9.out hk0 (fun e => by omega))
            have DE0 := Lib.hid (show Blk w0 (w.heap.size + 1) [.int .i64 0] 32 from Blk.kp DE9.out hk0 (fun e => by omega))
            clear cD zD cE zE
            clear hrd0 hk0 hx0 hr0
            have cD := DD0.out.cell
            have zD := DD0.out.frozen
            have cE := DE0.out.cell
            have zE := DE0.out.frozen
            have C1 := Lib.hid (fun (wz : World) (hz : RdAt w.heap.size w wz q r0 0) => takes_Im (fun wz r hz => timported hz) wz r0 hz)
            go_wp2_with fail
            refine (C1.out _ (RdAt.sets2 R0.out (b := w.heap.size) (by omega) (by omega) 0 [.string a0])).mono ?_
            rintro e1 w1 (⟨a1, r1, v1, rfl, hx1, hr1, hv1, hrd1, hk1⟩ | ⟨rfl, hno, hk1⟩)
            rotate_left
            · have NO := Lib.hid (no_rest HL.out HZ.out (show ∀ u, OkUn u → encR u ≠ t.drop 4 by
                rw [← HR.out]
                intro z hz e
                have e := ((List.append_nil _).trans e).symm
                obtain ⟨c0, c1, c2, c3⟩ := z
                obtain ⟨g0, g1, g2, g3⟩ := hz
                simp only [encUn_mk, List.append_assoc] at e
                rw [HR0.out] at e
                try simp only [List.append_assoc] at e
                obtain ⟨_, e⟩ := encS_pi X0.out g0 e
                exact hno _ _ g1 e
                ))
              have KF := Lib.hid (Kp.nw (Kp.thn (Kp.sets K0.out (b := w.heap.size) (fun _ => by omega) 0 [.string a0]) hk1) (by omega))
              have FD := Lib.hid (show Blk w1 w.heap.size [.string a0, .slice none 0 0, .slice none 0 0, .slice none 0 0] 30 from Blk.kp (Blk.sets DD0.out 0 [.string a0]) hk1 (fun e => by omega))
              have FE := Lib.hid (show Blk w1 (w.heap.size + 1) [.int .i64 0] 32 from Blk.kp (Blk.setsO DE0.out (b' := w.heap.size) (by omega) 0 [.string a0]) hk1 (fun e => by omega))
              clear hno hk1 C1
              unfold PAN
              go_wp2_with fail
              refine leaves_cons (f := 32) (args := #[.pointer (some ⟨w.heap.size, 0, none⟩), .pointer (some ⟨w.heap.size + 1, 0, none⟩)]) (by simp) (by simp [go_sem]) ?_
              refine (undo_panicking w.heap.size (w.heap.size + 1) _ _ [] w1 FD.out FE.out rfl rfl (by omega)).mono ?_
              rintro e u' w'' ⟨rfl, rfl, rfl⟩
              have FU := Blk.setsO (Blk.sets FD.out 0 [.string ⟨#[]⟩, .slice none 0 0, .slice none 0 0, .slice none 0 0]) (b' := w.heap.size + 1) (by omega) 0 [.int .i64 4]
              have FF := Blk.sets (Blk.setsO FE.out (b' := w.heap.size) (by omega) 0 [.string ⟨#[]⟩, .slice none 0 0, .slice none 0 0, .slice none 0 0]) 0 [.int .i64 4]
              exact ⟨_, dec_results rfl rfl FU FF, .inr ⟨rfl, NO.out, Kp.sets (Kp.sets KF.out (fun h => by omega) 0 [.string ⟨#[]⟩, .slice none 0 0, .slice none 0 0, .slice none 0 0]) (fun h => by omega) 0 [.int .i64 4]⟩⟩
            · clear C1
              have R1 := Lib.hid hrd1
              have K1 := Lib.hid (Kp.thn (Kp.sets K0.out (b := w.heap.size) (fun _ => by omega) 0 [.string a0]) hk1)
              have X1 := Lib.hid hx1
              have HR1 := Lib.hid hr1
              have s1 : q + 1 ≤ w1.heap.size := by
                have := hk1.size
                try simp only [size_sets, size_alloc] at this
                omega
              have DD1 := Lib.hid (show Blk w1 w.heap.size [.string a0, .slice none 0 0, .slice none 0 0, .slice none 0 0] 30 from Blk.kp (Blk.sets DD0.out 0 [.string a0]) hk1 (fun e => by omega))
              have DE1 := Lib.hid (show Blk w1 (w.heap.size + 1) [.int .i64 0] 32 from Blk.kp (Blk.setsO DE0.out (b' := w.heap.size) (by omega) 0 [.string a0]) hk1 (fun e => by omega))
              clear cD zD cE zE
              have P1 := Lib.hid (SlT.lo carry_Im (L' := q + 1) hv1 (by (try simp only [size_sets, size_alloc]); omega))
              obtain ⟨y1, y1l, y1c, rfl⟩ := SlT.slice hv1
              clear hv1
              clear hrd1 hk1 hx1 hr1
              have cD := DD1.out.cell
              have zD := DD1.out.frozen
              have cE := DE1.out.cell
              have zE := DE1.out.frozen
              have C2 := Lib.hid (fun (wz : World) (hz : RdAt w.heap.size w wz q r1 0) => takes_De (fun wz r hz => tdecl hz) wz r1 hz)
              go_wp2_with fail
              refine (C2.out _ (RdAt.sets2 R1.out (b := w.heap.size) (by omega) (by omega) 1 [.slice y1 y1l y1c])).mono ?_
              rintro e2 w2 (⟨a2, r2, v2, rfl, hx2, hr2, hv2, hrd2, hk2⟩ | ⟨rfl, hno, hk2⟩)
              rotate_left
              · have NO := Lib.hid (no_rest HL.out HZ.out (show ∀ u, OkUn u → encR u ≠ t.drop 4 by
                  rw [← HR.out]
                  intro z hz e
                  have e := ((List.append_nil _).trans e).symm
                  obtain ⟨c0, c1, c2, c3⟩ := z
                  obtain ⟨g0, g1, g2, g3⟩ := hz
                  simp only [encUn_mk, List.append_assoc] at e
                  rw [HR0.out] at e
                  rw [HR1.out] at e
                  try simp only [List.append_assoc] at e
                  obtain ⟨_, e⟩ := encS_pi X0.out g0 e
                  obtain ⟨_, e⟩ := list_pi pi_OkIm _ _ X1.out g1 _ _ e
                  exact hno _ _ g2 e
                  ))
                have KF := Lib.hid (Kp.nw (Kp.thn (Kp.sets K1.out (b := w.heap.size) (fun _ => by omega) 1 [.slice y1 y1l y1c]) hk2) (by omega))
                have FD := Lib.hid (show Blk w2 w.heap.size [.string a0, .slice y1 y1l y1c, .slice none 0 0, .slice none 0 0] 30 from Blk.kp (Blk.sets DD1.out 1 [.slice y1 y1l y1c]) hk2 (fun e => by omega))
                have FE := Lib.hid (show Blk w2 (w.heap.size + 1) [.int .i64 0] 32 from Blk.kp (Blk.setsO DE1.out (b' := w.heap.size) (by omega) 1 [.slice y1 y1l y1c]) hk2 (fun e => by omega))
                clear hno hk2 C2
                unfold PAN
                go_wp2_with fail
                refine leaves_cons (f := 32) (args := #[.pointer (some ⟨w.heap.size, 0, none⟩), .pointer (some ⟨w.heap.size + 1, 0, none⟩)]) (by simp) (by simp [go_sem]) ?_
                refine (undo_panicking w.heap.size (w.heap.size + 1) _ _ [] w2 FD.out FE.out rfl rfl (by omega)).mono ?_
                rintro e u' w'' ⟨rfl, rfl, rfl⟩
                have FU := Blk.setsO (Blk.sets FD.out 0 [.string ⟨#[]⟩, .slice none 0 0, .slice none 0 0, .slice none 0 0]) (b' := w.heap.size + 1) (by omega) 0 [.int .i64 4]
                have FF := Blk.sets (Blk.setsO FE.out (b' := w.heap.size) (by omega) 0 [.string ⟨#[]⟩, .slice none 0 0, .slice none 0 0, .slice none 0 0]) 0 [.int .i64 4]
                exact ⟨_, dec_results rfl rfl FU FF, .inr ⟨rfl, NO.out, Kp.sets (Kp.sets KF.out (fun h => by omega) 0 [.string ⟨#[]⟩, .slice none 0 0, .slice none 0 0, .slice none 0 0]) (fun h => by omega) 0 [.int .i64 4]⟩⟩
              · clear C2
                have R2 := Lib.hid hrd2
                have K2 := Lib.hid (Kp.thn (Kp.sets K1.out (b := w.heap.size) (fun _ => by omega) 1 [.slice y1 y1l y1c]) hk2)
                have X2 := Lib.hid hx2
                have HR2 := Lib.hid hr2
                have s2 : q + 1 ≤ w2.heap.size := by
                  have := hk2.size
                  try simp only [size_sets, size_alloc] at this
                  omega
                have KL := (Kp.trans (Kp.sets (Kp.refl (fun b => b < q + 1) w1) (b := w.heap.size) (fun _ => by omega) 1 [.slice y1 y1l y1c]) hk2 (fun x _ e => by omega))
                have P1' := Lib.hid (SlT.next carry_Im P1.out KL)
                clear P1
                have P1 := Lib.hid P1'.out
                clear P1'
                clear KL
                have DD2 := Lib.hid (show Blk w2 w.heap.size [.string a0, .slice y1 y1l y1c, .slice none 0 0, .slice none 0 0] 30 from Blk.kp (Blk.sets DD1.out 1 [.slice y1 y1l y1c]) hk2 (fun e => by omega))
                have DE2 := Lib.hid (show Blk w2 (w.heap.size + 1) [.int .i64 0] 32 from Blk.kp (Blk.setsO DE1.out (b' := w.heap.size) (by omega) 1 [.slice y1 y1l y1c]) hk2 (fun e => by omega))
                clear cD zD cE zE
                have P2 := Lib.hid (SlT.lo carry_De (L' := q + 1) hv2 (by (try simp only [size_sets, size_alloc]); omega))
                obtain ⟨y2, y2l, y2c, rfl⟩ := SlT.slice hv2
                clear hv2
                clear hrd2 hk2 hx2 hr2
                have cD := DD2.out.cell
                have zD := DD2.out.frozen
                have cE := DE2.out.cell
                have zE := DE2.out.frozen
                have C3 := Lib.hid (fun (wz : World) (hz : RdAt w.heap.size w wz q r2 0) => takes_Fn (fun wz r hz => tfunction hz) wz r2 hz)
                go_wp2_with fail
                refine (C3.out _ (RdAt.sets2 R2.out (b := w.heap.size) (by omega) (by omega) 2 [.slice y2 y2l y2c])).mono ?_
                rintro e3 w3 (⟨a3, r3, v3, rfl, hx3, hr3, hv3, hrd3, hk3⟩ | ⟨rfl, hno, hk3⟩)
                rotate_left
                · have NO := Lib.hid (no_rest HL.out HZ.out (show ∀ u, OkUn u → encR u ≠ t.drop 4 by
                    rw [← HR.out]
                    intro z hz e
                    have e := ((List.append_nil _).trans e).symm
                    obtain ⟨c0, c1, c2, c3⟩ := z
                    obtain ⟨g0, g1, g2, g3⟩ := hz
                    simp only [encUn_mk, List.append_assoc] at e
                    rw [HR0.out] at e
                    rw [HR1.out] at e
                    rw [HR2.out] at e
                    try simp only [List.append_assoc] at e
                    obtain ⟨_, e⟩ := encS_pi X0.out g0 e
                    obtain ⟨_, e⟩ := list_pi pi_OkIm _ _ X1.out g1 _ _ e
                    obtain ⟨_, e⟩ := list_pi pi_OkDe _ _ X2.out g2 _ _ e
                    exact hno _ _ g3 e
                    ))
                  have KF := Lib.hid (Kp.nw (Kp.thn (Kp.sets K2.out (b := w.heap.size) (fun _ => by omega) 2 [.slice y2 y2l y2c]) hk3) (by omega))
                  have FD := Lib.hid (show Blk w3 w.heap.size [.string a0, .slice y1 y1l y1c, .slice y2 y2l y2c, .slice none 0 0] 30 from Blk.kp (Blk.sets DD2.out 2 [.slice y2 y2l y2c]) hk3 (fun e => by omega))
                  have FE := Lib.hid (show Blk w3 (w.heap.size + 1) [.int .i64 0] 32 from Blk.kp (Blk.setsO DE2.out (b' := w.heap.size) (by omega) 2 [.slice y2 y2l y2c]) hk3 (fun e => by omega))
                  clear hno hk3 C3
                  unfold PAN
                  go_wp2_with fail
                  refine leaves_cons (f := 32) (args := #[.pointer (some ⟨w.heap.size, 0, none⟩), .pointer (some ⟨w.heap.size + 1, 0, none⟩)]) (by simp) (by simp [go_sem]) ?_
                  refine (undo_panicking w.heap.size (w.heap.size + 1) _ _ [] w3 FD.out FE.out rfl rfl (by omega)).mono ?_
                  rintro e u' w'' ⟨rfl, rfl, rfl⟩
                  have FU := Blk.setsO (Blk.sets FD.out 0 [.string ⟨#[]⟩, .slice none 0 0, .slice none 0 0, .slice none 0 0]) (b' := w.heap.size + 1) (by omega) 0 [.int .i64 4]
                  have FF := Blk.sets (Blk.setsO FE.out (b' := w.heap.size) (by omega) 0 [.string ⟨#[]⟩, .slice none 0 0, .slice none 0 0, .slice none 0 0]) 0 [.int .i64 4]
                  exact ⟨_, dec_results rfl rfl FU FF, .inr ⟨rfl, NO.out, Kp.sets (Kp.sets KF.out (fun h => by omega) 0 [.string ⟨#[]⟩, .slice none 0 0, .slice none 0 0, .slice none 0 0]) (fun h => by omega) 0 [.int .i64 4]⟩⟩
                · clear C3
                  have R3 := Lib.hid hrd3
                  have K3 := Lib.hid (Kp.thn (Kp.sets K2.out (b := w.heap.size) (fun _ => by omega) 2 [.slice y2 y2l y2c]) hk3)
                  have X3 := Lib.hid hx3
                  have HR3 := Lib.hid hr3
                  have s3 : q + 1 ≤ w3.heap.size := by
                    have := hk3.size
                    try simp only [size_sets, size_alloc] at this
                    omega
                  have KL := (Kp.trans (Kp.sets (Kp.refl (fun b => b < q + 1) w2) (b := w.heap.size) (fun _ => by omega) 2 [.slice y2 y2l y2c]) hk3 (fun x _ e => by omega))
                  have P1' := Lib.hid (SlT.next carry_Im P1.out KL)
                  clear P1
                  have P1 := Lib.hid P1'.out
                  clear P1'
                  have P2' := Lib.hid (SlT.next carry_De P2.out KL)
                  clear P2
                  have P2 := Lib.hid P2'.out
                  clear P2'
                  clear KL
                  have DD3 := Lib.hid (show Blk w3 w.heap.size [.string a0, .slice y1 y1l y1c, .slice y2 y2l y2c, .slice none 0 0] 30 from Blk.kp (Blk.sets DD2.out 2 [.slice y2 y2l y2c]) hk3 (fun e => by omega))
                  have DE3 := Lib.hid (show Blk w3 (w.heap.size + 1) [.int .i64 0] 32 from Blk.kp (Blk.setsO DE2.out (b' := w.heap.size) (by omega) 2 [.slice y2 y2l y2c]) hk3 (fun e => by omega))
                  clear cD zD cE zE
                  have P3 := Lib.hid (SlT.lo carry_Fn (L' := q + 1) hv3 (by (try simp only [size_sets, size_alloc]); omega))
                  obtain ⟨y3, y3l, y3c, rfl⟩ := SlT.slice hv3
                  clear hv3
                  clear hrd3 hk3 hx3 hr3
                  have cD := DD3.out.cell
                  have zD := DD3.out.frozen
                  have cE := DE3.out.cell
                  have zE := DE3.out.frozen
                  obtain ⟨-, -, bq, oq, cq, hbq, -⟩ := R3.out
                  have fq := hbq.cell 0
                  simp only [List.getElem?_cons_zero] at fq
                  clear hbq
                  have hn1 : ¬ w.heap.size = q := by omega
                  have hn2 : ¬ q = w.heap.size := by omega
                  have fD0 := cD 0
                  have fD1 := cD 1
                  have fD2 := cD 2
                  have fD3 := cD 3
                  simp only [List.getElem?_cons_zero, List.getElem?_cons_succ] at fD0 fD1 fD2 fD3
                  have OK : OkUn ⟨a0, a1, a2, a3⟩ := ⟨X0.out, X1.out, X2.out, X3.out⟩
                  have OKU := Lib.hid OK
                  clear OK
                  have HRA := Lib.hid (show t.drop 4 = encR ⟨a0, a1, a2, a3⟩ ++ r3 by rw [← HR.out, HR0.out, HR1.out, HR2.out, HR3.out, encUn_mk]; simp only [List.append_assoc])
                  by_cases hrn : r3.length = 0
                  · have hr3 : r3 = [] := List.eq_nil_of_length_eq_zero hrn
                    subst hr3
                    clear hrn
                    have KW := Lib.hid (Kp.sets K3.out (b := w.heap.size) (fun _ => by omega) 3 [.slice y3 y3l y3c])
                    have BU' := Lib.hid (Blk.sets DD3.out 3 [.slice y3 y3l y3c])
                    have BE' := Lib.hid (Blk.setsO DE3.out (b' := w.heap.size) (by omega) 3 [.slice y3 y3l y3c])
                    have KL := (Kp.sets (Kp.refl (fun b => b < q + 1) w3) (b := w.heap.size) (fun _ => by omega) 3 [.slice y3 y3l y3c])
                    have KL2 := Kp.sets (Kp.sets KL (b := w.heap.size) (fun _ => by omega) 0 [.string a0, .slice y1 y1l y1c, .slice y2 y2l y2c, .slice y3 y3l y3c]) (b := w.heap.size + 1) (fun _ => by omega) 0 [.int .i64 0]
                    have P1' := SlT.lo carry_Im (L' := w.heap.size) (SlT.next carry_Im P1.out KL2) (by omega)
                    have P2' := SlT.lo carry_De (L' := w.heap.size) (SlT.next carry_De P2.out KL2) (by omega)
                    have P3' := SlT.lo carry_Fn (L' := w.heap.size) (SlT.next carry_Fn P3.out KL2) (by omega)
                    have FU := Lib.hid (Blk.setsO (Blk.sets BU'.out 0 [.string a0, .slice y1 y1l y1c, .slice y2 y2l y2c, .slice y3 y3l y3c]) (b' := w.heap.size + 1) (by omega) 0 [.int .i64 0])
                    have FF := Lib.hid (Blk.sets (Blk.setsO BE'.out (b' := w.heap.size) (by omega) 0 [.string a0, .slice y1 y1l y1c, .slice y2 y2l y2c, .slice y3 y3l y3c]) 0 [.int .i64 0])
                    have FIN := Lib.hid (show DecP w l (.returned (.tuple #[.agg #[.string a0, .slice y1 y1l y1c, .slice y2 y2l y2c, .slice y3 y3l y3c], .int .i64 0])) (lays (lays (lays w3 w.heap.size 3 [.slice y3 y3l y3c]) w.heap.size 0 [.string a0, .slice y1 y1l y1c, .slice y2 y2l y2c, .slice y3 y3l y3c]) (w.heap.size + 1) 0 [.int .i64 0]) from
                      .inl ⟨⟨a0, a1, a2, a3⟩, [.string a0, .slice y1 y1l y1c, .slice y2 y2l y2c, .slice y3 y3l y3c], rfl, OKU.out, dec_yes HL.out HS.out HM.out HT.out (by rw [HRA.out, List.append_nil]), HLN.out, ⟨_, _, _, rfl, X0.out, P1', P2', P3'⟩, Kp.nw (Kp.sets (Kp.sets KW.out (b := w.heap.size) (fun _ => by omega) 0 [.string a0, .slice y1 y1l y1c, .slice y2 y2l y2c, .slice y3 y3l y3c]) (b := w.heap.size + 1) (fun _ => by omega) 0 [.int .i64 0]) (by omega)⟩)
                    clear KL KL2 P1 P2 P3 P1' P2' P3'
                    go_wp2_with fail
                    refine leaves_cons (f := 32) (args := #[.pointer (some ⟨w.heap.size, 0, none⟩), .pointer (some ⟨w.heap.size + 1, 0, none⟩)]) (by simp) (by simp [go_sem]) ?_
                    refine (undo_idle w.heap.size (w.heap.size + 1) _).mono ?_
                    rintro e u' w'' ⟨rfl, rfl, rfl⟩
                    exact ⟨_, dec_results rfl rfl FU.out FF.out, FIN.out⟩
                  · have hrp : (0 : Int) < (r3.length : Int) := by omega
                    have NO := Lib.hid (no_rest HL.out HZ.out (no_more OKU.out HRA.out (fun e => hrn (by rw [e]; rfl))))
                    clear hrn
                    obtain ⟨nr, hnr⟩ : ∃ nr, nr = r3.length := ⟨_, rfl⟩
                    rw [← hnr] at fq hrp
                    clear hnr
                    obtain ⟨nk, rfl⟩ : ∃ nk, nr = nk + 1 := ⟨nr - 1, by omega⟩
                    clear hrp
                    have hrp : (0 : Int) < (nk : Int) + 1 := by omega
                    go_upto_region 15 with fail
                    have KW := Lib.hid (show Nw w (w3.setCell ⟨w.heap.size, 3, none⟩ (.slice y3 y3l y3c)) from Kp.nw (Kp.sets K3.out (b := w.heap.size) (fun _ => by omega) 3 [.slice y3 y3l y3c]) (by omega))
                    have BU' := Lib.hid (show Blk (w3.setCell ⟨w.heap.size, 3, none⟩ (.slice y3 y3l y3c)) w.heap.size [.string a0, .slice y1 y1l y1c, .slice y2 y2l y2c, .slice y3 y3l y3c] 30 from (Blk.sets DD3.out 3 [.slice y3 y3l y3c]))
                    have BE' := Lib.hid (show Blk (w3.setCell ⟨w.heap.size, 3, none⟩ (.slice y3 y3l y3c)) (w.heap.size + 1) [.int .i64 0] 32 from (Blk.setsO DE3.out (b' := w.heap.size) (by omega) 3 [.slice y3 y3l y3c]))
                    clear cD zD cE zE fD0 fD1 fD2 fD3 fq
                    generalize (w3.setCell ⟨w.heap.size, 3, none⟩ (.slice y3 y3l y3c)) = wT at *
                    have cU := BU'.out.cell
                    have zU := BU'.out.frozen
                    have cE := BE'.out.cell
                    have zE := BE'.out.frozen
                    have FU := Lib.hid (Blk.setsO (Blk.sets BU'.out 0 [.string ⟨#[]⟩, .slice none 0 0, .slice none 0 0, .slice none 0 0]) (b' := w.heap.size + 1) (by omega) 0 [.int .i64 4])
                    have FF := Lib.hid (Blk.sets (Blk.setsO BE'.out (b' := w.heap.size) (by omega) 0 [.string ⟨#[]⟩, .slice none 0 0, .slice none 0 0, .slice none 0 0]) 0 [.int .i64 4])
                    go_wp2_with fail
                    refine leaves_cons (f := 32) (args := #[.pointer (some ⟨w.heap.size, 0, none⟩), .pointer (some ⟨w.heap.size + 1, 0, none⟩)]) (by simp) (by simp [go_sem]) ?_
                    refine (undo_idle w.heap.size (w.heap.size + 1) _).mono ?_
                    rintro e u' w'' ⟨rfl, rfl, rfl⟩
                    exact ⟨_, dec_results rfl rfl FU.out FF.out, .inr ⟨rfl, NO.out, Kp.sets (Kp.sets KW.out (fun h => by omega) 0 [.string ⟨#[]⟩, .slice none 0 0, .slice none 0 0, .slice none 0 0]) (fun h => by omega) 0 [.int .i64 4]⟩⟩
end Go.Proofs.Ytpopgnengimieaa
