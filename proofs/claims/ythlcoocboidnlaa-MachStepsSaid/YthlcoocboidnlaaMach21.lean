/- MachMore: with more steps nothing is unlike, but how far it comes. -/
import Derived.Test.YthlcoocboidnlaaMach20
namespace Go.Proofs.Ythlcoocboidnlaa
open Go.RowKit
set_option linter.unusedSimpArgs false
set_option linter.unusedVariables false

theorem run_err {m : Img} {mem : Int} {inp : List UInt8} (he : ¬ m.err mem inp = 0) (fuel : Int) : m.run mem inp fuel = ⟨5, 0, [], 0⟩ := if_neg he
theorem run_ok {m : Img} {mem : Int} {inp : List UInt8} (he : m.err mem inp = 0) (fuel : Int) (hf : fuel ≤ 4194304) : m.run mem inp fuel = ((m.ms mem inp).runN fuel.toNat).oc := by
  unfold Img.run
  rw [if_pos he, Int.min_eq_left hf]
/-- what more steps bring -/
theorem more_law (m : Img) (mem : Int) (inp : List UInt8) (fuel more : Int) (h0 : 0 ≤ fuel) (h1 : fuel ≤ 3000) (h2 : 0 ≤ more) (h3 : more ≤ 3000) :
    (¬ (m.run mem inp fuel).kind = 0 → m.run mem inp (fuel + more) = m.run mem inp fuel) ∧
    ((m.run mem inp fuel).kind = 0 → (∃ l, (m.run mem inp (fuel + more)).out = (m.run mem inp fuel).out ++ l) ∧ (m.run mem inp fuel).steps ≤ (m.run mem inp (fuel + more)).steps) := by
  by_cases he : m.err mem inp = 0
  · rw [run_ok he _ (by omega), run_ok he _ (by omega), show (fuel + more).toNat = fuel.toNat + more.toNat by omega, runN_add]
    have hs : (m.ms mem inp).steps = 0 := rfl
    have a := run_steps fuel.toNat (m.ms mem inp) (by omega) (by omega)
    have b := run_steps more.toNat ((m.ms mem inp).runN fuel.toNat) (by omega) (by omega)
    refine ⟨fun hk => ?_, fun _ => ⟨run_out _ _, b.1⟩⟩
    have hk : ¬ ((m.ms mem inp).runN fuel.toNat).kind = 0 := hk
    rw [Ms.runN_end hk]
  · rw [run_err he, run_err he]
    exact ⟨fun _ => rfl, fun h => absurd h (by decide : ¬ (5 : Int) = 0)⟩
theorem op_out_le (s : Ms) (op a b n : Int) (h : s.out.length ≤ 4096) : (s.op op a b n).out.length ≤ 4096 := by
  have hc : ∀ (c : Prop) [Decidable c] (x y : Ms), x.out.length ≤ 4096 → y.out.length ≤ 4096 → (if c then x else y).out.length ≤ 4096 := fun c _ x y hx hy => by split <;> assumption
  unfold Ms.op
  repeat' (first | exact h | (by_cases hh : s.out.length < 4096 <;> simp only [hh, if_true, if_false] <;> first | exact h | (show (s.out ++ _).length ≤ 4096; simp; omega)) | (refine hc _ _ _ ?_ ?_) | (cases s.inp <;> exact h))
theorem step_out_le (s : Ms) (h : s.out.length ≤ 4096) : s.step.out.length ≤ 4096 := by
  unfold Ms.step
  split
  · unfold Ms.step1
    split
    · split
      · unfold Ms.doit
        split
        · exact op_out_le _ _ _ _ _ h
        · rw [words_out]; exact h
      · exact h
    · exact h
  · exact h
theorem run_out_le (k : Nat) : ∀ s : Ms, s.out.length ≤ 4096 → (s.runN k).out.length ≤ 4096 := by
  induction k with
  | zero => intro s h; exact h
  | succ k ih => intro s h; exact ih s.step (step_out_le s h)
theorem imgrun_out_le (m : Img) (mem : Int) (inp : List UInt8) (fuel : Int) : (m.run mem inp fuel).out.length ≤ 4096 := by
  unfold Img.run
  split
  · exact run_out_le _ _ (Nat.zero_le _)
  · exact Nat.zero_le _
theorem own_none {w : World} {base e n c : Nat} {x : Option Addr} {xs : List Value} (h : w.ownsRow base e 1 (.slice x n c) n xs) : x = none → c = 0 := by
  rcases h.2 with ⟨h1, _⟩ | ⟨g, cap, cur, hv, _⟩
  · intro _; injection h1
  · intro hx; injection hv with e1 e2 e3; rw [hx] at e1; cases e1

set_option maxRecDepth 100000 in
set_option maxHeartbeats 2000000 in
theorem machMore_walk {R R' : Nat → Prop} {W : World} {xc xd xi : Option Addr} {nc cc nd cd ni ci : Nat} {entry : Int} {m : Img} {inp : List UInt8} (h : ImgAt R W xc xd nc cc nd cd entry m) (hi : BytesR R' W (.slice xi ni ci) inp) (hr : ∀ b, R' b → b < W.heap.size) (hli : inp.length ≤ 9223372036854775807)
    (mem fuel more : Int) (hf : I64 fuel) (hm : I64 more) :
    Calls Try.prog 7 #[.agg #[.slice xc nc cc, .slice xd nd cd, .int .i64 entry], .int .i64 mem, .slice xi ni ci, .int .i64 fuel, .int .i64 more] W (BoolPost W true) := by
  have N0 := Lib.hid (Nw.new W (.cells #[.slice xc nc cc, .slice xd nd cd, .int .i64 entry] 29))
  have IM0 := Lib.hid (h.nw N0.out)
  have BI := Lib.hid (Blk.new W [.slice xc nc cc, .slice xd nd cd, .int .i64 entry] 29)
  have IN0 := Lib.hid (hi.kp N0.out (fun _ _ x => x))
  have HRI := Lib.hid (fun b (hb : R' b) => Nat.lt_of_lt_of_le (hr b hb) N0.out.size)
  have HLI := Lib.hid hli
  have HV := Lib.hid (heavy_any (W.alloc (.cells #[.slice xc nc cc, .slice xd nd cd, .int .i64 entry] 29)) xc xd xi nc cc nd cd ni ci entry mem fuel (by rw [h.code.len]; exact h.lc) (by rw [h.data.len]; exact h.ld) (by rw [hi.len]; exact hli))
  have AW := Lib.hid awake_any
  clear h hi hr hli
  go_enter Try.func7, Try.ntmps7
  go_upto_region 1 with fail
  generalize W.alloc (.cells #[.slice xc nc cc, .slice xd nd cd, .int .i64 entry] 29) = w0 at *
  generalize W.heap.size = bi at *
  have i0 := BI.out.cell 0
  have i1 := BI.out.cell 1
  have i2 := BI.out.cell 2
  simp only [List.getElem?_cons_zero, List.getElem?_cons_succ] at i0 i1 i2
  go_wp2_with fail
  refine HV.out.mono ?_
  rintro e1 w1 ⟨rfl, k1⟩
  have N1 := Lib.hid (N0.out.trans k1)
  have K1 := Lib.hid k1
  have BI1 := Lib.hid (BI.out.nw k1)
  clear k1 HV i0 i1 i2 BI N0
  have i0 := BI1.out.cell 0
  have i1 := BI1.out.cell 1
  have i2 := BI1.out.cell 2
  simp only [List.getElem?_cons_zero, List.getElem?_cons_succ] at i0 i1 i2
  by_cases hv : heavyB nc nd ni mem fuel = true
  · rw [hv]
    go_wp2_with fail
    refine (AW.out _).mono ?_
    rintro ea wa ⟨rfl, ka⟩
    go_wp2_with fail
    go_returns
    exact ⟨rfl, N1.out.trans ka⟩
  have hv : heavyB nc nd ni mem fuel = false := by simpa using hv
  have hf3 : fuel ≤ 3000 := by
    have := of_decide_eq_false hv
    omega
  rw [hv]
  by_cases h0 : fuel < 0
  · go_wp2_with fail
    refine (AW.out _).mono ?_
    rintro ea wa ⟨rfl, ka⟩
    go_wp2_with fail
    go_returns
    exact ⟨rfl, N1.out.trans ka⟩
  by_cases h1 : more < 0
  · go_wp2_with fail
    refine (AW.out _).mono ?_
    rintro ea wa ⟨rfl, ka⟩
    go_wp2_with fail
    go_returns
    exact ⟨rfl, N1.out.trans ka⟩
  by_cases h2 : 3000 < more
  · go_wp2_with fail
    refine (AW.out _).mono ?_
    rintro ea wa ⟨rfl, ka⟩
    go_wp2_with fail
    go_returns
    exact ⟨rfl, N1.out.trans ka⟩
  have h0' : 0 ≤ fuel := by omega
  have h1' : 0 ≤ more := by omega
  have h2' : more ≤ 3000 := by omega
  have hw : IntKind.i64.wrap (fuel + more) = fuel + more := IntWalk.i64_in _ (by omega)
  have LAW := Lib.hid (more_law m mem inp fuel more h0' hf3 h1' h2')
  have LE := Lib.hid (imgrun_out_le m mem inp (fuel + more))
  have RA := Lib.hid (fun (wz : World) (k : Nw w0 wz) => fnrun_any (IM0.out.nw k) (IN0.out.kp k (fun _ _ x => x)) (fun b hb => Nat.lt_of_lt_of_le (HRI.out b hb) k.size) HLI.out mem fuel (by omega))
  have RB := Lib.hid (fun (wz : World) (k : Nw w0 wz) => fnrun_any (IM0.out.nw k) (IN0.out.kp k (fun _ _ x => x)) (fun b hb => Nat.lt_of_lt_of_le (HRI.out b hb) k.size) HLI.out mem (fuel + more) (by omega))
  generalize m.run mem inp fuel = oa at *
  generalize m.run mem inp (fuel + more) = ob at *
  clear hf hm hv
  go_wp2_with fail
  refine (RA.out _ K1.out).mono ?_
  rintro e2 w2 ⟨xa, ca, rfl, ho, k2⟩
  have OA := Lib.hid (show BytesAt w2 (.slice xa oa.out.length ca) oa.out from own_bytesAt ho)
  have N2 := Lib.hid (N1.out.trans k2)
  have K2 := Lib.hid (K1.out.trans k2)
  have B2 := Lib.hid (BI1.out.nw k2)
  clear ho k2 RA i0 i1 i2
  unfold Oc.val
  have NA := Lib.hid (Nw.new w2 (.cells #[.int .i64 oa.kind, .int .i64 oa.panics, .slice xa oa.out.length ca, .int .i64 oa.steps] 37))
  have BA := Lib.hid (Blk.new w2 [.int .i64 oa.kind, .int .i64 oa.panics, .slice xa oa.out.length ca, .int .i64 oa.steps] 37)
  have BI3 := Lib.hid (B2.out.nw NA.out)
  go_upto_region 4 with fail
  generalize w2.alloc (.cells #[.int .i64 oa.kind, .int .i64 oa.panics, .slice xa oa.out.length ca, .int .i64 oa.steps] 37) = w3 at *
  generalize w2.heap.size = qa at *
  have i0 := BI3.out.cell 0
  have i1 := BI3.out.cell 1
  have i2 := BI3.out.cell 2
  simp only [List.getElem?_cons_zero, List.getElem?_cons_succ] at i0 i1 i2
  go_wp2_with fail
  refine (RB.out _ (K2.out.trans NA.out)).mono ?_
  rintro e3 w4 ⟨xb, cb, rfl, ho, k4⟩
  have OB := Lib.hid (show BytesAt w4 (.slice xb ob.out.length cb) ob.out from own_bytesAt ho)
  have NB := Lib.hid (own_none ho)
  have BA4 := Lib.hid (BA.out.nw k4)
  have OA4 := Lib.hid (bytesAt_nw (bytesAt_nw OA.out NA.out) k4)
  have N4 := Lib.hid ((N2.out.trans NA.out).trans k4)
  clear ho k4 RB OA N2 NA BA i0 i1 i2
  unfold Oc.val
  have NC := Lib.hid (Nw.new w4 (.cells #[.int .i64 ob.kind, .int .i64 ob.panics, .slice xb ob.out.length cb, .int .i64 ob.steps] 37))
  have BB := Lib.hid (Blk.new w4 [.int .i64 ob.kind, .int .i64 ob.panics, .slice xb ob.out.length cb, .int .i64 ob.steps] 37)
  have BA5 := Lib.hid (BA4.out.nw NC.out)
  have OA5 := Lib.hid (bytesAt_nw OA4.out NC.out)
  have OB5 := Lib.hid (bytesAt_nw OB.out NC.out)
  have N5 := Lib.hid (N4.out.trans NC.out)
  go_upto_region 5 with fail
  generalize w4.alloc (.cells #[.int .i64 ob.kind, .int .i64 ob.panics, .slice xb ob.out.length cb, .int .i64 ob.steps] 37) = w5 at *
  generalize w4.heap.size = qb at *
  have j0 := BA5.out.cell 0
  have j1 := BA5.out.cell 1
  have j2 := BA5.out.cell 2
  have j3 := BA5.out.cell 3
  have l0 := BB.out.cell 0
  have l1 := BB.out.cell 1
  have l2 := BB.out.cell 2
  have l3 := BB.out.cell 3
  simp only [List.getElem?_cons_zero, List.getElem?_cons_succ] at j0 j1 j2 j3 l0 l1 l2 l3
  by_cases hk : oa.kind = 0
  · obtain ⟨hp, hs⟩ := LAW.out.2 hk
    have BG := Lib.hid (begins_true w5 oa ob xa xb ca cb OA5.out OB5.out hp NB.out (by have := LE.out; omega))
    unfold Oc.val at BG
    have hs' : oa.steps ≤ ob.steps := hs
    rw [hk] at j0 BG
    clear hp hs hk
    go_wp2_with fail
    refine BG.out.mono ?_
    rintro e6 w6 ⟨rfl, k6⟩
    have j3 := k6.keeps j3
    have l3 := k6.keeps l3
    have K6 := Lib.hid k6
    clear k6
    go_wp2_with fail
    refine (AW.out _).mono ?_
    rintro ea wa ⟨rfl, ka⟩
    go_wp2_with fail
    go_returns
    exact ⟨rfl, (N5.out.trans K6.out).trans ka⟩
  · have he := LAW.out.1 hk
    subst he
    have SM := Lib.hid (same_true w5 ob xa xb ca cb OA5.out OB5.out)
    unfold Oc.val at SM
    obtain ⟨ne1, ne2, ne3, ne4⟩ := int_ne hk
    clear hk
    go_wp2_with fail
    refine SM.out.mono ?_
    rintro e6 w6 ⟨rfl, k6⟩
    have K6 := Lib.hid k6
    clear k6
    go_wp2_with fail
    refine (AW.out _).mono ?_
    rintro ea wa ⟨rfl, ka⟩
    go_wp2_with fail
    go_returns
    exact ⟨rfl, (N5.out.trans K6.out).trans ka⟩
end Go.Proofs.Ythlcoocboidnlaa
