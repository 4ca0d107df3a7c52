/- MachRuns: any image with any memory, input and steps ends as the document says. -/
import Derived.Test.YthlcoocboidnlaaMach32
namespace Go.Proofs.Ythlcoocboidnlaa
open Go.RowKit
set_option linter.unusedSimpArgs false
set_option linter.unusedVariables false

set_option maxRecDepth 100000 in
set_option maxHeartbeats 4000000 in
theorem machRuns_walk {R R' : Nat → Prop} {W : World} {xc xd xi : Option Addr} {nc cc nd cd ni ci : Nat} {entry : Int} {m : Img} {inp : List UInt8} (h : ImgAt R W xc xd nc cc nd cd entry m) (hi : BytesR R' W (.slice xi ni ci) inp) (hr : ∀ b, R' b → b < W.heap.size) (hli : inp.length ≤ 9223372036854775807)
    (mem fuel : Int) (hf : I64 fuel) :
    Calls Try.prog 5 #[.agg #[.slice xc nc cc, .slice xd nd cd, .int .i64 entry], .int .i64 mem, .slice xi ni ci, .int .i64 fuel] W (BoolPost W true) := by
  have N0 := Lib.hid (Nw.new W (.cells #[.slice xc nc cc, .slice xd nd cd, .int .i64 entry] 29))
  have IM0 := Lib.hid (h.nw N0.out)
  have BI := Lib.hid (Blk.new W [.slice xc nc cc, .slice xd nd cd, .int .i64 entry] 29)
  have IN0 := Lib.hid (hi.kp N0.out (fun _ _ x => x))
  have HRI := Lib.hid (fun b (hb : R' b) => Nat.lt_of_lt_of_le (hr b hb) N0.out.size)
  have HLI := Lib.hid hli
  have HV := Lib.hid (heavy_any (W.alloc (.cells #[.slice xc nc cc, .slice xd nd cd, .int .i64 entry] 29)) xc xd xi nc cc nd cd ni ci entry mem fuel (by rw [h.code.len]; exact h.lc) (by rw [h.data.len]; exact h.ld) (by rw [hi.len]; exact hli))
  have AW := Lib.hid awake_any
  clear h hi hr hli
  go_enter Try.func5, Try.ntmps5
  go_upto_region 1 with fail
  generalize W.alloc (.cells #[.slice xc nc cc, .slice xd nd cd, .int .i64 entry] 29) = w0 at *
  generalize W.heap.size = bi at *
  have i0 := BI.out.cell 0
  have i1 := BI.out.cell 1
  have i2 := BI.out.cell 2
  simp only [List.getElem?_cons_zero, List.getElem?_cons_succ] at i0 i1 i2
  go_wp2_with fail
  refine HV.out.mono ?_
  rintro e1 w1 ⟨rfl, k1⟩
  have N1 := Lib.hid (N0.out.trans k1)
  have K1 := Lib.hid k1
  have BI1 := Lib.hid (BI.out.nw k1)
  clear k1 HV i0 i1 i2 BI N0
  have i0 := BI1.out.cell 0
  have i1 := BI1.out.cell 1
  have i2 := BI1.out.cell 2
  simp only [List.getElem?_cons_zero, List.getElem?_cons_succ] at i0 i1 i2
  by_cases hv : heavyB nc nd ni mem fuel = true
  · rw [hv]
    go_wp2_with fail
    refine (AW.out _).mono ?_
    rintro ea wa ⟨rfl, ka⟩
    go_wp2_with fail
    go_returns
    exact ⟨rfl, N1.out.trans ka⟩
  have hv : heavyB nc nd ni mem fuel = false := by simpa using hv
  have hf3 : fuel ≤ 3000 := by
    have := of_decide_eq_false hv
    omega
  rw [hv]
  have RA := Lib.hid (fun (wz : World) (k : Nw w0 wz) => fnrun_any (IM0.out.nw k) (IN0.out.kp k (fun _ _ x => x)) (fun b hb => Nat.lt_of_lt_of_le (HRI.out b hb) k.size) HLI.out mem fuel hf)
  have RB := Lib.hid (fun (wz : World) (k : Nw w0 wz) => (dfnrun_any (IM0.out.nw k) (IN0.out.kp k (fun _ _ x => x)) (fun b hb => Nat.lt_of_lt_of_le (HRI.out b hb) k.size) HLI.out mem fuel hf).mono fun _ _ q => OcP.a q)
  generalize m.run mem inp fuel = oa at *
  go_wp2_with fail
  refine (RA.out _ K1.out).mono ?_
  rintro e2 w2 ⟨xa, ca, rfl, ho, k2⟩
  have OA := Lib.hid (show BytesAt w2 (.slice xa oa.out.length ca) oa.out from own_bytesAt ho)
  have BI2 := Lib.hid (BI1.out.nw k2)
  have K2 := Lib.hid (K1.out.trans k2)
  have N2 := Lib.hid (N1.out.trans k2)
  clear ho k2 RA i0 i1 i2 N1 BI1 K1
  unfold Oc.val
  have NA := Lib.hid (Nw.new w2 (.cells #[.int .i64 oa.kind, .int .i64 oa.panics, .slice xa oa.out.length ca, .int .i64 oa.steps] 37))
  have BA := Lib.hid (Blk.new w2 [.int .i64 oa.kind, .int .i64 oa.panics, .slice xa oa.out.length ca, .int .i64 oa.steps] 37)
  have OA3 := Lib.hid (bytesAt_nw OA.out NA.out)
  have BI3 := Lib.hid (BI2.out.nw NA.out)
  have N3 := Lib.hid (N2.out.trans NA.out)
  have K3 := Lib.hid (K2.out.trans NA.out)
  go_upto_region 4 with fail
  generalize w2.alloc (.cells #[.int .i64 oa.kind, .int .i64 oa.panics, .slice xa oa.out.length ca, .int .i64 oa.steps] 37) = w3 at *
  generalize w2.heap.size = qa at *
  have i0 := BI3.out.cell 0
  have i1 := BI3.out.cell 1
  have i2 := BI3.out.cell 2
  have j0 := BA.out.cell 0
  have j1 := BA.out.cell 1
  have j2 := BA.out.cell 2
  have j3 := BA.out.cell 3
  simp only [List.getElem?_cons_zero, List.getElem?_cons_succ] at i0 i1 i2 j0 j1 j2 j3
  have FC := Lib.hid (fun (wz : World) (hz : Nw w3 wz) => (⟨hz.keeps i0, hz.keeps i1, hz.keeps i2, hz.keeps j0, hz.keeps j1, hz.keeps j2, hz.keeps j3⟩ : _ ∧ _ ∧ _ ∧ _ ∧ _ ∧ _ ∧ _))
  have FIN := Lib.hid (fun (wz : World) (k : Nw w3 wz) => (show BoolPost W true (.returned (.bool true)) wz from ⟨rfl, N3.out.trans k⟩))
  have RC := Lib.hid (fun (wz : World) (k : Nw w3 wz) => RB.out wz (K3.out.trans k))
  clear RB NA BA OA BI2 N2 K2 K3 N3
  go_region_held3 (fun wz => wz.cell? ⟨bi, 0, none⟩ = some (.slice xc nc cc) ∧ wz.cell? ⟨bi, 1, none⟩ = some (.slice xd nd cd) ∧ wz.cell? ⟨bi, 2, none⟩ = some (.int .i64 entry) ∧ wz.cell? ⟨qa, 0, none⟩ = some (.int .i64 oa.kind) ∧ wz.cell? ⟨qa, 1, none⟩ = some (.int .i64 oa.panics) ∧ wz.cell? ⟨qa, 2, none⟩ = some (.slice xa oa.out.length ca) ∧ wz.cell? ⟨qa, 3, none⟩ = some (.int .i64 oa.steps))
    (first | with_reducible exact FC.out _ (Nw.refl _).drew | with_reducible exact FC.out _ kk)
    (first
      | (go_at_call 21; (with_reducible refine (RC.out _ (by first | assumption | exact (Nw.refl _).drew | exact Nw.refl _)).mono ?_); rintro ea wa ⟨xb, cb, rfl, hob, kb⟩; have kk : Nw w3 wa := Nw.trans (by first | assumption | exact (Nw.refl _).drew | exact Nw.refl _) kb; have OB := Lib.hid hob; have KB := Lib.hid kk; clear hob)
      | (go_at_call 20; refine (same_agg _ oa xa xb ca cb (bytesAt_nw OA3.out KB.out) OB.out).mono ?_; rintro eb wb ⟨rfl, kc⟩; have kk : Nw w3 wb := Nw.trans KB.out kc)
      | (go_at_call 18; (with_reducible refine (AW.out _).mono ?_); rintro eg wg ⟨rfl, kd⟩; have kk : Nw w3 wg := Nw.trans (by first | assumption | exact (Nw.refl _).drew | exact Nw.refl _) kd))
  all_goals
    go_wp2_with fail
    go_returns
    exact FIN.out _ kk
end Go.Proofs.Ythlcoocboidnlaa
