/- Whether a unit is too deep: export.shallow. -/
import Derived.Test.YtpopgnengimieaaFits
namespace Go.Proofs.Ytpopgnengimieaa
open Go.RowKit

def fitDe (x : De) : Bool := fitTy x.type 0 && !x.fields.any (fun f => !fitTy f.type 0)
def fitFn (f : Fn1) : Bool := !f.body.any (fun s => !fitSt s 0)
def fitUn (u : Un) : Bool := u.decls.all fitDe && u.bodies.all fitFn
theorem all_take {α : Type} {f : α → Bool} {l : List α} {k : Nat} (h : k < l.length) (h1 : (l.take k).all f = true) (h2 : f l[k] = true) : (l.take (k + 1)).all f = true := by
  rw [List.take_succ_eq_append_getElem h, List.all_append, h1]; simp [h2]
theorem all_at {α : Type} {f : α → Bool} {l : List α} {k : Nat} (h : k < l.length) (h2 : f l[k] = false) : l.all f = false := List.all_eq_false.2 ⟨_, List.getElem_mem h, by simp [h2]⟩
theorem all_all {α : Type} {f : α → Bool} {l : List α} {k : Nat} (hk : k = l.length) (h1 : (l.take k).all f = true) : l.all f = true := by
  rwa [List.take_of_length_le (by omega)] at h1

set_option maxRecDepth 100000 in
set_option maxHeartbeats 1000000 in
theorem shallow_any {B : Nat} {W : World} (d : Nat) (u : Un) (cs : List Value) (w : World) (hx : UnAt B W d u cs) (h : In B W w) :
    Calls Try.prog 21 #[.agg cs.toArray] w (BoolPost w (fitUn u)) := by
  obtain ⟨vi, vd, vb, rfl, _, hi, hd, hb⟩ := hx
  obtain ⟨x1, m1, c1, rfl⟩ := hi.slice
  obtain ⟨x2, c2, rfl, hdl, hde⟩ := hd
  obtain ⟨x3, c3, rfl, hbl, hbe⟩ := hb
  obtain ⟨pk, is, ds, bs⟩ := u
  have G := Lib.hid h
  have HD := Lib.hid hde
  have HB := Lib.hid hbe
  obtain ⟨m2, e2⟩ : ∃ n, n = ds.length := ⟨_, rfl⟩
  obtain ⟨m3, e3⟩ : ∃ n, n = bs.length := ⟨_, rfl⟩
  dsimp only at hdl hbl ⊢
  rw [← e2] at hdl ⊢
  rw [← e3] at hbl ⊢
  have ED := Lib.hid e2
  have EB := Lib.hid e3
  clear h hde hbe hi e2 e3
  have BX := Lib.hid (Blk.new w [.string pk, .slice x1 m1 c1, .slice x2 m2 c2, .slice x3 m3 c3] 30)
  have N0 := Lib.hid (Nw.new w (.cells #[.string pk, .slice x1 m1 c1, .slice x2 m2 c2, .slice x3 m3 c3] 30))
  go_enter Try.func21, Try.ntmps21
  go_wp2_with fail
  go_loopw [4, 10] (fun _ i wr => ∃ k : Nat, k ≤ m2 ∧ i = .int .i64 k ∧ Nw (w.alloc (.cells #[.string pk, .slice x1 m1 c1, .slice x2 m2 c2, .slice x3 m3 c3] 30)) wr ∧ (ds.take k).all fitDe = true) (fun _ i _ => m2 - (intOf i).toNat)
  case atStart => exact ⟨0, Nat.zero_le _, rfl, Nw.refl _, by simp⟩
  case round =>
    obtain ⟨k, hk, rfl, g, hall⟩ := hrel
    have Gk := Lib.hid g
    have Hall := Lib.hid hall
    have ck := (BX.out.nw g).cell
    clear g hall
    by_cases hlt : k < m2
    · have hkl : k < ds.length := by rw [← ED.out]; exact hlt
      obtain ⟨b, o, rfl, hb, he⟩ := HD.out (by intro e; rw [e] at hkl; simp at hkl)
      obtain ⟨cs, hcl, hcc, hce⟩ := he k hkl
      obtain ⟨q0, q1, q2, q3, q4, q5, q6, q7, q7l, q7c, q8, q8l, q8c, q9, q9l, q9c, rfl⟩ := shape_De hce
      have f0 := ((G.out.nw (N0.out.trans Gk.out)).bel.cell (p := ⟨b, o + k * 10 + 0, none⟩) hb).trans (hcc 0 (by simp))
      have f1 := ((G.out.nw (N0.out.trans Gk.out)).bel.cell (p := ⟨b, o + k * 10 + 1, none⟩) hb).trans (hcc 1 (by simp))
      have f2 := ((G.out.nw (N0.out.trans Gk.out)).bel.cell (p := ⟨b, o + k * 10 + 2, none⟩) hb).trans (hcc 2 (by simp))
      have f3 := ((G.out.nw (N0.out.trans Gk.out)).bel.cell (p := ⟨b, o + k * 10 + 3, none⟩) hb).trans (hcc 3 (by simp))
      have f4 := ((G.out.nw (N0.out.trans Gk.out)).bel.cell (p := ⟨b, o + k * 10 + 4, none⟩) hb).trans (hcc 4 (by simp))
      have f5 := ((G.out.nw (N0.out.trans Gk.out)).bel.cell (p := ⟨b, o + k * 10 + 5, none⟩) hb).trans (hcc 5 (by simp))
      have f6 := ((G.out.nw (N0.out.trans Gk.out)).bel.cell (p := ⟨b, o + k * 10 + 6, none⟩) hb).trans (hcc 6 (by simp))
      have f7 := ((G.out.nw (N0.out.trans Gk.out)).bel.cell (p := ⟨b, o + k * 10 + 7, none⟩) hb).trans (hcc 7 (by simp))
      have f8 := ((G.out.nw (N0.out.trans Gk.out)).bel.cell (p := ⟨b, o + k * 10 + 8, none⟩) hb).trans (hcc 8 (by simp))
      have f9 := ((G.out.nw (N0.out.trans Gk.out)).bel.cell (p := ⟨b, o + k * 10 + 9, none⟩) hb).trans (hcc 9 (by simp))
      simp only [List.getElem?_cons_zero, List.getElem?_cons_succ, Nat.add_zero] at f0 f1 f2 f3 f4 f5 f6 f7 f8 f9
      obtain ⟨ct, vf, hcs, hct, _, _, _, _, hty, hfd⟩ := hce
      simp only [List.cons.injEq] at hcs
      obtain ⟨_, _, _, _, hcs⟩ := hcs
      obtain ⟨p0, p1, p2, p3, p3l, p3c, p4, p4l, p4c, rfl⟩ := shape_Ty hty
      simp only [List.cons_append, List.nil_append, List.cons.injEq, and_true, Value.int.injEq, Value.string.injEq, Value.slice.injEq, true_and] at hcs
      obtain ⟨rfl, rfl, rfl, ⟨rfl, rfl, rfl⟩, ⟨rfl, rfl, rfl⟩, rfl⟩ := hcs
      have HTY := Lib.hid hty
      have HFD := Lib.hid hfd
      have IN := Lib.hid (fun (o : Obj) => ((G.out.nw (N0.out.trans Gk.out)).alloc o))
      have BD := Lib.hid (Blk.new wr [.int .i64 q0, .string q1, .string q2, .int .i64 q3, .int .i64 q4, .string q5, .string q6, .slice q7 q7l q7c, .slice q8 q8l q8c, .slice q9 q9l q9c] 44)
      clear he hcc hty hfd
      cases hf1 : fitTy (ds[k]'hkl).type 0 with
      | false =>
        have HR := Lib.hid (show fitUn ⟨pk, is, ds, bs⟩ = false by
          have := all_at (f := fitDe) hkl (by simp [fitDe, hf1])
          simp [fitUn, this])
        have HF := Lib.hid hf1
        clear hf1
        go_wp2_with fail
        refine (typeFits d _ _ _ _ HTY.out (IN.out _) (by omega) (by omega)).mono ?_
        rintro e2 w2 ⟨rfl, k2⟩
        rw [HF.out]
        have K2 := Lib.hid (((N0.out.trans Gk.out).alloc _).trans k2)
        clear k2
        go_wp2_with fail
        go_returns
        exact ⟨by rw [HR.out]; rfl, K2.out⟩
      | true =>
        have HF := Lib.hid hf1
        cases hf2 : (ds[k]'hkl).fields.any (fun f => !fitTy f.type 0) with
        | true =>
          have HR := Lib.hid (show fitUn ⟨pk, is, ds, bs⟩ = false by
            have := all_at (f := fitDe) hkl (by simp only [fitDe, hf1, hf2]; rfl)
            simp [fitUn, this])
          have HF2 := Lib.hid hf2
          clear hf1 hf2
          go_wp2_with fail
          refine (typeFits d _ _ _ _ HTY.out (IN.out _) (by omega) (by omega)).mono ?_
          rintro e2 w2 ⟨rfl, k2⟩
          rw [HF.out]
          have K2 := Lib.hid k2
          have cd := (BD.out.nw k2).cell
          clear k2
          go_wp2_with fail
          refine (contains_Fdp 53 (call_enter Try.func53 (by kernel_rfl) rfl) (fun f => !fitTy f.type 0) w2 (fun t cs w' hx hi hn => clo_sh1 (typeFits d) t cs w' hx hi) _ _ HFD.out ((IN.out _).nw K2.out)).mono ?_
          rintro e3 w3 ⟨rfl, k3⟩
          rw [HF2.out]
          have K3 := Lib.hid ((((N0.out.trans Gk.out).alloc _).trans K2.out).trans k3)
          clear k3 cd
          go_wp2_with fail
          go_returns
          exact ⟨by rw [HR.out]; rfl, K3.out⟩
        | false =>
          have HR := Lib.hid (all_take (f := fitDe) hkl Hall.out (by simp only [fitDe, hf1, hf2]; rfl))
          have HF2 := Lib.hid hf2
          clear hf1 hf2
          go_wp2_with fail
          refine (typeFits d _ _ _ _ HTY.out (IN.out _) (by omega) (by omega)).mono ?_
          rintro e2 w2 ⟨rfl, k2⟩
          rw [HF.out]
          have K2 := Lib.hid k2
          have cd := (BD.out.nw k2).cell
          clear k2
          go_wp2_with fail
          refine (contains_Fdp 53 (call_enter Try.func53 (by kernel_rfl) rfl) (fun f => !fitTy f.type 0) w2 (fun t cs w' hx hi hn => clo_sh1 (typeFits d) t cs w' hx hi) _ _ HFD.out ((IN.out _).nw K2.out)).mono ?_
          rintro e3 w3 ⟨rfl, k3⟩
          rw [HF2.out]
          have K3 := Lib.hid (((Gk.out.alloc _).trans K2.out).trans k3)
          clear k3 cd
          go_wp2_with fail
          go_roundw
          case rel => exact ⟨k + 1, by omega, by go_num, K3.out, HR.out⟩
          case measure => simp [intOf]; omega
    · have HDA := Lib.hid (show ds.all fitDe = true from all_all (k := k) (by rw [← ED.out]; omega) Hall.out)
      go_wp2_with fail
      obtain ⟨wo, hwo⟩ : ∃ wo : World, wo = wr := ⟨_, rfl⟩
      subst hwo
      go_loopw [6, 27] (fun _ i wr => ∃ k : Nat, k ≤ m3 ∧ i = .int .i64 k ∧ Nw wo wr ∧ (bs.take k).all fitFn = true) (fun _ i _ => m3 - (intOf i).toNat)
      case atStart => exact ⟨0, Nat.zero_le _, rfl, Nw.refl _, by simp⟩
      case round =>
        obtain ⟨k2, hk2, rfl, g2, hall2⟩ := hrel
        have Gk2 := Lib.hid g2
        have Hall2 := Lib.hid hall2
        clear g2 hall2
        by_cases hlt2 : k2 < m3
        · have hkl : k2 < bs.length := by rw [← EB.out]; exact hlt2
          obtain ⟨b, o, rfl, hb, he⟩ := HB.out (by intro e; rw [e] at hkl; simp at hkl)
          obtain ⟨cs, hcl, hcc, hce⟩ := he k2 hkl
          obtain ⟨q0, q1, q2, q3, q4, q4l, q4c, rfl⟩ := shape_Fn hce
          have f0 := ((G.out.nw ((N0.out.trans Gk.out).trans Gk2.out)).bel.cell (p := ⟨b, o + k2 * 5 + 0, none⟩) hb).trans (hcc 0 (by simp))
          have f1 := ((G.out.nw ((N0.out.trans Gk.out).trans Gk2.out)).bel.cell (p := ⟨b, o + k2 * 5 + 1, none⟩) hb).trans (hcc 1 (by simp))
          have f2 := ((G.out.nw ((N0.out.trans Gk.out).trans Gk2.out)).bel.cell (p := ⟨b, o + k2 * 5 + 2, none⟩) hb).trans (hcc 2 (by simp))
          have f3 := ((G.out.nw ((N0.out.trans Gk.out).trans Gk2.out)).bel.cell (p := ⟨b, o + k2 * 5 + 3, none⟩) hb).trans (hcc 3 (by simp))
          have f4 := ((G.out.nw ((N0.out.trans Gk.out).trans Gk2.out)).bel.cell (p := ⟨b, o + k2 * 5 + 4, none⟩) hb).trans (hcc 4 (by simp))
          simp only [List.getElem?_cons_zero, List.getElem?_cons_succ, Nat.add_zero] at f0 f1 f2 f3 f4
          obtain ⟨vf, hcs, _, _, _, hst⟩ := hce
          simp only [List.cons.injEq, and_true] at hcs
          obtain ⟨_, _, _, _, rfl⟩ := hcs
          have HST := Lib.hid hst
          have IN := Lib.hid (fun (o : Obj) => ((G.out.nw ((N0.out.trans Gk.out).trans Gk2.out)).alloc o))
          clear he hcc hst
          cases hf1 : (bs[k2]'hkl).body.any (fun s => !fitSt s 0) with
          | true =>
            have HR := Lib.hid (show fitUn ⟨pk, is, ds, bs⟩ = false by
              have := all_at (f := fitFn) hkl (by simp only [fitFn, hf1]; rfl)
              simp [fitUn, this])
            have HF := Lib.hid hf1
            clear hf1
            go_wp2_with fail
            refine (contains_Stp 55 (call_enter Try.func55 (by kernel_rfl) rfl) (fun s => !fitSt s 0) _ (fun t cs w' hx hi hn => clo_sh2 (statFits d) t cs w' hx hi) _ _ HST.out (IN.out _)).mono ?_
            rintro e3 w3 ⟨rfl, k3⟩
            rw [HF.out]
            have K3 := Lib.hid ((((N0.out.trans Gk.out).trans Gk2.out).alloc _).trans k3)
            clear k3
            go_wp2_with fail
            go_returns
            exact ⟨by rw [HR.out]; rfl, K3.out⟩
          | false =>
            have HR := Lib.hid (all_take (f := fitFn) hkl Hall2.out (by simp only [fitFn, hf1]; rfl))
            have HF := Lib.hid hf1
            clear hf1
            go_wp2_with fail
            refine (contains_Stp 55 (call_enter Try.func55 (by kernel_rfl) rfl) (fun s => !fitSt s 0) _ (fun t cs w' hx hi hn => clo_sh2 (statFits d) t cs w' hx hi) _ _ HST.out (IN.out _)).mono ?_
            rintro e3 w3 ⟨rfl, k3⟩
            rw [HF.out]
            have K3 := Lib.hid ((Gk2.out.alloc _).trans k3)
            clear k3
            go_wp2_with fail
            go_roundw
            case rel => exact ⟨k2 + 1, by omega, by go_num, K3.out, HR.out⟩
            case measure => simp [intOf]; omega
        · have HBA := Lib.hid (show bs.all fitFn = true from all_all (k := k2) (by rw [← EB.out]; omega) Hall2.out)
          have HR := Lib.hid (show fitUn ⟨pk, is, ds, bs⟩ = true by simp [fitUn, HDA.out, HBA.out])
          go_wp2_with fail
          go_returns
          exact ⟨by rw [HR.out]; rfl, (N0.out.trans Gk.out).trans Gk2.out⟩
end Go.Proofs.Ytpopgnengimieaa
