/- ExportEncodes: the law's walk. -/
import Derived.Test.YtpopgnengimieaaBulk2
import Derived.Test.YtpopgnengimieaaOpen
import Derived.Laws.BytesArg
namespace Go.Proofs.Ytpopgnengimieaa
open Go.RowKit
set_option linter.unusedSimpArgs false
set_option linter.unusedVariables false

theorem bytesAt_nw {w w' : World} {v : Value} {l : List UInt8} (h : BytesAt w v l) (k : Nw w w') : BytesAt w' v l := by
  obtain ⟨x, cap, h1, h2, h3, h4⟩ := h
  refine ⟨x, cap, h1, h2, h3, fun hne => ?_⟩
  obtain ⟨b, o, h5, h6⟩ := h4 hne
  exact ⟨b, o, h5, fun i hi => k.keeps (h6 i hi)⟩
/-- string(b) -/
theorem conv_bytes {w : World} {a : Option Addr} {n c : Nat} {l : List UInt8} (h : BytesAt w (.slice a n c) l) :
    (convert 22 9 (.slice a n c)).run Try.prog w = .ok (.string ⟨l.toArray⟩) w := by
  obtain ⟨x, cap, hv, hl, hm, hc⟩ := h
  simp only [Value.slice.injEq] at hv
  obtain ⟨rfl, rfl, rfl⟩ := hv
  cases l with
  | nil =>
    cases a with
    | none => exact run_convert_bytes_nil w _ _ Try.underlying22 Try.underlying5 _ _ _ Try.underlying9
    | some p =>
      rw [run_convert_bytes_string w _ _ _ _ _ _ Try.underlying22 Try.underlying5 Try.underlying9,
        run_bytesToString w p _ _ [] (by simp [loadCells, loadCellsFrom])]
      rfl
  | cons b r =>
    obtain ⟨g, o, rfl, hcell⟩ := hc (by simp)
    have := run_convert_bytes_arg (P := Try.prog) w _ _ Try.underlying22 Try.underlying5 g o (b :: r).length c ((b :: r).map fun x => (x.toNat : Int)) (by simp) (fun i hi => by
      rw [hcell i hi]
      simp only [List.getD_eq_getElem?_getD, List.getElem?_map, List.getElem?_eq_getElem hi]
      rfl) _ Try.underlying9
    rw [this]
    simp [strOfNums, Function.comp_def]

set_option maxRecDepth 100000 in
set_option maxHeartbeats 1000000 in
theorem exportEncodes_walk (n : Nat) (u : Un) (cs : List Value) (w : World) (hx : UnAt w.heap.size w n u cs) :
    Calls Try.prog 6 #[.agg cs.toArray] w (BoolPost w true) := by
  have HX := Lib.hid hx
  have IN := Lib.hid (In.self w)
  have GR := Lib.hid (fun (wz : World) (hz : Nw w wz) => great_any n u cs wz hx ((In.self w).nw hz))
  have EN := Lib.hid (fun (wz : World) (hz : Nw w wz) => encode_any n u cs wz hx ((In.self w).nw hz))
  have HS := Lib.hid (fun (wz : World) (hz : Nw w wz) => hash_any n u cs wz hx ((In.self w).nw hz))
  obtain ⟨vi, vd, vb, rfl, hp, hi, hd, hb⟩ := hx
  obtain ⟨x1, m1, c1, rfl⟩ := hi.slice
  obtain ⟨x2, m2, c2, rfl⟩ := hd.slice
  obtain ⟨x3, m3, c3, rfl⟩ := hb.slice
  clear hp hi hd hb
  have BX := Lib.hid (Blk.new w [.string u.pkg, .slice x1 m1 c1, .slice x2 m2 c2, .slice x3 m3 c3] 30)
  have N0 := Lib.hid (Nw.new w (.cells #[.string u.pkg, .slice x1 m1 c1, .slice x2 m2 c2, .slice x3 m3 c3] 30))
  by_cases hg : 3000 < cntUn u
  · have HG := Lib.hid (show decide (3000 < cntUn u) = true by simp [hg])
    clear hg
    go_enter Try.func6, Try.ntmps6
    go_wp2_with fail
    refine (GR.out _ N0.out).mono ?_
    rintro e1 w1 ⟨rfl, k1⟩
    rw [HG.out]
    have K1 := Lib.hid (N0.out.trans k1)
    clear k1
    go_wp2_with fail
    refine (awake8_any _).mono ?_
    rintro e2 w2 ⟨rfl, k2⟩
    have K2 := Lib.hid (K1.out.trans k2)
    clear k2
    go_wp2_with fail
    go_returns
    exact ⟨rfl, K2.out⟩
  · have HG := Lib.hid (show decide (3000 < cntUn u) = false by simp; omega)
    have hu : cntUn u ≤ 3000 := by omega
    have REN := Lib.hid (fun (wz : World) (hz : Nw w wz) => rencode_any n u _ wz HX.out ((In.self w).nw hz) (Nat.le_trans hu (by decide)))
    have RHS := Lib.hid (fun (wz : World) (hz : Nw w wz) => rhash_any n u _ wz HX.out ((In.self w).nw hz) hu)
    clear hg hu
    go_enter Try.func6, Try.ntmps6
    go_wp2_with fail
    refine (GR.out _ N0.out).mono ?_
    rintro e1 w1 ⟨rfl, k1⟩
    rw [HG.out]
    have K1 := Lib.hid (N0.out.trans k1)
    have q1 := (BX.out.nw k1).cell
    have B1 := Lib.hid (BX.out.nw k1)
    clear k1
    go_wp2_with fail
    refine (EN.out _ K1.out).mono ?_
    rintro e2 w2 ⟨a2, n2, c2', rfl, k2, hb2⟩
    have K2 := Lib.hid (K1.out.trans k2)
    have B2 := Lib.hid (B1.out.nw k2)
    have q2 := B2.out.cell
    have S2 := Lib.hid hb2.at
    clear k2 hb2 q1
    go_wp2_with fail
    refine (REN.out _ K2.out).mono ?_
    rintro e3 w3 ⟨a3, n3, c3', rfl, k3, hb3⟩
    have K3 := Lib.hid (K2.out.trans k3)
    have B3 := Lib.hid (B2.out.nw k3)
    have S2' := Lib.hid (bytesAt_nw S2.out k3)
    have S3 := Lib.hid hb3.at
    clear k3 hb3 q2
    obtain ⟨s, hs⟩ : ∃ s : ByteArray, s = ⟨(if codeU u = 0 then encB u else []).toArray⟩ := ⟨_, rfl⟩
    have FC := Lib.hid (fun (wz : World) (hz : Nw w3 wz) => (⟨hz, (B3.out.nw hz).cell 0, (B3.out.nw hz).cell 1, (B3.out.nw hz).cell 2, (B3.out.nw hz).cell 3,
      by rw [hs]; exact conv_bytes (bytesAt_nw S2'.out hz), by rw [hs]; exact conv_bytes (bytesAt_nw S3.out hz)⟩ : Nw w3 wz ∧ wz.cell? ⟨w.heap.size, 0, none⟩ = some (.string u.pkg) ∧ wz.cell? ⟨w.heap.size, 1, none⟩ = some (.slice x1 m1 c1) ∧ wz.cell? ⟨w.heap.size, 2, none⟩ = some (.slice x2 m2 c2) ∧ wz.cell? ⟨w.heap.size, 3, none⟩ = some (.slice x3 m3 c3) ∧
        (convert 22 9 (.slice a2 n2 c2')).run Try.prog wz = .ok (.string s) wz ∧ (convert 22 9 (.slice a3 n3 c3')).run Try.prog wz = .ok (.string s) wz))
    clear hs
    go_wp2_with fail
    go_region_held3 (fun wz => Nw w3 wz ∧ wz.cell? ⟨w.heap.size, 0, none⟩ = some (.string u.pkg) ∧ wz.cell? ⟨w.heap.size, 1, none⟩ = some (.slice x1 m1 c1) ∧ wz.cell? ⟨w.heap.size, 2, none⟩ = some (.slice x2 m2 c2) ∧ wz.cell? ⟨w.heap.size, 3, none⟩ = some (.slice x3 m3 c3) ∧
        (convert 22 9 (.slice a2 n2 c2')).run Try.prog wz = .ok (.string s) wz ∧ (convert 22 9 (.slice a3 n3 c3')).run Try.prog wz = .ok (.string s) wz)
      (exact FC.out _ (by first | assumption | exact Nw.refl _ | exact (Nw.refl _).drew))
      (first
        | (go_at_call 14; refine (num8_any _ _).mono ?_; rintro _ _ ⟨rfl, rfl⟩)
        | (go_at_call 18; refine (HS.out _ (K3.out.trans (by first | assumption | exact (Nw.refl _).drew))).mono ?_; rintro e4 w4 ⟨rfl, k4⟩; have kk4 : Nw w3 w4 := Nw.trans (by first | assumption | exact (Nw.refl _).drew) k4)
        | (go_at_call 19; refine (RHS.out _ (K3.out.trans (by first | assumption | exact (Nw.refl _).drew))).mono ?_; rintro e5 w5 ⟨rfl, k5⟩; have kk5 : Nw w3 w5 := Nw.trans (by first | assumption | exact (Nw.refl _).drew) k5)
        | (go_at_call 9; refine (awake8_any _).mono ?_; rintro e6 w6 ⟨rfl, k6⟩; have kk6 : Nw w3 w6 := Nw.trans (by first | assumption | exact (Nw.refl _).drew) k6))
    all_goals
      go_wp2_with fail
      go_returns
      exact ⟨rfl, K3.out.trans (by assumption)⟩
end Go.Proofs.Ytpopgnengimieaa
