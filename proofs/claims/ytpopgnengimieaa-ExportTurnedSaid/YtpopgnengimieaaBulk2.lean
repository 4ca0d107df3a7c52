/- How much a unit is: r8.Bulk, great; r8.Hash. -/
import Derived.Test.YtpopgnengimieaaBulk
import Derived.Test.YtpopgnengimieaaAwake8
import Derived.Deep.QuietTactic
import Derived.BigQuiet
import Derived.Deep.RegionHeld3
namespace Go.Proofs.Ytpopgnengimieaa
open Go.RowKit
set_option linter.unusedSimpArgs false
set_option linter.unusedVariables false

set_option maxRecDepth 100000 in
set_option maxHeartbeats 400000 in
theorem rhash_any {B : Nat} {W : World} (d : Nat) (u : Un) (cs : List Value) (w : World) (hx : UnAt B W d u cs) (h : In B W w) (hu : cntUn u ≤ 3000) :
    Calls Try.prog 19 #[.agg cs.toArray] w (fun e w' => e = .returned (.int .i64 (hashU u)) ∧ Nw w w') := by
  have E := Lib.hid (fun o => rencode_any d u cs (w.alloc o) hx (h.alloc o) (Nat.le_trans hu (by decide)))
  obtain ⟨vi, vd, vb, rfl, hp, hi, hd, hb⟩ := hx
  obtain ⟨x1, m1, c1, rfl⟩ := hi.slice
  obtain ⟨x2, m2, c2, rfl⟩ := hd.slice
  obtain ⟨x3, m3, c3, rfl⟩ := hb.slice
  clear hp hi hd hb h hu
  go_enter Try.func19, Try.ntmps19
  go_wp2_with fail
  refine (E.out _).mono ?_
  rintro e1 w1 ⟨a, n, c, rfl, k, hb⟩
  have K := Lib.hid ((Nw.new w _).trans k)
  have HB := Lib.hid hb
  clear k hb
  by_cases hc : codeU u = 0
  · have HC := Lib.hid hc
    rw [hc]
    have S := Lib.hid (rsum_any w1 (.slice a n c) (encB u) (by have := HB.out.at; rw [if_pos hc] at this; exact this))
    clear hc
    go_wp2_with fail
    refine S.out.mono ?_
    rintro e2 w2 ⟨rfl, rfl⟩
    go_wp2_with fail
    go_returns
    exact ⟨by rw [hashU, if_pos HC.out]; rfl, K.out⟩
  · have HC := Lib.hid hc
    have g0 : (codeU u == 0) = false := beq_eq_false_iff_ne.2 hc
    have g1 : (codeU u != 0) = true := by simp [hc]
    clear hc
    go_wp2_with fail
    go_returns
    exact ⟨by rw [hashU, if_neg HC.out]; rfl, K.out⟩

/-- a declaration's parts but itself -/
def dxt (x : De) : Nat := cntTy x.type + cntFds x.fields
def dxs : List De → Nat
  | [] => 0
  | x :: r => dxt x + dxs r
theorem dxs_append : ∀ l m : List De, dxs (l ++ m) = dxs l + dxs m
  | [], m => by simp [dxs]
  | t :: r, m => by simp [dxs, dxs_append r m, Nat.add_assoc]
theorem dxs_take {l : List De} {k : Nat} (h : k < l.length) : dxs (l.take (k + 1)) = dxs (l.take k) + dxt l[k] := by
  rw [List.take_succ_eq_append_getElem h, dxs_append]; simp [dxs]
theorem dxs_le {l : List De} (k : Nat) : dxs (l.take k) ≤ dxs l := by
  have h := dxs_append (l.take k) (l.drop k)
  rw [List.take_append_drop] at h; omega
theorem dxs_eq : ∀ l : List De, cntDes l = l.length + dxs l
  | [] => rfl
  | x :: r => by simp only [cntDes, dxs, cntDe, dxt, dxs_eq r, List.length_cons]; omega
def fts : List Fd → Nat
  | [] => 0
  | x :: r => cntTy x.type + fts r
theorem fts_append : ∀ l m : List Fd, fts (l ++ m) = fts l + fts m
  | [], m => by simp [fts]
  | t :: r, m => by simp [fts, fts_append r m, Nat.add_assoc]
theorem fts_take {l : List Fd} {k : Nat} (h : k < l.length) : fts (l.take (k + 1)) = fts (l.take k) + cntTy l[k].type := by
  rw [List.take_succ_eq_append_getElem h, fts_append]; simp [fts]
theorem fts_le {l : List Fd} (k : Nat) : fts (l.take k) ≤ fts l := by
  have h := fts_append (l.take k) (l.drop k)
  rw [List.take_append_drop] at h; omega
theorem fts_eq : ∀ l : List Fd, cntFds l = l.length + fts l
  | [] => rfl
  | x :: r => by simp only [cntFds, fts, fts_eq r, List.length_cons]; omega
def bxs : List Fn1 → Nat
  | [] => 0
  | x :: r => cntSts x.body + bxs r
theorem bxs_append : ∀ l m : List Fn1, bxs (l ++ m) = bxs l + bxs m
  | [], m => by simp [bxs]
  | t :: r, m => by simp [bxs, bxs_append r m, Nat.add_assoc]
theorem bxs_take {l : List Fn1} {k : Nat} (h : k < l.length) : bxs (l.take (k + 1)) = bxs (l.take k) + cntSts l[k].body := by
  rw [List.take_succ_eq_append_getElem h, bxs_append]; simp [bxs]
theorem bxs_le {l : List Fn1} (k : Nat) : bxs (l.take k) ≤ bxs l := by
  have h := bxs_append (l.take k) (l.drop k)
  rw [List.take_append_drop] at h; omega
theorem bxs_eq : ∀ l : List Fn1, cntFns l = l.length + bxs l
  | [] => rfl
  | x :: r => by simp only [cntFns, bxs, cntFn, bxs_eq r, List.length_cons]; omega
theorem cntUn_eq (u : Un) : cntUn u = u.imports.length + u.decls.length + u.bodies.length + dxs u.decls + bxs u.bodies := by
  simp only [cntUn, dxs_eq, bxs_eq]; omega
/-- the relation of Bulk's number -/
def CB (t : Nat) (n : Int) : Prop := 0 ≤ n ∧ n ≤ 562949953421312 ∧ ((t : Int) ≤ 3000 → n = t) ∧ (3000 < (t : Int) → 3000 < n)
theorem CB.start {t : Nat} (h : (t : Int) ≤ 562949953421312) : CB t t := ⟨by omega, h, fun _ => rfl, fun h => h⟩
theorem CB.over {t t' : Nat} {n : Int} (h : CB t n) (hn : ¬ n ≤ 3000) (ht : t ≤ t') : CB t' n := by
  obtain ⟨h1, h2, h3, h4⟩ := h
  by_cases hc : (t : Int) ≤ 3000
  · have := h3 hc; omega
  · exact ⟨h1, h2, fun _ => by omega, fun _ => h4 (by omega)⟩
theorem CB.add {t u m : Nat} {n r c : Int} (h : CB t n) (hn : n ≤ 3000) (hr : CR (3000 - n) c u r) (hc : c ≤ 10) (hc0 : 0 ≤ c) (hm : m ≤ 140737488355328) : CB (t + (u + m)) (n + r + m) := by
  obtain ⟨h1, h2, h3, h4⟩ := h
  have hb := hr.bound (by omega) (by omega)
  have ht : (t : Int) ≤ 3000 := by
    by_cases hc : (t : Int) ≤ 3000
    · exact hc
    · have := h4 (by omega); omega
  have hnt := h3 ht
  refine ⟨by omega, by omega, fun h => ?_, fun h => ?_⟩
  · have := hr.1 (by omega); omega
  · by_cases hu : (u : Int) ≤ 3000 - n
    · have := hr.1 hu; omega
    · have := (hr.2 (by omega)).1; omega
theorem CB.add0 {t u : Nat} {n r c : Int} (h : CB t n) (hn : n ≤ 3000) (hr : CR (3000 - n) c u r) (hc : c ≤ 10) (hc0 : 0 ≤ c) : CB (t + u) (n + r) := by
  have := h.add hn hr hc hc0 (m := 0) (by omega)
  simpa using this
def BulkPost (w : World) (t : Nat) (e : Ending) (w' : World) : Prop := ∃ r : Int, e = .returned (.int .i64 r) ∧ CB t r ∧ Nw w w'

set_option maxRecDepth 100000 in
set_option maxHeartbeats 1000000 in
theorem bulk_any {B : Nat} {W : World} (d : Nat) (u : Un) (cs : List Value) (w : World) (hx : UnAt B W d u cs) (h : In B W w) :
    Calls Try.prog 20 #[.agg cs.toArray, .int .i64 3000] w (BulkPost w (cntUn u)) := by
  obtain ⟨vi, vd, vb, rfl, _, hi, hd, hb⟩ := hx
  obtain ⟨x1, c1, rfl, hil, _⟩ := hi
  obtain ⟨x2, c2, rfl, hdl, hde⟩ := hd
  obtain ⟨x3, c3, rfl, hbl, hbe⟩ := hb
  rw [cntUn_eq]
  obtain ⟨pk, is, ds, bs⟩ := u
  have G := Lib.hid h
  have HD := Lib.hid hde
  have HB := Lib.hid hbe
  obtain ⟨m1, e1⟩ : ∃ n, n = is.length := ⟨_, rfl⟩
  obtain ⟨m2, e2⟩ : ∃ n, n = ds.length := ⟨_, rfl⟩
  obtain ⟨m3, e3⟩ : ∃ n, n = bs.length := ⟨_, rfl⟩
  dsimp only at hil hdl hbl ⊢
  rw [← e1] at hil ⊢
  rw [← e2] at hdl ⊢
  rw [← e3] at hbl ⊢
  have ED := Lib.hid e2
  have EB := Lib.hid e3
  clear h hde hbe e1 e2 e3
  have BX := Lib.hid (Blk.new w [.string pk, .slice x1 m1 c1, .slice x2 m2 c2, .slice x3 m3 c3] 30)
  have N0 := Lib.hid (Nw.new w (.cells #[.string pk, .slice x1 m1 c1, .slice x2 m2 c2, .slice x3 m3 c3] 30))
  have S0 := Lib.hid (show CB (m1 + m2 + m3) ((m1 : Int) + m2 + m3) by
    have := CB.start (t := m1 + m2 + m3) (by omega)
    simpa only [Int.natCast_add] using this)
  go_enter Try.func20, Try.ntmps20
  go_wp2_with fail
  go_loopw [5, 6, 7] (fun vn i vj wr => ∃ (k : Nat) (nn : Int), k ≤ m2 ∧ i = .int .i64 k ∧ vn = .int .i64 nn ∧ 0 ≤ nn ∧ nn ≤ 562949953421312 ∧ Nw (w.alloc (.cells #[.string pk, .slice x1 m1 c1, .slice x2 m2 c2, .slice x3 m3 c3] 30)) wr ∧ CB (m1 + m2 + m3 + dxs (ds.take k)) nn) (fun _ i _ _ => m2 - (intOf i).toNat)
  case atStart => exact ⟨0, (m1 : Int) + m2 + m3, Nat.zero_le _, rfl, by go_num, by omega, by omega, Nw.refl _, S0.out⟩
  case round =>
    obtain ⟨k, nn, hk, rfl, rfl, hn0, hn1, g, hcr⟩ := hrel
    have Gk := Lib.hid g
    have CRk := Lib.hid hcr
    have ck := (BX.out.nw g).cell
    clear g hcr
    by_cases hlt : k < m2
    · by_cases hnn : nn ≤ 3000
      · have hkl : k < ds.length := by rw [← ED.out]; exact hlt
        obtain ⟨b, o, rfl, hb, he⟩ := HD.out (by intro e; rw [e] at hkl; simp at hkl)
        obtain ⟨cs, hcl, hcc, hce⟩ := he k hkl
        obtain ⟨q0, q1, q2, q3, q4, q5, q6, q7, q7l, q7c, q8, q8l, q8c, q9, q9l, q9c, rfl⟩ := shape_De hce
        have f0 := ((G.out.nw (N0.out.trans Gk.out)).bel.cell (p := ⟨b, o + k * 10 + 0, none⟩) hb).trans (hcc 0 (by simp))
        have f1 := ((G.out.nw (N0.out.trans Gk.out)).bel.cell (p := ⟨b, o + k * 10 + 1, none⟩) hb).trans (hcc 1 (by simp))
        have f2 := ((G.out.nw (N0.out.trans Gk.out)).bel.cell (p := ⟨b, o + k * 10 + 2, none⟩) hb).trans (hcc 2 (by simp))
        have f3 := ((G.out.nw (N0.out.trans Gk.out)).bel.cell (p := ⟨b, o + k * 10 + 3, none⟩) hb).trans (hcc 3 (by simp))
        have f4 := ((G.out.nw (N0.out.trans Gk.out)).bel.cell (p := ⟨b, o + k * 10 + 4, none⟩) hb).trans (hcc 4 (by simp))
        have f5 := ((G.out.nw (N0.out.trans Gk.out)).bel.cell (p := ⟨b, o + k * 10 + 5, none⟩) hb).trans (hcc 5 (by simp))
        have f6 := ((G.out.nw (N0.out.trans Gk.out)).bel.cell (p := ⟨b, o + k * 10 + 6, none⟩) hb).trans (hcc 6 (by simp))
        have f7 := ((G.out.nw (N0.out.trans Gk.out)).bel.cell (p := ⟨b, o + k * 10 + 7, none⟩) hb).trans (hcc 7 (by simp))
        have f8 := ((G.out.nw (N0.out.trans Gk.out)).bel.cell (p := ⟨b, o + k * 10 + 8, none⟩) hb).trans (hcc 8 (by simp))
        have f9 := ((G.out.nw (N0.out.trans Gk.out)).bel.cell (p := ⟨b, o + k * 10 + 9, none⟩) hb).trans (hcc 9 (by simp))
        simp only [List.getElem?_cons_zero, List.getElem?_cons_succ, Nat.add_zero] at f0 f1 f2 f3 f4 f5 f6 f7 f8 f9
        obtain ⟨ct, vf, hcs, hct, _, _, _, _, hty, hfd⟩ := hce
        simp only [List.cons.injEq] at hcs
        obtain ⟨_, _, _, _, hcs⟩ := hcs
        obtain ⟨p0, p1, p2, p3, p3l, p3c, p4, p4l, p4c, rfl⟩ := shape_Ty hty
        simp only [List.cons_append, List.nil_append, List.cons.injEq, and_true, Value.int.injEq, Value.string.injEq, Value.slice.injEq, true_and] at hcs
        obtain ⟨rfl, rfl, rfl, ⟨rfl, rfl, rfl⟩, ⟨rfl, rfl, rfl⟩, rfl⟩ := hcs
        have HTY := Lib.hid hty
        have HT := Lib.hid (dxs_take hkl)
        obtain ⟨xf, cf, hfv, hfl, hfe⟩ := hfd
        simp only [Value.slice.injEq] at hfv
        obtain ⟨rfl, rfl, rfl⟩ := hfv
        have HF := Lib.hid hfe
        obtain ⟨mf, ef⟩ : ∃ n, n = (ds[k]'hkl).fields.length := ⟨_, rfl⟩
        have EF := Lib.hid ef
        rw [← ef] at f9 hfl
        have hq0 : (0 : Int) ≤ (k : Int) := by omega
        have hq1 : (k : Int) < (m2 : Int) := by omega
        have g2 := ck 2
        simp only [List.getElem?_cons_zero, List.getElem?_cons_succ] at g2
        have hw1 : IntKind.i64.wrap (3000 - nn) = 3000 - nn := IntWalk.i64_in _ (by omega)
        have FC := Lib.hid (fun (wz : World) (hz : Nw wr wz) => (⟨hz.keeps g2, hz.keeps f4, hz.keeps f5, hz.keeps f6, hz.keeps f7, hz.keeps f8, hz.keeps f9⟩ : _ ∧ _ ∧ _ ∧ _ ∧ _ ∧ _ ∧ _))
        clear he hcc hty hfe ef
        go_wp2_with fail
        go_region_held3 (fun w' => Nw wr w' ∧ w'.cell? ⟨w.heap.size, 2, none⟩ = some (.slice (some ⟨b, o, none⟩) m2 c2) ∧ w'.cell? ⟨b, o + k * 10 + 4, none⟩ = some (.int .i64 q4) ∧ w'.cell? ⟨b, o + k * 10 + 5, none⟩ = some (.string q5) ∧ w'.cell? ⟨b, o + k * 10 + 6, none⟩ = some (.string q6) ∧ w'.cell? ⟨b, o + k * 10 + 7, none⟩ = some (.slice q7 q7l q7c) ∧ w'.cell? ⟨b, o + k * 10 + 8, none⟩ = some (.slice q8 q8l q8c) ∧ w'.cell? ⟨b, o + k * 10 + 9, none⟩ = some (.slice q9 mf q9c))
          (first
            | exact ⟨Nw.refl _, FC.out _ (Nw.refl _)⟩
            | exact ⟨(Nw.refl _).drew, FC.out _ (Nw.refl _).drew⟩
            | exact ⟨(Nw.refl _).drew.trans k2, FC.out _ ((Nw.refl _).drew.trans k2)⟩)
          (first
            | (go_at_call 49; refine (count_any d _ _ _ _ HTY.out (G.out.nw ((N0.out.trans Gk.out).trans (Nw.refl _).drew)) (by omega) (by omega)).mono ?_; rintro e2 w2 ⟨r, rfl, hcr, k2⟩; have hrb := hcr.bound (by omega) (by omega); have CR2 := Lib.hid hcr; clear hcr; obtain ⟨hr1, hr2⟩ := hrb; have hw2 : IntKind.i64.wrap (nn + r) = nn + r := IntWalk.i64_in _ (by omega); have hw3 : IntKind.i64.wrap (nn + r + mf) = nn + r + mf := IntWalk.i64_in _ (by omega)))
        have CA := Lib.hid (CRk.out.add hnn CR2.out (by omega) (by omega) hfl)
        clear hw1 hw2 hw3 CR2
        obtain ⟨n2, hn2⟩ : ∃ n2 : Int, n2 = nn + r + mf := ⟨_, rfl⟩
        have hn20 : 0 ≤ n2 := by omega
        have hn21 : n2 ≤ 562949953421312 := by omega
        rw [← hn2] at CA ⊢
        have HN2 := Lib.hid hn2
        clear hn2
        have KK := Lib.hid ((Nw.refl _).drew.trans k2)
        have K3 := Lib.hid (Gk.out.trans KK.out)
        have F2 := Lib.hid (fun (wz : World) (hz : Nw w2 wz) => And.intro (FC.out wz (KK.out.trans hz)).1 (FC.out wz (KK.out.trans hz)).2.2.2.2.2.2)
        clear f0 f1 f2 f3 f4 f5 f6 f7 f8 f9 g2 ck k2
        go_wp2_with fail
        go_loopw [5, 7] (fun vn i wr => ∃ (j : Nat) (nj : Int), j ≤ mf ∧ i = .int .i64 j ∧ vn = .int .i64 nj ∧ 0 ≤ nj ∧ nj ≤ 562949953421312 ∧ Nw w2 wr ∧ CB (m1 + m2 + m3 + dxs (ds.take k) + (cntTy (ds[k]'hkl).type + mf) + fts ((ds[k]'hkl).fields.take j)) nj) (fun _ i _ => mf - (intOf i).toNat)
        case atStart => exact ⟨0, n2, Nat.zero_le _, rfl, rfl, hn20, hn21, Nw.refl _, CA.out⟩
        case round =>
          obtain ⟨j, nj, hj, rfl, rfl, hj0, hj1, g, hcr⟩ := hrel
          have Gj := Lib.hid g
          have CRj := Lib.hid hcr
          obtain ⟨g2, f9⟩ := F2.out _ g
          clear g hcr
          by_cases hjt : j < mf
          · by_cases hjn : nj ≤ 3000
            · have hjl : j < (ds[k]'hkl).fields.length := by rw [← EF.out]; exact hjt
              obtain ⟨bf, of_, rfl, hbf, hef⟩ := HF.out (by intro e; rw [e] at hjl; simp at hjl)
              obtain ⟨cs, hcl, hcc, hce⟩ := hef j hjl
              obtain ⟨r0, r1, r2, r3, r4, r4l, r4c, r5, r5l, r5c, rfl⟩ := shape_Fd hce
              have e0 := ((G.out.nw ((N0.out.trans K3.out).trans Gj.out)).bel.cell (p := ⟨bf, of_ + j * 6 + 0, none⟩) hbf).trans (hcc 0 (by simp))
              have e1 := ((G.out.nw ((N0.out.trans K3.out).trans Gj.out)).bel.cell (p := ⟨bf, of_ + j * 6 + 1, none⟩) hbf).trans (hcc 1 (by simp))
              have e2 := ((G.out.nw ((N0.out.trans K3.out).trans Gj.out)).bel.cell (p := ⟨bf, of_ + j * 6 + 2, none⟩) hbf).trans (hcc 2 (by simp))
              have e3 := ((G.out.nw ((N0.out.trans K3.out).trans Gj.out)).bel.cell (p := ⟨bf, of_ + j * 6 + 3, none⟩) hbf).trans (hcc 3 (by simp))
              have e4 := ((G.out.nw ((N0.out.trans K3.out).trans Gj.out)).bel.cell (p := ⟨bf, of_ + j * 6 + 4, none⟩) hbf).trans (hcc 4 (by simp))
              have e5 := ((G.out.nw ((N0.out.trans K3.out).trans Gj.out)).bel.cell (p := ⟨bf, of_ + j * 6 + 5, none⟩) hbf).trans (hcc 5 (by simp))
              simp only [List.getElem?_cons_zero, List.getElem?_cons_succ, Nat.add_zero] at e0 e1 e2 e3 e4 e5
              obtain ⟨ct, hcs, hct, _, hty⟩ := hce
              simp only [List.cons.injEq] at hcs
              obtain ⟨_, rfl⟩ := hcs
              have HTF := Lib.hid hty
              have HTT := Lib.hid (fts_take hjl)
              clear hcc hef hty
              go_wp2_with fail
              refine (count_any d _ _ _ _ HTF.out (G.out.nw ((N0.out.trans K3.out).trans Gj.out)) (by omega) (by omega)).mono ?_
              rintro e4 w4 ⟨r, rfl, hcr, k4⟩
              have hrb := hcr.bound (by omega) (by omega)
              have CA := Lib.hid (CRj.out.add0 hjn hcr (by omega) (by omega))
              have K4 := Lib.hid (Gj.out.trans k4)
              clear hcr k4
              obtain ⟨hr1, hr2⟩ := hrb
              go_wp2_with fail
              go_roundw
              case rel => exact ⟨j + 1, nj + r, by omega, by go_num, by go_num, by omega, by omega, K4.out, by rw [HTT.out, ← Nat.add_assoc]; exact CA.out⟩
              case measure => simp [intOf]; omega
            · have CZ := Lib.hid (show CB (m1 + m2 + m3 + dxs (ds.take (k + 1))) nj from CRj.out.over hjn (by
                have h1 := HT.out
                have h2 := fts_le (l := (ds[k]'hkl).fields) j
                have h3 := fts_eq (ds[k]'hkl).fields
                have h4 := EF.out
                simp only [dxt] at h1
                omega))
              go_wp2_with fail
              go_roundw
              case rel => exact ⟨k + 1, nj, by omega, by go_num, rfl, hj0, hj1, K3.out.trans Gj.out, CZ.out⟩
              case measure => simp [intOf]; omega
          · have CZ := Lib.hid (show CB (m1 + m2 + m3 + dxs (ds.take (k + 1))) nj from by
              have h0 := CRj.out
              have h1 := HT.out
              have h3 := fts_eq (ds[k]'hkl).fields
              have h4 := EF.out
              have h9 : (ds[k]'hkl).fields.take j = (ds[k]'hkl).fields := List.take_of_length_le (by omega)
              rw [h9] at h0
              simp only [dxt] at h1
              have h5 : m1 + m2 + m3 + dxs (ds.take (k + 1)) = m1 + m2 + m3 + dxs (ds.take k) + (cntTy (ds[k]'hkl).type + mf) + fts (ds[k]'hkl).fields := by omega
              rw [h5]; exact h0)
            go_wp2_with fail
            go_roundw
            case rel => exact ⟨k + 1, nj, by omega, by go_num, rfl, hj0, hj1, K3.out.trans Gj.out, CZ.out⟩
            case measure => simp [intOf]; omega
      · have CZ := Lib.hid (show CB (m1 + m2 + m3 + dxs ds) nn from CRk.out.over hnn (by have := dxs_le (l := ds) k; omega))
        have HC := Lib.hid (show BulkPost w (m1 + m2 + m3 + dxs ds + bxs bs) (.returned (.int .i64 nn)) wr from ⟨nn, rfl, CZ.out.over hnn (by omega), N0.out.trans Gk.out⟩)
        go_wp2_with fail
        go_loopw [5, 8] (fun vn i wr2 => vn = .int .i64 nn ∧ i = .int .i64 0 ∧ wr2 = wr) (fun _ i _ => 0)
        case atStart => exact ⟨rfl, rfl, rfl⟩
        case round =>
          obtain ⟨rfl, rfl, rfl⟩ := hrel
          by_cases hm3 : 0 < m3
          · go_wp2_with fail
            go_returns
            exact HC.out
          · go_wp2_with fail
            go_returns
            exact HC.out
    · have HCA := Lib.hid (show CB (m1 + m2 + m3 + dxs ds + bxs (bs.take 0)) nn by
        have := CRk.out
        rw [List.take_of_length_le (by rw [← ED.out]; omega)] at this
        simpa [bxs] using this)
      go_wp2_with fail
      go_loopw [5, 8] (fun vn i wr2 => ∃ (k : Nat) (nn : Int), k ≤ m3 ∧ i = .int .i64 k ∧ vn = .int .i64 nn ∧ 0 ≤ nn ∧ nn ≤ 562949953421312 ∧ Nw (w.alloc (.cells #[.string pk, .slice x1 m1 c1, .slice x2 m2 c2, .slice x3 m3 c3] 30)) wr2 ∧ CB (m1 + m2 + m3 + dxs ds + bxs (bs.take k)) nn) (fun _ i _ => m3 - (intOf i).toNat)
      case atStart => exact ⟨0, nn, Nat.zero_le _, rfl, rfl, hn0, hn1, Gk.out, HCA.out⟩
      case round =>
        clear hk hn0 hn1 hlt ck CRk HCA
        obtain ⟨j, n2, hk, rfl, rfl, hn0, hn1, g, hcr⟩ := hrel
        have Gj := Lib.hid g
        have CRj := Lib.hid hcr
        have cj := (BX.out.nw g).cell
        clear g hcr
        by_cases hlt : j < m3
        · by_cases hnn : n2 ≤ 3000
          · have hkl : j < bs.length := by rw [← EB.out]; exact hlt
            obtain ⟨b, o, rfl, hb, he⟩ := HB.out (by intro e; rw [e] at hkl; simp at hkl)
            obtain ⟨cs, hcl, hcc, hce⟩ := he j hkl
            obtain ⟨q0, q1, q2, q3, q4, q4l, q4c, rfl⟩ := shape_Fn hce
            have f0 := ((G.out.nw (N0.out.trans Gj.out)).bel.cell (p := ⟨b, o + j * 5 + 0, none⟩) hb).trans (hcc 0 (by simp))
            have f1 := ((G.out.nw (N0.out.trans Gj.out)).bel.cell (p := ⟨b, o + j * 5 + 1, none⟩) hb).trans (hcc 1 (by simp))
            have f2 := ((G.out.nw (N0.out.trans Gj.out)).bel.cell (p := ⟨b, o + j * 5 + 2, none⟩) hb).trans (hcc 2 (by simp))
            have f3 := ((G.out.nw (N0.out.trans Gj.out)).bel.cell (p := ⟨b, o + j * 5 + 3, none⟩) hb).trans (hcc 3 (by simp))
            have f4 := ((G.out.nw (N0.out.trans Gj.out)).bel.cell (p := ⟨b, o + j * 5 + 4, none⟩) hb).trans (hcc 4 (by simp))
            simp only [List.getElem?_cons_zero, List.getElem?_cons_succ, Nat.add_zero] at f0 f1 f2 f3 f4
            obtain ⟨vf, hcs, _, _, _, hst⟩ := hce
            simp only [List.cons.injEq, and_true] at hcs
            obtain ⟨_, _, _, _, rfl⟩ := hcs
            have HST := Lib.hid hst
            have HT := Lib.hid (bxs_take hkl)
            clear he hcc hst
            go_wp2_with fail
            refine (stats_any d _ _ _ _ HST.out (G.out.nw (N0.out.trans Gj.out)) (by omega) (by omega)).mono ?_
            rintro e2 w2 ⟨r, rfl, hcr, k2⟩
            have hrb := hcr.bound (by omega) (by omega)
            have CR2 := Lib.hid (CRj.out.add0 hnn hcr (by omega) (by omega))
            have K2 := Lib.hid (Gj.out.trans k2)
            clear hcr k2
            obtain ⟨hr1, hr2⟩ := hrb
            go_wp2_with fail
            go_roundw
            case rel => exact ⟨j + 1, n2 + r, by omega, by go_num, by go_num, by omega, by omega, K2.out, by rw [HT.out, ← Nat.add_assoc]; exact CR2.out⟩
            case measure => simp [intOf]; omega
          · have HC := Lib.hid (show BulkPost w (m1 + m2 + m3 + dxs ds + bxs bs) (.returned (.int .i64 n2)) wr from ⟨n2, rfl, CRj.out.over hnn (by
              have := bxs_le (l := bs) j
              omega), N0.out.trans Gj.out⟩)
            go_wp2_with fail
            go_returns
            exact HC.out
        · have HC := Lib.hid (show BulkPost w (m1 + m2 + m3 + dxs ds + bxs bs) (.returned (.int .i64 n2)) wr from ⟨n2, rfl, by
            have := CRj.out
            rw [List.take_of_length_le (by rw [← EB.out]; omega)] at this
            exact this, N0.out.trans Gj.out⟩)
          go_wp2_with fail
          go_returns
          exact HC.out

set_option maxRecDepth 100000 in
set_option maxHeartbeats 400000 in
theorem great_any {B : Nat} {W : World} (d : Nat) (u : Un) (cs : List Value) (w : World) (hx : UnAt B W d u cs) (h : In B W w) :
    Calls Try.prog 12 #[.agg cs.toArray] w (BoolPost w (decide (3000 < cntUn u))) := by
  have E := Lib.hid (fun o => bulk_any d u cs (w.alloc o) hx (h.alloc o))
  obtain ⟨vi, vd, vb, rfl, hp, hi, hd, hb⟩ := hx
  obtain ⟨x1, m1, c1, rfl⟩ := hi.slice
  obtain ⟨x2, m2, c2, rfl⟩ := hd.slice
  obtain ⟨x3, m3, c3, rfl⟩ := hb.slice
  clear hp hi hd hb h
  go_enter Try.func12, Try.ntmps12
  go_wp2_with fail
  refine (E.out _).mono ?_
  rintro e1 w1 ⟨r, rfl, hcb, k⟩
  have K := Lib.hid ((Nw.new w _).trans k)
  have HX := Lib.hid (show decide (3000 < r) = decide (3000 < cntUn u) by
    obtain ⟨_, _, h1, h2⟩ := hcb
    by_cases hc : 3000 < cntUn u
    · have := h2 (by omega); simp [hc, this]
    · have := h1 (by omega); simp [hc]; omega)
  clear k hcb
  go_wp2_with fail
  go_returns
  exact ⟨by rw [← HX.out]; rfl, K.out⟩
end Go.Proofs.Ytpopgnengimieaa
