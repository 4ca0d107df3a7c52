/- How much a unit is: the document's functions. -/
import Derived.Test.YtpopgnengimieaaREncode
namespace Go.Proofs.Ytpopgnengimieaa
open Go.RowKit
set_option linter.unusedSimpArgs false
set_option linter.unusedVariables false

/-- n is t, or both are more than most -/
def CR (most c : Int) (t : Nat) (n : Int) : Prop := ((t : Int) ≤ most → n = t) ∧ (most < (t : Int) → most < n ∧ n ≤ most + c)
theorem CR.eq {most c : Int} {t : Nat} {n : Int} (h : CR most c t n) (hn : n ≤ most) : n = t ∧ (t : Int) ≤ most := by
  by_cases ht : (t : Int) ≤ most
  · exact ⟨h.1 ht, ht⟩
  · have := (h.2 (by omega)).1; omega
theorem CR.over {most c : Int} {t t' : Nat} {n : Int} (h : CR most c t n) (hn : ¬ n ≤ most) (ht : t ≤ t') : CR most c t' n := by
  by_cases h1 : (t : Int) ≤ most
  · have := h.1 h1; omega
  · exact ⟨fun h => by omega, fun _ => h.2 (by omega)⟩
theorem CR.add {most c c' : Int} {t u : Nat} {n r : Int} (h : CR most c t n) (hn : n ≤ most) (hr : CR (most - n) c' u r) : CR most c' (t + u) (n + r) := by
  obtain ⟨h1, h2⟩ := h.eq hn
  subst h1
  refine ⟨fun h => ?_, fun h => ?_⟩
  · rw [hr.1 (by omega)]; omega
  · have := hr.2 (by omega); omega
theorem CR.up {most c : Int} {t : Nat} {n r : Int} {u : Nat} (h : CR most c t n) (hn : n ≤ most) (hr : CR (most - n) 1 u r) : CR most 2 (t + (1 + u)) (n + 1 + r) := by
  obtain ⟨h1, h2⟩ := h.eq hn
  subst h1
  refine ⟨fun h => ?_, fun h => ?_⟩
  · rw [hr.1 (by omega)]; omega
  · by_cases hu : (u : Int) ≤ most - t
    · have := hr.1 hu; omega
    · have := hr.2 (by omega); omega
theorem CR.weak {most c c' : Int} {t : Nat} {n : Int} (h : CR most c t n) (hc : c ≤ c') : CR most c' t n := ⟨h.1, fun x => by have := h.2 x; omega⟩
theorem CR.bound {most c : Int} {t : Nat} {n : Int} (h : CR most c t n) (h0 : 0 ≤ most) (hc : 0 ≤ c) : 0 ≤ n ∧ n ≤ most + c := by
  by_cases h1 : (t : Int) ≤ most
  · have := h.1 h1; omega
  · have := h.2 (by omega); omega
theorem CR.zero {most c : Int} (h : 0 ≤ most) : CR most c 0 0 := ⟨fun _ => rfl, fun h => by omega⟩
theorem CR.one {most c : Int} (h : 0 ≤ most) (hc : 1 ≤ c) : CR most c 1 1 := ⟨fun _ => rfl, fun h => by omega⟩
def CntPost (w : World) (most c : Int) (t : Nat) (e : Ending) (w' : World) : Prop := ∃ r : Int, e = .returned (.int .i64 r) ∧ CR most c t r ∧ Nw w w'

set_option maxRecDepth 100000 in
set_option maxHeartbeats 400000 in
theorem count_succ {B : Nat} {W : World} {d : Nat}
    (ih : ∀ (t : Ty) (cs : List Value) (most : Int) (w : World), TyAt B W d t cs → In B W w → 0 ≤ most → most ≤ 3000 → Calls Try.prog 49 #[.agg cs.toArray, .int .i64 most] w (CntPost w most 1 (cntTy t)))
    (t : Ty) (cs : List Value) (most : Int) (w : World) (hx : TyAt B W (d + 1) t cs) (h : In B W w) (h0 : 0 ≤ most) (h3 : most ≤ 3000) :
    Calls Try.prog 49 #[.agg cs.toArray, .int .i64 most] w (CntPost w most 1 (cntTy t)) := by
  obtain ⟨kd, pk, nm, la, lr⟩ := t
  obtain ⟨va, vr, rfl, _, _, _, ha, hr⟩ := hx
  obtain ⟨x1, c1, rfl, hal, hae⟩ := ha
  obtain ⟨x2, c2, rfl, hrl, hre⟩ := hr
  have IH := Lib.hid ih
  have G := Lib.hid h
  have HA := Lib.hid hae
  have HR := Lib.hid hre
  obtain ⟨m1, e1⟩ : ∃ n, n = la.length := ⟨_, rfl⟩
  obtain ⟨m2, e2⟩ : ∃ n, n = lr.length := ⟨_, rfl⟩
  rw [← e1] at hal ⊢
  rw [← e2] at hrl ⊢
  have E1 := Lib.hid e1
  have E2 := Lib.hid e2
  clear ih h hae hre e1 e2
  have BX := Lib.hid (Blk.new w [.int .i64 kd, .string pk, .string nm, .slice x1 m1 c1, .slice x2 m2 c2] 41)
  have N0 := Lib.hid (Nw.new w (.cells #[.int .i64 kd, .string pk, .string nm, .slice x1 m1 c1, .slice x2 m2 c2] 41))
  go_enter Try.func49, Try.ntmps49
  go_wp2_with fail
  go_loopw [5, 6] (fun vn i wr => ∃ (k : Nat) (nn : Int), k ≤ m1 ∧ i = .int .i64 k ∧ vn = .int .i64 nn ∧ 0 ≤ nn ∧ nn ≤ most + 1 ∧ Nw (w.alloc (.cells #[.int .i64 kd, .string pk, .string nm, .slice x1 m1 c1, .slice x2 m2 c2] 41)) wr ∧ CR most 1 (1 + cntTys (la.take k)) nn) (fun _ i _ => m1 - (intOf i).toNat)
  case atStart => exact ⟨0, 1, Nat.zero_le _, rfl, rfl, by omega, by omega, Nw.refl _, by simpa [cntTys] using CR.one h0 (by omega)⟩
  case round =>
    obtain ⟨k, nn, hk, rfl, rfl, hn0, hn1, g, hcr⟩ := hrel
    have Gk := Lib.hid g
    have CRk := Lib.hid hcr
    have ck := (BX.out.nw g).cell
    clear g hcr
    by_cases hlt : k < m1
    · by_cases hnn : nn ≤ most
      · have hkl : k < la.length := by rw [← E1.out]; exact hlt
        obtain ⟨b, o, rfl, hb, he⟩ := HA.out (by intro e; rw [e] at hkl; simp at hkl)
        obtain ⟨cs, hcl, hcc, hce⟩ := he k hkl
        obtain ⟨q0, q1, q2, q3, q3l, q3c, q4, q4l, q4c, rfl⟩ := shape_Ty hce
        have f0 := ((G.out.nw (N0.out.trans Gk.out)).bel.cell (p := ⟨b, o + k * 5 + 0, none⟩) hb).trans (hcc 0 (by simp))
        have f1 := ((G.out.nw (N0.out.trans Gk.out)).bel.cell (p := ⟨b, o + k * 5 + 1, none⟩) hb).trans (hcc 1 (by simp))
        have f2 := ((G.out.nw (N0.out.trans Gk.out)).bel.cell (p := ⟨b, o + k * 5 + 2, none⟩) hb).trans (hcc 2 (by simp))
        have f3 := ((G.out.nw (N0.out.trans Gk.out)).bel.cell (p := ⟨b, o + k * 5 + 3, none⟩) hb).trans (hcc 3 (by simp))
        have f4 := ((G.out.nw (N0.out.trans Gk.out)).bel.cell (p := ⟨b, o + k * 5 + 4, none⟩) hb).trans (hcc 4 (by simp))
        simp only [List.getElem?_cons_zero, List.getElem?_cons_succ, Nat.add_zero] at f0 f1 f2 f3 f4
        have HCE := Lib.hid hce
        have HT := Lib.hid (cntTys_take hkl)
        clear he hcc hce
        go_wp2_with fail
        refine (IH.out _ _ _ _ HCE.out (G.out.nw (N0.out.trans Gk.out)) (by omega) (by omega)).mono ?_
        rintro e2 w2 ⟨r, rfl, hcr, k2⟩
        have hrb := hcr.bound (by omega) (by omega)
        have CR2 := Lib.hid (CRk.out.add hnn hcr)
        have K2 := Lib.hid (Gk.out.trans k2)
        clear hcr k2
        obtain ⟨hr1, hr2⟩ := hrb
        go_wp2_with fail
        go_roundw
        case rel => exact ⟨k + 1, nn + r, by omega, by go_num, by go_num, by omega, by omega, K2.out, by rw [HT.out, ← Nat.add_assoc]; exact CR2.out⟩
        case measure => simp [intOf]; omega
      · have HC := Lib.hid (show CntPost w most 1 (cntTy (.mk kd pk nm la lr)) (.returned (.int .i64 nn)) wr from ⟨nn, rfl, CRk.out.over hnn (by
          have := cntTys_le (l := la) k
          simp only [cntTy]; omega), N0.out.trans Gk.out⟩)
        go_wp2_with fail
        go_loopw [5, 7] (fun vn i wr2 => vn = .int .i64 nn ∧ i = .int .i64 0 ∧ wr2 = wr) (fun _ i _ => 0)
        case atStart => exact ⟨rfl, rfl, rfl⟩
        case round =>
          obtain ⟨rfl, rfl, rfl⟩ := hrel
          by_cases hm2 : 0 < m2
          · go_wp2_with fail
            go_returns
            exact HC.out
          · go_wp2_with fail
            go_returns
            exact HC.out
    · have HCA := Lib.hid (show CR most 1 (1 + cntTys la + cntTys (lr.take 0)) nn by
        have := CRk.out
        rw [List.take_of_length_le (by rw [← E1.out]; omega)] at this
        simpa [cntTys] using this)
      go_wp2_with fail
      go_loopw [5, 7] (fun vn i wr2 => ∃ (k : Nat) (nn : Int), k ≤ m2 ∧ i = .int .i64 k ∧ vn = .int .i64 nn ∧ 0 ≤ nn ∧ nn ≤ most + 1 ∧ Nw (w.alloc (.cells #[.int .i64 kd, .string pk, .string nm, .slice x1 m1 c1, .slice x2 m2 c2] 41)) wr2 ∧ CR most 1 (1 + cntTys la + cntTys (lr.take k)) nn) (fun _ i _ => m2 - (intOf i).toNat)
      case atStart => exact ⟨0, nn, Nat.zero_le _, rfl, rfl, hn0, hn1, Gk.out, HCA.out⟩
      case round =>
        clear hk hn0 hn1 hlt ck CRk HCA
        obtain ⟨j, n2, hk, rfl, rfl, hn0, hn1, g, hcr⟩ := hrel
        have Gj := Lib.hid g
        have CRj := Lib.hid hcr
        have cj := (BX.out.nw g).cell
        clear g hcr
        by_cases hlt : j < m2
        · by_cases hnn : n2 ≤ most
          · have hkl : j < lr.length := by rw [← E2.out]; exact hlt
            obtain ⟨b, o, rfl, hb, he⟩ := HR.out (by intro e; rw [e] at hkl; simp at hkl)
            obtain ⟨cs, hcl, hcc, hce⟩ := he j hkl
            obtain ⟨q0, q1, q2, q3, q3l, q3c, q4, q4l, q4c, rfl⟩ := shape_Ty hce
            have f0 := ((G.out.nw (N0.out.trans Gj.out)).bel.cell (p := ⟨b, o + j * 5 + 0, none⟩) hb).trans (hcc 0 (by simp))
            have f1 := ((G.out.nw (N0.out.trans Gj.out)).bel.cell (p := ⟨b, o + j * 5 + 1, none⟩) hb).trans (hcc 1 (by simp))
            have f2 := ((G.out.nw (N0.out.trans Gj.out)).bel.cell (p := ⟨b, o + j * 5 + 2, none⟩) hb).trans (hcc 2 (by simp))
            have f3 := ((G.out.nw (N0.out.trans Gj.out)).bel.cell (p := ⟨b, o + j * 5 + 3, none⟩) hb).trans (hcc 3 (by simp))
            have f4 := ((G.out.nw (N0.out.trans Gj.out)).bel.cell (p := ⟨b, o + j * 5 + 4, none⟩) hb).trans (hcc 4 (by simp))
            simp only [List.getElem?_cons_zero, List.getElem?_cons_succ, Nat.add_zero] at f0 f1 f2 f3 f4
            have HCE := Lib.hid hce
            have HT := Lib.hid (cntTys_take hkl)
            clear he hcc hce
            go_wp2_with fail
            refine (IH.out _ _ _ _ HCE.out (G.out.nw (N0.out.trans Gj.out)) (by omega) (by omega)).mono ?_
            rintro e2 w2 ⟨r, rfl, hcr, k2⟩
            have hrb := hcr.bound (by omega) (by omega)
            have CR2 := Lib.hid (CRj.out.add hnn hcr)
            have K2 := Lib.hid (Gj.out.trans k2)
            clear hcr k2
            obtain ⟨hr1, hr2⟩ := hrb
            go_wp2_with fail
            go_roundw
            case rel => exact ⟨j + 1, n2 + r, by omega, by go_num, by go_num, by omega, by omega, K2.out, by rw [HT.out, ← Nat.add_assoc]; exact CR2.out⟩
            case measure => simp [intOf]; omega
          · have HC := Lib.hid (show CntPost w most 1 (cntTy (.mk kd pk nm la lr)) (.returned (.int .i64 n2)) wr from ⟨n2, rfl, CRj.out.over hnn (by
              have := cntTys_le (l := lr) j
              simp only [cntTy]; omega), N0.out.trans Gj.out⟩)
            go_wp2_with fail
            go_returns
            exact HC.out
        · have HC := Lib.hid (show CntPost w most 1 (cntTy (.mk kd pk nm la lr)) (.returned (.int .i64 n2)) wr from ⟨n2, rfl, by
            have := CRj.out
            rw [List.take_of_length_le (by rw [← E2.out]; omega)] at this
            simpa only [cntTy] using this, N0.out.trans Gj.out⟩)
          go_wp2_with fail
          go_returns
          exact HC.out
theorem count_any {B : Nat} {W : World} (d : Nat) : ∀ (t : Ty) (cs : List Value) (most : Int) (w : World), TyAt B W d t cs → In B W w → 0 ≤ most → most ≤ 3000 → Calls Try.prog 49 #[.agg cs.toArray, .int .i64 most] w (CntPost w most 1 (cntTy t)) := by
  induction d with
  | zero => intro _ _ _ _ h; exact h.elim
  | succ d ih => exact count_succ ih

set_option maxRecDepth 100000 in
set_option maxHeartbeats 400000 in
theorem exprs_one {B : Nat} {W : World} {d : Nat}
    (ih : ∀ (t : Ex) (cs : List Value), ExAt B W d t cs → ∃ x n c l, cs.getD 3 (.int .i64 0) = .slice x n c ∧ cntEx t = 1 + cntExs l ∧ ∀ (most : Int) (w : World), In B W w → 0 ≤ most → most ≤ 3000 → Calls Try.prog 77 #[.slice x n c, .int .i64 most] w (CntPost w most 1 (cntExs l)))
    (l : List Ex) (v : Value) (most : Int) (w : World) (hl : SlB B W 4 (ExAt B W d) l v) (h : In B W w) (h0 : 0 ≤ most) (h3 : most ≤ 3000) :
    Calls Try.prog 77 #[v, .int .i64 most] w (CntPost w most 1 (cntExs l)) := by
  obtain ⟨x, c, rfl, hlen, hel⟩ := hl
  have IH := Lib.hid ih
  have G := Lib.hid h
  have HE := Lib.hid hel
  obtain ⟨n, e1⟩ : ∃ n, n = l.length := ⟨_, rfl⟩
  rw [← e1] at hlen ⊢
  have E1 := Lib.hid e1
  clear ih h hel e1
  go_enter Try.func77, Try.ntmps77
  go_wp2_with fail
  go_loopw [5, 6] (fun vn i wr => ∃ (k : Nat) (nn : Int), k ≤ n ∧ i = .int .i64 k ∧ vn = .int .i64 nn ∧ 0 ≤ nn ∧ nn ≤ most + 1 ∧ Nw w wr ∧ CR most 1 (cntExs (l.take k)) nn) (fun _ i _ => n - (intOf i).toNat)
  case atStart => exact ⟨0, 0, Nat.zero_le _, rfl, rfl, by omega, by omega, Nw.refl _, by simpa [cntExs] using CR.zero h0⟩
  case round =>
    obtain ⟨k, nn, hk, rfl, rfl, hn0, hn1, g, hcr⟩ := hrel
    have Gk := Lib.hid g
    have CRk := Lib.hid hcr
    clear g hcr
    by_cases hlt : k < n
    · by_cases hnn : nn ≤ most
      · have hkl : k < l.length := by rw [← E1.out]; exact hlt
        obtain ⟨b, o, rfl, hb, he⟩ := HE.out (by intro e; rw [e] at hkl; simp at hkl)
        obtain ⟨cs, hcl, hcc, hce⟩ := he k hkl
        obtain ⟨x3, n3, c3, l3, hx3, hl3, hcall⟩ := IH.out _ _ hce
        obtain ⟨q0, q1, q2, q3, q3l, q3c, rfl⟩ := shape_Ex hce
        have hsl : q3 = x3 ∧ q3l = n3 ∧ q3c = c3 := by simpa using hx3
        obtain ⟨rfl, rfl, rfl⟩ := hsl
        have f0 := ((G.out.nw Gk.out).bel.cell (p := ⟨b, o + k * 4 + 0, none⟩) hb).trans (hcc 0 (by simp))
        have f1 := ((G.out.nw Gk.out).bel.cell (p := ⟨b, o + k * 4 + 1, none⟩) hb).trans (hcc 1 (by simp))
        have f2 := ((G.out.nw Gk.out).bel.cell (p := ⟨b, o + k * 4 + 2, none⟩) hb).trans (hcc 2 (by simp))
        have f3 := ((G.out.nw Gk.out).bel.cell (p := ⟨b, o + k * 4 + 3, none⟩) hb).trans (hcc 3 (by simp))
        simp only [List.getElem?_cons_zero, List.getElem?_cons_succ, Nat.add_zero] at f0 f1 f2 f3
        have CALL := Lib.hid hcall
        have HT := Lib.hid (cntExs_take hkl)
        have HL3 := Lib.hid hl3
        have HLE := Lib.hid (cntExs_le (l := l) (k + 1))
        clear he hcc hce hcall hl3 hx3
        by_cases hn2 : nn + 1 ≤ most
        · go_wp2_with fail
          refine (CALL.out _ _ (G.out.nw Gk.out) (by omega) (by omega)).mono ?_
          rintro e2 w2 ⟨r, rfl, hcr, k2⟩
          have hrb := hcr.bound (by omega) (by omega)
          have CR2 := Lib.hid ((CRk.out.add hnn (CR.one (c := 1) (most := most - nn) (by omega) (by omega))).add hn2 hcr)
          have K2 := Lib.hid (Gk.out.trans k2)
          clear hcr k2
          obtain ⟨hr1, hr2⟩ := hrb
          go_wp2_with fail
          go_roundw
          case rel => exact ⟨k + 1, nn + 1 + r, by omega, by go_num, by go_num, by omega, by omega, K2.out, by rw [HT.out, HL3.out, ← Nat.add_assoc]; exact CR2.out⟩
          case measure => simp [intOf]; omega
        · have CR2 := Lib.hid (show CR most 1 (cntExs (l.take (k + 1))) (nn + 1) from (CRk.out.add hnn (CR.one (c := 1) (most := most - nn) (by omega) (by omega))).over hn2 (by rw [HT.out, HL3.out]; omega))
          go_wp2_with fail
          go_roundw
          case rel => exact ⟨k + 1, nn + 1, by omega, by go_num, by go_num, by omega, by omega, Gk.out, CR2.out⟩
          case measure => simp [intOf]; omega
      · have HC := Lib.hid (show CntPost w most 1 (cntExs l) (.returned (.int .i64 nn)) wr from ⟨nn, rfl, CRk.out.over hnn (cntExs_le k), Gk.out⟩)
        go_wp2_with fail
        go_returns
        exact HC.out
    · have HC := Lib.hid (show CntPost w most 1 (cntExs l) (.returned (.int .i64 nn)) wr from ⟨nn, rfl, by
        have := CRk.out
        rw [List.take_of_length_le (by rw [← E1.out]; omega)] at this
        exact this, Gk.out⟩)
      go_wp2_with fail
      go_returns
      exact HC.out
theorem exprs_any {B : Nat} {W : World} (d : Nat) : ∀ (l : List Ex) (v : Value) (most : Int) (w : World), SlB B W 4 (ExAt B W d) l v → In B W w → 0 ≤ most → most ≤ 3000 → Calls Try.prog 77 #[v, .int .i64 most] w (CntPost w most 1 (cntExs l)) := by
  induction d with
  | zero => exact exprs_one (fun _ _ h => h.elim)
  | succ d ih =>
    refine exprs_one (fun t cs h => ?_)
    obtain ⟨op, nn, s, ks⟩ := t
    obtain ⟨va, rfl, _, _, _, h1⟩ := h
    obtain ⟨x1, m1, c1, rfl⟩ := h1.slice
    exact ⟨x1, m1, c1, ks, rfl, rfl, fun most w hi h0 h3 => ih ks _ most w h1 hi h0 h3⟩

set_option maxRecDepth 100000 in
set_option maxHeartbeats 800000 in
theorem stats_one {B : Nat} {W : World} {d : Nat}
    (ih : ∀ (t : St) (cs : List Value), StAt B W d t cs → ∃ x n c l x' n' c' l' x'' n'' c'' l'', cs.getD 2 (.int .i64 0) = .slice x n c ∧ cs.getD 3 (.int .i64 0) = .slice x' n' c' ∧ cs.getD 4 (.int .i64 0) = .slice x'' n'' c'' ∧ cntSt t = 1 + cntExs l + cntSts l' + cntSts l'' ∧
      (∀ (most : Int) (w : World), In B W w → 0 ≤ most → most ≤ 3000 → Calls Try.prog 77 #[.slice x n c, .int .i64 most] w (CntPost w most 1 (cntExs l))) ∧
      (∀ (most : Int) (w : World), In B W w → 0 ≤ most → most ≤ 3000 → Calls Try.prog 50 #[.slice x' n' c', .int .i64 most] w (CntPost w most 2 (cntSts l'))) ∧
      (∀ (most : Int) (w : World), In B W w → 0 ≤ most → most ≤ 3000 → Calls Try.prog 50 #[.slice x'' n'' c'', .int .i64 most] w (CntPost w most 2 (cntSts l''))))
    (l : List St) (v : Value) (most : Int) (w : World) (hl : SlB B W 5 (StAt B W d) l v) (h : In B W w) (h0 : 0 ≤ most) (h3 : most ≤ 3000) :
    Calls Try.prog 50 #[v, .int .i64 most] w (CntPost w most 2 (cntSts l)) := by
  obtain ⟨x, c, rfl, hlen, hel⟩ := hl
  have IH := Lib.hid ih
  have G := Lib.hid h
  have HE := Lib.hid hel
  obtain ⟨n, e1⟩ : ∃ n, n = l.length := ⟨_, rfl⟩
  rw [← e1] at hlen ⊢
  have E1 := Lib.hid e1
  clear ih h hel e1
  go_enter Try.func50, Try.ntmps50
  go_wp2_with fail
  go_loopw [5, 6] (fun vn i wr => ∃ (k : Nat) (nn : Int), k ≤ n ∧ i = .int .i64 k ∧ vn = .int .i64 nn ∧ 0 ≤ nn ∧ nn ≤ most + 2 ∧ Nw w wr ∧ CR most 2 (cntSts (l.take k)) nn) (fun _ i _ => n - (intOf i).toNat)
  case atStart => exact ⟨0, 0, Nat.zero_le _, rfl, rfl, by omega, by omega, Nw.refl _, by simpa [cntSts] using CR.zero h0⟩
  case round =>
    obtain ⟨k, nn, hk, rfl, rfl, hn0, hn1, g, hcr⟩ := hrel
    have Gk := Lib.hid g
    have CRk := Lib.hid hcr
    clear g hcr
    by_cases hlt : k < n
    · by_cases hnn : nn ≤ most
      · have hkl : k < l.length := by rw [← E1.out]; exact hlt
        obtain ⟨b, o, rfl, hb, he⟩ := HE.out (by intro e; rw [e] at hkl; simp at hkl)
        obtain ⟨cs, hcl, hcc, hce⟩ := he k hkl
        obtain ⟨x3, n3, c3, l3, x4, n4, c4, l4, x5, n5, c5, l5, hx3, hx4, hx5, hl3, call3, call4, call5⟩ := IH.out _ _ hce
        obtain ⟨q0, q1, q2, q2l, q2c, q3, q3l, q3c, q4, q4l, q4c, rfl⟩ := shape_St hce
        have hsl : (q2 = x3 ∧ q2l = n3 ∧ q2c = c3) ∧ (q3 = x4 ∧ q3l = n4 ∧ q3c = c4) ∧ (q4 = x5 ∧ q4l = n5 ∧ q4c = c5) := by exact ⟨by simpa using hx3, by simpa using hx4, by simpa using hx5⟩
        obtain ⟨⟨rfl, rfl, rfl⟩, ⟨rfl, rfl, rfl⟩, ⟨rfl, rfl, rfl⟩⟩ := hsl
        have f0 := ((G.out.nw Gk.out).bel.cell (p := ⟨b, o + k * 5 + 0, none⟩) hb).trans (hcc 0 (by simp))
        have f1 := ((G.out.nw Gk.out).bel.cell (p := ⟨b, o + k * 5 + 1, none⟩) hb).trans (hcc 1 (by simp))
        have f2 := ((G.out.nw Gk.out).bel.cell (p := ⟨b, o + k * 5 + 2, none⟩) hb).trans (hcc 2 (by simp))
        have f3 := ((G.out.nw Gk.out).bel.cell (p := ⟨b, o + k * 5 + 3, none⟩) hb).trans (hcc 3 (by simp))
        have f4 := ((G.out.nw Gk.out).bel.cell (p := ⟨b, o + k * 5 + 4, none⟩) hb).trans (hcc 4 (by simp))
        simp only [List.getElem?_cons_zero, List.getElem?_cons_succ, Nat.add_zero] at f0 f1 f2 f3 f4
        have CALL3 := Lib.hid call3
        have CALL4 := Lib.hid call4
        have CALL5 := Lib.hid call5
        have HT := Lib.hid (cntSts_take hkl)
        have HL3 := Lib.hid hl3
        have FC := Lib.hid (fun (wz : World) (hz : Nw wr wz) => And.intro (hz.keeps f3) (hz.keeps f4))
        clear he hcc hce call3 call4 call5 hl3 hx3 hx4 hx5
        go_wp2_with fail
        refine (CALL3.out _ _ (G.out.nw Gk.out) (by omega) (by omega)).mono ?_
        rintro e2 w2 ⟨r, rfl, hcr, k2⟩
        have hrb := hcr.bound (by omega) (by omega)
        have CR2 := Lib.hid (CRk.out.up hnn hcr)
        obtain ⟨g3, g4⟩ := FC.out _ k2
        have K2 := Lib.hid k2
        clear hcr k2 f0 f1 f2 f3 f4
        obtain ⟨hr1, hr2⟩ := hrb
        by_cases hn2 : nn + 1 + r ≤ most
        · go_wp2_with fail
          refine (CALL4.out _ _ (G.out.nw (Gk.out.trans K2.out)) (by omega) (by omega)).mono ?_
          rintro e3 w3 ⟨r3, rfl, hcr, k3⟩
          have hrb := hcr.bound (by omega) (by omega)
          have CR3 := Lib.hid (CR2.out.add hn2 hcr)
          have K3 := Lib.hid (K2.out.trans k3)
          obtain ⟨_, g4⟩ := FC.out _ K3.out
          clear hcr k3 g3
          obtain ⟨hr3, hr4⟩ := hrb
          by_cases hn3 : nn + 1 + r + r3 ≤ most
          · go_wp2_with fail
            refine (CALL5.out _ _ (G.out.nw (Gk.out.trans K3.out)) (by omega) (by omega)).mono ?_
            rintro e4 w4 ⟨r4, rfl, hcr, k4⟩
            have hrb := hcr.bound (by omega) (by omega)
            have CR4 := Lib.hid (CR3.out.add hn3 hcr)
            have K4 := Lib.hid (Gk.out.trans (K3.out.trans k4))
            clear hcr k4 g4
            obtain ⟨hr5, hr6⟩ := hrb
            go_wp2_with fail
            go_roundw
            case rel => exact ⟨k + 1, nn + 1 + r + r3 + r4, by omega, by go_num, by go_num, by omega, by omega, K4.out, by rw [HT.out, HL3.out]; have := CR4.out; simp only [Nat.add_assoc] at this ⊢; exact this⟩
            case measure => simp [intOf]; omega
          · have CR4 := Lib.hid (show CR most 2 (cntSts (l.take (k + 1))) (nn + 1 + r + r3) from CR3.out.over hn3 (by rw [HT.out, HL3.out]; omega))
            go_wp2_with fail
            go_roundw
            case rel => exact ⟨k + 1, nn + 1 + r + r3, by omega, by go_num, by go_num, by omega, by omega, Gk.out.trans K3.out, CR4.out⟩
            case measure => simp [intOf]; omega
        · have CR4 := Lib.hid (show CR most 2 (cntSts (l.take (k + 1))) (nn + 1 + r) from CR2.out.over hn2 (by rw [HT.out, HL3.out]; omega))
          go_wp2_with fail
          go_roundw
          case rel => exact ⟨k + 1, nn + 1 + r, by omega, by go_num, by go_num, by omega, by omega, Gk.out.trans K2.out, CR4.out⟩
          case measure => simp [intOf]; omega
      · have HC := Lib.hid (show CntPost w most 2 (cntSts l) (.returned (.int .i64 nn)) wr from ⟨nn, rfl, CRk.out.over hnn (cntSts_le k), Gk.out⟩)
        go_wp2_with fail
        go_returns
        exact HC.out
    · have HC := Lib.hid (show CntPost w most 2 (cntSts l) (.returned (.int .i64 nn)) wr from ⟨nn, rfl, by
        have := CRk.out
        rw [List.take_of_length_le (by rw [← E1.out]; omega)] at this
        exact this, Gk.out⟩)
      go_wp2_with fail
      go_returns
      exact HC.out
theorem stats_any {B : Nat} {W : World} (d : Nat) : ∀ (l : List St) (v : Value) (most : Int) (w : World), SlB B W 5 (StAt B W d) l v → In B W w → 0 ≤ most → most ≤ 3000 → Calls Try.prog 50 #[v, .int .i64 most] w (CntPost w most 2 (cntSts l)) := by
  induction d with
  | zero => exact stats_one (fun _ _ h => h.elim)
  | succ d ih =>
    refine stats_one (fun t cs h => ?_)
    obtain ⟨op, nn, es, bs, ls⟩ := t
    obtain ⟨ve, vb, vl, rfl, _, _, h1, h2, h3⟩ := h
    obtain ⟨x1, m1, c1, rfl⟩ := h1.slice
    obtain ⟨x2, m2, c2, rfl⟩ := h2.slice
    obtain ⟨x3, m3, c3, rfl⟩ := h3.slice
    exact ⟨x1, m1, c1, es, x2, m2, c2, bs, x3, m3, c3, ls, rfl, rfl, rfl, rfl, fun most w hi h0 h3 => exprs_any d es _ most w h1 hi h0 h3, fun most w hi h0 h3' => ih bs _ most w h2 hi h0 h3', fun most w hi h0 h3' => ih ls _ most w h3 hi h0 h3'⟩
end Go.Proofs.Ytpopgnengimieaa
