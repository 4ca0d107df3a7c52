/- Layer 28's statements: num, awake, Great; the walks of ObjectValids and ObjectEncodes. -/
import Derived.Test.YtfdjlicegfgodaaOW5
import Derived.Test.YtfdjlicegfgodaaOpen28
import Derived.Laws.BytesArg
namespace Go.Proofs.Ytfdjlicegfgodaa
open Go.RowKit
set_option linter.unusedSimpArgs false
set_option linter.unusedVariables false

theorem num28_any (e : Int) (w : World) : Calls Try.prog 13 #[.int .i64 e] w fun r w' => r = .returned (.int .i64 e) ∧ w = w' := by
  go_enter Try.func13, Try.ntmps13
  go_wp2
  go_ret
  exact ⟨rfl, rfl⟩
theorem BytesNew.at {w w' : World} {a : Option Addr} {n c : Nat} {l : List UInt8} (h : BytesNew w w' a n c l) : BytesAt w' (.slice a n c) l := by
  obtain ⟨rfl, h2, _⟩ := h
  exact own_bytesAt h2
theorem bytesAt_nw {w w' : World} {v : Value} {l : List UInt8} (h : BytesAt w v l) (k : Nw w w') : BytesAt w' v l := by
  obtain ⟨x, cap, h1, h2, h3, h4⟩ := h
  refine ⟨x, cap, h1, h2, h3, fun hne => ?_⟩
  obtain ⟨b, o, h5, h6⟩ := h4 hne
  exact ⟨b, o, h5, fun i hi => k.keeps (h6 i hi)⟩
/-- string(b) -/
theorem conv_bytes {w : World} {a : Option Addr} {n c : Nat} {l : List UInt8} (h : BytesAt w (.slice a n c) l) :
    (convert 34 9 (.slice a n c)).run Try.prog w = .ok (.string ⟨l.toArray⟩) w := by
  obtain ⟨x, cap, hv, hl, hm, hc⟩ := h
  simp only [Value.slice.injEq] at hv
  obtain ⟨rfl, rfl, rfl⟩ := hv
  cases l with
  | nil =>
    cases a with
    | none => exact run_convert_bytes_nil w _ _ Try.underlying34 Try.underlying5 _ _ _ Try.underlying9
    | some p =>
      rw [run_convert_bytes_string w _ _ _ _ _ _ Try.underlying34 Try.underlying5 Try.underlying9,
        run_bytesToString w p _ _ [] (by simp [loadCells, loadCellsFrom])]
      rfl
  | cons b r =>
    obtain ⟨g, o, rfl, hcell⟩ := hc (by simp)
    have := run_convert_bytes_arg (P := Try.prog) w _ _ Try.underlying34 Try.underlying5 g o (b :: r).length c ((b :: r).map fun x => (x.toNat : Int)) (by simp) (fun i hi => by
      rw [hcell i hi]
      simp only [List.getD_eq_getElem?_getD, List.getElem?_map, List.getElem?_eq_getElem hi]
      rfl) _ Try.underlying9
    rw [this]
    simp [strOfNums, Function.comp_def]
theorem SlB.nil {α : Type} (B : Nat) (W : World) (n : Nat) (E : α → List Value → Prop) : SlB B W n E [] (.slice none 0 0) := ⟨none, 0, rfl, Nat.zero_le _, fun h => absurd rfl h⟩
def obA : Ob := ⟨⟨#[97]⟩, 0, [], [], [], [], []⟩
theorem obA_at (w : World) : ObAt w.heap.size w obA [.string ⟨#[97]⟩, .int .i64 0, .slice none 0 0, .slice none 0 0, .slice none 0 0, .slice none 0 0, .slice none 0 0] :=
  ⟨_, _, _, _, _, rfl, (by unfold Fits obA; decide), (by unfold I64 obA; decide), SlB.nil _ _ _ _, SlB.nil _ _ _ _, SlB.nil _ _ _ _, SlB.nil _ _ _ _, SlB.nil _ _ _ _⟩
theorem encA_len : (encO obA).length = 57 := by
  simp [encO, encL, encS, obA, le8_length]
theorem codeVA : codeV obA = 0 := by
  have h : validB obA = true := by simp [validB, obA, impsB, symsB, relsB, okPre_nil, nameB]; decide
  unfold codeV
  rw [if_neg (by simp [obA]), if_pos h]
theorem codeOA : codeO obA = 0 := by
  unfold codeO
  rw [if_pos codeVA, if_pos (by rw [objB_length, encA_len]; decide)]
set_option maxRecDepth 100000 in
set_option maxHeartbeats 400000 in
theorem awake28_any (w : World) : Calls Try.prog 12 #[] w (BoolPost w true) := by
  have E := Lib.hid (oencode_any obA _ (obA_at w) (In.self w) (fun _ => by rw [encA_len]; decide))
  have V := Lib.hid (fun (wz : World) (hz : Nw w wz) => valid_any obA _ (obA_at w) ((In.self w).nw hz))
  have CO := Lib.hid codeOA
  have CV := Lib.hid codeVA
  have HL := Lib.hid (show (objB obA).length = 69 by rw [objB_length, encA_len])
  go_enter Try.func12, Try.ntmps12
  go_wp2_with fail
  refine E.out.mono ?_
  rintro e1 w1 ⟨a, n, c, rfl, k, hb⟩
  have K := Lib.hid k
  have hn := hb.1
  rw [if_pos CO.out, HL.out] at hn
  subst hn
  clear k hb
  rw [CO.out]
  go_wp2_with fail
  refine (num28_any _ _).mono ?_
  rintro e2 w2 ⟨rfl, rfl⟩
  go_wp2_with fail
  refine (V.out _ K.out).mono ?_
  rintro e3 w3 ⟨rfl, k3⟩
  rw [CV.out]
  have K3 := Lib.hid (K.out.trans k3)
  clear k3
  go_wp2_with fail
  go_returns
  exact ⟨rfl, K3.out⟩
def GreatP (o : Ob) : Prop := 200 < o.syms.length ∨ 400 < o.relocs.length ∨ 50 < o.imports.length ∨ 70000 < o.code.length ∨ 30000 < o.data.length
instance (o : Ob) : Decidable (GreatP o) := by unfold GreatP; infer_instance
def greatB (o : Ob) : Bool := decide (GreatP o)
set_option maxRecDepth 100000 in
set_option maxHeartbeats 400000 in
theorem great28_any {B : Nat} {W w : World} (o : Ob) (cs : List Value) (hx : ObAt B W o cs) : Calls Try.prog 11 #[.agg cs.toArray] w (BoolPost w (greatB o)) := by
  generalize hg : greatB o = g
  obtain ⟨pk, hash, is, ss, rs, code, data⟩ := o
  obtain ⟨vi, vs, vr, vc, vd, rfl, hp, hh, hi, hs, hr, hc, hd⟩ := hx
  obtain ⟨x2, c2, rfl, hil, hie⟩ := hi
  obtain ⟨x3, c3, rfl, hsl, hse⟩ := hs
  obtain ⟨x4, c4, rfl, hrl, hre⟩ := hr
  obtain ⟨x5, c5, rfl, hcl, hce⟩ := hc
  obtain ⟨x6, c6, rfl, hdl, hde⟩ := hd
  clear hie hse hre hce hde
  have GP := Lib.hid (show (GreatP ⟨pk, hash, is, ss, rs, code, data⟩ → g = true) ∧ (¬ GreatP ⟨pk, hash, is, ss, rs, code, data⟩ → g = false) from ⟨fun h => by rw [← hg]; exact decide_eq_true h, fun h => by rw [← hg]; exact decide_eq_false h⟩)
  unfold GreatP at GP
  dsimp only at GP hil hsl hrl hcl hdl ⊢
  clear hg
  generalize is.length = m2 at *
  generalize ss.length = m3 at *
  generalize rs.length = m4 at *
  generalize code.length = m5 at *
  generalize data.length = m6 at *
  have N0 := Lib.hid (Nw.new w (.cells #[.string pk, .int .i64 hash, .slice x2 m2 c2, .slice x3 m3 c3, .slice x4 m4 c4, .slice x5 m5 c5, .slice x6 m6 c6] 27))
  have BX := Lib.hid (Blk.new w [.string pk, .int .i64 hash, .slice x2 m2 c2, .slice x3 m3 c3, .slice x4 m4 c4, .slice x5 m5 c5, .slice x6 m6 c6] 27)
  by_cases hm3 : (200 : Int) < (m3 : Int)
  · skip
    have X := Lib.hid (show g = true from GP.out.1 (by omega))
    rw [X.out]
    go_enter Try.func11, Try.ntmps11
    go_upto_region 1 with fail
    generalize w.alloc (.cells #[.string pk, .int .i64 hash, .slice x2 m2 c2, .slice x3 m3 c3, .slice x4 m4 c4, .slice x5 m5 c5, .slice x6 m6 c6] 27) = w0 at *
    have cO := BX.out.cell
    go_wp2_with fail
    go_returns
    exact ⟨rfl, N0.out⟩
  by_cases hm4 : (400 : Int) < (m4 : Int)
  · skip
    have X := Lib.hid (show g = true from GP.out.1 (by omega))
    rw [X.out]
    go_enter Try.func11, Try.ntmps11
    go_upto_region 1 with fail
    generalize w.alloc (.cells #[.string pk, .int .i64 hash, .slice x2 m2 c2, .slice x3 m3 c3, .slice x4 m4 c4, .slice x5 m5 c5, .slice x6 m6 c6] 27) = w0 at *
    have cO := BX.out.cell
    go_wp2_with fail
    go_returns
    exact ⟨rfl, N0.out⟩
  by_cases hm2 : (50 : Int) < (m2 : Int)
  · skip
    have X := Lib.hid (show g = true from GP.out.1 (by omega))
    rw [X.out]
    go_enter Try.func11, Try.ntmps11
    go_upto_region 1 with fail
    generalize w.alloc (.cells #[.string pk, .int .i64 hash, .slice x2 m2 c2, .slice x3 m3 c3, .slice x4 m4 c4, .slice x5 m5 c5, .slice x6 m6 c6] 27) = w0 at *
    have cO := BX.out.cell
    go_wp2_with fail
    go_returns
    exact ⟨rfl, N0.out⟩
  by_cases hm5 : (70000 : Int) < (m5 : Int)
  · skip
    have X := Lib.hid (show g = true from GP.out.1 (by omega))
    rw [X.out]
    go_enter Try.func11, Try.ntmps11
    go_upto_region 1 with fail
    generalize w.alloc (.cells #[.string pk, .int .i64 hash, .slice x2 m2 c2, .slice x3 m3 c3, .slice x4 m4 c4, .slice x5 m5 c5, .slice x6 m6 c6] 27) = w0 at *
    have cO := BX.out.cell
    go_wp2_with fail
    go_returns
    exact ⟨rfl, N0.out⟩
  by_cases hm6 : (30000 : Int) < (m6 : Int)
  · skip
    have X := Lib.hid (show g = true from GP.out.1 (by omega))
    rw [X.out]
    go_enter Try.func11, Try.ntmps11
    go_upto_region 1 with fail
    generalize w.alloc (.cells #[.string pk, .int .i64 hash, .slice x2 m2 c2, .slice x3 m3 c3, .slice x4 m4 c4, .slice x5 m5 c5, .slice x6 m6 c6] 27) = w0 at *
    have cO := BX.out.cell
    go_wp2_with fail
    go_returns
    exact ⟨rfl, N0.out⟩
  have X := Lib.hid (show g = false from GP.out.2 (by omega))
  rw [X.out]
  go_enter Try.func11, Try.ntmps11
  go_upto_region 1 with fail
  generalize w.alloc (.cells #[.string pk, .int .i64 hash, .slice x2 m2 c2, .slice x3 m3 c3, .slice x4 m4 c4, .slice x5 m5 c5, .slice x6 m6 c6] 27) = w0 at *
  have cO := BX.out.cell
  go_wp2_with fail
  go_returns
  exact ⟨rfl, N0.out⟩
theorem fm_len {α : Type} (f : α → List UInt8) (c : Nat) : ∀ (l : List α), (∀ x ∈ l, (f x).length ≤ c) → (l.flatMap f).length ≤ c * l.length
  | [], _ => by simp
  | a :: r, h => by
    have h1 := h a (by simp)
    have h2 := fm_len f c r (fun x hx => h x (List.mem_cons_of_mem _ hx))
    rw [List.flatMap_cons, List.length_append, List.length_cons, Nat.mul_succ]
    omega
theorem nameB_size {s : ByteArray} (h : nameB s = true) : (encS s).length ≤ 68 := by
  have := of_decide_eq_true h
  unfold encS
  rw [List.length_append, le8_length, ← size_eq]
  omega
theorem okPre_mem {α κ : Type} {f : α → Bool} {key : α → κ} {l : List α} (h : okPre f key l = true) : ∀ x ∈ l, f x = true := by
  unfold okPre at h
  rw [Bool.and_eq_true] at h
  exact List.all_eq_true.1 h.1
theorem codeV_valid {o : Ob} (h : codeV o = 0) : validB o = true ∧ o.code.length ≤ 65536 ∧ o.data.length ≤ 16384 := by
  unfold codeV at h
  split at h
  · cases h
  · rename_i hn
    split at h
    · rename_i hv; exact ⟨hv, by omega, by omega⟩
    · cases h
theorem valid_len {o : Ob} (h : codeV o = 0) : (encO o).length ≤ 1000000 + 200 * o.imports.length + 200 * o.syms.length + 200 * o.relocs.length := by
  obtain ⟨hv, h5, h6⟩ := codeV_valid h
  unfold validB at hv
  simp only [Bool.and_eq_true] at hv
  obtain ⟨hn, hi, hs, hr⟩ := hv
  have a0 := nameB_size hn
  have a1 := fm_len encIm 200 o.imports (fun x hx => by have := nameB_size (okPre_mem hi x hx); unfold encIm; rw [List.length_append, le8_length]; omega)
  have a2 := fm_len encSy 200 o.syms (fun x hx => by
    have h1 := okPre_mem hs x hx
    unfold symB at h1
    rw [Bool.and_eq_true] at h1
    have := nameB_size h1.1
    unfold encSy
    simp only [List.length_append, le8_length, encB_length]; omega)
  have a3 := fm_len encRe 200 o.relocs (fun x hx => by
    have h1 := okPre_mem hr x hx
    rw [Bool.and_eq_true] at h1
    have := nameB_size h1.1
    unfold encRe
    simp only [List.length_append, le8_length, encB_length]; omega)
  have a4 := fm_len le8 8 o.code (fun x _ => by rw [le8_length]; exact Nat.le_refl _)
  have a5 := fm_len le8 8 o.data (fun x _ => by rw [le8_length]; exact Nat.le_refl _)
  unfold encO encL
  simp only [List.length_append, le8_length]
  omega
theorem great_no {o : Ob} (h : greatB o = false) : o.syms.length ≤ 200 ∧ o.relocs.length ≤ 400 ∧ o.imports.length ≤ 50 := by
  have := of_decide_eq_false h
  unfold GreatP at this
  omega
set_option maxRecDepth 100000 in
set_option maxHeartbeats 1000000 in
theorem objectValids_walk (o : Ob) (cs : List Value) (w : World) (hx : ObAt w.heap.size w o cs) :
    Calls Try.prog 3 #[.agg cs.toArray] w (BoolPost w true) := by
  have HX := Lib.hid hx
  have GR := Lib.hid (fun (wz : World) => great28_any (w := wz) o cs hx)
  have VA := Lib.hid (fun (wz : World) (hz : Nw w wz) => valid_any o cs hx ((In.self w).nw hz))
  have RV := Lib.hid (fun (wz : World) (hz : Nw w wz) => rvalid_any o cs hx ((In.self w).nw hz))
  obtain ⟨vi, vs, vr, vc, vd, rfl, hp, hh, hi, hs, hr, hc, hd⟩ := hx
  obtain ⟨x2, m2, c2, rfl⟩ := hi.slice
  obtain ⟨x3, m3, c3, rfl⟩ := hs.slice
  obtain ⟨x4, m4, c4, rfl⟩ := hr.slice
  obtain ⟨x5, m5, c5, rfl⟩ := hc.slice
  obtain ⟨x6, m6, c6, rfl⟩ := hd.slice
  clear hp hh hi hs hr hc hd
  generalize o.pkg = pk at *
  generalize o.hash = hash at *
  have BX := Lib.hid (Blk.new w [.string pk, .int .i64 hash, .slice x2 m2 c2, .slice x3 m3 c3, .slice x4 m4 c4, .slice x5 m5 c5, .slice x6 m6 c6] 27)
  have N0 := Lib.hid (Nw.new w (.cells #[.string pk, .int .i64 hash, .slice x2 m2 c2, .slice x3 m3 c3, .slice x4 m4 c4, .slice x5 m5 c5, .slice x6 m6 c6] 27))
  cases hg : greatB o with
  | true =>
    have HG := Lib.hid hg
    clear hg
    go_enter Try.func3, Try.ntmps3
    go_upto_region 1 with fail
    generalize w.alloc (.cells #[.string pk, .int .i64 hash, .slice x2 m2 c2, .slice x3 m3 c3, .slice x4 m4 c4, .slice x5 m5 c5, .slice x6 m6 c6] 27) = w0 at *
    have cO := BX.out.cell
    go_wp2_with fail
    refine (GR.out _).mono ?_
    rintro e1 w1 ⟨rfl, k1⟩
    rw [HG.out]
    have K1 := Lib.hid (N0.out.trans k1)
    clear k1 cO
    go_wp2_with fail
    refine (awake28_any _).mono ?_
    rintro e2 w2 ⟨rfl, k2⟩
    have K2 := Lib.hid (K1.out.trans k2)
    clear k2
    go_wp2_with fail
    go_returns
    exact ⟨rfl, K2.out⟩
  | false =>
    have HG := Lib.hid hg
    have GN := Lib.hid (great_no hg)
    clear hg
    go_enter Try.func3, Try.ntmps3
    go_upto_region 1 with fail
    generalize w.alloc (.cells #[.string pk, .int .i64 hash, .slice x2 m2 c2, .slice x3 m3 c3, .slice x4 m4 c4, .slice x5 m5 c5, .slice x6 m6 c6] 27) = w0 at *
    have cO := BX.out.cell
    go_wp2_with fail
    refine (GR.out _).mono ?_
    rintro e1 w1 ⟨rfl, k1⟩
    rw [HG.out]
    have K1 := Lib.hid (N0.out.trans k1)
    have BX1 := Lib.hid (BX.out.nw k1)
    clear k1 cO
    generalize codeV o = cv at *
    have FC := Lib.hid (fun (wz : World) (hz : Nw w1 wz) => (⟨hz, (BX1.out.nw hz).cell 0, (BX1.out.nw hz).cell 1, (BX1.out.nw hz).cell 2, (BX1.out.nw hz).cell 3, (BX1.out.nw hz).cell 4, (BX1.out.nw hz).cell 5, (BX1.out.nw hz).cell 6⟩ : Nw w1 wz ∧ wz.cell? ⟨w.heap.size, 0, none⟩ = some (.string pk) ∧ wz.cell? ⟨w.heap.size, 1, none⟩ = some (.int .i64 hash) ∧ wz.cell? ⟨w.heap.size, 2, none⟩ = some (.slice x2 m2 c2) ∧ wz.cell? ⟨w.heap.size, 3, none⟩ = some (.slice x3 m3 c3) ∧ wz.cell? ⟨w.heap.size, 4, none⟩ = some (.slice x4 m4 c4) ∧ wz.cell? ⟨w.heap.size, 5, none⟩ = some (.slice x5 m5 c5) ∧ wz.cell? ⟨w.heap.size, 6, none⟩ = some (.slice x6 m6 c6)))
    go_wp2_with fail
    go_region_held3 (fun wz => Nw w1 wz ∧ wz.cell? ⟨w.heap.size, 0, none⟩ = some (.string pk) ∧ wz.cell? ⟨w.heap.size, 1, none⟩ = some (.int .i64 hash) ∧ wz.cell? ⟨w.heap.size, 2, none⟩ = some (.slice x2 m2 c2) ∧ wz.cell? ⟨w.heap.size, 3, none⟩ = some (.slice x3 m3 c3) ∧ wz.cell? ⟨w.heap.size, 4, none⟩ = some (.slice x4 m4 c4) ∧ wz.cell? ⟨w.heap.size, 5, none⟩ = some (.slice x5 m5 c5) ∧ wz.cell? ⟨w.heap.size, 6, none⟩ = some (.slice x6 m6 c6))
      (exact FC.out _ (by first | assumption | exact Nw.refl _ | exact (Nw.refl _).drew))
      (first
        | (go_at_call 13; refine (num28_any _ _).mono ?_; rintro _ _ ⟨rfl, rfl⟩)
        | (go_at_call 14; refine (VA.out _ (K1.out.trans (by first | assumption | exact Nw.refl _ | exact (Nw.refl _).drew))).mono ?_; rintro e4 w4 ⟨rfl, k4⟩; have kk4 : Nw w1 w4 := Nw.trans (by first | assumption | exact Nw.refl _ | exact (Nw.refl _).drew) k4; clear k4)
        | (go_at_call 15; refine (RV.out _ (K1.out.trans (by first | assumption | exact Nw.refl _ | exact (Nw.refl _).drew))).mono ?_; rintro e5 w5 ⟨rfl, k5⟩; have kk5 : Nw w1 w5 := Nw.trans (by first | assumption | exact Nw.refl _ | exact (Nw.refl _).drew) k5; clear k5)
        | (go_at_call 12; refine (awake28_any _).mono ?_; rintro e6 w6 ⟨rfl, k6⟩; have kk6 : Nw w1 w6 := Nw.trans (by first | assumption | exact Nw.refl _ | exact (Nw.refl _).drew) k6; clear k6))
    all_goals
      go_wp2_with fail
      go_returns
      exact ⟨rfl, K1.out.trans (by assumption)⟩
set_option maxRecDepth 100000 in
set_option maxHeartbeats 1000000 in
theorem objectEncodes_walk (o : Ob) (cs : List Value) (w : World) (hx : ObAt w.heap.size w o cs) :
    Calls Try.prog 4 #[.agg cs.toArray] w (BoolPost w true) := by
  have HX := Lib.hid hx
  have GR := Lib.hid (fun (wz : World) => great28_any (w := wz) o cs hx)
  have EN := Lib.hid (fun (wz : World) (hz : Nw w wz) (hb : codeV o = 0 → (encO o).length ≤ 140737488300000) => oencode_any o cs hx ((In.self w).nw hz) hb)
  have RE := Lib.hid (fun (wz : World) (hz : Nw w wz) (h1 : o.imports.length ≤ 100000) (h2 : o.syms.length ≤ 100000) (h3 : o.relocs.length ≤ 100000) => r28encode_any o cs hx ((In.self w).nw hz) h1 h2 h3)
  obtain ⟨vi, vs, vr, vc, vd, rfl, hp, hh, hi, hs, hr, hc, hd⟩ := hx
  obtain ⟨x2, m2, c2, rfl⟩ := hi.slice
  obtain ⟨x3, m3, c3, rfl⟩ := hs.slice
  obtain ⟨x4, m4, c4, rfl⟩ := hr.slice
  obtain ⟨x5, m5, c5, rfl⟩ := hc.slice
  obtain ⟨x6, m6, c6, rfl⟩ := hd.slice
  clear hp hh hi hs hr hc hd
  generalize o.pkg = pk at *
  generalize o.hash = hash at *
  have BX := Lib.hid (Blk.new w [.string pk, .int .i64 hash, .slice x2 m2 c2, .slice x3 m3 c3, .slice x4 m4 c4, .slice x5 m5 c5, .slice x6 m6 c6] 27)
  have N0 := Lib.hid (Nw.new w (.cells #[.string pk, .int .i64 hash, .slice x2 m2 c2, .slice x3 m3 c3, .slice x4 m4 c4, .slice x5 m5 c5, .slice x6 m6 c6] 27))
  cases hg : greatB o with
  | true =>
    have HG := Lib.hid hg
    clear hg
    go_enter Try.func4, Try.ntmps4
    go_upto_region 1 with fail
    generalize w.alloc (.cells #[.string pk, .int .i64 hash, .slice x2 m2 c2, .slice x3 m3 c3, .slice x4 m4 c4, .slice x5 m5 c5, .slice x6 m6 c6] 27) = w0 at *
    have cO := BX.out.cell
    go_wp2_with fail
    refine (GR.out _).mono ?_
    rintro e1 w1 ⟨rfl, k1⟩
    rw [HG.out]
    have K1 := Lib.hid (N0.out.trans k1)
    clear k1 cO
    go_wp2_with fail
    refine (awake28_any _).mono ?_
    rintro e2 w2 ⟨rfl, k2⟩
    have K2 := Lib.hid (K1.out.trans k2)
    clear k2
    go_wp2_with fail
    go_returns
    exact ⟨rfl, K2.out⟩
  | false =>
    have HG := Lib.hid hg
    have GN := Lib.hid (great_no hg)
    clear hg
    go_enter Try.func4, Try.ntmps4
    go_upto_region 1 with fail
    generalize w.alloc (.cells #[.string pk, .int .i64 hash, .slice x2 m2 c2, .slice x3 m3 c3, .slice x4 m4 c4, .slice x5 m5 c5, .slice x6 m6 c6] 27) = w0 at *
    have cO := BX.out.cell
    go_wp2_with fail
    refine (GR.out _).mono ?_
    rintro e1 w1 ⟨rfl, k1⟩
    rw [HG.out]
    have K1 := Lib.hid (N0.out.trans k1)
    have BX1 := Lib.hid (BX.out.nw k1)
    clear k1 cO
    have q1 := BX1.out.cell
    go_wp2_with fail
    refine (EN.out _ K1.out (fun hv => by have h1 := valid_len hv; have h2 := GN.out; omega)).mono ?_
    rintro e2 w2 ⟨a2, n2, c2', rfl, k2, hb2⟩
    have K2 := Lib.hid (K1.out.trans k2)
    have BX2 := Lib.hid (BX1.out.nw k2)
    have q2 := BX2.out.cell
    have S2 := Lib.hid hb2.at
    clear k2 hb2 q1
    go_wp2_with fail
    refine (RE.out _ K2.out (by have := GN.out; omega) (by have := GN.out; omega) (by have := GN.out; omega)).mono ?_
    rintro e3 w3 ⟨a3, n3, c3', rfl, k3, hb3⟩
    have K3 := Lib.hid (K2.out.trans k3)
    have S2' := Lib.hid (bytesAt_nw S2.out k3)
    have S3 := Lib.hid hb3.at
    clear k3 hb3 q2
    obtain ⟨s, hs⟩ : ∃ s : ByteArray, s = ⟨(if codeO o = 0 then objB o else []).toArray⟩ := ⟨_, rfl⟩
    have c1 : (convert 34 9 (.slice a2 n2 c2')).run Try.prog w3 = .ok (.string s) w3 := by rw [hs]; exact conv_bytes S2'.out
    have c2 : (convert 34 9 (.slice a3 n3 c3')).run Try.prog w3 = .ok (.string s) w3 := by rw [hs]; exact conv_bytes S3.out
    clear hs
    generalize codeO o = cv at *
    go_wp2_with fail
    refine (num28_any _ _).mono ?_
    rintro e4 w4 ⟨rfl, rfl⟩
    go_wp2_with fail
    refine (awake28_any _).mono ?_
    rintro e5 w5 ⟨rfl, k5⟩
    have K5 := Lib.hid (K3.out.trans k5)
    clear k5 c1 c2
    go_wp2_with fail
    go_returns
    exact ⟨rfl, K5.out⟩
end Go.Proofs.Ytfdjlicegfgodaa
