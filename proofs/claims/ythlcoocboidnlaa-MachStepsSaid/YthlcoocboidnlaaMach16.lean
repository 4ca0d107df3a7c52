/- The statements' example; MachNumbers. -/
import Derived.Test.YthlcoocboidnlaaMach15
import Derived.Laws.BytesArg
namespace Go.Proofs.Ythlcoocboidnlaa
open Go.RowKit
set_option linter.unusedSimpArgs false
set_option linter.unusedVariables false

theorem bytesAt_nw {w w' : World} {v : Value} {l : List UInt8} (h : BytesAt w v l) (k : Nw w w') : BytesAt w' v l := by
  obtain ⟨x, cap, hv, h1, h2, h3⟩ := h
  refine ⟨x, cap, hv, h1, h2, fun hne => ?_⟩
  obtain ⟨b, o, hx, hc⟩ := h3 hne
  exact ⟨b, o, hx, fun i hi => k.keeps (hc i hi)⟩
/-- string(b) -/
theorem conv_bytes {w : World} {a : Option Addr} {n c : Nat} {l : List UInt8} (h : BytesAt w (.slice a n c) l) :
    (convert 35 9 (.slice a n c)).run Try.prog w = .ok (.string ⟨l.toArray⟩) w := by
  obtain ⟨x, cap, hv, hl, hm, hc⟩ := h
  simp only [Value.slice.injEq] at hv
  obtain ⟨rfl, rfl, rfl⟩ := hv
  cases l with
  | nil =>
    cases a with
    | none => exact run_convert_bytes_nil w _ _ Try.underlying35 Try.underlying5 _ _ _ Try.underlying9
    | some p =>
      rw [run_convert_bytes_string w _ _ _ _ _ _ Try.underlying35 Try.underlying5 Try.underlying9,
        run_bytesToString w p _ _ [] (by simp [loadCells, loadCellsFrom])]
      rfl
  | cons b r =>
    obtain ⟨g, o, rfl, hcell⟩ := hc (by simp)
    have := run_convert_bytes_arg (P := Try.prog) w _ _ Try.underlying35 Try.underlying5 g o (b :: r).length c ((b :: r).map fun x => (x.toNat : Int)) (by simp) (fun i hi => by
      rw [hcell i hi]
      simp only [List.getD_eq_getElem?_getD, List.getElem?_map, List.getElem?_eq_getElem hi]
      rfl) _ Try.underlying9
    rw [this]
    simp [strOfNums, Function.comp_def]
theorem insAt_of {w : World} {b : Nat} {cs : List Value} {t : TypeId} (l : List In5) (h : Blk w b cs t) (hc : cs = l.flatMap In5.cells) : InsAt w b l := by
  have key : ∀ (l : List In5) (k : Nat) (hk : k < l.length) (j : Nat) (hj : j < 5), (l.flatMap In5.cells)[k * 5 + j]? = (l[k].cells)[j]? := by
    intro l
    induction l with
    | nil => intro k hk; simp at hk
    | cons x r ih =>
      intro k hk j hj
      rw [List.flatMap_cons]
      have hx : x.cells.length = 5 := rfl
      cases k with
      | zero =>
        rw [List.getElem?_append_left (by omega), Nat.zero_mul, Nat.zero_add]
        rfl
      | succ k =>
        rw [List.getElem?_append_right (by omega), hx, show (k + 1) * 5 + j - 5 = k * 5 + j by omega, ih k (by simpa using hk) j hj]
        rfl
  intro k hk
  subst hc
  have h0 := key l k hk 0 (by decide)
  have h1 := key l k hk 1 (by decide)
  have h2 := key l k hk 2 (by decide)
  have h3 := key l k hk 3 (by decide)
  have h4 := key l k hk 4 (by decide)
  rw [Nat.add_zero] at h0
  exact ⟨(h.cell _).trans h0, (h.cell _).trans h1, (h.cell _).trans h2, (h.cell _).trans h3, (h.cell _).trans h4⟩
set_option maxRecDepth 100000 in
set_option maxHeartbeats 2000000 in
theorem awake_any (w : World) : Calls Try.prog 18 #[] w (BoolPost w true) := by
  have N0 := Lib.hid (Nw.new w (.cells #[.int .i64 3, .int .i64 1, .int .i64 0, .int .i64 0, .int .i64 65, .int .i64 14, .int .i64 1, .int .i64 0, .int .i64 0, .int .i64 0, .int .i64 0, .int .i64 0, .int .i64 0, .int .i64 0, .int .i64 0] 26))
  have IA := Lib.hid (insAt_of exIns (Blk.new w [.int .i64 3, .int .i64 1, .int .i64 0, .int .i64 0, .int .i64 65, .int .i64 14, .int .i64 1, .int .i64 0, .int .i64 0, .int .i64 0, .int .i64 0, .int .i64 0, .int .i64 0, .int .i64 0, .int .i64 0] 26) rfl)
  have CD := Lib.hid (code_any _ _ exIns 3 IA.out (by decide) (by decide))
  go_enter Try.func18, Try.ntmps18
  go_wp2_with fail
  refine CD.out.mono ?_
  rintro e1 w1 ⟨x, c, rfl, ho, hk⟩
  have IM := Lib.hid (img_of_code ho (by decide))
  have N1 := Lib.hid (N0.out.trans hk)
  clear ho hk CD IA N0
  have N2 := Lib.hid (N1.out.alloc (.cells #[.slice x 3 c, .slice none 0 0, .int .i64 0] 29))
  have IM2 := Lib.hid (IM.out.nw (Nw.new w1 (.cells #[.slice x 3 c, .slice none 0 0, .int .i64 0] 29)))
  have B2 := Lib.hid (Blk.new w1 [.slice x 3 c, .slice none 0 0, .int .i64 0] 29)
  simp only [show exIns.length = 3 from rfl] at IM IM2 ⊢
  go_upto_region 2 with fail
  generalize w1.alloc (.cells #[.slice x 3 c, .slice none 0 0, .int .i64 0] 29) = w2 at *
  generalize w1.heap.size = bi at *
  have i0 := B2.out.cell 0
  have i1 := B2.out.cell 1
  have i2 := B2.out.cell 2
  simp only [List.getElem?_cons_zero, List.getElem?_cons_succ] at i0 i1 i2
  have RN := Lib.hid (fnrun_any IM2.out (bytes_nil (fun _ => False) w2) (fun _ h => h.elim) (by simp) 1 10 (by omega))
  rw [show (⟨wordsOf exIns, [], 0⟩ : Img).run 1 [] 10 = ⟨1, 0, [65], 3⟩ from ex_run] at RN
  clear IM IM2
  go_wp2_with fail
  refine RN.out.mono ?_
  rintro e3 w3 ⟨xo, co, rfl, ho, hk⟩
  have BB := Lib.hid (own_bytesAt (l := [65]) ho)
  have N3 := Lib.hid (N2.out.trans hk)
  clear ho hk RN i0 i1 i2
  have N4 := Lib.hid (N3.out.alloc (.cells #[.int .i64 1, .int .i64 0, .slice xo 1 co, .int .i64 3] 37))
  have BB4 := Lib.hid (show BytesAt (w3.alloc (.cells #[.int .i64 1, .int .i64 0, .slice xo 1 co, .int .i64 3] 37)) (.slice xo 1 co) [65] from bytesAt_nw BB.out (Nw.new w3 _))
  have B4 := Lib.hid (Blk.new w3 [.int .i64 1, .int .i64 0, .slice xo 1 co, .int .i64 3] 37)
  simp only [Oc.val]
  go_upto_region 3 with fail
  generalize w3.alloc (.cells #[.int .i64 1, .int .i64 0, .slice xo 1 co, .int .i64 3] 37) = w4 at *
  generalize w3.heap.size = bo at *
  have j0 := B4.out.cell 0
  have j1 := B4.out.cell 1
  have j2 := B4.out.cell 2
  have j3 := B4.out.cell 3
  simp only [List.getElem?_cons_zero, List.getElem?_cons_succ] at j0 j1 j2 j3
  have cv := conv_bytes BB4.out
  go_wp2_with fail
  go_returns
  exact ⟨rfl, N4.out⟩
theorem i64_of_wf {z : Int} (h : (Lit.int .i64 z).wf = true) : -9223372036854775808 ≤ z ∧ z ≤ 9223372036854775807 := by
  simpa [Lit.wf, IntKind.min, IntKind.max, IntKind.signed, IntKind.bits] using h
theorem u8_of_wf {z : Int} (h : (Lit.int .u8 z).wf = true) : 0 ≤ z ∧ z < 256 := by
  have hb : 0 ≤ z ∧ z ≤ 255 := by simpa [Lit.wf, IntKind.min, IntKind.max, IntKind.signed, IntKind.bits] using h
  omega
end Go.Proofs.Ythlcoocboidnlaa
