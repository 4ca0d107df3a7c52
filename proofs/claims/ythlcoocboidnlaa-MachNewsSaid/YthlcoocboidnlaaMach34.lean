/- MachNews: which machines can be made is the document's. -/
import Derived.Test.YthlcoocboidnlaaMach33
namespace Go.Proofs.Ythlcoocboidnlaa
open Go.RowKit
set_option linter.unusedSimpArgs false
set_option linter.unusedVariables false

/-- a goal that the elaborator does not open -/
structure Wrap (p : Prop) : Prop where
  out : p
theorem still_skip {P : Program} {ops : Array Oper} {w : World} {Q : Act → Prop} {a : Act} {o : Oper} {rest : List Oper} (h : Region.wanted o (yielded ops a.tmps) = false) (hK : Wrap (wpStill P ops w Q rest (a.put o.dst undef))) : Wrap (wpStill P ops w Q (o :: rest) a) :=
  Wrap.mk (wpStill_step (fun K hK' => by rw [if_neg (by rw [h]; exact Bool.false_ne_true)]; exact hK' _ hK.out))
theorem still_want {P : Program} {ops : Array Oper} {w : World} {Q : Act → Prop} {a : Act} {o : Oper} {rest : List Oper} (h : Region.wanted o (yielded ops a.tmps) = true) (hK : ∀ K : Act → Prop, (∀ a, Wrap (wpStill P ops w Q rest a) → K a) → o.still P a w K) : Wrap (wpStill P ops w Q (o :: rest) a) :=
  Wrap.mk (wpStill_step (fun K hK' => by rw [if_pos h]; exact hK K (fun a hh => hK' a hh.out)))
theorem still_end {P : Program} {ops : Array Oper} {w : World} {Q : Act → Prop} {a : Act} (h : Q a) : Wrap (wpStill P ops w Q [] a) := Wrap.mk (wpStill_nil h)
theorem steps_field (w : World) (a b : Int) (x : Option Addr) (n c : Nat) (d : Int) : (Instr.field 37 (.agg #[.int .i64 a, .int .i64 b, .slice x n c, .int .i64 d]) 3).run Try.prog w = .ok (.int .i64 d) w := by kernel_rfl
set_option maxRecDepth 100000 in
set_option maxHeartbeats 4000000 in
theorem machNews_walk {R R' : Nat → Prop} {W : World} {xc xd xi : Option Addr} {nc cc nd cd ni ci : Nat} {entry : Int} {m : Img} {inp : List UInt8} (h : ImgAt R W xc xd nc cc nd cd entry m) (hi : BytesR R' W (.slice xi ni ci) inp) (hr : ∀ b, R' b → b < W.heap.size) (hli : inp.length ≤ 9223372036854775807)
    (mem : Int) :
    Calls Try.prog 9 #[.agg #[.slice xc nc cc, .slice xd nd cd, .int .i64 entry], .int .i64 mem, .slice xi ni ci] W (BoolPost W true) := by
  have N0 := Lib.hid (Nw.new W (.cells #[.slice xc nc cc, .slice xd nd cd, .int .i64 entry] 29))
  have IM0 := Lib.hid (h.nw N0.out)
  have BI := Lib.hid (Blk.new W [.slice xc nc cc, .slice xd nd cd, .int .i64 entry] 29)
  have IN0 := Lib.hid (hi.kp N0.out (fun _ _ x => x))
  have HRI := Lib.hid (fun b (hb : R' b) => Nat.lt_of_lt_of_le (hr b hb) N0.out.size)
  have HLI := Lib.hid hli
  have HEN := Lib.hid h.en
  have AW := Lib.hid awake_any
  have hln := hi.len
  have hwi : IntKind.i64.wrap ((ni : Nat) : Int) = ni := IntWalk.i64_in _ (by omega)
  have NA := Lib.hid (fun (wz : World) (k : Nw (W.alloc (.cells #[.slice xc nc cc, .slice xd nd cd, .int .i64 entry] 29)) wz) => new_any (IM0.out.nw k) (IN0.out.kp k (fun _ _ x => x)) (fun b hb => Nat.lt_of_lt_of_le (HRI.out b hb) k.size) HLI.out mem)
  have NB := Lib.hid (fun (wz : World) (k : Nw (W.alloc (.cells #[.slice xc nc cc, .slice xd nd cd, .int .i64 entry] 29)) wz) => dnew_any (IM0.out.nw k) (IN0.out.kp k (fun _ _ x => x)) (fun b hb => Nat.lt_of_lt_of_le (HRI.out b hb) k.size) HLI.out mem)
  clear h hi hr hli hln
  go_enter Try.func9, Try.ntmps9
  go_upto_region 1 with fail
  generalize W.alloc (.cells #[.slice xc nc cc, .slice xd nd cd, .int .i64 entry] 29) = w0 at *
  generalize W.heap.size = bi at *
  have i0 := BI.out.cell 0
  have i1 := BI.out.cell 1
  have i2 := BI.out.cell 2
  simp only [List.getElem?_cons_zero, List.getElem?_cons_succ] at i0 i1 i2
  by_cases hlen : (10000 : Int) < (ni : Int)
  · go_wp2_with fail
    refine (AW.out _).mono ?_
    rintro ea wa ⟨rfl, ka⟩
    go_wp2_with fail
    go_returns
    exact ⟨rfl, N0.out.trans ka⟩
  go_wp2_with fail
  refine (NA.out _ (Nw.refl _)).mono ?_
  rintro e1 w1 (⟨he, pp, R2, L, rfl, hm, hk⟩ | ⟨he, rfl, hk⟩)
  rotate_left
  · have K1 := Lib.hid hk
    have i0 := hk.keeps i0
    have i1 := hk.keeps i1
    have i2 := hk.keeps i2
    clear hk NA
    have ND := Lib.hid (NB.out _ K1.out)
    have EN := Lib.hid he
    go_wp2_with fail
    refine ND.out.mono ?_
    rintro e2 w2 ⟨cs, rfl, hl, ho, hk, _⟩
    have LN := Lib.hid (laid_new (w1 := w2) hl)
    have LT := Lib.hid (laid_there (w1 := w2) hl)
    have LI := Lib.hid (cs_info hl)
    have LO := Lib.hid ho
    have K2 := Lib.hid (K1.out.trans hk)
    have i2 := hk.keeps i2
    clear hl ho hk ND
    generalize m.err mem inp = er at *
    have en := EN.out
    obtain ⟨ne1, ne2, ne3, ne4⟩ := int_ne en
    go_wp2_with (refine wpList_store_mid rfl 51 (.tmp 9) (.tmp 27) rfl w2.heap.size 0 cs.toArray rfl rfl LT.out LI.out LO.out ?_; rw [setCells_lays, toL]; (simp only [Act.put, List.setIfInBounds_toArray, List.set_cons_zero, List.set_cons_succ]); (generalize hwf : lays (w2.alloc (.cells #[.slice none 0 0, .slice none 0 0, .int .i64 0, .int .i64 0, .int .i64 0, .int .i64 0, .int .i64 0, .int .i64 0, .int .i64 0, .int .i64 0, .int .i64 0, .int .i64 0, .int .i64 0, .int .i64 0, .int .i64 0, .int .i64 0, .int .i64 0, .int .i64 0, .int .i64 0, .slice none 0 0, .int .i64 0, .int .i64 0, .int .i64 0, .slice none 0 0, .int .i64 0] 51)) w2.heap.size 0 cs = wf); obtain ⟨hb9, hn9⟩ := LN.out wf hwf.symm; have BF := Lib.hid hb9; have NF := Lib.hid hn9; clear hwf hb9 hn9 LN LT LI LO)
    refine (num_any _ _).mono ?_
    rintro e4 w4 ⟨rfl, rfl⟩
    have K3 := Lib.hid (K2.out.trans NF.out)
    have FIN := Lib.hid (fun (wz : World) (k : Nw wf wz) => (show BoolPost W true (.returned (.bool true)) wz from ⟨rfl, N0.out.trans (K3.out.trans k)⟩))
    go_upto_region 7 with fail
    refine wp_region_still_tail 27 (by kernel_rfl) (by kernel_rfl) ?_
    simp only [List.take_succ_cons, List.take_zero, List.drop_succ_cons, List.drop_zero]
    apply Wrap.out
    iterate 3
      refine still_want (by kernel_rfl) (fun K hK => ?_)
      have HK := Lib.hid hK
      clear hK
      go_simp
      refine HK.out _ ?_
      clear HK K
    iterate 22
      refine still_skip (by kernel_rfl) ?_
      simp only [Act.put, List.setIfInBounds_toArray, List.set_cons_zero, List.set_cons_succ]
    iterate 2
      refine still_want (by kernel_rfl) (fun K hK => ?_)
      have HK := Lib.hid hK
      clear hK
      go_simp
      refine HK.out _ ?_
      clear HK K
    refine still_end ?_
    change wpList _ _ _ _ _ wf.drew
    go_wp2_with fail
    refine (AW.out _).mono ?_
    rintro ea wa ⟨rfl, ka⟩
    go_wp2_with fail
    go_returns
    exact FIN.out _ ((Nw.refl _).drew.trans ka)
  have K1 := Lib.hid hk
  have MX := Lib.hid hm
  have i0 := hk.keeps i0
  have i1 := hk.keeps i1
  have i2 := hk.keeps i2
  clear hk NA hm
  have ND := Lib.hid (NB.out _ K1.out)
  go_wp2_with fail
  refine ND.out.mono ?_
  rintro e2 w2 ⟨cs, rfl, hl, ho, hk, _⟩
  have LN := Lib.hid (laid_new (w1 := w2) hl)
  have LT := Lib.hid (laid_there (w1 := w2) hl)
  have LI := Lib.hid (cs_info hl)
  have LO := Lib.hid ho
  have K2 := Lib.hid (K1.out.trans hk)
  have M2 := Lib.hid (MX.out.kpo hk (fun _ _ x => x))
  have i2 := hk.keeps i2
  clear hl ho hk ND MX
  rw [he]
  have VP := Lib.hid (show (m.ms mem inp).pc = entry from HEN.out.symm)
  have VR := Lib.hid (show (m.ms mem inp).regAt 15 = mem by simp [Ms.regAt, Img.ms, Ms.new, Ms.get])
  have VZ := Lib.hid (show (m.ms mem inp).regAt 0 = 0 by simp [Ms.regAt, Img.ms, Ms.new, Ms.get])
  have VS := Lib.hid (show (m.ms mem inp).oc.steps = 0 from rfl)
  generalize m.ms mem inp = s0 at *
  go_wp2_with (refine wpList_store_mid rfl 51 (.tmp 9) (.tmp 27) rfl w2.heap.size 0 cs.toArray rfl rfl LT.out LI.out LO.out ?_; rw [setCells_lays, toL]; (simp only [Act.put, List.setIfInBounds_toArray, List.set_cons_zero, List.set_cons_succ]); (generalize hwf : lays (w2.alloc (.cells #[.slice none 0 0, .slice none 0 0, .int .i64 0, .int .i64 0, .int .i64 0, .int .i64 0, .int .i64 0, .int .i64 0, .int .i64 0, .int .i64 0, .int .i64 0, .int .i64 0, .int .i64 0, .int .i64 0, .int .i64 0, .int .i64 0, .int .i64 0, .int .i64 0, .int .i64 0, .slice none 0 0, .int .i64 0, .int .i64 0, .int .i64 0, .slice none 0 0, .int .i64 0] 51)) w2.heap.size 0 cs = wf); obtain ⟨hb9, hn9⟩ := LN.out wf hwf.symm; have BF := Lib.hid hb9; have NF := Lib.hid hn9; clear hwf hb9 hn9 LN LT LI LO)
  refine (num_any _ _).mono ?_
  rintro e4 w4 ⟨rfl, rfl⟩
  have K3 := Lib.hid (K2.out.trans NF.out)
  have i2 := NF.out.keeps i2
  have M3 := Lib.hid (M2.out.kpo NF.out (fun _ _ x => x))
  have FIN := Lib.hid (fun (wz : World) (k : Nw wf wz) => (show BoolPost W true (.returned (.bool true)) wz from ⟨rfl, N0.out.trans (K3.out.trans k)⟩))
  have CP := Lib.hid (fun (wz : World) (k : Nw wf wz) => (show Calls Try.prog 26 #[.pointer (some ⟨pp, 0, none⟩)] wz (NumP entry wz) by
    have := pc_any (M3.out.kpo k (fun _ _ x => x)); rw [VP.out] at this; exact this))
  have CR := Lib.hid (fun (wz : World) (k : Nw wf wz) => (show Calls Try.prog 16 #[.pointer (some ⟨pp, 0, none⟩), .int .i64 15] wz (NumP mem wz) by
    have := reg_any (M3.out.kpo k (fun _ _ x => x)) 15; rw [VR.out] at this; exact this))
  have CZ := Lib.hid (fun (wz : World) (k : Nw wf wz) => (show Calls Try.prog 16 #[.pointer (some ⟨pp, 0, none⟩), .int .i64 0] wz (NumP 0 wz) by
    have := reg_any (M3.out.kpo k (fun _ _ x => x)) 0; rw [VZ.out] at this; exact this))
  have CO := Lib.hid (fun (wz : World) (k : Nw wf wz) => (show Calls Try.prog 22 #[.pointer (some ⟨pp, 0, none⟩)] wz (fun e w' => ∃ (a b : Int) (x : Option Addr) (n c : Nat), e = .returned (.agg #[.int .i64 a, .int .i64 b, .slice x n c, .int .i64 0]) ∧ Nw wz w') by
    refine (outcome_oc (M3.out.kpo k (fun _ _ x => x))).mono ?_
    rintro e w' ⟨x, c, rfl, _, hk⟩
    exact ⟨s0.oc.kind, s0.oc.panics, x, s0.oc.out.length, c, by unfold Oc.val; rw [VS.out], hk⟩))
  have FC := Lib.hid (fun (wz : World) (k : Nw wf wz) => k.keeps i2)
  have hfd := steps_field
  clear M2 M3 NB IM0 IN0 HRI HLI HEN VP VR VZ VS BF K1 K2 BI
  go_upto_region 7 with fail
  go_region_held3 (fun wz => wz.cell? ⟨bi, 2, none⟩ = some (.int .i64 entry))
    (first | with_reducible exact FC.out _ (Nw.refl _).drew | with_reducible exact FC.out _ kk)
    (first
      | (go_at_call 26; (with_reducible refine (CP.out _ (by first | assumption | exact (Nw.refl _).drew | exact Nw.refl _)).mono ?_); rintro ea wa ⟨rfl, ka⟩; have kk : Nw wf wa := Nw.trans (by first | assumption | exact (Nw.refl _).drew | exact Nw.refl _) (by first | exact ka | (rw [ka]; exact Nw.refl _)))
      | (go_at_call 16; (with_reducible refine (CR.out _ (by first | assumption | exact (Nw.refl _).drew | exact Nw.refl _)).mono ?_); rintro ea wa ⟨rfl, ka⟩; have kk : Nw wf wa := Nw.trans (by first | assumption | exact (Nw.refl _).drew | exact Nw.refl _) (by first | exact ka | (rw [ka]; exact Nw.refl _)))
      | (go_at_call 16; (with_reducible refine (CZ.out _ (by first | assumption | exact (Nw.refl _).drew | exact Nw.refl _)).mono ?_); rintro ea wa ⟨rfl, ka⟩; have kk : Nw wf wa := Nw.trans (by first | assumption | exact (Nw.refl _).drew | exact Nw.refl _) (by first | exact ka | (rw [ka]; exact Nw.refl _)))
      | (go_at_call 22; (with_reducible refine (CO.out _ (by first | assumption | exact (Nw.refl _).drew | exact Nw.refl _)).mono ?_); rintro ea wa ⟨oa, ob, ox, on, oc, rfl, ka⟩; have kk : Nw wf wa := Nw.trans (by first | assumption | exact (Nw.refl _).drew | exact Nw.refl _) ka)
      | (go_at_call 18; (with_reducible refine (AW.out _).mono ?_); rintro eg wg ⟨rfl, kd⟩; have kk : Nw wf wg := Nw.trans (by first | assumption | exact (Nw.refl _).drew | exact Nw.refl _) kd))
  all_goals
    go_wp2_with fail
    go_returns
    exact FIN.out _ kk
end Go.Proofs.Ythlcoocboidnlaa
