/- mortiseref3.Run: a whole run of the document. -/
import Derived.Test.YthlcoocboidnlaaMach31
namespace Go.Proofs.Ythlcoocboidnlaa
open Go.RowKit
set_option linter.unusedSimpArgs false
set_option linter.unusedVariables false

theorem dfn_res {tmps : Array Value} {w : World} {q : Nat} {a b c d : Value} (h2 : tmps[8]?.getD undef = .pointer (some ⟨q, 0, none⟩)) (hb : Blk w q [a, b, c, d] 37) :
    (results Try.f21 tmps).run Try.prog w = .ok (.agg #[a, b, c, d]) w := by
  have f0 := hb.cell 0
  have f1 := hb.cell 1
  have f2 := hb.cell 2
  have f3 := hb.cell 3
  simp only [List.getElem?_cons_zero, List.getElem?_cons_succ] at f0 f1 f2 f3
  simp [results, Try.results21, go_sem, h2, f0, f1, f2, f3]
theorem cs_info {cs : List Value} (h : cs.length = 25) : (Try.prog.info? 51).map (·.size) = some cs.toArray.size := by
  have h1 : cs.toArray.size = 25 := by simpa using h
  rw [h1]
  exact mcs_infol undef undef undef undef undef
/-- what a run tells, value by value -/
def RunE (B : Nat) (R : Nat → Prop) (w : World) (p : Nat) (L : Ld) (s' : Ms) (e : Ending) (w' : World) : Prop :=
  (∃ x c, e = .returned (.agg #[.int .i64 s'.kind, .int .i64 s'.panics, .slice x s'.out.length c, .int .i64 s'.steps]) ∧ w'.ownsRow w.heap.size 5 1 (.slice x s'.out.length c) s'.out.length (byteV s'.out)) ∧ SD B R w p L s' w'
theorem RunD.e {B : Nat} {R : Nat → Prop} {w : World} {p : Nat} {L : Ld} {s' : Ms} {e : Ending} {w' : World} (h : RunD B R w p L s' e w') : RunE B R w p L s' e w' := h
/-- the struct handed back lies in a new block -/
theorem laid_new {w1 : World} {cs : List Value} (hl : cs.length = 25) : ∀ wf, wf = lays (w1.alloc (.cells #[.slice none 0 0, .slice none 0 0, .int .i64 0, .int .i64 0, .int .i64 0, .int .i64 0, .int .i64 0, .int .i64 0, .int .i64 0, .int .i64 0, .int .i64 0, .int .i64 0, .int .i64 0, .int .i64 0, .int .i64 0, .int .i64 0, .int .i64 0, .int .i64 0, .int .i64 0, .slice none 0 0, .int .i64 0, .int .i64 0, .int .i64 0, .slice none 0 0, .int .i64 0] 51)) w1.heap.size 0 cs → Blk wf w1.heap.size cs 51 ∧ Nw w1 wf := fun wf e => by
  rw [e]
  exact ⟨(Blk.new w1 [.slice none 0 0, .slice none 0 0, .int .i64 0, .int .i64 0, .int .i64 0, .int .i64 0, .int .i64 0, .int .i64 0, .int .i64 0, .int .i64 0, .int .i64 0, .int .i64 0, .int .i64 0, .int .i64 0, .int .i64 0, .int .i64 0, .int .i64 0, .int .i64 0, .int .i64 0, .slice none 0 0, .int .i64 0, .int .i64 0, .int .i64 0, .slice none 0 0, .int .i64 0] 51).over cs hl, Kp.sets (S := fun _ => False) (b := w1.heap.size) (Nw.new w1 _) (fun h => absurd h (Nat.lt_irrefl _)) 0 cs⟩
theorem laid_there {w1 : World} {cs : List Value} (hl : cs.length = 25) : (w1.alloc (.cells #[.slice none 0 0, .slice none 0 0, .int .i64 0, .int .i64 0, .int .i64 0, .int .i64 0, .int .i64 0, .int .i64 0, .int .i64 0, .int .i64 0, .int .i64 0, .int .i64 0, .int .i64 0, .int .i64 0, .int .i64 0, .int .i64 0, .int .i64 0, .int .i64 0, .int .i64 0, .slice none 0 0, .int .i64 0, .int .i64 0, .int .i64 0, .slice none 0 0, .int .i64 0] 51)).there w1.heap.size 0 cs.toArray.size := blk_there (Blk.new w1 [.slice none 0 0, .slice none 0 0, .int .i64 0, .int .i64 0, .int .i64 0, .int .i64 0, .int .i64 0, .int .i64 0, .int .i64 0, .int .i64 0, .int .i64 0, .int .i64 0, .int .i64 0, .int .i64 0, .int .i64 0, .int .i64 0, .int .i64 0, .int .i64 0, .int .i64 0, .slice none 0 0, .int .i64 0, .int .i64 0, .int .i64 0, .slice none 0 0, .int .i64 0] 51) (by rw [hl]; rfl)
set_option maxRecDepth 100000 in
set_option maxHeartbeats 4000000 in
theorem dfnrun_any {R R' : Nat → Prop} {w : World} {xc xd xi : Option Addr} {nc cc nd cd ni ci : Nat} {entry : Int} {m : Img} {inp : List UInt8} (h : ImgAt R w xc xd nc cc nd cd entry m) (hi : BytesR R' w (.slice xi ni ci) inp) (hr : ∀ b, R' b → b < w.heap.size) (hli : inp.length ≤ 9223372036854775807) (mem fuel : Int)
    (hf : -9223372036854775808 ≤ fuel ∧ fuel ≤ 9223372036854775807) :
    Calls Try.prog 21 #[.agg #[.slice xc nc cc, .slice xd nd cd, .int .i64 entry], .int .i64 mem, .slice xi ni ci, .int .i64 fuel] w (OcP (m.run mem inp fuel) w) := by
  have N0 := Lib.hid (((Nw.refl w).alloc (.cells #[.slice xc nc cc, .slice xd nd cd, .int .i64 entry] 29)).alloc (.cells #[.int .i64 0, .int .i64 0, .slice none 0 0, .int .i64 0] 37))
  have BI := Lib.hid ((Blk.new w [.slice xc nc cc, .slice xd nd cd, .int .i64 entry] 29).alloc (.cells #[.int .i64 0, .int .i64 0, .slice none 0 0, .int .i64 0] 37))
  have BR := Lib.hid (show Blk ((w.alloc (.cells #[.slice xc nc cc, .slice xd nd cd, .int .i64 entry] 29)).alloc (.cells #[.int .i64 0, .int .i64 0, .slice none 0 0, .int .i64 0] 37)) (w.heap.size + 1) [.int .i64 0, .int .i64 0, .slice none 0 0, .int .i64 0] 37 by
    have := Blk.new (w.alloc (.cells #[.slice xc nc cc, .slice xd nd cd, .int .i64 entry] 29)) [.int .i64 0, .int .i64 0, .slice none 0 0, .int .i64 0] 37
    rw [size_alloc] at this; exact this)
  have NEW := Lib.hid (fun (wz : World) (k : Nw w wz) => dnew_any (h.nw k) (hi.nw k) (fun b hb => Nat.lt_of_lt_of_le (hr b hb) k.size) hli mem)
  have HCI := Lib.hid h.ci
  clear h hi hr
  go_enter Try.func21, Try.ntmps21
  go_upto_region 1 with fail
  generalize (w.alloc (.cells #[.slice xc nc cc, .slice xd nd cd, .int .i64 entry] 29)).alloc (.cells #[.int .i64 0, .int .i64 0, .slice none 0 0, .int .i64 0] 37) = w0 at *
  obtain ⟨q, hq⟩ : ∃ q, q = w.heap.size + 1 := ⟨_, rfl⟩
  rw [← hq] at BR ⊢
  have HQ := Lib.hid hq
  clear hq
  generalize hbi : w.heap.size = bi at *
  have HBI := Lib.hid hbi
  clear hbi
  have i0 := BI.out.cell 0
  have i1 := BI.out.cell 1
  have i2 := BI.out.cell 2
  simp only [List.getElem?_cons_zero, List.getElem?_cons_succ] at i0 i1 i2
  have ND := Lib.hid (NEW.out w0 N0.out)
  clear NEW
  go_wp2_with fail
  refine ND.out.mono ?_
  rintro e1 w1 ⟨cs, rfl, hl, ho, hk, hv⟩
  have LN := Lib.hid (laid_new (w1 := w1) hl)
  have LT := Lib.hid (laid_there (w1 := w1) hl)
  have LI := Lib.hid (cs_info hl)
  have LO := Lib.hid ho
  have HK := Lib.hid hk
  have HV := Lib.hid hv
  have HER := Lib.hid (show m.err mem inp = 4 ∨ m.err mem inp = 1 ∨ m.err mem inp = 0 by
    unfold Img.err newErr
    split
    · exact .inl rfl
    · split
      · exact .inr (.inl rfl)
      · exact .inr (.inr rfl))
  clear hl ho hk hv ND i0 i1 i2
  by_cases he : m.err mem inp = 0
  · have RU := Lib.hid (show m.run mem inp fuel = ((m.ms mem inp).runN (min fuel 4194304).toNat).oc from if_pos he)
    have HE := Lib.hid he
    have HRUN := Lib.hid (fun (wz : World) (hb : Blk wz w1.heap.size cs 51) (hn : Nw w1 wz) (n : Int) (hn2 : I64 n) => (show ∃ B' R2 L, w0.heap.size ≤ B' ∧ (∀ x, Fdd w1.heap.size L x → B' ≤ x) ∧ Calls Try.prog 29 #[.pointer (some ⟨w1.heap.size, 0, none⟩), .int .i64 n] wz (RunE B' R2 wz w1.heap.size L ((m.ms mem inp).runN n.toNat)) from by
      obtain ⟨bm, x1, c1, x2, c2, rfl, v⟩ := HV.out HE.out
      have d := (datl_new (B := w0.heap.size) v HE.out HCI.out (Nat.le_refl _) (hn.mono (fun _ _ x => x.elim)) HK.out.size (.inr (Nat.le_refl _)) hb).1
      exact ⟨_, _, _, Nat.le_refl _, d.ft_ge, (drun_any d n hn2).mono fun _ _ q => q.e⟩))
    rw [he]
    clear HV HER
    by_cases hle : fuel ≤ 4194304
    · have hmr : I64 (fuel) := by unfold I64; omega
      rw [show min fuel 4194304 = fuel by omega] at RU
      go_wp2_with (refine wpList_store_mid rfl 51 (.tmp 9) (.tmp 16) rfl w1.heap.size 0 cs.toArray rfl rfl LT.out LI.out LO.out ?_; rw [setCells_lays, toL]; (simp only [Act.put, List.setIfInBounds_toArray, List.set_cons_zero, List.set_cons_succ]); (generalize hwf : lays (w1.alloc (.cells #[.slice none 0 0, .slice none 0 0, .int .i64 0, .int .i64 0, .int .i64 0, .int .i64 0, .int .i64 0, .int .i64 0, .int .i64 0, .int .i64 0, .int .i64 0, .int .i64 0, .int .i64 0, .int .i64 0, .int .i64 0, .int .i64 0, .int .i64 0, .int .i64 0, .int .i64 0, .slice none 0 0, .int .i64 0, .int .i64 0, .int .i64 0, .slice none 0 0, .int .i64 0] 51)) w1.heap.size 0 cs = wf); obtain ⟨hb9, hn9⟩ := LN.out wf hwf.symm; have BF := Lib.hid hb9; have NF := Lib.hid hn9; clear hwf hb9 hn9 LN LT LI LO)
      obtain ⟨B', R2, L, hB, hF, hc⟩ := HRUN.out wf BF.out NF.out (fuel) hmr
      have HB := Lib.hid hB
      have HF := Lib.hid hF
      have HC := Lib.hid hc
      have BR1 := Lib.hid ((BR.out.nw HK.out).nw NF.out)
      have QF := Lib.hid (show ¬ Fdd w1.heap.size L q from fun e => by have h1 := HF.out q e; have h2 := BR.out.lt; have h3 := HB.out; omega)
      have N1 := Lib.hid ((N0.out.trans HK.out).trans NF.out)
      have FK := Lib.hid (fun (wz : World) (k : Kp (Fdd w1.heap.size L) wf wz) => (Kp.trans (HK.out.trans NF.out) k (fun x hx e => by have h1 := HF.out x e; have h3 := HB.out; omega) : Nw w0 wz))
      obtain ⟨sf, hsf⟩ : ∃ sf, sf = (m.ms mem inp).runN (fuel).toNat := ⟨_, rfl⟩
      rw [← hsf] at HC RU
      clear hB hF hc HRUN hsf
      refine HC.out.mono ?_
      rintro e2 w2 ⟨⟨xr, cr, rfl, ho⟩, L2, hm2, hk2, _, _, hne⟩
      have BR2 := Lib.hid (BR1.out.kp hk2 QF.out)
      have NL := Lib.hid (N0.out.trans (FK.out w2 hk2))
      have FIN := Lib.hid (show OcP (m.run mem inp fuel) w (.returned (.agg #[.int .i64 sf.kind, .int .i64 sf.panics, .slice xr sf.out.length cr, .int .i64 sf.steps])) (lays w2 q 0 [.int .i64 sf.kind, .int .i64 sf.panics, .slice xr sf.out.length cr, .int .i64 sf.steps]) by
        rw [RU.out]
        refine ⟨xr, cr, rfl, own_weaken (own_kp ho ((Kp.refl (fun x => x = q) w2).sets (fun _ => rfl) 0 [.int .i64 sf.kind, .int .i64 sf.panics, .slice xr sf.out.length cr, .int .i64 sf.steps]) (fun g hg e => ?_)) N1.out.size, Kp.sets (S := fun _ => False) (b := q) NL.out (fun hh => by have := HQ.out; have := HBI.out; omega) 0 _⟩
        have h1 := own_block ho g hg
        have h2 := BR1.out.lt
        have e : g = q := e
        omega)
      have FB := Lib.hid (Blk.sets BR2.out 0 [.int .i64 sf.kind, .int .i64 sf.panics, .slice xr sf.out.length cr, .int .i64 sf.steps])
      have cR := BR2.out.cell
      have zR := BR2.out.frozen
      clear ho hm2 hk2 hne RU
      generalize m.run mem inp fuel = oc at *
      go_wp2_with fail
      refine bodyPost_ret (v := .agg #[.int .i64 sf.kind, .int .i64 sf.panics, .slice xr sf.out.length cr, .int .i64 sf.steps]) (dfn_res rfl FB.out) rfl FIN.out
    · have hgt : (4194304 : Int) < fuel := by omega
      have hmr : I64 ((4194304 : Int)) := by unfold I64; omega
      rw [show min fuel 4194304 = (4194304 : Int) by omega] at RU
      go_wp2_with (refine wpList_store_mid rfl 51 (.tmp 9) (.tmp 16) rfl w1.heap.size 0 cs.toArray rfl rfl LT.out LI.out LO.out ?_; rw [setCells_lays, toL]; (simp only [Act.put, List.setIfInBounds_toArray, List.set_cons_zero, List.set_cons_succ]); (generalize hwf : lays (w1.alloc (.cells #[.slice none 0 0, .slice none 0 0, .int .i64 0, .int .i64 0, .int .i64 0, .int .i64 0, .int .i64 0, .int .i64 0, .int .i64 0, .int .i64 0, .int .i64 0, .int .i64 0, .int .i64 0, .int .i64 0, .int .i64 0, .int .i64 0, .int .i64 0, .int .i64 0, .int .i64 0, .slice none 0 0, .int .i64 0, .int .i64 0, .int .i64 0, .slice none 0 0, .int .i64 0] 51)) w1.heap.size 0 cs = wf); obtain ⟨hb9, hn9⟩ := LN.out wf hwf.symm; have BF := Lib.hid hb9; have NF := Lib.hid hn9; clear hwf hb9 hn9 LN LT LI LO)
      obtain ⟨B', R2, L, hB, hF, hc⟩ := HRUN.out wf BF.out NF.out ((4194304 : Int)) hmr
      have HB := Lib.hid hB
      have HF := Lib.hid hF
      have HC := Lib.hid hc
      have BR1 := Lib.hid ((BR.out.nw HK.out).nw NF.out)
      have QF := Lib.hid (show ¬ Fdd w1.heap.size L q from fun e => by have h1 := HF.out q e; have h2 := BR.out.lt; have h3 := HB.out; omega)
      have N1 := Lib.hid ((N0.out.trans HK.out).trans NF.out)
      have FK := Lib.hid (fun (wz : World) (k : Kp (Fdd w1.heap.size L) wf wz) => (Kp.trans (HK.out.trans NF.out) k (fun x hx e => by have h1 := HF.out x e; have h3 := HB.out; omega) : Nw w0 wz))
      obtain ⟨sf, hsf⟩ : ∃ sf, sf = (m.ms mem inp).runN ((4194304 : Int)).toNat := ⟨_, rfl⟩
      rw [← hsf] at HC RU
      clear hB hF hc HRUN hsf
      refine HC.out.mono ?_
      rintro e2 w2 ⟨⟨xr, cr, rfl, ho⟩, L2, hm2, hk2, _, _, hne⟩
      have BR2 := Lib.hid (BR1.out.kp hk2 QF.out)
      have NL := Lib.hid (N0.out.trans (FK.out w2 hk2))
      have FIN := Lib.hid (show OcP (m.run mem inp fuel) w (.returned (.agg #[.int .i64 sf.kind, .int .i64 sf.panics, .slice xr sf.out.length cr, .int .i64 sf.steps])) (lays w2 q 0 [.int .i64 sf.kind, .int .i64 sf.panics, .slice xr sf.out.length cr, .int .i64 sf.steps]) by
        rw [RU.out]
        refine ⟨xr, cr, rfl, own_weaken (own_kp ho ((Kp.refl (fun x => x = q) w2).sets (fun _ => rfl) 0 [.int .i64 sf.kind, .int .i64 sf.panics, .slice xr sf.out.length cr, .int .i64 sf.steps]) (fun g hg e => ?_)) N1.out.size, Kp.sets (S := fun _ => False) (b := q) NL.out (fun hh => by have := HQ.out; have := HBI.out; omega) 0 _⟩
        have h1 := own_block ho g hg
        have h2 := BR1.out.lt
        have e : g = q := e
        omega)
      have FB := Lib.hid (Blk.sets BR2.out 0 [.int .i64 sf.kind, .int .i64 sf.panics, .slice xr sf.out.length cr, .int .i64 sf.steps])
      have cR := BR2.out.cell
      have zR := BR2.out.frozen
      clear ho hm2 hk2 hne RU
      generalize m.run mem inp fuel = oc at *
      go_wp2_with fail
      refine bodyPost_ret (v := .agg #[.int .i64 sf.kind, .int .i64 sf.panics, .slice xr sf.out.length cr, .int .i64 sf.steps]) (dfn_res rfl FB.out) rfl FIN.out
  · have RU := Lib.hid (show m.run mem inp fuel = ⟨5, 0, [], 0⟩ from if_neg he)
    have N1 := Lib.hid (N0.out.trans HK.out)
    have FIN := Lib.hid (fun (wf : World) (hn : Nw w1 wf) => (show OcP (m.run mem inp fuel) w (.returned (.agg #[.int .i64 5, .int .i64 0, .slice none 0 0, .int .i64 0])) (lays wf q 0 [.int .i64 5, .int .i64 0, .slice none 0 0, .int .i64 0]) by
      rw [RU.out]
      exact ⟨none, 0, rfl, ⟨rfl, .inl ⟨rfl, rfl⟩⟩, Kp.sets (S := fun _ => False) (b := q) (N1.out.trans hn) (fun hh => by have := HQ.out; have := HBI.out; omega) 0 _⟩))
    have en : ¬ m.err mem inp = 0 := he
    generalize m.err mem inp = er at *
    clear RU he HER HV
    obtain ⟨ne1, ne2, ne3, ne4⟩ := int_ne en
    generalize m.run mem inp fuel = oc at *
    go_wp2_with ((refine wpList_store_mid rfl 51 (.tmp 9) (.tmp 16) rfl w1.heap.size 0 cs.toArray rfl rfl LT.out LI.out LO.out ?_; rw [setCells_lays, toL]; (simp only [Act.put, List.setIfInBounds_toArray, List.set_cons_zero, List.set_cons_succ]); (generalize hwf : lays (w1.alloc (.cells #[.slice none 0 0, .slice none 0 0, .int .i64 0, .int .i64 0, .int .i64 0, .int .i64 0, .int .i64 0, .int .i64 0, .int .i64 0, .int .i64 0, .int .i64 0, .int .i64 0, .int .i64 0, .int .i64 0, .int .i64 0, .int .i64 0, .int .i64 0, .int .i64 0, .int .i64 0, .slice none 0 0, .int .i64 0, .int .i64 0, .int .i64 0, .slice none 0 0, .int .i64 0] 51)) w1.heap.size 0 cs = wf); obtain ⟨hb9, hn9⟩ := LN.out wf hwf.symm; have BF := Lib.hid hb9; have NF := Lib.hid hn9; clear hwf hb9 hn9 LN LT LI LO); have BR1 := Lib.hid ((BR.out.nw HK.out).nw NF.out); have FB := Lib.hid (Blk.sets BR1.out 0 [.int .i64 5, .int .i64 0, .slice none 0 0, .int .i64 0]); have cR := BR1.out.cell; have zR := BR1.out.frozen; have FIN2 := Lib.hid (FIN.out wf NF.out))
    refine bodyPost_ret (v := .agg #[.int .i64 5, .int .i64 0, .slice none 0 0, .int .i64 0]) (dfn_res rfl FB.out) rfl FIN2.out
end Go.Proofs.Ythlcoocboidnlaa
