/- The document's words: Decode. -/
import Derived.Test.YtfdjlicegfgodaaIsa6
namespace Go.Proofs.Ytfdjlicegfgodaa
open Go.RowKit
set_option linter.unusedSimpArgs false
set_option linter.unusedVariables false

theorem rdec_res {tmps : Array Value} {w : World} {p : Nat} {a b c d e k : Value} (h2 : tmps[2]?.getD undef = .pointer (some ⟨p, 0, none⟩)) (h3 : tmps[3]?.getD undef = k)
    (hb : Blk w p [a, b, c, d, e] 100) : (results Try.f58 tmps).run Try.prog w = .ok (.tuple #[.agg #[a, b, c, d, e], k]) w := by
  have f0 := hb.cell 0
  have f1 := hb.cell 1
  have f2 := hb.cell 2
  have f3 := hb.cell 3
  have f4 := hb.cell 4
  simp only [List.getElem?_cons_zero, List.getElem?_cons_succ] at f0 f1 f2 f3 f4
  simp [results, Try.results58, go_sem, h2, h3, f0, f1, f2, f3, f4]
theorem rEncode_bad {w : World} {op a b c n : Int} (h : okIns op a b c n = false) :
    Calls Try.prog 76 #[.agg #[.int .i64 op, .int .i64 a, .int .i64 b, .int .i64 c, .int .i64 n]] w fun e w' => e = .returned (.tuple #[.int .i64 0, .int .i64 4]) ∧ Nw w w' :=
  (rEncode_any w op a b c n).mono fun e w' q => ⟨by rw [q.1, h]; rfl, q.2⟩
theorem rEncode_ok {w : World} {op a b c n : Int} (h : okIns op a b c n = true) :
    Calls Try.prog 76 #[.agg #[.int .i64 op, .int .i64 a, .int .i64 b, .int .i64 c, .int .i64 n]] w fun e w' => e = .returned (.tuple #[.int .i64 (encIns op a b c n), .int .i64 0]) ∧ Nw w w' :=
  (rEncode_any w op a b c n).mono fun e w' q => ⟨by rw [q.1, h]; rfl, q.2⟩
theorem u64_nat (k : Nat) (h : (k : Int) ≤ 9223372036854775807) : IntKind.u64.wrap (k : Int) = k := by
  rw [IntKind.wrap_u64]; omega
theorem okW_neg {v : Int} (h : v < 0) (hv : -9223372036854775808 ≤ v) : okW v = false := by
  have h1 : 128 ≤ opW v := by unfold opW; rw [IntKind.wrap_u64]; omega
  have h2 : isOp (opW v) = false := by unfold isOp; simp only [decide_eq_false_iff_not]; omega
  unfold okW okIns
  rw [h2]; rfl

set_option maxRecDepth 100000 in
set_option maxHeartbeats 4000000 in
theorem rDecode_any (w : World) (v : Int) (hv : -9223372036854775808 ≤ v ∧ v ≤ 9223372036854775807) :
    Calls Try.prog 58 #[.int .i64 v] w (IDec w v) := by
  by_cases h0 : v < 0
  · have HOK := Lib.hid (okW_neg h0 hv.1)
    have N0 := Lib.hid (Nw.new w (.cells #[.int .i64 0, .int .i64 0, .int .i64 0, .int .i64 0, .int .i64 0] 100))
    have BR := Lib.hid (Blk.new w [.int .i64 0, .int .i64 0, .int .i64 0, .int .i64 0, .int .i64 0] 100)
    have HR := Lib.hid (show IDec w v (.returned (.tuple #[.agg #[.int .i64 0, .int .i64 0, .int .i64 0, .int .i64 0, .int .i64 0], .int .i64 4])) (lays (w.alloc (.cells #[.int .i64 0, .int .i64 0, .int .i64 0, .int .i64 0, .int .i64 0] 100)) w.heap.size 0 [.int .i64 0, .int .i64 0, .int .i64 0, .int .i64 0, .int .i64 0]) from ⟨by rw [HOK.out]; rfl, Kp.sets N0.out (b := w.heap.size) (fun h => by omega) 0 [.int .i64 0, .int .i64 0, .int .i64 0, .int .i64 0, .int .i64 0]⟩)
    go_enter Try.func58, Try.ntmps58
    go_upto_region 1 with fail
    generalize w.alloc (.cells #[.int .i64 0, .int .i64 0, .int .i64 0, .int .i64 0, .int .i64 0] 100) = wA at *
    have cR := BR.out.cell
    have zR := BR.out.frozen
    go_wp2_with fail
    exact ⟨rfl, _, rdec_res rfl rfl (Blk.sets BR.out 0 [.int .i64 0, .int .i64 0, .int .i64 0, .int .i64 0, .int .i64 0]), HR.out⟩
  · obtain ⟨k, rfl⟩ : ∃ k : Nat, v = k := ⟨v.toNat, by omega⟩
    clear h0
    have hk : (k : Int) ≤ 9223372036854775807 := hv.2
    obtain ⟨o, ho⟩ : ∃ o, o = opW (k : Int) := ⟨_, rfl⟩
    obtain ⟨a, ha⟩ : ∃ a, a = aW (k : Int) := ⟨_, rfl⟩
    obtain ⟨b, hb⟩ : ∃ b, b = bW (k : Int) := ⟨_, rfl⟩
    obtain ⟨c, hc⟩ : ∃ c, c = cW (k : Int) := ⟨_, rfl⟩
    obtain ⟨n, hn⟩ : ∃ n, n = nW (k : Int) := ⟨_, rfl⟩
    have HO := Lib.hid ho
    have HA := Lib.hid ha
    have HB := Lib.hid hb
    have HC := Lib.hid hc
    have HN := Lib.hid hn
    have E1 := Lib.hid (show (k : Int) / 17592186044416 / 4096 = o by rw [ho, opW, u64_nat k hv.2]; omega)
    have E2 := Lib.hid (show (k : Int) / 17592186044416 / 256 % 16 = a by rw [ha, aW, u64_nat k hv.2]; omega)
    have E3 := Lib.hid (show (k : Int) / 17592186044416 / 16 % 16 = b by rw [hb, bW, u64_nat k hv.2]; omega)
    have E4 := Lib.hid (show (k : Int) / 17592186044416 % 16 = c by rw [hc, cW, u64_nat k hv.2])
    clear ho ha hb hc hn
    have N0 := Lib.hid (show Nw w ((w.alloc (.cells #[.int .i64 0, .int .i64 0, .int .i64 0, .int .i64 0, .int .i64 0] 100)).alloc (.cells #[.int .i64 o, .int .i64 a, .int .i64 b, .int .i64 c, .int .i64 n] 100)) from ((Nw.refl w).alloc _).alloc _)
    have BR := Lib.hid ((Blk.new w [.int .i64 0, .int .i64 0, .int .i64 0, .int .i64 0, .int .i64 0] 100).alloc (.cells #[.int .i64 o, .int .i64 a, .int .i64 b, .int .i64 c, .int .i64 n] 100))
    have BI := Lib.hid (show Blk ((w.alloc (.cells #[.int .i64 0, .int .i64 0, .int .i64 0, .int .i64 0, .int .i64 0] 100)).alloc (.cells #[.int .i64 o, .int .i64 a, .int .i64 b, .int .i64 c, .int .i64 n] 100)) (w.heap.size + 1) [.int .i64 o, .int .i64 a, .int .i64 b, .int .i64 c, .int .i64 n] 100 from by
      have := Blk.new (w.alloc (.cells #[.int .i64 0, .int .i64 0, .int .i64 0, .int .i64 0, .int .i64 0] 100)) [.int .i64 o, .int .i64 a, .int .i64 b, .int .i64 c, .int .i64 n] 100
      rw [size_alloc] at this; exact this)
    by_cases hl : 2147483647 < (k : Int) % 4294967296
    · have E5 := Lib.hid (show (k : Int) % 4294967296 - 4294967296 = n by rw [HN.out, nW, wrap32, u64_nat k hv.2]; omega)
      go_enter Try.func58, Try.ntmps58
      go_upto_region 8 with fail
      simp only [E1.out, E2.out, E3.out, E4.out, E5.out]
      generalize ((w.alloc (.cells #[.int .i64 0, .int .i64 0, .int .i64 0, .int .i64 0, .int .i64 0] 100)).alloc (.cells #[.int .i64 o, .int .i64 a, .int .i64 b, .int .i64 c, .int .i64 n] 100)) = wA at *
      have cI := BI.out.cell
      cases hok : okIns o a b c n with
      | false =>
        have EN := Lib.hid (rEncode_bad (w := wA) hok)
        have HV := Lib.hid (show Ending.returned (.tuple #[.agg #[.int .i64 0, .int .i64 0, .int .i64 0, .int .i64 0, .int .i64 0], .int .i64 4]) = .returned (.tuple #[if okW (k : Int) = true then .agg #[.int .i64 (opW (k : Int)), .int .i64 (aW (k : Int)), .int .i64 (bW (k : Int)), .int .i64 (cW (k : Int)), .int .i64 (nW (k : Int))] else .agg #[.int .i64 0, .int .i64 0, .int .i64 0, .int .i64 0, .int .i64 0], .int .i64 (if okW (k : Int) = true then 0 else 4)]) by
          have h : okW (k : Int) = false := by unfold okW; rw [← HO.out, ← HA.out, ← HB.out, ← HC.out, ← HN.out, hok]; rfl
          rw [h]; rfl)
        clear hok
        go_wp2_with fail
        refine (EN.out).mono ?_
        rintro e6 w6 ⟨rfl, k6⟩
        have N1 := Lib.hid (N0.out.trans k6)
        have BR1 := Lib.hid (BR.out.nw k6)
        have BI1 := Lib.hid (BI.out.nw k6)
        clear cI k6 EN
        have cI := BI1.out.cell
        have cR := BR1.out.cell
        have zR := BR1.out.frozen
        have HR := Lib.hid (show IDec w (k : Int) (.returned (.tuple #[.agg #[.int .i64 0, .int .i64 0, .int .i64 0, .int .i64 0, .int .i64 0], .int .i64 4])) (lays w6 w.heap.size 0 [.int .i64 0, .int .i64 0, .int .i64 0, .int .i64 0, .int .i64 0]) from ⟨HV.out, Kp.sets N1.out (b := w.heap.size) (fun h => by omega) 0 [.int .i64 0, .int .i64 0, .int .i64 0, .int .i64 0, .int .i64 0]⟩)
        go_wp2_with fail
        exact ⟨rfl, _, rdec_res rfl rfl (Blk.sets BR1.out 0 [.int .i64 0, .int .i64 0, .int .i64 0, .int .i64 0, .int .i64 0]), HR.out⟩
      | true =>
        have EN := Lib.hid (rEncode_ok (w := wA) hok)
        obtain ⟨x, hx⟩ : ∃ x, x = encIns o a b c n := ⟨_, rfl⟩
        rw [← hx] at EN
        by_cases hxv : x = (k : Int)
        · have HV := Lib.hid (show Ending.returned (.tuple #[.agg #[.int .i64 o, .int .i64 a, .int .i64 b, .int .i64 c, .int .i64 n], .int .i64 0]) = .returned (.tuple #[if okW (k : Int) = true then .agg #[.int .i64 (opW (k : Int)), .int .i64 (aW (k : Int)), .int .i64 (bW (k : Int)), .int .i64 (cW (k : Int)), .int .i64 (nW (k : Int))] else .agg #[.int .i64 0, .int .i64 0, .int .i64 0, .int .i64 0, .int .i64 0], .int .i64 (if okW (k : Int) = true then 0 else 4)]) by
            have h : okW (k : Int) = true := by unfold okW; rw [← HO.out, ← HA.out, ← HB.out, ← HC.out, ← HN.out, hok, ← hx, hxv]; simp
            rw [h, if_pos rfl, if_pos rfl, ← HO.out, ← HA.out, ← HB.out, ← HC.out, ← HN.out])
          subst hxv
          clear hok hx
          go_wp2_with fail
          refine (EN.out).mono ?_
          rintro e6 w6 ⟨rfl, k6⟩
          have N1 := Lib.hid (N0.out.trans k6)
          have BR1 := Lib.hid (BR.out.nw k6)
          have BI1 := Lib.hid (BI.out.nw k6)
          clear cI k6 EN
          have cI := BI1.out.cell
          have cR := BR1.out.cell
          have zR := BR1.out.frozen
          have HR := Lib.hid (show IDec w (k : Int) (.returned (.tuple #[.agg #[.int .i64 o, .int .i64 a, .int .i64 b, .int .i64 c, .int .i64 n], .int .i64 0])) (lays w6 w.heap.size 0 [.int .i64 o, .int .i64 a, .int .i64 b, .int .i64 c, .int .i64 n]) from ⟨HV.out, Kp.sets N1.out (b := w.heap.size) (fun h => by omega) 0 [.int .i64 o, .int .i64 a, .int .i64 b, .int .i64 c, .int .i64 n]⟩)
          go_wp2_with fail
          exact ⟨rfl, _, rdec_res rfl rfl (Blk.sets BR1.out 0 [.int .i64 o, .int .i64 a, .int .i64 b, .int .i64 c, .int .i64 n]), HR.out⟩
        · have HV := Lib.hid (show Ending.returned (.tuple #[.agg #[.int .i64 0, .int .i64 0, .int .i64 0, .int .i64 0, .int .i64 0], .int .i64 4]) = .returned (.tuple #[if okW (k : Int) = true then .agg #[.int .i64 (opW (k : Int)), .int .i64 (aW (k : Int)), .int .i64 (bW (k : Int)), .int .i64 (cW (k : Int)), .int .i64 (nW (k : Int))] else .agg #[.int .i64 0, .int .i64 0, .int .i64 0, .int .i64 0, .int .i64 0], .int .i64 (if okW (k : Int) = true then 0 else 4)]) by
            have h : okW (k : Int) = false := by unfold okW; rw [← HO.out, ← HA.out, ← HB.out, ← HC.out, ← HN.out, hok, ← hx]; simp [hxv]
            rw [h]; rfl)
          obtain ⟨ne1, ne2, ne3, ne4⟩ := int_ne hxv
          clear hok hx hxv
          go_wp2_with fail
          refine (EN.out).mono ?_
          rintro e6 w6 ⟨rfl, k6⟩
          have N1 := Lib.hid (N0.out.trans k6)
          have BR1 := Lib.hid (BR.out.nw k6)
          have BI1 := Lib.hid (BI.out.nw k6)
          clear cI k6 EN
          have cI := BI1.out.cell
          have cR := BR1.out.cell
          have zR := BR1.out.frozen
          have HR := Lib.hid (show IDec w (k : Int) (.returned (.tuple #[.agg #[.int .i64 0, .int .i64 0, .int .i64 0, .int .i64 0, .int .i64 0], .int .i64 4])) (lays w6 w.heap.size 0 [.int .i64 0, .int .i64 0, .int .i64 0, .int .i64 0, .int .i64 0]) from ⟨HV.out, Kp.sets N1.out (b := w.heap.size) (fun h => by omega) 0 [.int .i64 0, .int .i64 0, .int .i64 0, .int .i64 0, .int .i64 0]⟩)
          go_wp2_with fail
          exact ⟨rfl, _, rdec_res rfl rfl (Blk.sets BR1.out 0 [.int .i64 0, .int .i64 0, .int .i64 0, .int .i64 0, .int .i64 0]), HR.out⟩
    · have E5 := Lib.hid (show (k : Int) % 4294967296 = n by rw [HN.out, nW, wrap32, u64_nat k hv.2]; omega)
      go_enter Try.func58, Try.ntmps58
      go_upto_region 8 with fail
      simp only [E1.out, E2.out, E3.out, E4.out, E5.out]
      generalize ((w.alloc (.cells #[.int .i64 0, .int .i64 0, .int .i64 0, .int .i64 0, .int .i64 0] 100)).alloc (.cells #[.int .i64 o, .int .i64 a, .int .i64 b, .int .i64 c, .int .i64 n] 100)) = wA at *
      have cI := BI.out.cell
      cases hok : okIns o a b c n with
      | false =>
        have EN := Lib.hid (rEncode_bad (w := wA) hok)
        have HV := Lib.hid (show Ending.returned (.tuple #[.agg #[.int .i64 0, .int .i64 0, .int .i64 0, .int .i64 0, .int .i64 0], .int .i64 4]) = .returned (.tuple #[if okW (k : Int) = true then .agg #[.int .i64 (opW (k : Int)), .int .i64 (aW (k : Int)), .int .i64 (bW (k : Int)), .int .i64 (cW (k : Int)), .int .i64 (nW (k : Int))] else .agg #[.int .i64 0, .int .i64 0, .int .i64 0, .int .i64 0, .int .i64 0], .int .i64 (if okW (k : Int) = true then 0 else 4)]) by
          have h : okW (k : Int) = false := by unfold okW; rw [← HO.out, ← HA.out, ← HB.out, ← HC.out, ← HN.out, hok]; rfl
          rw [h]; rfl)
        clear hok
        go_wp2_with fail
        refine (EN.out).mono ?_
        rintro e6 w6 ⟨rfl, k6⟩
        have N1 := Lib.hid (N0.out.trans k6)
        have BR1 := Lib.hid (BR.out.nw k6)
        have BI1 := Lib.hid (BI.out.nw k6)
        clear cI k6 EN
        have cI := BI1.out.cell
        have cR := BR1.out.cell
        have zR := BR1.out.frozen
        have HR := Lib.hid (show IDec w (k : Int) (.returned (.tuple #[.agg #[.int .i64 0, .int .i64 0, .int .i64 0, .int .i64 0, .int .i64 0], .int .i64 4])) (lays w6 w.heap.size 0 [.int .i64 0, .int .i64 0, .int .i64 0, .int .i64 0, .int .i64 0]) from ⟨HV.out, Kp.sets N1.out (b := w.heap.size) (fun h => by omega) 0 [.int .i64 0, .int .i64 0, .int .i64 0, .int .i64 0, .int .i64 0]⟩)
        go_wp2_with fail
        exact ⟨rfl, _, rdec_res rfl rfl (Blk.sets BR1.out 0 [.int .i64 0, .int .i64 0, .int .i64 0, .int .i64 0, .int .i64 0]), HR.out⟩
      | true =>
        have EN := Lib.hid (rEncode_ok (w := wA) hok)
        obtain ⟨x, hx⟩ : ∃ x, x = encIns o a b c n := ⟨_, rfl⟩
        rw [← hx] at EN
        by_cases hxv : x = (k : Int)
        · have HV := Lib.hid (show Ending.returned (.tuple #[.agg #[.int .i64 o, .int .i64 a, .int .i64 b, .int .i64 c, .int .i64 n], .int .i64 0]) = .returned (.tuple #[if okW (k : Int) = true then .agg #[.int .i64 (opW (k : Int)), .int .i64 (aW (k : Int)), .int .i64 (bW (k : Int)), .int .i64 (cW (k : Int)), .int .i64 (nW (k : Int))] else .agg #[.int .i64 0, .int .i64 0, .int .i64 0, .int .i64 0, .int .i64 0], .int .i64 (if okW (k : Int) = true then 0 else 4)]) by
            have h : okW (k : Int) = true := by unfold okW; rw [← HO.out, ← HA.out, ← HB.out, ← HC.out, ← HN.out, hok, ← hx, hxv]; simp
            rw [h, if_pos rfl, if_pos rfl, ← HO.out, ← HA.out, ← HB.out, ← HC.out, ← HN.out])
          subst hxv
          clear hok hx
          go_wp2_with fail
          refine (EN.out).mono ?_
          rintro e6 w6 ⟨rfl, k6⟩
          have N1 := Lib.hid (N0.out.trans k6)
          have BR1 := Lib.hid (BR.out.nw k6)
          have BI1 := Lib.hid (BI.out.nw k6)
          clear cI k6 EN
          have cI := BI1.out.cell
          have cR := BR1.out.cell
          have zR := BR1.out.frozen
          have HR := Lib.hid (show IDec w (k : Int) (.returned (.tuple #[.agg #[.int .i64 o, .int .i64 a, .int .i64 b, .int .i64 c, .int .i64 n], .int .i64 0])) (lays w6 w.heap.size 0 [.int .i64 o, .int .i64 a, .int .i64 b, .int .i64 c, .int .i64 n]) from ⟨HV.out, Kp.sets N1.out (b := w.heap.size) (fun h => by omega) 0 [.int .i64 o, .int .i64 a, .int .i64 b, .int .i64 c, .int .i64 n]⟩)
          go_wp2_with fail
          exact ⟨rfl, _, rdec_res rfl rfl (Blk.sets BR1.out 0 [.int .i64 o, .int .i64 a, .int .i64 b, .int .i64 c, .int .i64 n]), HR.out⟩
        · have HV := Lib.hid (show Ending.returned (.tuple #[.agg #[.int .i64 0, .int .i64 0, .int .i64 0, .int .i64 0, .int .i64 0], .int .i64 4]) = .returned (.tuple #[if okW (k : Int) = true then .agg #[.int .i64 (opW (k : Int)), .int .i64 (aW (k : Int)), .int .i64 (bW (k : Int)), .int .i64 (cW (k : Int)), .int .i64 (nW (k : Int))] else .agg #[.int .i64 0, .int .i64 0, .int .i64 0, .int .i64 0, .int .i64 0], .int .i64 (if okW (k : Int) = true then 0 else 4)]) by
            have h : okW (k : Int) = false := by unfold okW; rw [← HO.out, ← HA.out, ← HB.out, ← HC.out, ← HN.out, hok, ← hx]; simp [hxv]
            rw [h]; rfl)
          obtain ⟨ne1, ne2, ne3, ne4⟩ := int_ne hxv
          clear hok hx hxv
          go_wp2_with fail
          refine (EN.out).mono ?_
          rintro e6 w6 ⟨rfl, k6⟩
          have N1 := Lib.hid (N0.out.trans k6)
          have BR1 := Lib.hid (BR.out.nw k6)
          have BI1 := Lib.hid (BI.out.nw k6)
          clear cI k6 EN
          have cI := BI1.out.cell
          have cR := BR1.out.cell
          have zR := BR1.out.frozen
          have HR := Lib.hid (show IDec w (k : Int) (.returned (.tuple #[.agg #[.int .i64 0, .int .i64 0, .int .i64 0, .int .i64 0, .int .i64 0], .int .i64 4])) (lays w6 w.heap.size 0 [.int .i64 0, .int .i64 0, .int .i64 0, .int .i64 0, .int .i64 0]) from ⟨HV.out, Kp.sets N1.out (b := w.heap.size) (fun h => by omega) 0 [.int .i64 0, .int .i64 0, .int .i64 0, .int .i64 0, .int .i64 0]⟩)
          go_wp2_with fail
          exact ⟨rfl, _, rdec_res rfl rfl (Blk.sets BR1.out 0 [.int .i64 0, .int .i64 0, .int .i64 0, .int .i64 0, .int .i64 0]), HR.out⟩
end Go.Proofs.Ytfdjlicegfgodaa
