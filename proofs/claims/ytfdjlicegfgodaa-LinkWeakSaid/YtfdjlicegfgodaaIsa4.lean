/- The instructions' words: isa.Decode, isa.Uses. -/
import Derived.Test.YtfdjlicegfgodaaIsa3
namespace Go.Proofs.Ytfdjlicegfgodaa
open Go.RowKit
set_option linter.unusedSimpArgs false
set_option linter.unusedVariables false

/-- what a word says -/
def opW (v : Int) : Int := IntKind.u64.wrap v / 72057594037927936
def aW (v : Int) : Int := IntKind.u64.wrap v / 4503599627370496 % 16
def bW (v : Int) : Int := IntKind.u64.wrap v / 281474976710656 % 16
def cW (v : Int) : Int := IntKind.u64.wrap v / 17592186044416 % 16
def nW (v : Int) : Int := wrap32 (IntKind.u64.wrap v)
/-- is it an instruction's word? -/
def okW (v : Int) : Bool := okIns (opW v) (aW v) (bW v) (cW v) (nW v) && decide (encIns (opW v) (aW v) (bW v) (cW v) (nW v) = v)
def IDec (w : World) (v : Int) (e : Ending) (w' : World) : Prop :=
  e = .returned (.tuple #[if okW v = true then .agg #[.int .i64 (opW v), .int .i64 (aW v), .int .i64 (bW v), .int .i64 (cW v), .int .i64 (nW v)] else .agg #[.int .i64 0, .int .i64 0, .int .i64 0, .int .i64 0, .int .i64 0], .int .i64 (if okW v = true then 0 else 4)]) ∧ Nw w w'
theorem u64_lt (n : Int) : 0 ≤ IntKind.u64.wrap n ∧ IntKind.u64.wrap n < 18446744073709551616 := by
  simp only [IntKind.wrap, IntKind.bits, IntKind.signed]
  simp
  omega
theorem and15 {x : Int} (h : 0 ≤ x ∧ x < 18446744073709551616) : bits .and .u64 x 15 = x % 16 := by
  obtain ⟨k, rfl⟩ : ∃ k : Nat, x = k := ⟨x.toNat, by omega⟩
  rw [show (15 : Int) = ((15 : Nat) : Int) from rfl, bits_and_u64_nat k 15 (by omega) (by decide)]
  have h2 : k &&& 15 = k % 16 := Nat.and_two_pow_sub_one_eq_mod k 4
  rw [h2]
  omega
theorem w64_in {x : Int} (h : -9223372036854775808 ≤ x ∧ x ≤ 9223372036854775807) : wrap64 x = x := by
  rw [show wrap64 x = IntKind.i64.wrap x by simp [wrap64, IntKind.wrap_i64]]; exact IntWalk.i64_in _ h
theorem w32_range (x : Int) : -2147483648 ≤ wrap32 x ∧ wrap32 x ≤ 2147483647 := by
  unfold wrap32; omega
theorem dec_res {tmps : Array Value} {w : World} {p : Nat} {a b c d e k : Value} (h2 : tmps[2]?.getD undef = .pointer (some ⟨p, 0, none⟩)) (h3 : tmps[3]?.getD undef = k)
    (hb : Blk w p [a, b, c, d, e] 100) : (results Try.f56 tmps).run Try.prog w = .ok (.tuple #[.agg #[a, b, c, d, e], k]) w := by
  have f0 := hb.cell 0
  have f1 := hb.cell 1
  have f2 := hb.cell 2
  have f3 := hb.cell 3
  have f4 := hb.cell 4
  simp only [List.getElem?_cons_zero, List.getElem?_cons_succ] at f0 f1 f2 f3 f4
  simp [results, Try.results56, go_sem, h2, h3, f0, f1, f2, f3, f4]

theorem isaEncode_bad {w : World} {op a b c n : Int} (hop : -9223372036854775808 ≤ op ∧ op ≤ 9223372036854775807) (h : okIns op a b c n = false) :
    Calls Try.prog 74 #[.agg #[.int .i64 op, .int .i64 a, .int .i64 b, .int .i64 c, .int .i64 n]] w fun e w' => e = .returned (.tuple #[.int .i64 0, .int .i64 4]) ∧ Nw w w' :=
  (isaEncode_any w op a b c n hop).mono fun e w' q => ⟨by rw [q.1, h]; rfl, q.2⟩
theorem isaEncode_ok {w : World} {op a b c n : Int} (hop : -9223372036854775808 ≤ op ∧ op ≤ 9223372036854775807) (h : okIns op a b c n = true) :
    Calls Try.prog 74 #[.agg #[.int .i64 op, .int .i64 a, .int .i64 b, .int .i64 c, .int .i64 n]] w fun e w' => e = .returned (.tuple #[.int .i64 (encIns op a b c n), .int .i64 0]) ∧ Nw w w' :=
  (isaEncode_any w op a b c n hop).mono fun e w' q => ⟨by rw [q.1, h]; rfl, q.2⟩
set_option maxRecDepth 100000 in
set_option maxHeartbeats 1000000 in
theorem isaDecode_any (w : World) (v : Int) (hv : -9223372036854775808 ≤ v ∧ v ≤ 9223372036854775807) :
    Calls Try.prog 56 #[.int .i64 v] w (IDec w v) := by
  obtain ⟨u, hu⟩ : ∃ u, u = IntKind.u64.wrap v := ⟨_, rfl⟩
  have hur := u64_lt v
  rw [← hu] at hur
  obtain ⟨o, ho⟩ : ∃ o, o = opW v := ⟨_, rfl⟩
  obtain ⟨a, ha⟩ : ∃ a, a = aW v := ⟨_, rfl⟩
  obtain ⟨b, hb⟩ : ∃ b, b = bW v := ⟨_, rfl⟩
  obtain ⟨c, hc⟩ : ∃ c, c = cW v := ⟨_, rfl⟩
  obtain ⟨n, hn⟩ : ∃ n, n = nW v := ⟨_, rfl⟩
  have e1 : wrap64 (u / 72057594037927936) = o := by rw [w64_in (by omega), ho, opW, ← hu]
  have e2 : wrap64 (bits .and .u64 (u / 4503599627370496) 15) = a := by rw [and15 (by omega), w64_in (by omega), ha, aW, ← hu]
  have e3 : wrap64 (bits .and .u64 (u / 281474976710656) 15) = b := by rw [and15 (by omega), w64_in (by omega), hb, bW, ← hu]
  have e4 : wrap64 (bits .and .u64 (u / 17592186044416) 15) = c := by rw [and15 (by omega), w64_in (by omega), hc, cW, ← hu]
  have e5 : wrap64 (wrap32 u) = n := by rw [w64_in (by have := w32_range u; omega), hn, nW, ← hu]
  have hor : -9223372036854775808 ≤ o ∧ o ≤ 9223372036854775807 := by
    rw [ho, opW, ← hu]; omega
  have HO := Lib.hid ho
  have HA := Lib.hid ha
  have HB := Lib.hid hb
  have HC := Lib.hid hc
  have HN := Lib.hid hn
  have E1 := Lib.hid e1
  have E2 := Lib.hid e2
  have E3 := Lib.hid e3
  have E4 := Lib.hid e4
  have E5 := Lib.hid e5
  have huu : IntKind.u64.wrap v = u := hu.symm
  clear ho ha hb hc hn e1 e2 e3 e4 e5 hu hur
  have N0 := Lib.hid (show Nw w ((w.alloc (.cells #[.int .i64 0, .int .i64 0, .int .i64 0, .int .i64 0, .int .i64 0] 100)).alloc (.cells #[.int .i64 o, .int .i64 a, .int .i64 b, .int .i64 c, .int .i64 n] 100)) from ((Nw.refl w).alloc _).alloc _)
  have BR := Lib.hid ((Blk.new w [.int .i64 0, .int .i64 0, .int .i64 0, .int .i64 0, .int .i64 0] 100).alloc (.cells #[.int .i64 o, .int .i64 a, .int .i64 b, .int .i64 c, .int .i64 n] 100))
  have BI := Lib.hid (show Blk ((w.alloc (.cells #[.int .i64 0, .int .i64 0, .int .i64 0, .int .i64 0, .int .i64 0] 100)).alloc (.cells #[.int .i64 o, .int .i64 a, .int .i64 b, .int .i64 c, .int .i64 n] 100)) (w.heap.size + 1) [.int .i64 o, .int .i64 a, .int .i64 b, .int .i64 c, .int .i64 n] 100 from by
    have := Blk.new (w.alloc (.cells #[.int .i64 0, .int .i64 0, .int .i64 0, .int .i64 0, .int .i64 0] 100)) [.int .i64 o, .int .i64 a, .int .i64 b, .int .i64 c, .int .i64 n] 100
    rw [size_alloc] at this; exact this)
  go_enter Try.func56, Try.ntmps56
  go_upto_region 3 with fail
  simp only [E1.out, E2.out, E3.out, E4.out, E5.out]
  generalize ((w.alloc (.cells #[.int .i64 0, .int .i64 0, .int .i64 0, .int .i64 0, .int .i64 0] 100)).alloc (.cells #[.int .i64 o, .int .i64 a, .int .i64 b, .int .i64 c, .int .i64 n] 100)) = wA at *
  have cI := BI.out.cell
  cases hok : okIns o a b c n with
  | false =>
    have EN := Lib.hid (isaEncode_bad (w := wA) hor hok)
    have HV := Lib.hid (show Ending.returned (.tuple #[.agg #[.int .i64 0, .int .i64 0, .int .i64 0, .int .i64 0, .int .i64 0], .int .i64 4]) = .returned (.tuple #[if okW v = true then .agg #[.int .i64 (opW v), .int .i64 (aW v), .int .i64 (bW v), .int .i64 (cW v), .int .i64 (nW v)] else .agg #[.int .i64 0, .int .i64 0, .int .i64 0, .int .i64 0, .int .i64 0], .int .i64 (if okW v = true then 0 else 4)]) by
      have h : okW v = false := by unfold okW; rw [← HO.out, ← HA.out, ← HB.out, ← HC.out, ← HN.out, hok]; rfl
      rw [h]; rfl)
    clear hok
    clear huu
    go_wp2_with fail
    refine (EN.out).mono ?_
    rintro e6 w6 ⟨rfl, k6⟩
    have N1 := Lib.hid (N0.out.trans k6)
    have BR1 := Lib.hid (BR.out.nw k6)
    have BI1 := Lib.hid (BI.out.nw k6)
    clear cI k6 EN
    have cI := BI1.out.cell
    have cR := BR1.out.cell
    have zR := BR1.out.frozen
    have HR := Lib.hid (show IDec w v (.returned (.tuple #[.agg #[.int .i64 0, .int .i64 0, .int .i64 0, .int .i64 0, .int .i64 0], .int .i64 4])) (lays w6 w.heap.size 0 [.int .i64 0, .int .i64 0, .int .i64 0, .int .i64 0, .int .i64 0]) from ⟨HV.out, Kp.sets N1.out (b := w.heap.size) (fun h => by omega) 0 [.int .i64 0, .int .i64 0, .int .i64 0, .int .i64 0, .int .i64 0]⟩)
    go_wp2_with fail
    exact ⟨rfl, _, dec_res rfl rfl (Blk.sets BR1.out 0 [.int .i64 0, .int .i64 0, .int .i64 0, .int .i64 0, .int .i64 0]), HR.out⟩
  | true =>
    have EN := Lib.hid (isaEncode_ok (w := wA) hor hok)
    obtain ⟨x, hx⟩ : ∃ x, x = encIns o a b c n := ⟨_, rfl⟩
    rw [← hx] at EN
    by_cases hxv : x = v
    · have HV := Lib.hid (show Ending.returned (.tuple #[.agg #[.int .i64 o, .int .i64 a, .int .i64 b, .int .i64 c, .int .i64 n], .int .i64 0]) = .returned (.tuple #[if okW v = true then .agg #[.int .i64 (opW v), .int .i64 (aW v), .int .i64 (bW v), .int .i64 (cW v), .int .i64 (nW v)] else .agg #[.int .i64 0, .int .i64 0, .int .i64 0, .int .i64 0, .int .i64 0], .int .i64 (if okW v = true then 0 else 4)]) by
        have h : okW v = true := by unfold okW; rw [← HO.out, ← HA.out, ← HB.out, ← HC.out, ← HN.out, hok, ← hx, hxv]; simp
        rw [h, if_pos rfl, if_pos rfl, ← HO.out, ← HA.out, ← HB.out, ← HC.out, ← HN.out])
      subst hxv
      clear hok hx
      clear huu
      go_wp2_with fail
      refine (EN.out).mono ?_
      rintro e6 w6 ⟨rfl, k6⟩
      have N1 := Lib.hid (N0.out.trans k6)
      have BR1 := Lib.hid (BR.out.nw k6)
      have BI1 := Lib.hid (BI.out.nw k6)
      clear cI k6 EN
      have cI := BI1.out.cell
      have cR := BR1.out.cell
      have zR := BR1.out.frozen
      have HR := Lib.hid (show IDec w x (.returned (.tuple #[.agg #[.int .i64 o, .int .i64 a, .int .i64 b, .int .i64 c, .int .i64 n], .int .i64 0])) (lays w6 w.heap.size 0 [.int .i64 o, .int .i64 a, .int .i64 b, .int .i64 c, .int .i64 n]) from ⟨HV.out, Kp.sets N1.out (b := w.heap.size) (fun h => by omega) 0 [.int .i64 o, .int .i64 a, .int .i64 b, .int .i64 c, .int .i64 n]⟩)
      go_wp2_with fail
      exact ⟨rfl, _, dec_res rfl rfl (Blk.sets BR1.out 0 [.int .i64 o, .int .i64 a, .int .i64 b, .int .i64 c, .int .i64 n]), HR.out⟩
    · have HV := Lib.hid (show Ending.returned (.tuple #[.agg #[.int .i64 0, .int .i64 0, .int .i64 0, .int .i64 0, .int .i64 0], .int .i64 4]) = .returned (.tuple #[if okW v = true then .agg #[.int .i64 (opW v), .int .i64 (aW v), .int .i64 (bW v), .int .i64 (cW v), .int .i64 (nW v)] else .agg #[.int .i64 0, .int .i64 0, .int .i64 0, .int .i64 0, .int .i64 0], .int .i64 (if okW v = true then 0 else 4)]) by
        have h : okW v = false := by unfold okW; rw [← HO.out, ← HA.out, ← HB.out, ← HC.out, ← HN.out, hok, ← hx]; simp [hxv]
        rw [h]; rfl)
      obtain ⟨ne1, ne2, ne3, ne4⟩ := int_ne hxv
      clear hok hx hxv
      clear huu
      go_wp2_with fail
      refine (EN.out).mono ?_
      rintro e6 w6 ⟨rfl, k6⟩
      have N1 := Lib.hid (N0.out.trans k6)
      have BR1 := Lib.hid (BR.out.nw k6)
      have BI1 := Lib.hid (BI.out.nw k6)
      clear cI k6 EN
      have cI := BI1.out.cell
      have cR := BR1.out.cell
      have zR := BR1.out.frozen
      have HR := Lib.hid (show IDec w v (.returned (.tuple #[.agg #[.int .i64 0, .int .i64 0, .int .i64 0, .int .i64 0, .int .i64 0], .int .i64 4])) (lays w6 w.heap.size 0 [.int .i64 0, .int .i64 0, .int .i64 0, .int .i64 0, .int .i64 0]) from ⟨HV.out, Kp.sets N1.out (b := w.heap.size) (fun h => by omega) 0 [.int .i64 0, .int .i64 0, .int .i64 0, .int .i64 0, .int .i64 0]⟩)
      go_wp2_with fail
      exact ⟨rfl, _, dec_res rfl rfl (Blk.sets BR1.out 0 [.int .i64 0, .int .i64 0, .int .i64 0, .int .i64 0, .int .i64 0]), HR.out⟩

set_option maxRecDepth 100000 in
set_option maxHeartbeats 2000000 in
theorem isaUses_any (w : World) (op : Int) (hop : -9223372036854775808 ≤ op ∧ op ≤ 9223372036854775807) :
    Calls Try.prog 57 #[.int .i64 op] w fun e w' => e = .returned (.tuple #[.int .i64 (regsOf op), .bool (immOf op), .bool (isOp op)]) ∧ Nw w w' := by
  have OFC := Lib.hid (of_any w op hop)
  go_enter Try.func57, Try.ntmps57
  go_wp2_with fail
  refine (OFC.out).mono ?_
  rintro e1 w1 ⟨nm, rfl, k1⟩
  have BS := Lib.hid (Blk.new w1 [.string nm, .int .i64 (regsOf op), .bool (immOf op)] 127)
  have NS := Lib.hid (k1.alloc (.cells #[.string nm, .int .i64 (regsOf op), .bool (immOf op)] 127))
  clear k1 OFC
  go_upto_region 2 with fail
  generalize w1.alloc (.cells #[.string nm, .int .i64 (regsOf op), .bool (immOf op)] 127) = wS at *
  have f1 := BS.out.cell 1
  have f2 := BS.out.cell 2
  simp only [List.getElem?_cons_zero, List.getElem?_cons_succ] at f1 f2
  go_quiet (fail)
  go_wp2_with fail
  go_returns
  exact ⟨rfl, NS.out.drewN _⟩
end Go.Proofs.Ytfdjlicegfgodaa
