/- The document's writer over statements, functions, declarations, imports. -/
import Derived.Test.YtpopgnengimieaaREnc
namespace Go.Proofs.Ytpopgnengimieaa
open Go.RowKit
set_option linter.unusedSimpArgs false
set_option linter.unusedVariables false

set_option maxRecDepth 100000 in
set_option maxHeartbeats 1000000 in
theorem rstats_zero {B : Nat} {W : World} : ∀ (l : List St) (v : Value) (w : World) (p : Nat) (ob : Option Nat) (x : Option (Option (List UInt8))) (a : Int) (L : Nat), SlB B W 5 (StAt B W 0) l v → RwIn B W w p ob x a L → 0 ≤ a → a ≤ 101 → L + 8 + 1000000 * cntSts l ≤ 1000000000000 →
    Calls Try.prog 76 #[.pointer (some ⟨p, 0, none⟩), v] w (ROut B W w p ob (rc (fitSts l a) x (encL encSt l)) a (L + 8 + 1000000 * cntSts l)) := by
  intro l v w p ob x a L hl h h0 h1 hL
  obtain ⟨xa, cap, rfl, hlen, hel⟩ := hl
  have G := Lib.hid h
  have HE := Lib.hid hel
  have HL := Lib.hid hL
  have HA := Lib.hid (And.intro h0 h1)
  clear h hel hL h0 h1
  obtain ⟨n, hn⟩ : ∃ n, n = l.length := ⟨_, rfl⟩
  rw [← hn] at hlen ⊢
  have HN := Lib.hid hn
  clear hn
  go_enter Try.func76, Try.ntmps76
  go_wp2_with fail
  refine (rnum_in G.out _).mono ?_
  rintro e1 w1 ⟨rfl, ob1, g1, k1, o1⟩
  have GI := Lib.hid (show RwIn B W w1 p ob1 (rc (fitSts (l.take 0) a) (rput x (le8 n)) ((l.take 0).flatMap encSt)) a (L + 8 + 1000000 * cntSts (l.take 0)) by
    obtain ⟨⟨bs, deep, hr, hm⟩, hb⟩ := id g1
    have e := rc_nil hm
    simp only [List.take_zero, fitSts, cntSts, List.flatMap_nil, e]
    exact g1)
  have K1 := Lib.hid k1
  have O1 := Lib.hid o1
  clear g1 k1 o1
  go_wp2_with fail
  go_loopw [4] (fun i wr => ∃ k : Nat, k ≤ n ∧ i = .int .i64 k ∧ ∃ obk, RwIn B W wr p obk (rc (fitSts (l.take k) a) (rput x (le8 n)) ((l.take k).flatMap encSt)) a (L + 8 + 1000000 * cntSts (l.take k)) ∧ Kp (fun b => b = p ∨ some b = ob) w wr ∧ ∀ k, obk = some k → ob = some k ∨ w.heap.size ≤ k) (fun i _ => n - (intOf i).toNat)
  case atStart => exact ⟨0, Nat.zero_le _, rfl, ob1, GI.out, K1.out, O1.out⟩
  case round =>
    obtain ⟨k, hk, rfl, obk, g, kk, ok⟩ := hrel
    have Gk := Lib.hid g
    have Kk := Lib.hid kk
    have Ok := Lib.hid ok
    clear g kk ok
    by_cases hlt : k < n
    · have hkl : k < l.length := by rw [← HN.out]; exact hlt
      obtain ⟨b, o, rfl, hb, he⟩ := HE.out (by intro e; rw [e] at hkl; simp at hkl)
      obtain ⟨cs, hcl, hcc, hce⟩ := he k hkl
      exact hce.elim
    · have HX := Lib.hid (show ROut B W w p ob (rc (fitSts l a) x (encL encSt l)) a (L + 8 + 1000000 * cntSts l) (.returned (.tuple #[])) wr by
        refine ⟨rfl, obk, ?_, Kk.out, Ok.out⟩
        have g := Gk.out
        have hkn : l.length ≤ k := by rw [← HN.out]; omega
        rw [List.take_of_length_le hkn, rput_rc, rc_rc, Bool.true_and, HN.out] at g
        exact g)
      go_wp2_with fail
      go_returns
      exact HX.out

set_option maxRecDepth 100000 in
set_option maxHeartbeats 1000000 in
theorem rstats_succ {B : Nat} {W : World} {d : Nat} (ih : ∀ (l : List St) (v : Value) (w : World) (p : Nat) (ob : Option Nat) (x : Option (Option (List UInt8))) (a : Int) (L : Nat), SlB B W 5 (StAt B W d) l v → RwIn B W w p ob x a L → 0 ≤ a → a ≤ 101 → L + 8 + 1000000 * cntSts l ≤ 1000000000000 →
    Calls Try.prog 76 #[.pointer (some ⟨p, 0, none⟩), v] w (ROut B W w p ob (rc (fitSts l a) x (encL encSt l)) a (L + 8 + 1000000 * cntSts l))) : ∀ (l : List St) (v : Value) (w : World) (p : Nat) (ob : Option Nat) (x : Option (Option (List UInt8))) (a : Int) (L : Nat), SlB B W 5 (StAt B W (d + 1)) l v → RwIn B W w p ob x a L → 0 ≤ a → a ≤ 101 → L + 8 + 1000000 * cntSts l ≤ 1000000000000 →
    Calls Try.prog 76 #[.pointer (some ⟨p, 0, none⟩), v] w (ROut B W w p ob (rc (fitSts l a) x (encL encSt l)) a (L + 8 + 1000000 * cntSts l)) := by
  have IH := Lib.hid ih
  clear ih
  intro l v w p ob x a L hl h h0 h1 hL
  obtain ⟨xa, cap, rfl, hlen, hel⟩ := hl
  have G := Lib.hid h
  have HE := Lib.hid hel
  have HL := Lib.hid hL
  have HA := Lib.hid (And.intro h0 h1)
  clear h hel hL h0 h1
  obtain ⟨n, hn⟩ : ∃ n, n = l.length := ⟨_, rfl⟩
  rw [← hn] at hlen ⊢
  have HN := Lib.hid hn
  clear hn
  go_enter Try.func76, Try.ntmps76
  go_wp2_with fail
  refine (rnum_in G.out _).mono ?_
  rintro e1 w1 ⟨rfl, ob1, g1, k1, o1⟩
  have GI := Lib.hid (show RwIn B W w1 p ob1 (rc (fitSts (l.take 0) a) (rput x (le8 n)) ((l.take 0).flatMap encSt)) a (L + 8 + 1000000 * cntSts (l.take 0)) by
    obtain ⟨⟨bs, deep, hr, hm⟩, hb⟩ := id g1
    have e := rc_nil hm
    simp only [List.take_zero, fitSts, cntSts, List.flatMap_nil, e]
    exact g1)
  have K1 := Lib.hid k1
  have O1 := Lib.hid o1
  clear g1 k1 o1
  go_wp2_with fail
  go_loopw [4] (fun i wr => ∃ k : Nat, k ≤ n ∧ i = .int .i64 k ∧ ∃ obk, RwIn B W wr p obk (rc (fitSts (l.take k) a) (rput x (le8 n)) ((l.take k).flatMap encSt)) a (L + 8 + 1000000 * cntSts (l.take k)) ∧ Kp (fun b => b = p ∨ some b = ob) w wr ∧ ∀ k, obk = some k → ob = some k ∨ w.heap.size ≤ k) (fun i _ => n - (intOf i).toNat)
  case atStart => exact ⟨0, Nat.zero_le _, rfl, ob1, GI.out, K1.out, O1.out⟩
  case round =>
    obtain ⟨k, hk, rfl, obk, g, kk, ok⟩ := hrel
    have Gk := Lib.hid g
    have Kk := Lib.hid kk
    have Ok := Lib.hid ok
    clear g kk ok
    by_cases hlt : k < n
    · have hkl : k < l.length := by rw [← HN.out]; exact hlt
      obtain ⟨b, o, rfl, hb, he⟩ := HE.out (by intro e; rw [e] at hkl; simp at hkl)
      obtain ⟨cs, hcl, hcc, hce⟩ := he k hkl
      have HF := Lib.hid (take_flat encSt l k hkl)
      have HF2 := Lib.hid (fitSts_take hkl a)
      have HF3 := Lib.hid (cntSts_take hkl)
      have HF4 := Lib.hid (cntSts_le (l := l) (k + 1))
      obtain ⟨t, ht⟩ : ∃ t, t = l[k]'hkl := ⟨_, rfl⟩
      rw [← ht] at hce HF HF2 HF3
      clear ht he
      obtain ⟨op, nn, es, bs, ls⟩ := t
      obtain ⟨ve, vb, vl, rfl, _, _, hve, hvb, hvl⟩ := hce
      obtain ⟨x1, m1, c1, rfl⟩ := hve.slice
      obtain ⟨x2, m2, c2, rfl⟩ := hvb.slice
      obtain ⟨x3, m3, c3, rfl⟩ := hvl.slice
      have HVE := Lib.hid hve
      have HVB := Lib.hid hvb
      have HVL := Lib.hid hvl
      have D0 := Lib.hid (hcc 0 (by simp))
      have D1 := Lib.hid (hcc 1 (by simp))
      have D2 := Lib.hid (hcc 2 (by simp))
      have D3 := Lib.hid (hcc 3 (by simp))
      have D4 := Lib.hid (hcc 4 (by simp))
      have HB := Lib.hid hb
      clear hve hvb hvl hcc hb
      have e3 := HF3.out
      simp only [cntSt] at e3
      have HL2 := Lib.hid (show L + 8 + 1000000 * cntSts (l.take k) + 1000000 * (1 + cntExs es + cntSts bs + cntSts ls) ≤ 1000000000000 by
        have h1 := HL.out; have h3 := HF4.out; omega)
      have HS3 := Lib.hid e3
      clear e3
      by_cases hle : a ≤ 100
      · have hA0 := HA.out.1
        have HFT := Lib.hid (show fitSt (.mk op nn es bs ls) a = (fitExs es (a + 1) && (fitSts bs (a + 1) && fitSts ls (a + 1))) by simp [fitSt, hle])
        go_wp2_with fail
        refine (rin_ok Gk.out hA0 hle).mono ?_
        rintro e0 w0 ⟨rfl, g0, k0⟩
        have C0 := Lib.hid (chain Kk.out Ok.out k0 (fun k hk => .inl hk))
        have G0 := Lib.hid g0
        have f0 := (G0.out.bel.cell (p := ⟨b, o + k * 5 + 0, none⟩) HB.out).trans D0.out
        simp only [List.getElem?_cons_zero, List.getElem?_cons_succ, Nat.add_zero] at f0
        clear g0 k0
        go_wp2_with fail
        refine (rnum_in G0.out _).mono ?_
        rintro e1 w1 ⟨rfl, ob1, g1, k1, o1⟩
        have C1 := Lib.hid (chain C0.out.1 C0.out.2 k1 o1)
        have G1 := Lib.hid g1
        have f1 := (G1.out.bel.cell (p := ⟨b, o + k * 5 + 1, none⟩) HB.out).trans D1.out
        simp only [List.getElem?_cons_zero, List.getElem?_cons_succ, Nat.add_zero] at f1
        clear g1 k1 o1 f0
        go_wp2_with fail
        refine (rnum_in G1.out _).mono ?_
        rintro e2 w2 ⟨rfl, ob2, g2, k2, o2⟩
        have C2 := Lib.hid (chain C1.out.1 C1.out.2 k2 o2)
        have G2 := Lib.hid g2
        have f2 := (G2.out.bel.cell (p := ⟨b, o + k * 5 + 2, none⟩) HB.out).trans D2.out
        simp only [List.getElem?_cons_zero, List.getElem?_cons_succ, Nat.add_zero] at f2
        clear g2 k2 o2 f1
        go_wp2_with fail
        refine (rexprs (rexpr d) _ _ _ _ _ _ _ _ HVE.out G2.out (by omega) (by omega) (by have h1 := HL2.out; omega)).mono ?_
        rintro e3 w3 ⟨rfl, ob3, g3, k3, o3⟩
        have C3 := Lib.hid (chain C2.out.1 C2.out.2 k3 o3)
        have G3 := Lib.hid g3
        have f3 := (G3.out.bel.cell (p := ⟨b, o + k * 5 + 3, none⟩) HB.out).trans D3.out
        simp only [List.getElem?_cons_zero, List.getElem?_cons_succ, Nat.add_zero] at f3
        clear g3 k3 o3 f2
        go_wp2_with fail
        refine (IH.out _ _ _ _ _ _ _ _ HVB.out G3.out (by omega) (by omega) (by have h1 := HL2.out; omega)).mono ?_
        rintro e4 w4 ⟨rfl, ob4, g4, k4, o4⟩
        have C4 := Lib.hid (chain C3.out.1 C3.out.2 k4 o4)
        have G4 := Lib.hid g4
        have f4 := (G4.out.bel.cell (p := ⟨b, o + k * 5 + 4, none⟩) HB.out).trans D4.out
        simp only [List.getElem?_cons_zero, List.getElem?_cons_succ, Nat.add_zero] at f4
        clear g4 k4 o4 f3
        go_wp2_with fail
        refine (IH.out _ _ _ _ _ _ _ _ HVL.out G4.out (by omega) (by omega) (by have h1 := HL2.out; omega)).mono ?_
        rintro e5 w5 ⟨rfl, ob5, g5, k5, o5⟩
        have C5 := Lib.hid (chain C4.out.1 C4.out.2 k5 o5)
        have G5 := Lib.hid g5
        clear g5 k5 o5 f4
        obtain ⟨b0, b1, b2⟩ := ROut.back G5.out C5.out.1 C5.out.2
        obtain ⟨_, ob6, g6, k6, o6⟩ := b2
        have G6 := Lib.hid (show RwIn B W (w5.setCell ⟨p, 2, none⟩ (.int .i64 a)) p ob6 (rc (fitSts (l.take (k + 1)) a) (rput x (le8 n)) ((l.take (k + 1)).flatMap encSt)) a (L + 8 + 1000000 * cntSts (l.take (k + 1))) by
          rw [HF.out, HF2.out, HS3.out, ← rc_rc, HFT.out, encSt_mk]
          simp only [rput_rc, rc_rc, Bool.true_and] at g6 ⊢
          simp only [List.append_assoc, Bool.and_assoc, Bool.true_and] at g6 ⊢
          exact g6.more (by omega))
        have K6 := Lib.hid k6
        have O6 := Lib.hid o6
        clear g6 k6 o6
        go_wp2_with fail
        go_roundw
        case rel => exact ⟨k + 1, by omega, by go_num, ob6, G6.out, K6.out, O6.out⟩
        case measure => simp [intOf]; omega
      · have hA1 := HA.out.2
        have ha : a = 101 := by omega
        have HFT := Lib.hid (show fitSt (.mk op nn es bs ls) a = false by simp [fitSt, hle])
        have hgt : 100 < a := by omega
        clear ha
        go_wp2_with fail
        refine (rin_deep Gk.out hgt (by omega)).mono ?_
        rintro e0 w0 ⟨rfl, g0, k0⟩
        have C0 := chain Kk.out Ok.out k0 (fun k hk => .inl hk)
        obtain ⟨b0, b1, b2⟩ := ROut.back g0 C0.1 C0.2
        obtain ⟨_, ob6, g6, k6, o6⟩ := b2
        have G6 := Lib.hid (show RwIn B W (w0.setCell ⟨p, 2, none⟩ (.int .i64 a)) p ob6 (rc (fitSts (l.take (k + 1)) a) (rput x (le8 n)) ((l.take (k + 1)).flatMap encSt)) a (L + 8 + 1000000 * cntSts (l.take (k + 1))) by
          rw [HF.out, HF2.out, HS3.out, ← rc_rc, HFT.out]
          exact g6.more (by omega))
        have K6 := Lib.hid k6
        have O6 := Lib.hid o6
        clear g6 k6 o6 g0 k0 C0
        go_wp2_with fail
        go_roundw
        case rel => exact ⟨k + 1, by omega, by go_num, ob6, G6.out, K6.out, O6.out⟩
        case measure => simp [intOf]; omega
    · have HX := Lib.hid (show ROut B W w p ob (rc (fitSts l a) x (encL encSt l)) a (L + 8 + 1000000 * cntSts l) (.returned (.tuple #[])) wr by
        refine ⟨rfl, obk, ?_, Kk.out, Ok.out⟩
        have g := Gk.out
        have hkn : l.length ≤ k := by rw [← HN.out]; omega
        rw [List.take_of_length_le hkn, rput_rc, rc_rc, Bool.true_and, HN.out] at g
        exact g)
      go_wp2_with fail
      go_returns
      exact HX.out

theorem rstats {B : Nat} {W : World} (d : Nat) : ∀ (l : List St) (v : Value) (w : World) (p : Nat) (ob : Option Nat) (x : Option (Option (List UInt8))) (a : Int) (L : Nat), SlB B W 5 (StAt B W d) l v → RwIn B W w p ob x a L → 0 ≤ a → a ≤ 101 → L + 8 + 1000000 * cntSts l ≤ 1000000000000 →
    Calls Try.prog 76 #[.pointer (some ⟨p, 0, none⟩), v] w (ROut B W w p ob (rc (fitSts l a) x (encL encSt l)) a (L + 8 + 1000000 * cntSts l)) := by
  induction d with
  | zero => exact rstats_zero
  | succ d ih => exact rstats_succ ih
def cntFn (f : Fn1) : Nat := 1 + cntSts f.body
set_option maxRecDepth 100000 in
set_option maxHeartbeats 1000000 in
theorem rfunc {B : Nat} {W : World} (d : Nat) (f : Fn1) (cs : List Value) (w : World) (p : Nat) (ob : Option Nat) (x : Option (Option (List UInt8))) (L : Nat) (hx : FnAt B W d f cs) (h : RwIn B W w p ob x 0 L) (hL : L + 1000000 * cntFn f ≤ 1000000000000) :
    Calls Try.prog 47 #[.pointer (some ⟨p, 0, none⟩), .agg cs.toArray] w (ROut B W w p ob (rc (fitSts f.body 0) x (encFn f)) 0 (L + 1000000 * cntFn f)) := by
  obtain ⟨vb, rfl, _, _, _, hb⟩ := hx
  obtain ⟨x1, m1, c1, rfl⟩ := hb.slice
  have Hb := Lib.hid hb
  have C0 := Lib.hid (show Kp (fun b => b = p ∨ some b = ob) w (w.alloc (.cells #[.string f.name, .bool f.weak, .int .i64 f.params, .int .i64 f.locals, .slice x1 m1 c1] 67)) ∧ ∀ k, ob = some k → ob = some k ∨ w.heap.size ≤ k from ⟨(Kp.refl _ w).alloc _, fun _ h => .inl h⟩)
  have L0 := Lib.hid (Loc.newR h [.string f.name, .bool f.weak, .int .i64 f.params, .int .i64 f.locals, .slice x1 m1 c1] 67)
  have G0 := Lib.hid (h.alloc (.cells #[.string f.name, .bool f.weak, .int .i64 f.params, .int .i64 f.locals, .slice x1 m1 c1] 67))
  simp only [cntFn] at hL
  have HL := Lib.hid hL
  clear h hL hb
  go_enter Try.func47, Try.ntmps47
  go_wp2_with fail
  refine (rtext_in G0.out _ (by have h1 := HL.out; omega)).mono ?_
  rintro e1 w1 ⟨rfl, ob1, g1, k1, o1⟩
  have C1 := Lib.hid (chain C0.out.1 C0.out.2 k1 o1)
  have L1 := Lib.hid (L0.out.next k1 o1)
  have c1 := L1.out.blk.cell
  have G1 := Lib.hid g1
  clear g1 k1 o1
  go_wp2_with fail
  refine (rbool_in G1.out _).mono ?_
  rintro e2 w2 ⟨rfl, ob2, g2, k2, o2⟩
  have C2 := Lib.hid (chain C1.out.1 C1.out.2 k2 o2)
  have L2 := Lib.hid (L1.out.next k2 o2)
  have c2 := L2.out.blk.cell
  have G2 := Lib.hid g2
  clear g2 k2 o2 c1
  go_wp2_with fail
  refine (rnum_in G2.out _).mono ?_
  rintro e3 w3 ⟨rfl, ob3, g3, k3, o3⟩
  have C3 := Lib.hid (chain C2.out.1 C2.out.2 k3 o3)
  have L3 := Lib.hid (L2.out.next k3 o3)
  have c3 := L3.out.blk.cell
  have G3 := Lib.hid g3
  clear g3 k3 o3 c2
  go_wp2_with fail
  refine (rnum_in G3.out _).mono ?_
  rintro e4 w4 ⟨rfl, ob4, g4, k4, o4⟩
  have C4 := Lib.hid (chain C3.out.1 C3.out.2 k4 o4)
  have L4 := Lib.hid (L3.out.next k4 o4)
  have c4 := L4.out.blk.cell
  have G4 := Lib.hid g4
  clear g4 k4 o4 c3
  go_wp2_with fail
  refine (rstats d _ _ _ _ _ _ _ _ Hb.out G4.out (by decide) (by decide) (by have h1 := HL.out; omega)).mono ?_
  rintro e5 w5 ⟨rfl, ob5, g5, k5, o5⟩
  have C5 := Lib.hid (chain C4.out.1 C4.out.2 k5 o5)
  have L5 := Lib.hid (L4.out.next k5 o5)
  have c5 := L5.out.blk.cell
  have G5 := Lib.hid g5
  clear g5 k5 o5 c4
  have X := Lib.hid (show ROut B W w p ob (rc (fitSts f.body 0) x (encFn f)) 0 (L + 1000000 * cntFn f) (.returned (.tuple #[])) w5 by
    have g := G5.out
    simp only [rput_rc, rc_rc, Bool.true_and] at g
    exact ⟨rfl, ob5, by rw [encFn, cntFn]; exact g.more (by omega), C5.out.1, C5.out.2⟩)
  go_wp2_with fail
  go_returns
  exact X.out
end Go.Proofs.Ytpopgnengimieaa
