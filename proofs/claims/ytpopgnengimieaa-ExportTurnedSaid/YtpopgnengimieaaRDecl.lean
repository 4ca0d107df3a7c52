/- The document's writer over declarations and imports. -/
import Derived.Test.YtpopgnengimieaaRStat
namespace Go.Proofs.Ytpopgnengimieaa
open Go.RowKit
set_option linter.unusedSimpArgs false
set_option linter.unusedVariables false

def fitFds (l : List Fd) : Bool := !l.any (fun f => !fitTy f.type 0)
def cntFds : List Fd → Nat
  | [] => 0
  | f :: r => 1 + cntTy f.type + cntFds r
def cntDe (x : De) : Nat := 1 + cntTy x.type + cntFds x.fields
theorem cntFds_append : ∀ l m : List Fd, cntFds (l ++ m) = cntFds l + cntFds m
  | [], m => by simp [cntFds]
  | t :: r, m => by simp [cntFds, cntFds_append r m, Nat.add_assoc]
theorem fitFds_take {l : List Fd} {k : Nat} (h : k < l.length) : fitFds (l.take (k + 1)) = (fitFds (l.take k) && fitTy l[k].type 0) := by
  rw [List.take_succ_eq_append_getElem h, fitFds, fitFds, List.any_append]; simp
theorem cntFds_take {l : List Fd} {k : Nat} (h : k < l.length) : cntFds (l.take (k + 1)) = cntFds (l.take k) + (1 + cntTy l[k].type) := by
  rw [List.take_succ_eq_append_getElem h, cntFds_append]; simp [cntFds]
theorem cntFds_le {l : List Fd} (k : Nat) : cntFds (l.take k) ≤ cntFds l := by
  have h := cntFds_append (l.take k) (l.drop k)
  rw [List.take_append_drop] at h; omega
theorem fitDe_eq (x : De) : fitDe x = (fitTy x.type 0 && fitFds x.fields) := rfl
def preDe (x : De) : List UInt8 := le8 x.kind ++ encS x.name ++ encS x.of_ ++ le8 x.value ++ encTy x.type ++ le8 x.fields.length
theorem encDe_pre (x : De) : encDe x = preDe x ++ x.fields.flatMap encFd := by simp only [encDe, preDe, encL, List.append_assoc]

set_option maxRecDepth 100000 in
set_option maxHeartbeats 1000000 in
theorem rdecl {B : Nat} {W : World} (d : Nat) (x : De) (cs : List Value) (w : World) (p : Nat) (ob : Option Nat) (y : Option (Option (List UInt8))) (L : Nat) (hx : DeAt B W d x cs) (h : RwIn B W w p ob y 0 L) (hL : L + 1000000 * cntDe x ≤ 1000000000000) :
    Calls Try.prog 46 #[.pointer (some ⟨p, 0, none⟩), .agg cs.toArray] w (ROut B W w p ob (rc (fitDe x) y (encDe x)) 0 (L + 1000000 * cntDe x)) := by
  obtain ⟨ct, vf, rfl, _, _, _, _, _, ht, hf⟩ := hx
  obtain ⟨k0, pk, nm, x1, m1, c1, x2, m2, c2, rfl⟩ := shape_Ty ht
  obtain ⟨x3, c3, rfl, hlen, hel⟩ := hf
  have HT := Lib.hid ht
  have HE := Lib.hid hel
  simp only [cntDe] at hL
  have HL := Lib.hid hL
  obtain ⟨n, hn⟩ : ∃ n, n = x.fields.length := ⟨_, rfl⟩
  rw [← hn] at hlen
  simp only [List.cons_append, List.nil_append]
  rw [← hn]
  have HN := Lib.hid hn
  have C0 := Lib.hid (show Kp (fun b => b = p ∨ some b = ob) w (w.alloc (.cells #[.int .i64 x.kind, .string x.name, .string x.of_, .int .i64 x.value, .int .i64 k0, .string pk, .string nm, .slice x1 m1 c1, .slice x2 m2 c2, .slice x3 n c3] 44)) ∧ ∀ k, ob = some k → ob = some k ∨ w.heap.size ≤ k from ⟨(Kp.refl _ w).alloc _, fun _ h => .inl h⟩)
  have L0 := Lib.hid (Loc.newR h [.int .i64 x.kind, .string x.name, .string x.of_, .int .i64 x.value, .int .i64 k0, .string pk, .string nm, .slice x1 m1 c1, .slice x2 m2 c2, .slice x3 n c3] 44)
  have G0 := Lib.hid (h.alloc (.cells #[.int .i64 x.kind, .string x.name, .string x.of_, .int .i64 x.value, .int .i64 k0, .string pk, .string nm, .slice x1 m1 c1, .slice x2 m2 c2, .slice x3 n c3] 44))
  clear h hL ht hel hn
  go_enter Try.func46, Try.ntmps46
  go_wp2_with fail
  refine (rnum_in G0.out _).mono ?_
  rintro e1 w1 ⟨rfl, ob1, g1, k1, o1⟩
  have C1 := Lib.hid (chain C0.out.1 C0.out.2 k1 o1)
  have L1 := Lib.hid (L0.out.next k1 o1)
  have c1 := L1.out.blk.cell
  have G1 := Lib.hid g1
  clear g1 k1 o1
  go_wp2_with fail
  refine (rtext_in G1.out _ (by have h1 := HL.out; omega)).mono ?_
  rintro e2 w2 ⟨rfl, ob2, g2, k2, o2⟩
  have C2 := Lib.hid (chain C1.out.1 C1.out.2 k2 o2)
  have L2 := Lib.hid (L1.out.next k2 o2)
  have c2 := L2.out.blk.cell
  have G2 := Lib.hid g2
  clear g2 k2 o2 c1
  go_wp2_with fail
  refine (rtext_in G2.out _ (by have h1 := HL.out; omega)).mono ?_
  rintro e3 w3 ⟨rfl, ob3, g3, k3, o3⟩
  have C3 := Lib.hid (chain C2.out.1 C2.out.2 k3 o3)
  have L3 := Lib.hid (L2.out.next k3 o3)
  have c3 := L3.out.blk.cell
  have G3 := Lib.hid g3
  clear g3 k3 o3 c2
  go_wp2_with fail
  refine (rnum_in G3.out _).mono ?_
  rintro e4 w4 ⟨rfl, ob4, g4, k4, o4⟩
  have C4 := Lib.hid (chain C3.out.1 C3.out.2 k4 o4)
  have L4 := Lib.hid (L3.out.next k4 o4)
  have c4 := L4.out.blk.cell
  have G4 := Lib.hid g4
  clear g4 k4 o4 c3
  go_wp2_with fail
  refine (rtype d _ _ _ _ _ _ _ _ HT.out G4.out (by decide) (by decide) (by have h1 := HL.out; omega)).mono ?_
  rintro e5 w5 ⟨rfl, ob5, g5, k5, o5⟩
  have C5 := Lib.hid (chain C4.out.1 C4.out.2 k5 o5)
  have L5 := Lib.hid (L4.out.next k5 o5)
  have c5 := L5.out.blk.cell
  have G5 := Lib.hid g5
  clear g5 k5 o5 c4
  go_wp2_with fail
  refine (rnum_in G5.out _).mono ?_
  rintro e6 w6 ⟨rfl, ob6, g6, k6, o6⟩
  have C6 := Lib.hid (chain C5.out.1 C5.out.2 k6 o6)
  have L6 := Lib.hid (L5.out.next k6 o6)
  have c6 := L6.out.blk.cell
  have G6 := Lib.hid g6
  clear g6 k6 o6 c5
  have GI := Lib.hid (show RwIn B W w6 p ob6 (rc (fitTy x.type 0 && fitFds (x.fields.take 0)) y (preDe x ++ (x.fields.take 0).flatMap encFd)) 0 (L + 700000 + 1000000 * cntTy x.type + 1000000 * cntFds (x.fields.take 0)) by
    have g := G6.out
    simp only [rput_rc, rc_rc, Bool.true_and, Bool.and_true, HN.out] at g
    simp only [List.take_zero, cntFds, List.flatMap_nil, List.append_nil, preDe, fitFds, List.any_nil, Bool.not_false, Bool.and_true]
    exact g.more (by omega))
  go_wp2_with fail
  go_loopw [4] (fun i wr => ∃ k : Nat, k ≤ n ∧ i = .int .i64 k ∧ ∃ obk, RwIn B W wr p obk (rc (fitTy x.type 0 && fitFds (x.fields.take k)) y (preDe x ++ (x.fields.take k).flatMap encFd)) 0 (L + 700000 + 1000000 * cntTy x.type + 1000000 * cntFds (x.fields.take k)) ∧ Loc wr p obk w.heap.size [.int .i64 x.kind, .string x.name, .string x.of_, .int .i64 x.value, .int .i64 k0, .string pk, .string nm, .slice x1 m1 c1, .slice x2 m2 c2, .slice x3 n c3] 44 ∧ Kp (fun b => b = p ∨ some b = ob) w wr ∧ ∀ k, obk = some k → ob = some k ∨ w.heap.size ≤ k) (fun i _ => n - (intOf i).toNat)
  case atStart => exact ⟨0, Nat.zero_le _, rfl, ob6, GI.out, L6.out, C6.out.1, C6.out.2⟩
  case round =>
    obtain ⟨k, hk, rfl, obk, g, lk, kk, ok⟩ := hrel
    have Gk := Lib.hid g
    have Lk := Lib.hid lk
    have ck := lk.blk.cell
    have Kk := Lib.hid kk
    have Ok := Lib.hid ok
    clear g lk kk ok c6
    by_cases hlt : k < n
    · have hkl : k < x.fields.length := by rw [← HN.out]; exact hlt
      obtain ⟨b, o, rfl, hb, he⟩ := HE.out (by intro e; rw [e] at hkl; simp at hkl)
      obtain ⟨cs, hcl, hcc, hce⟩ := he k hkl
      have HF := Lib.hid (take_flat encFd x.fields k hkl)
      have HF2 := Lib.hid (fitFds_take hkl)
      have HF3 := Lib.hid (cntFds_take hkl)
      have HF4 := Lib.hid (cntFds_le (l := x.fields) (k + 1))
      obtain ⟨t, ht⟩ : ∃ t, t = x.fields[k]'hkl := ⟨_, rfl⟩
      rw [← ht] at hce HF HF2 HF3
      clear ht he
      obtain ⟨fnm, fty⟩ := t
      obtain ⟨ct, rfl, _, _, hty⟩ := hce
      obtain ⟨q1, q2, q3, q4, q4l, q4c, q5, q5l, q5c, rfl⟩ := shape_Ty hty
      have HTY := Lib.hid hty
      have HB := Lib.hid hb
      have D0 := Lib.hid (hcc 0 (by simp))
      have D1 := Lib.hid (hcc 1 (by simp))
      have D2 := Lib.hid (hcc 2 (by simp))
      have D3 := Lib.hid (hcc 3 (by simp))
      have D4 := Lib.hid (hcc 4 (by simp))
      have D5 := Lib.hid (hcc 5 (by simp))
      have f0 := (Gk.out.bel.cell (p := ⟨b, o + k * 6 + 0, none⟩) HB.out).trans D0.out
      simp only [List.getElem?_cons_zero, List.getElem?_cons_succ, Nat.add_zero] at f0
      have HL2 := Lib.hid (show L + 700000 + 1000000 * cntTy x.type + 1000000 * cntFds (x.fields.take k) + 1000000 * (1 + cntTy fty) ≤ 1000000000000 by
        have h1 := HL.out; have h2 := HF3.out; have h3 := HF4.out; simp only at h2; omega)
      clear hcc hty hb
      go_wp2_with fail
      refine (rtext_in Gk.out _ (by have h1 := HL2.out; omega)).mono ?_
      rintro e7 w7 ⟨rfl, ob7, g7, k7, o7⟩
      have C7 := Lib.hid (chain Kk.out Ok.out k7 o7)
      have L7 := Lib.hid (Lk.out.next k7 o7)
      have c7 := L7.out.blk.cell
      have G7 := Lib.hid g7
      clear g7 k7 o7 ck f0
      have f1 := (G7.out.bel.cell (p := ⟨b, o + k * 6 + 1, none⟩) HB.out).trans D1.out
      have f2 := (G7.out.bel.cell (p := ⟨b, o + k * 6 + 2, none⟩) HB.out).trans D2.out
      have f3 := (G7.out.bel.cell (p := ⟨b, o + k * 6 + 3, none⟩) HB.out).trans D3.out
      have f4 := (G7.out.bel.cell (p := ⟨b, o + k * 6 + 4, none⟩) HB.out).trans D4.out
      have f5 := (G7.out.bel.cell (p := ⟨b, o + k * 6 + 5, none⟩) HB.out).trans D5.out
      simp only [List.getElem?_cons_zero, List.getElem?_cons_succ, Nat.add_zero] at f1 f2 f3 f4 f5
      go_wp2_with fail
      refine (rtype d _ _ _ _ _ _ _ _ HTY.out G7.out (by decide) (by decide) (by have h1 := HL2.out; omega)).mono ?_
      rintro e8 w8 ⟨rfl, ob8, g8, k8, o8⟩
      have C8 := Lib.hid (chain C7.out.1 C7.out.2 k8 o8)
      have L8 := Lib.hid (L7.out.next k8 o8)
      have G8 := Lib.hid (show RwIn B W w8 p ob8 (rc (fitTy x.type 0 && fitFds (x.fields.take (k + 1))) y (preDe x ++ (x.fields.take (k + 1)).flatMap encFd)) 0 (L + 700000 + 1000000 * cntTy x.type + 1000000 * cntFds (x.fields.take (k + 1))) by
        rw [HF.out, HF2.out, HF3.out]
        simp only [rput_rc, rc_rc, Bool.true_and, Bool.and_true] at g8
        simp only [encFd, List.append_assoc, Bool.and_assoc] at g8 ⊢
        exact g8.more (by omega))
      clear g8 k8 o8
      go_wp2_with fail
      go_roundw
      case rel => exact ⟨k + 1, by omega, by go_num, ob8, G8.out, L8.out, C8.out.1, C8.out.2⟩
      case measure => simp [intOf]; omega
    · have HX := Lib.hid (show ROut B W w p ob (rc (fitDe x) y (encDe x)) 0 (L + 1000000 * cntDe x) (.returned (.tuple #[])) wr by
        refine ⟨rfl, obk, ?_, Kk.out, Ok.out⟩
        have g := Gk.out
        have hkn : x.fields.length ≤ k := by rw [← HN.out]; omega
        rw [List.take_of_length_le hkn, ← encDe_pre] at g
        rw [fitDe_eq, cntDe]
        exact g.more (by omega))
      go_wp2_with fail
      go_returns
      exact HX.out

set_option maxRecDepth 100000 in
set_option maxHeartbeats 1000000 in
theorem rimports {B : Nat} {W : World} (l : List Im) (v : Value) (w : World) (p : Nat) (ob : Option Nat) (y : Option (Option (List UInt8))) (a : Int) (L : Nat) (hl : SlB B W 2 ImAt l v) (h : RwIn B W w p ob y a L) (hL : L + 8 + 1000000 * l.length ≤ 1000000000000) :
    Calls Try.prog 44 #[.pointer (some ⟨p, 0, none⟩), v] w (ROut B W w p ob (rput y (encL encIm l)) a (L + 8 + 1000000 * l.length)) := by
  obtain ⟨xa, cap, rfl, hlen, hel⟩ := hl
  have G := Lib.hid h
  have HE := Lib.hid hel
  have HL := Lib.hid hL
  clear h hel hL
  obtain ⟨n, hn⟩ : ∃ n, n = l.length := ⟨_, rfl⟩
  rw [← hn] at hlen HL ⊢
  have HN := Lib.hid hn
  clear hn
  go_enter Try.func44, Try.ntmps44
  go_wp2_with fail
  refine (rnum_in G.out _).mono ?_
  rintro e1 w1 ⟨rfl, ob1, g1, k1, o1⟩
  have GI := Lib.hid (show RwIn B W w1 p ob1 (rc true (rput y (le8 n)) ((l.take 0).flatMap encIm)) a (L + 8 + 1000000 * 0) by
    obtain ⟨⟨bs, deep, hr, hm⟩, hb⟩ := id g1
    have e := rc_nil hm
    simp only [List.take_zero, List.flatMap_nil, e]
    exact g1)
  have K1 := Lib.hid k1
  have O1 := Lib.hid o1
  clear g1 k1 o1
  go_wp2_with fail
  go_loopw [4] (fun i wr => ∃ k : Nat, k ≤ n ∧ i = .int .i64 k ∧ ∃ obk, RwIn B W wr p obk (rc true (rput y (le8 n)) ((l.take k).flatMap encIm)) a (L + 8 + 1000000 * k) ∧ Kp (fun b => b = p ∨ some b = ob) w wr ∧ ∀ k, obk = some k → ob = some k ∨ w.heap.size ≤ k) (fun i _ => n - (intOf i).toNat)
  case atStart => exact ⟨0, Nat.zero_le _, rfl, ob1, GI.out, K1.out, O1.out⟩
  case round =>
    obtain ⟨k, hk, rfl, obk, g, kk, ok⟩ := hrel
    have Gk := Lib.hid g
    have Kk := Lib.hid kk
    have Ok := Lib.hid ok
    clear g kk ok
    by_cases hlt : k < n
    · have hkl : k < l.length := by rw [← HN.out]; exact hlt
      obtain ⟨⟨bs, deep, hr, hm⟩, _⟩ := id Gk.out
      have FULL := Lib.hid (rfull_any wr p obk bs deep a hr)
      by_cases hf : 262144 < bs.length
      · have HD := Lib.hid (show decide (262144 < bs.length) = true by simp [hf])
        have HX := Lib.hid (show ROut B W w p ob (rput y (encL encIm l)) a (L + 8 + 1000000 * n) (.returned (.tuple #[])) wr by
          refine ROut.trans Kk.out Ok.out (ROut.mk Gk.out hr ?_ (Kp.refl _ wr) (fun k hk => .inl hk))
          have e : rput y (encL encIm l) = rput (rc true (rput y (le8 n)) ((l.take k).flatMap encIm)) ((l.drop k).flatMap encIm) := by
            rw [rput_rc, rput_rc, rc_rc, rput_rc, rc_rc, encL, ← HN.out, ← List.flatMap_append, List.take_append_drop]
            rfl
          rw [e]
          have := hm.full (s := (l.drop k).flatMap encIm) hf
          exact ⟨Nat.le_trans this.1 (by omega), this.2⟩)
        clear hr hm hf
        go_wp2_with fail
        refine FULL.out.mono ?_
        rintro e2 w2 ⟨rfl, rfl⟩
        rw [HD.out]
        go_wp2_with fail
        go_returns
        exact HX.out
      · have HD := Lib.hid (show decide (262144 < bs.length) = false by simp; omega)
        obtain ⟨b, o, rfl, hb, he⟩ := HE.out (by intro e; rw [e] at hkl; simp at hkl)
        obtain ⟨cs, hcl, hcc, hce⟩ := he k hkl
        have HF := Lib.hid (take_flat encIm l k hkl)
        obtain ⟨t, ht⟩ : ∃ t, t = l[k]'hkl := ⟨_, rfl⟩
        rw [← ht] at hce HF
        clear ht he
        obtain ⟨rfl, _, _⟩ := hce
        have HB := Lib.hid hb
        have D0 := Lib.hid (hcc 0 (by simp))
        have D1 := Lib.hid (hcc 1 (by simp))
        have f0 := (Gk.out.bel.cell (p := ⟨b, o + k * 2 + 0, none⟩) HB.out).trans D0.out
        simp only [List.getElem?_cons_zero, List.getElem?_cons_succ, Nat.add_zero] at f0
        clear hcc hb hr hm hf
        go_wp2_with fail
        refine FULL.out.mono ?_
        rintro e2 w2 ⟨rfl, rfl⟩
        rw [HD.out]
        go_wp2_with fail
        refine (rtext_in Gk.out _ (by have h1 := HL.out; omega)).mono ?_
        rintro e7 w7 ⟨rfl, ob7, g7, k7, o7⟩
        have C7 := Lib.hid (chain Kk.out Ok.out k7 o7)
        have G7 := Lib.hid g7
        clear g7 k7 o7 f0
        have f1 := (G7.out.bel.cell (p := ⟨b, o + k * 2 + 1, none⟩) HB.out).trans D1.out
        simp only [List.getElem?_cons_zero, List.getElem?_cons_succ, Nat.add_zero] at f1
        go_wp2_with fail
        refine (rnum_in G7.out _).mono ?_
        rintro e8 w8 ⟨rfl, ob8, g8, k8, o8⟩
        have C8 := Lib.hid (chain C7.out.1 C7.out.2 k8 o8)
        have G8 := Lib.hid (show RwIn B W w8 p ob8 (rc true (rput y (le8 n)) ((l.take (k + 1)).flatMap encIm)) a (L + 8 + 1000000 * (k + 1)) by
          rw [HF.out]
          simp only [rput_rc, rc_rc, Bool.true_and, Bool.and_true] at g8 ⊢
          simp only [encIm, List.append_assoc] at g8 ⊢
          exact g8.more (by omega))
        clear g8 k8 o8
        go_wp2_with fail
        go_roundw
        case rel => exact ⟨k + 1, by omega, by go_num, ob8, G8.out, C8.out.1, C8.out.2⟩
        case measure => simp [intOf]; omega
    · have HX := Lib.hid (show ROut B W w p ob (rput y (encL encIm l)) a (L + 8 + 1000000 * n) (.returned (.tuple #[])) wr by
        refine ⟨rfl, obk, ?_, Kk.out, Ok.out⟩
        have g := Gk.out
        have hkn : l.length ≤ k := by rw [← HN.out]; omega
        rw [List.take_of_length_le hkn, rput_rc, rc_rc, Bool.true_and, HN.out] at g
        exact g.more (by omega))
      go_wp2_with fail
      go_returns
      exact HX.out
end Go.Proofs.Ytpopgnengimieaa
