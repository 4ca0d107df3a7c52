/- The document's writer over a unit's parts. -/
import Derived.Test.YtpopgnengimieaaRWriter2
import Derived.Test.YtpopgnengimieaaShallow
namespace Go.Proofs.Ytpopgnengimieaa
open Go.RowKit

/-- written, if b; else something was too deep -/
def rc (b : Bool) (x : Option (Option (List UInt8))) (s : List UInt8) : Option (Option (List UInt8)) := if b = true then rput x s else none
theorem rc_rc (b b' : Bool) (x : Option (Option (List UInt8))) (s s' : List UInt8) : rc b' (rc b x s) s' = rc (b && b') x (s ++ s') := by
  cases b <;> cases b' <;> simp [rc, rput_rput]
  rfl
theorem rput_rc (x : Option (Option (List UInt8))) (s : List UInt8) : rput x s = rc true x s := rfl
theorem rc_nil {bs : List UInt8} {deep : Bool} {x : Option (Option (List UInt8))} {L : Nat} (h : RwMeans bs deep x L) : rc true x [] = x := by
  cases x with
  | none => rfl
  | some y =>
    obtain ⟨_, _, h3⟩ := h
    obtain ⟨_, _, n2⟩ := h3 y rfl
    cases y with
    | none => rfl
    | some l => simp [rc, rput, wput, (n2 l rfl).2]
theorem ROut.more {B : Nat} {W w : World} {p : Nat} {ob : Option Nat} {x : Option (Option (List UInt8))} {a : Int} {L L' : Nat} {e : Ending} {w' : World} (h : ROut B W w p ob x a L e w') (hL : L ≤ L') : ROut B W w p ob x a L' e w' := by
  obtain ⟨he, ob', h1, h2⟩ := h
  exact ⟨he, ob', h1.more hL, h2⟩
theorem ROut.to {B : Nat} {W w : World} {p : Nat} {ob : Option Nat} {x x' : Option (Option (List UInt8))} {a : Int} {L L' : Nat} {e : Ending} {w' : World} (h : ROut B W w p ob x a L e w') (hx : x = x') (hL : L ≤ L') : ROut B W w p ob x' a L' e w' := by
  subst hx; exact h.more hL
/-- back from one deeper -/
theorem ROut.back {B : Nat} {W w w' : World} {p : Nat} {ob ob' : Option Nat} {x : Option (Option (List UInt8))} {a : Int} {L : Nat} (h : RwIn B W w' p ob' x (a + 1) L)
    (k : Kp (fun b => b = p ∨ some b = ob) w w') (o : ∀ k, ob' = some k → ob = some k ∨ w.heap.size ≤ k) :
    w'.cell? ⟨p, 2, none⟩ = some (.int .i64 (a + 1)) ∧ w'.frozen? ⟨p, 2, none⟩ = false ∧ ROut B W w p ob x a L (.returned (.tuple #[])) (w'.setCell ⟨p, 2, none⟩ (.int .i64 a)) := by
  obtain ⟨⟨bs, deep, hr, hm⟩, _⟩ := id h
  obtain ⟨y, c, hb, how, hv, hne⟩ := id hr
  refine ⟨by rw [hb.cell]; rfl, hb.frozen 2, ROut.trans k o (ROut.mk h (hr.setAt a) hm ((Kp.refl _ w').setCell (fun _ => .inl rfl) _) (fun k hk => .inl hk))⟩
theorem Loc.newR {B : Nat} {W w : World} {p : Nat} {ob : Option Nat} {x : Option (Option (List UInt8))} {a : Int} {L : Nat} (h : RwIn B W w p ob x a L) (cs : List Value) (t : TypeId) : Loc (w.alloc (.cells cs.toArray t)) p ob w.heap.size cs t :=
  ⟨Blk.new w cs t, fun e => by have := h.p_lt; omega, fun e => by have := h.ob_lt _ e.symm; omega⟩

mutual
def cntTy : Ty → Nat
  | .mk _ _ _ la lr => 1 + cntTys la + cntTys lr
def cntTys : List Ty → Nat
  | [] => 0
  | t :: r => cntTy t + cntTys r
end
mutual
def cntEx : Ex → Nat
  | .mk _ _ _ ks => 1 + cntExs ks
def cntExs : List Ex → Nat
  | [] => 0
  | t :: r => cntEx t + cntExs r
end
mutual
def cntSt : St → Nat
  | .mk _ _ es bs ls => 1 + cntExs es + cntSts bs + cntSts ls
def cntSts : List St → Nat
  | [] => 0
  | t :: r => cntSt t + cntSts r
end

theorem fitTys_append (a : Int) : ∀ l m : List Ty, fitTys (l ++ m) a = (fitTys l a && fitTys m a)
  | [], m => by simp [fitTys]
  | t :: r, m => by simp [fitTys, fitTys_append a r m, Bool.and_assoc]
theorem cntTys_append : ∀ l m : List Ty, cntTys (l ++ m) = cntTys l + cntTys m
  | [], m => by simp [cntTys]
  | t :: r, m => by simp [cntTys, cntTys_append r m, Nat.add_assoc]
theorem fitTys_take {l : List Ty} {k : Nat} (h : k < l.length) (a : Int) : fitTys (l.take (k + 1)) a = (fitTys (l.take k) a && fitTy l[k] a) := by
  rw [List.take_succ_eq_append_getElem h, fitTys_append]; simp [fitTys]
theorem cntTys_take {l : List Ty} {k : Nat} (h : k < l.length) : cntTys (l.take (k + 1)) = cntTys (l.take k) + cntTy l[k] := by
  rw [List.take_succ_eq_append_getElem h, cntTys_append]; simp [cntTys]
theorem cntTys_le {l : List Ty} (k : Nat) : cntTys (l.take k) ≤ cntTys l := by
  have h := cntTys_append (l.take k) (l.drop k)
  rw [List.take_append_drop] at h; omega

theorem fitExs_append (a : Int) : ∀ l m : List Ex, fitExs (l ++ m) a = (fitExs l a && fitExs m a)
  | [], m => by simp [fitExs]
  | t :: r, m => by simp [fitExs, fitExs_append a r m, Bool.and_assoc]
theorem cntExs_append : ∀ l m : List Ex, cntExs (l ++ m) = cntExs l + cntExs m
  | [], m => by simp [cntExs]
  | t :: r, m => by simp [cntExs, cntExs_append r m, Nat.add_assoc]
theorem fitExs_take {l : List Ex} {k : Nat} (h : k < l.length) (a : Int) : fitExs (l.take (k + 1)) a = (fitExs (l.take k) a && fitEx l[k] a) := by
  rw [List.take_succ_eq_append_getElem h, fitExs_append]; simp [fitExs]
theorem cntExs_take {l : List Ex} {k : Nat} (h : k < l.length) : cntExs (l.take (k + 1)) = cntExs (l.take k) + cntEx l[k] := by
  rw [List.take_succ_eq_append_getElem h, cntExs_append]; simp [cntExs]
theorem cntExs_le {l : List Ex} (k : Nat) : cntExs (l.take k) ≤ cntExs l := by
  have h := cntExs_append (l.take k) (l.drop k)
  rw [List.take_append_drop] at h; omega

theorem fitSts_append (a : Int) : ∀ l m : List St, fitSts (l ++ m) a = (fitSts l a && fitSts m a)
  | [], m => by simp [fitSts]
  | t :: r, m => by simp [fitSts, fitSts_append a r m, Bool.and_assoc]
theorem cntSts_append : ∀ l m : List St, cntSts (l ++ m) = cntSts l + cntSts m
  | [], m => by simp [cntSts]
  | t :: r, m => by simp [cntSts, cntSts_append r m, Nat.add_assoc]
theorem fitSts_take {l : List St} {k : Nat} (h : k < l.length) (a : Int) : fitSts (l.take (k + 1)) a = (fitSts (l.take k) a && fitSt l[k] a) := by
  rw [List.take_succ_eq_append_getElem h, fitSts_append]; simp [fitSts]
theorem cntSts_take {l : List St} {k : Nat} (h : k < l.length) : cntSts (l.take (k + 1)) = cntSts (l.take k) + cntSt l[k] := by
  rw [List.take_succ_eq_append_getElem h, cntSts_append]; simp [cntSts]
theorem cntSts_le {l : List St} (k : Nat) : cntSts (l.take k) ≤ cntSts l := by
  have h := cntSts_append (l.take k) (l.drop k)
  rw [List.take_append_drop] at h; omega

set_option maxRecDepth 100000 in
set_option maxHeartbeats 400000 in
theorem rtypes {B : Nat} {W : World} {d : Nat}
    (one : ∀ (t : Ty) (cs : List Value) (w : World) (p : Nat) (ob : Option Nat) (x : Option (Option (List UInt8))) (a : Int) (L : Nat), TyAt B W d t cs → RwIn B W w p ob x a L → 0 ≤ a → a ≤ 101 → L + 1000000 * cntTy t ≤ 1000000000000 →
      Calls Try.prog 74 #[.pointer (some ⟨p, 0, none⟩), .agg cs.toArray] w (ROut B W w p ob (rc (fitTy t a) x (encTy t)) a (L + 1000000 * cntTy t)))
    (l : List Ty) (v : Value) (w : World) (p : Nat) (ob : Option Nat) (x : Option (Option (List UInt8))) (a : Int) (L : Nat) (hl : SlB B W 5 (TyAt B W d) l v) (h : RwIn B W w p ob x a L) (h0 : 0 ≤ a) (h1 : a ≤ 101) (hL : L + 8 + 1000000 * cntTys l ≤ 1000000000000) :
    Calls Try.prog 101 #[.pointer (some ⟨p, 0, none⟩), v] w (ROut B W w p ob (rc (fitTys l a) x (encL encTy l)) a (L + 8 + 1000000 * cntTys l)) := by
  obtain ⟨xa, cap, rfl, hlen, hel⟩ := hl
  have G := Lib.hid h
  have HE := Lib.hid hel
  have ONE := Lib.hid one
  have HL := Lib.hid hL
  have HA := Lib.hid (And.intro h0 h1)
  clear h hel one hL h0 h1
  obtain ⟨n, hn⟩ : ∃ n, n = l.length := ⟨_, rfl⟩
  rw [← hn] at hlen ⊢
  have HN := Lib.hid hn
  clear hn
  go_enter Try.func101, Try.ntmps101
  go_wp2_with fail
  refine (rnum_in G.out _).mono ?_
  rintro e1 w1 ⟨rfl, ob1, g1, k1, o1⟩
  have G1 := Lib.hid (show RwIn B W w1 p ob1 (rc (fitTys (l.take 0) a) (rput x (le8 n)) ((l.take 0).flatMap encTy)) a (L + 8 + 1000000 * cntTys (l.take 0)) by
    obtain ⟨⟨bs, deep, hr, hm⟩, hb⟩ := id g1
    have e := rc_nil hm
    simp only [List.take_zero, fitTys, cntTys, List.flatMap_nil, e]
    exact g1)
  have K1 := Lib.hid k1
  have O1 := Lib.hid o1
  clear g1 k1 o1
  go_wp2_with fail
  go_loopw [4] (fun i wr => ∃ k : Nat, k ≤ n ∧ i = .int .i64 k ∧ ∃ obk, RwIn B W wr p obk (rc (fitTys (l.take k) a) (rput x (le8 n)) ((l.take k).flatMap encTy)) a (L + 8 + 1000000 * cntTys (l.take k)) ∧ Kp (fun b => b = p ∨ some b = ob) w wr ∧ ∀ k, obk = some k → ob = some k ∨ w.heap.size ≤ k) (fun i _ => n - (intOf i).toNat)
  case atStart => exact ⟨0, Nat.zero_le _, rfl, ob1, G1.out, K1.out, O1.out⟩
  case round =>
    obtain ⟨k, hk, rfl, obk, g, kk, ok⟩ := hrel
    have Gk := Lib.hid g
    have Kk := Lib.hid kk
    have Ok := Lib.hid ok
    clear g kk ok
    by_cases hlt : k < n
    · have hkl : k < l.length := by rw [← HN.out]; exact hlt
      obtain ⟨b, o, rfl, hb, he⟩ := HE.out (by intro e; rw [e] at hkl; simp at hkl)
      obtain ⟨cs, hcl, hcc, hce⟩ := he k hkl
      obtain ⟨q0, q1, q2, q3, q3l, q3c, q4, q4l, q4c, rfl⟩ := shape_Ty hce
      have f0 := (Gk.out.bel.cell (p := ⟨b, o + k * 5 + 0, none⟩) hb).trans (hcc 0 (by simp))
      have f1 := (Gk.out.bel.cell (p := ⟨b, o + k * 5 + 1, none⟩) hb).trans (hcc 1 (by simp))
      have f2 := (Gk.out.bel.cell (p := ⟨b, o + k * 5 + 2, none⟩) hb).trans (hcc 2 (by simp))
      have f3 := (Gk.out.bel.cell (p := ⟨b, o + k * 5 + 3, none⟩) hb).trans (hcc 3 (by simp))
      have f4 := (Gk.out.bel.cell (p := ⟨b, o + k * 5 + 4, none⟩) hb).trans (hcc 4 (by simp))
      simp only [List.getElem?_cons_zero, List.getElem?_cons_succ, Nat.add_zero] at f0 f1 f2 f3 f4
      have HF := Lib.hid (take_flat encTy l k hkl)
      have HF2 := Lib.hid (fitTys_take hkl a)
      have HF3 := Lib.hid (cntTys_take hkl)
      have HF4 := Lib.hid (cntTys_le (l := l) (k + 1))
      have HCE := Lib.hid hce
      clear he hcc hce
      go_wp2_with fail
      refine (ONE.out _ _ _ _ _ _ _ _ HCE.out Gk.out HA.out.1 HA.out.2 (by have h1 := HL.out; have h2 := HF3.out; have h3 := HF4.out; omega)).mono ?_
      rintro e2 w2 ⟨rfl, ob2, g2, k2, o2⟩
      have C := chain Kk.out Ok.out k2 o2
      have G2 := Lib.hid (show RwIn B W w2 p ob2 (rc (fitTys (l.take (k + 1)) a) (rput x (le8 n)) ((l.take (k + 1)).flatMap encTy)) a (L + 8 + 1000000 * cntTys (l.take (k + 1))) by
        rw [HF.out, HF2.out, HF3.out, ← rc_rc]; exact g2.more (by omega))
      have C2 := Lib.hid C
      clear g2 k2 o2 C
      go_wp2_with fail
      go_roundw
      case rel => exact ⟨k + 1, by omega, by go_num, ob2, G2.out, C2.out.1, C2.out.2⟩
      case measure => simp [intOf]; omega
    · have HX := Lib.hid (show ROut B W w p ob (rc (fitTys l a) x (encL encTy l)) a (L + 8 + 1000000 * cntTys l) (.returned (.tuple #[])) wr by
        refine ⟨rfl, obk, ?_, Kk.out, Ok.out⟩
        have g := Gk.out
        have hkn : l.length ≤ k := by rw [← HN.out]; omega
        rw [List.take_of_length_le hkn, rput_rc, rc_rc, Bool.true_and, HN.out] at g
        exact g)
      go_wp2_with fail
      go_returns
      exact HX.out

set_option maxRecDepth 100000 in
set_option maxHeartbeats 400000 in
theorem rtype_succ {B : Nat} {W : World} {d : Nat}
    (ih : ∀ (t : Ty) (cs : List Value) (w : World) (p : Nat) (ob : Option Nat) (x : Option (Option (List UInt8))) (a : Int) (L : Nat), TyAt B W d t cs → RwIn B W w p ob x a L → 0 ≤ a → a ≤ 101 → L + 1000000 * cntTy t ≤ 1000000000000 →
      Calls Try.prog 74 #[.pointer (some ⟨p, 0, none⟩), .agg cs.toArray] w (ROut B W w p ob (rc (fitTy t a) x (encTy t)) a (L + 1000000 * cntTy t)))
    (t : Ty) (cs : List Value) (w : World) (p : Nat) (ob : Option Nat) (x : Option (Option (List UInt8))) (a : Int) (L : Nat) (hx : TyAt B W (d + 1) t cs) (h : RwIn B W w p ob x a L) (h0 : 0 ≤ a) (h1 : a ≤ 101) (hL : L + 1000000 * cntTy t ≤ 1000000000000) :
    Calls Try.prog 74 #[.pointer (some ⟨p, 0, none⟩), .agg cs.toArray] w (ROut B W w p ob (rc (fitTy t a) x (encTy t)) a (L + 1000000 * cntTy t)) := by
  have IH := Lib.hid ih
  clear ih
  obtain ⟨kd, pk, nm, la, lr⟩ := t
  obtain ⟨va, vr, rfl, _, hp, hn, ha, hr⟩ := hx
  obtain ⟨x1, m1, c1, rfl⟩ := ha.slice
  obtain ⟨x2, m2, c2, rfl⟩ := hr.slice
  have Ha := Lib.hid ha
  have Hr := Lib.hid hr
  clear hp hn ha hr
  have C := Lib.hid (show Kp (fun b => b = p ∨ some b = ob) w (w.alloc (.cells #[.int .i64 kd, .string pk, .string nm, .slice x1 m1 c1, .slice x2 m2 c2] 41)) ∧ ∀ k, ob = some k → ob = some k ∨ w.heap.size ≤ k from ⟨(Kp.refl _ w).alloc _, fun _ h => .inl h⟩)
  have LB := Lib.hid (Loc.newR h [.int .i64 kd, .string pk, .string nm, .slice x1 m1 c1, .slice x2 m2 c2] 41)
  have G := Lib.hid (h.alloc (.cells #[.int .i64 kd, .string pk, .string nm, .slice x1 m1 c1, .slice x2 m2 c2] 41))
  simp only [cntTy] at hL
  have HL := Lib.hid hL
  clear h hL
  by_cases hle : a ≤ 100
  · have HA := Lib.hid (And.intro h0 hle)
    have HF := Lib.hid (show fitTy (.mk kd pk nm la lr) a = (fitTys la (a + 1) && fitTys lr (a + 1)) by simp [fitTy, hle])
    clear hle h1
    go_enter Try.func74, Try.ntmps74
    go_wp2_with fail
    refine (rin_ok G.out HA.out.1 HA.out.2).mono ?_
    rintro e0 w0 ⟨rfl, g0, k0⟩
    have C0 := Lib.hid (chain C.out.1 C.out.2 k0 (fun k hk => .inl hk))
    have L0 := Lib.hid (LB.out.next k0 (fun k hk => .inl hk))
    have c0 := L0.out.blk.cell
    have G0 := Lib.hid g0
    clear g0 k0
    go_wp2_with fail
    refine (rnum_in G0.out _).mono ?_
    rintro e1 w1 ⟨rfl, ob1, g1, k1, o1⟩
    have C1 := Lib.hid (chain C0.out.1 C0.out.2 k1 o1)
    have L1 := Lib.hid (L0.out.next k1 o1)
    have c1 := L1.out.blk.cell
    have G1 := Lib.hid g1
    clear g1 k1 o1 c0
    go_wp2_with fail
    refine (rtext_in G1.out _ (by have h1 := HL.out; omega)).mono ?_
    rintro e2 w2 ⟨rfl, ob2, g2, k2, o2⟩
    have C2 := Lib.hid (chain C1.out.1 C1.out.2 k2 o2)
    have L2 := Lib.hid (L1.out.next k2 o2)
    have c2 := L2.out.blk.cell
    have G2 := Lib.hid g2
    clear g2 k2 o2 c1
    go_wp2_with fail
    refine (rtext_in G2.out _ (by have h1 := HL.out; omega)).mono ?_
    rintro e3 w3 ⟨rfl, ob3, g3, k3, o3⟩
    have C3 := Lib.hid (chain C2.out.1 C2.out.2 k3 o3)
    have L3 := Lib.hid (L2.out.next k3 o3)
    have c3 := L3.out.blk.cell
    have G3 := Lib.hid g3
    clear g3 k3 o3 c2
    go_wp2_with fail
    refine (rtypes IH.out _ _ _ _ _ _ _ _ Ha.out G3.out (by have := HA.out; omega) (by have := HA.out; omega) (by have h1 := HL.out; omega)).mono ?_
    rintro e4 w4 ⟨rfl, ob4, g4, k4, o4⟩
    have C4 := Lib.hid (chain C3.out.1 C3.out.2 k4 o4)
    have L4 := Lib.hid (L3.out.next k4 o4)
    have c4 := L4.out.blk.cell
    have G4 := Lib.hid g4
    clear g4 k4 o4 c3
    go_wp2_with fail
    refine (rtypes IH.out _ _ _ _ _ _ _ _ Hr.out G4.out (by have := HA.out; omega) (by have := HA.out; omega) (by have h1 := HL.out; omega)).mono ?_
    rintro e5 w5 ⟨rfl, ob5, g5, k5, o5⟩
    have C5 := Lib.hid (chain C4.out.1 C4.out.2 k5 o5)
    have L5 := Lib.hid (L4.out.next k5 o5)
    have c5 := L5.out.blk.cell
    have G5 := Lib.hid g5
    clear g5 k5 o5 c4
    obtain ⟨b0, b1, b2⟩ := ROut.back G5.out C5.out.1 C5.out.2
    have X := Lib.hid (b2.to (x' := rc (fitTy (.mk kd pk nm la lr) a) x (encTy (.mk kd pk nm la lr))) (L' := L + 1000000 * (1 + cntTys la + cntTys lr)) (by rw [HF.out, encTy_mk]; simp only [rput_rc, rc_rc, Bool.true_and]) (by omega))
    have hA0 := HA.out.1
    have hA1 := HA.out.2
    clear b2
    go_wp2_with fail
    go_returns
    exact X.out
  · obtain rfl : a = 101 := by omega
    have HF := Lib.hid (show fitTy (.mk kd pk nm la lr) 101 = false by simp [fitTy])
    clear hle h1 h0
    go_enter Try.func74, Try.ntmps74
    go_wp2_with fail
    refine (rin_deep G.out (by decide) (by decide)).mono ?_
    rintro e0 w0 ⟨rfl, g0, k0⟩
    have C0 := Lib.hid (chain C.out.1 C.out.2 k0 (fun k hk => .inl hk))
    obtain ⟨b0, b1, b2⟩ := ROut.back g0 C0.out.1 C0.out.2
    have X := Lib.hid (b2.to (x' := rc (fitTy (.mk kd pk nm la lr) 101) x (encTy (.mk kd pk nm la lr))) (L' := L + 1000000 * (1 + cntTys la + cntTys lr)) (by rw [HF.out]; rfl) (by omega))
    clear b2 g0 k0
    go_wp2_with fail
    go_returns
    exact X.out
theorem rtype {B : Nat} {W : World} (d : Nat) : ∀ (t : Ty) (cs : List Value) (w : World) (p : Nat) (ob : Option Nat) (x : Option (Option (List UInt8))) (a : Int) (L : Nat), TyAt B W d t cs → RwIn B W w p ob x a L → 0 ≤ a → a ≤ 101 → L + 1000000 * cntTy t ≤ 1000000000000 →
      Calls Try.prog 74 #[.pointer (some ⟨p, 0, none⟩), .agg cs.toArray] w (ROut B W w p ob (rc (fitTy t a) x (encTy t)) a (L + 1000000 * cntTy t)) := by
  induction d with
  | zero => intro _ _ _ _ _ _ _ _ h; exact h.elim
  | succ d ih => exact rtype_succ ih

set_option maxRecDepth 100000 in
set_option maxHeartbeats 400000 in
theorem rexprs {B : Nat} {W : World} {d : Nat}
    (one : ∀ (t : Ex) (cs : List Value) (w : World) (p : Nat) (ob : Option Nat) (x : Option (Option (List UInt8))) (a : Int) (L : Nat), ExAt B W d t cs → RwIn B W w p ob x a L → 0 ≤ a → a ≤ 101 → L + 1000000 * cntEx t ≤ 1000000000000 →
      Calls Try.prog 110 #[.pointer (some ⟨p, 0, none⟩), .agg cs.toArray] w (ROut B W w p ob (rc (fitEx t a) x (encEx t)) a (L + 1000000 * cntEx t)))
    (l : List Ex) (v : Value) (w : World) (p : Nat) (ob : Option Nat) (x : Option (Option (List UInt8))) (a : Int) (L : Nat) (hl : SlB B W 4 (ExAt B W d) l v) (h : RwIn B W w p ob x a L) (h0 : 0 ≤ a) (h1 : a ≤ 101) (hL : L + 8 + 1000000 * cntExs l ≤ 1000000000000) :
    Calls Try.prog 102 #[.pointer (some ⟨p, 0, none⟩), v] w (ROut B W w p ob (rc (fitExs l a) x (encL encEx l)) a (L + 8 + 1000000 * cntExs l)) := by
  obtain ⟨xa, cap, rfl, hlen, hel⟩ := hl
  have G := Lib.hid h
  have HE := Lib.hid hel
  have ONE := Lib.hid one
  have HL := Lib.hid hL
  have HA := Lib.hid (And.intro h0 h1)
  clear h hel one hL h0 h1
  obtain ⟨n, hn⟩ : ∃ n, n = l.length := ⟨_, rfl⟩
  rw [← hn] at hlen ⊢
  have HN := Lib.hid hn
  clear hn
  go_enter Try.func102, Try.ntmps102
  go_wp2_with fail
  refine (rnum_in G.out _).mono ?_
  rintro e1 w1 ⟨rfl, ob1, g1, k1, o1⟩
  have G1 := Lib.hid (show RwIn B W w1 p ob1 (rc (fitExs (l.take 0) a) (rput x (le8 n)) ((l.take 0).flatMap encEx)) a (L + 8 + 1000000 * cntExs (l.take 0)) by
    obtain ⟨⟨bs, deep, hr, hm⟩, hb⟩ := id g1
    have e := rc_nil hm
    simp only [List.take_zero, fitExs, cntExs, List.flatMap_nil, e]
    exact g1)
  have K1 := Lib.hid k1
  have O1 := Lib.hid o1
  clear g1 k1 o1
  go_wp2_with fail
  go_loopw [4] (fun i wr => ∃ k : Nat, k ≤ n ∧ i = .int .i64 k ∧ ∃ obk, RwIn B W wr p obk (rc (fitExs (l.take k) a) (rput x (le8 n)) ((l.take k).flatMap encEx)) a (L + 8 + 1000000 * cntExs (l.take k)) ∧ Kp (fun b => b = p ∨ some b = ob) w wr ∧ ∀ k, obk = some k → ob = some k ∨ w.heap.size ≤ k) (fun i _ => n - (intOf i).toNat)
  case atStart => exact ⟨0, Nat.zero_le _, rfl, ob1, G1.out, K1.out, O1.out⟩
  case round =>
    obtain ⟨k, hk, rfl, obk, g, kk, ok⟩ := hrel
    have Gk := Lib.hid g
    have Kk := Lib.hid kk
    have Ok := Lib.hid ok
    clear g kk ok
    by_cases hlt : k < n
    · have hkl : k < l.length := by rw [← HN.out]; exact hlt
      obtain ⟨b, o, rfl, hb, he⟩ := HE.out (by intro e; rw [e] at hkl; simp at hkl)
      obtain ⟨cs, hcl, hcc, hce⟩ := he k hkl
      obtain ⟨q0, q1, q2, q3, q3l, q3c, rfl⟩ := shape_Ex hce
      have f0 := (Gk.out.bel.cell (p := ⟨b, o + k * 4 + 0, none⟩) hb).trans (hcc 0 (by simp))
      have f1 := (Gk.out.bel.cell (p := ⟨b, o + k * 4 + 1, none⟩) hb).trans (hcc 1 (by simp))
      have f2 := (Gk.out.bel.cell (p := ⟨b, o + k * 4 + 2, none⟩) hb).trans (hcc 2 (by simp))
      have f3 := (Gk.out.bel.cell (p := ⟨b, o + k * 4 + 3, none⟩) hb).trans (hcc 3 (by simp))
      simp only [List.getElem?_cons_zero, List.getElem?_cons_succ, Nat.add_zero] at f0 f1 f2 f3
      have HF := Lib.hid (take_flat encEx l k hkl)
      have HF2 := Lib.hid (fitExs_take hkl a)
      have HF3 := Lib.hid (cntExs_take hkl)
      have HF4 := Lib.hid (cntExs_le (l := l) (k + 1))
      have HCE := Lib.hid hce
      clear he hcc hce
      go_wp2_with fail
      refine (ONE.out _ _ _ _ _ _ _ _ HCE.out Gk.out HA.out.1 HA.out.2 (by have h1 := HL.out; have h2 := HF3.out; have h3 := HF4.out; omega)).mono ?_
      rintro e2 w2 ⟨rfl, ob2, g2, k2, o2⟩
      have C := chain Kk.out Ok.out k2 o2
      have G2 := Lib.hid (show RwIn B W w2 p ob2 (rc (fitExs (l.take (k + 1)) a) (rput x (le8 n)) ((l.take (k + 1)).flatMap encEx)) a (L + 8 + 1000000 * cntExs (l.take (k + 1))) by
        rw [HF.out, HF2.out, HF3.out, ← rc_rc]; exact g2.more (by omega))
      have C2 := Lib.hid C
      clear g2 k2 o2 C
      go_wp2_with fail
      go_roundw
      case rel => exact ⟨k + 1, by omega, by go_num, ob2, G2.out, C2.out.1, C2.out.2⟩
      case measure => simp [intOf]; omega
    · have HX := Lib.hid (show ROut B W w p ob (rc (fitExs l a) x (encL encEx l)) a (L + 8 + 1000000 * cntExs l) (.returned (.tuple #[])) wr by
        refine ⟨rfl, obk, ?_, Kk.out, Ok.out⟩
        have g := Gk.out
        have hkn : l.length ≤ k := by rw [← HN.out]; omega
        rw [List.take_of_length_le hkn, rput_rc, rc_rc, Bool.true_and, HN.out] at g
        exact g)
      go_wp2_with fail
      go_returns
      exact HX.out

set_option maxRecDepth 100000 in
set_option maxHeartbeats 400000 in
theorem rexpr_succ {B : Nat} {W : World} {d : Nat}
    (ih : ∀ (t : Ex) (cs : List Value) (w : World) (p : Nat) (ob : Option Nat) (x : Option (Option (List UInt8))) (a : Int) (L : Nat), ExAt B W d t cs → RwIn B W w p ob x a L → 0 ≤ a → a ≤ 101 → L + 1000000 * cntEx t ≤ 1000000000000 →
      Calls Try.prog 110 #[.pointer (some ⟨p, 0, none⟩), .agg cs.toArray] w (ROut B W w p ob (rc (fitEx t a) x (encEx t)) a (L + 1000000 * cntEx t)))
    (t : Ex) (cs : List Value) (w : World) (p : Nat) (ob : Option Nat) (x : Option (Option (List UInt8))) (a : Int) (L : Nat) (hx : ExAt B W (d + 1) t cs) (h : RwIn B W w p ob x a L) (h0 : 0 ≤ a) (h1 : a ≤ 101) (hL : L + 1000000 * cntEx t ≤ 1000000000000) :
    Calls Try.prog 110 #[.pointer (some ⟨p, 0, none⟩), .agg cs.toArray] w (ROut B W w p ob (rc (fitEx t a) x (encEx t)) a (L + 1000000 * cntEx t)) := by
  have IH := Lib.hid ih
  clear ih
  obtain ⟨op, nn, s, ks⟩ := t
  obtain ⟨vk, rfl, _, _, hs, hk⟩ := hx
  obtain ⟨x1, m1, c1, rfl⟩ := hk.slice
  have Hk := Lib.hid hk
  clear hs hk
  have C := Lib.hid (show Kp (fun b => b = p ∨ some b = ob) w (w.alloc (.cells #[.int .i64 op, .int .i64 nn, .string s, .slice x1 m1 c1] 132)) ∧ ∀ k, ob = some k → ob = some k ∨ w.heap.size ≤ k from ⟨(Kp.refl _ w).alloc _, fun _ h => .inl h⟩)
  have LB := Lib.hid (Loc.newR h [.int .i64 op, .int .i64 nn, .string s, .slice x1 m1 c1] 132)
  have G := Lib.hid (h.alloc (.cells #[.int .i64 op, .int .i64 nn, .string s, .slice x1 m1 c1] 132))
  simp only [cntEx] at hL
  have HL := Lib.hid hL
  clear h hL
  by_cases hle : a ≤ 100
  · have HA := Lib.hid (And.intro h0 hle)
    have HF := Lib.hid (show fitEx (.mk op nn s ks) a = (fitExs ks (a + 1)) by simp [fitEx, hle])
    clear hle h1
    go_enter Try.func110, Try.ntmps110
    go_wp2_with fail
    refine (rin_ok G.out HA.out.1 HA.out.2).mono ?_
    rintro e0 w0 ⟨rfl, g0, k0⟩
    have C0 := Lib.hid (chain C.out.1 C.out.2 k0 (fun k hk => .inl hk))
    have L0 := Lib.hid (LB.out.next k0 (fun k hk => .inl hk))
    have c0 := L0.out.blk.cell
    have G0 := Lib.hid g0
    clear g0 k0
    go_wp2_with fail
    refine (rnum_in G0.out _).mono ?_
    rintro e1 w1 ⟨rfl, ob1, g1, k1, o1⟩
    have C1 := Lib.hid (chain C0.out.1 C0.out.2 k1 o1)
    have L1 := Lib.hid (L0.out.next k1 o1)
    have c1 := L1.out.blk.cell
    have G1 := Lib.hid g1
    clear g1 k1 o1 c0
    go_wp2_with fail
    refine (rnum_in G1.out _).mono ?_
    rintro e2 w2 ⟨rfl, ob2, g2, k2, o2⟩
    have C2 := Lib.hid (chain C1.out.1 C1.out.2 k2 o2)
    have L2 := Lib.hid (L1.out.next k2 o2)
    have c2 := L2.out.blk.cell
    have G2 := Lib.hid g2
    clear g2 k2 o2 c1
    go_wp2_with fail
    refine (rtext_in G2.out _ (by have h1 := HL.out; omega)).mono ?_
    rintro e3 w3 ⟨rfl, ob3, g3, k3, o3⟩
    have C3 := Lib.hid (chain C2.out.1 C2.out.2 k3 o3)
    have L3 := Lib.hid (L2.out.next k3 o3)
    have c3 := L3.out.blk.cell
    have G3 := Lib.hid g3
    clear g3 k3 o3 c2
    go_wp2_with fail
    refine (rexprs IH.out _ _ _ _ _ _ _ _ Hk.out G3.out (by have := HA.out; omega) (by have := HA.out; omega) (by have h1 := HL.out; omega)).mono ?_
    rintro e4 w4 ⟨rfl, ob4, g4, k4, o4⟩
    have C4 := Lib.hid (chain C3.out.1 C3.out.2 k4 o4)
    have L4 := Lib.hid (L3.out.next k4 o4)
    have c4 := L4.out.blk.cell
    have G4 := Lib.hid g4
    clear g4 k4 o4 c3
    obtain ⟨b0, b1, b2⟩ := ROut.back G4.out C4.out.1 C4.out.2
    have X := Lib.hid (b2.to (x' := rc (fitEx (.mk op nn s ks) a) x (encEx (.mk op nn s ks))) (L' := L + 1000000 * (1 + cntExs ks)) (by rw [HF.out, encEx_mk]; simp only [rput_rc, rc_rc, Bool.true_and]) (by omega))
    have hA0 := HA.out.1
    have hA1 := HA.out.2
    clear b2
    go_wp2_with fail
    go_returns
    exact X.out
  · obtain rfl : a = 101 := by omega
    have HF := Lib.hid (show fitEx (.mk op nn s ks) 101 = false by simp [fitEx])
    clear hle h1 h0
    go_enter Try.func110, Try.ntmps110
    go_wp2_with fail
    refine (rin_deep G.out (by decide) (by decide)).mono ?_
    rintro e0 w0 ⟨rfl, g0, k0⟩
    have C0 := Lib.hid (chain C.out.1 C.out.2 k0 (fun k hk => .inl hk))
    obtain ⟨b0, b1, b2⟩ := ROut.back g0 C0.out.1 C0.out.2
    have X := Lib.hid (b2.to (x' := rc (fitEx (.mk op nn s ks) 101) x (encEx (.mk op nn s ks))) (L' := L + 1000000 * (1 + cntExs ks)) (by rw [HF.out]; rfl) (by omega))
    clear b2 g0 k0
    go_wp2_with fail
    go_returns
    exact X.out
theorem rexpr {B : Nat} {W : World} (d : Nat) : ∀ (t : Ex) (cs : List Value) (w : World) (p : Nat) (ob : Option Nat) (x : Option (Option (List UInt8))) (a : Int) (L : Nat), ExAt B W d t cs → RwIn B W w p ob x a L → 0 ≤ a → a ≤ 101 → L + 1000000 * cntEx t ≤ 1000000000000 →
      Calls Try.prog 110 #[.pointer (some ⟨p, 0, none⟩), .agg cs.toArray] w (ROut B W w p ob (rc (fitEx t a) x (encEx t)) a (L + 1000000 * cntEx t)) := by
  induction d with
  | zero => intro _ _ _ _ _ _ _ _ h; exact h.elim
  | succ d ih => exact rexpr_succ ih

end Go.Proofs.Ytpopgnengimieaa
