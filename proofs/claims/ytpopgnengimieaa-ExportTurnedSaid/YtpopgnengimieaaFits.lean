/- Whether a unit is too deep: the program's functions. -/
import Derived.Test.YtpopgnengimieaaEnc
namespace Go.Proofs.Ytpopgnengimieaa
open Go.RowKit

/-- what came in lies as it did in W, below B -/
structure In (B : Nat) (W w : World) : Prop where
  bel : Below B W w
  le : B ≤ w.heap.size
/-- new blocks alone -/
def Nw (w w' : World) : Prop := Kp (fun _ => False) w w'
theorem Nw.refl (w : World) : Nw w w := Kp.refl _ w
theorem Nw.trans {a b c : World} (h : Nw a b) (k : Nw b c) : Nw a c := Kp.trans h k (fun _ _ x => x)
theorem Nw.alloc {a w : World} (h : Nw a w) (o : Obj) : Nw a (w.alloc o) := Kp.alloc h o
theorem Nw.drew {a w : World} (h : Nw a w) : Nw a w.drew := Kp.drew h
theorem Nw.new (w : World) (o : Obj) : Nw w (w.alloc o) := (Nw.refl w).alloc o
theorem Nw.keeps {w w' : World} (h : Nw w w') {p : Addr} {v : Value} (hv : w.cell? p = some v) : w'.cell? p = some v := Kp.keeps h hv (fun x => x)
theorem In.nw {B : Nat} {W w w' : World} (h : In B W w) (k : Nw w w') : In B W w' :=
  ⟨h.bel.trans (Kp.below k h.le (fun _ _ x => x)), Nat.le_trans h.le k.size⟩
theorem In.alloc {B : Nat} {W w : World} (h : In B W w) (o : Obj) : In B W (w.alloc o) := h.nw (Nw.new w o)
theorem Blk.nw {w w' : World} {b : Nat} {cs : List Value} {t : TypeId} (h : Blk w b cs t) (k : Nw w w') : Blk w' b cs t := h.kp k (fun x => x)

theorem call_enter {P : Program} {f : FuncId} {fn : Func} {c : Code} (hf : P.funcs[f]? = some fn) (hname : (fn.name == "runtime.NumGoroutine") = false) (hb : fn.body = some c) (args : Array Value) (w : World) :
    (callFunc f args).run P w = .ok (.enter f args) w := by
  have h1 : fn.name ≠ "runtime.NumGoroutine" := by simpa using hname
  simp [callFunc, hf, h1, hb]

mutual
def fitTy : Ty → Int → Bool
  | .mk _ _ _ la lr, a => decide (a ≤ 100) && (fitTys la (a + 1) && fitTys lr (a + 1))
def fitTys : List Ty → Int → Bool
  | [], _ => true
  | t :: r, a => fitTy t a && fitTys r a
end
mutual
def fitEx : Ex → Int → Bool
  | .mk _ _ _ ks, a => decide (a ≤ 100) && fitExs ks (a + 1)
def fitExs : List Ex → Int → Bool
  | [], _ => true
  | t :: r, a => fitEx t a && fitExs r a
end
mutual
def fitSt : St → Int → Bool
  | .mk _ _ es bs ls, a => decide (a ≤ 100) && (fitExs es (a + 1) && (fitSts bs (a + 1) && fitSts ls (a + 1)))
def fitSts : List St → Int → Bool
  | [], _ => true
  | t :: r, a => fitSt t a && fitSts r a
end
theorem fitTys_any (a : Int) : ∀ l : List Ty, l.any (fun t => !fitTy t a) = !fitTys l a
  | [] => rfl
  | t :: r => by simp [fitTys, fitTys_any a r]
theorem fitExs_any (a : Int) : ∀ l : List Ex, l.any (fun t => !fitEx t a) = !fitExs l a
  | [] => rfl
  | t :: r => by simp [fitExs, fitExs_any a r]
theorem fitSts_any (a : Int) : ∀ l : List St, l.any (fun t => !fitSt t a) = !fitSts l a
  | [] => rfl
  | t :: r => by simp [fitSts, fitSts_any a r]

def IdxPost (w : World) (any : Bool) (e : Ending) (w' : World) : Prop := ∃ r : Int, e = .returned (.int .i64 r) ∧ (any = true → 0 ≤ r) ∧ (any = false → r = -1) ∧ Nw w w'
def BoolPost (w : World) (b : Bool) (e : Ending) (w' : World) : Prop := e = .returned (.bool b) ∧ Nw w w'
theorem any_take {α : Type} {f : α → Bool} {l : List α} {k : Nat} (h : k < l.length) (h1 : (l.take k).any f = false) (h2 : f l[k] = false) : (l.take (k + 1)).any f = false := by
  rw [List.take_succ_eq_append_getElem h, List.any_append, h1]; simp [h2]
theorem any_at {α : Type} {f : α → Bool} {l : List α} {k : Nat} (h : k < l.length) (h2 : f l[k] = true) : l.any f = true := List.any_eq_true.2 ⟨_, List.getElem_mem h, h2⟩
theorem any_all {α : Type} {f : α → Bool} {l : List α} {k : Nat} (hk : k = l.length) (h1 : (l.take k).any f = false) : l.any f = false := by
  rwa [List.take_of_length_le (by omega)] at h1

set_option maxRecDepth 100000 in
set_option maxHeartbeats 400000 in
theorem index_Tyc {B : Nat} {W : World} {d : Nat} (K : FuncId) (hK : ∀ (args : Array Value) (w : World), (callFunc K args).run Try.prog w = .ok (.enter K args) w) (cap : Addr) (f : Ty → Bool) (w : World)
    (one : ∀ (t : Ty) (cs : List Value) (w' : World), TyAt B W d t cs → In B W w' → Nw w w' → Calls Try.prog K #[.agg cs.toArray, .pointer (some cap)] w' (BoolPost w' (f t)))
    (l : List Ty) (v : Value) (hl : SlB B W 5 (TyAt B W d) l v) (h : In B W w) :
    Calls Try.prog 103 #[v, .func (.func K) #[] #[.pointer (some cap)]] w (IdxPost w (l.any f)) := by
  obtain ⟨x, c, rfl, hlen, hel⟩ := hl
  have G := Lib.hid h
  have HE := Lib.hid hel
  have ONE := Lib.hid one
  clear h hel one
  obtain ⟨n, hn⟩ : ∃ n, n = l.length := ⟨_, rfl⟩
  rw [← hn] at hlen ⊢
  have HN := Lib.hid hn
  clear hn
  go_enter Try.func103, Try.ntmps103
  go_wp2_with fail
  go_loopw [5, 8] (fun _ i wr => ∃ k : Nat, k ≤ n ∧ i = .int .i64 k ∧ Nw w wr ∧ (l.take k).any f = false) (fun _ i _ => n - (intOf i).toNat)
  case atStart => exact ⟨0, Nat.zero_le _, rfl, Nw.refl w, by simp⟩
  case round =>
    obtain ⟨k, hk, rfl, g, hany⟩ := hrel
    have Gk := Lib.hid g
    have Hany := Lib.hid hany
    clear g hany
    by_cases hlt : k < n
    · have hkl : k < l.length := by rw [← HN.out]; exact hlt
      obtain ⟨b, o, rfl, hb, he⟩ := HE.out (by intro e; rw [e] at hkl; simp at hkl)
      obtain ⟨cs, hcl, hcc, hce⟩ := he k hkl
      obtain ⟨q0, q1, q2, q3, q3l, q3c, q4, q4l, q4c, rfl⟩ := shape_Ty hce
      have f0 := ((G.out.nw Gk.out).bel.cell (p := ⟨b, o + k * 5 + 0, none⟩) hb).trans (hcc 0 (by simp))
      have f1 := ((G.out.nw Gk.out).bel.cell (p := ⟨b, o + k * 5 + 1, none⟩) hb).trans (hcc 1 (by simp))
      have f2 := ((G.out.nw Gk.out).bel.cell (p := ⟨b, o + k * 5 + 2, none⟩) hb).trans (hcc 2 (by simp))
      have f3 := ((G.out.nw Gk.out).bel.cell (p := ⟨b, o + k * 5 + 3, none⟩) hb).trans (hcc 3 (by simp))
      have f4 := ((G.out.nw Gk.out).bel.cell (p := ⟨b, o + k * 5 + 4, none⟩) hb).trans (hcc 4 (by simp))
      simp only [List.getElem?_cons_zero, List.getElem?_cons_succ, Nat.add_zero] at f0 f1 f2 f3 f4
      have HCE := Lib.hid hce
      clear he hcc hce
      cases hf : f (l[k]'hkl) with
      | false =>
        have HR := Lib.hid (any_take hkl Hany.out hf)
        have HF := Lib.hid hf
        clear hf
        go_wp2_with fail
        refine (ONE.out _ _ _ HCE.out (G.out.nw Gk.out) Gk.out).mono ?_
        rintro e2 w2 ⟨rfl, k2⟩
        rw [HF.out]
        have K2 := Lib.hid (Gk.out.trans k2)
        clear k2
        go_wp2_with fail
        go_roundw
        case rel => exact ⟨k + 1, by omega, by go_num, K2.out, HR.out⟩
        case measure => simp [intOf]; omega
      | true =>
        have HA := Lib.hid (any_at hkl hf)
        have HF := Lib.hid hf
        clear hf
        go_wp2_with fail
        refine (ONE.out _ _ _ HCE.out (G.out.nw Gk.out) Gk.out).mono ?_
        rintro e2 w2 ⟨rfl, k2⟩
        rw [HF.out]
        have K2 := Lib.hid (Gk.out.trans k2)
        clear k2
        have HX := Lib.hid (show IdxPost w (l.any f) (.returned (.int .i64 k)) w2 from ⟨k, rfl, (fun _ => by omega), (fun e => by rw [HA.out] at e; cases e), K2.out⟩)
        go_wp2_with fail
        go_returns
        exact HX.out
    · have ha : l.any f = false := any_all (k := k) (by rw [← HN.out]; omega) Hany.out
      have HX := Lib.hid (show IdxPost w (l.any f) (.returned (.int .i64 (-1))) wr from ⟨-1, rfl, (fun e => by rw [ha] at e; cases e), fun _ => rfl, Gk.out⟩)
      clear ha
      go_wp2_with fail
      go_returns
      exact HX.out
set_option maxRecDepth 100000 in
set_option maxHeartbeats 400000 in
theorem contains_Tyc {B : Nat} {W : World} {d : Nat} (K : FuncId) (hK : ∀ (args : Array Value) (w : World), (callFunc K args).run Try.prog w = .ok (.enter K args) w) (cap : Addr) (f : Ty → Bool) (w : World)
    (one : ∀ (t : Ty) (cs : List Value) (w' : World), TyAt B W d t cs → In B W w' → Nw w w' → Calls Try.prog K #[.agg cs.toArray, .pointer (some cap)] w' (BoolPost w' (f t)))
    (l : List Ty) (v : Value) (hl : SlB B W 5 (TyAt B W d) l v) (h : In B W w) :
    Calls Try.prog 78 #[v, .func (.func K) #[] #[.pointer (some cap)]] w (BoolPost w (l.any f)) := by
  have I := Lib.hid (index_Tyc K hK cap f w one l v hl h)
  obtain ⟨x, m, c, rfl⟩ := hl.slice
  clear one hl h hK
  go_enter Try.func78, Try.ntmps78
  go_wp2_with fail
  refine I.out.mono ?_
  rintro e2 w2 ⟨r, rfl, h1, h2, k2⟩
  have K2 := Lib.hid k2
  cases ha : l.any f with
  | true =>
    have hr := h1 ha
    have HA := Lib.hid ha
    clear h1 h2 k2 ha
    go_wp2_with fail
    go_returns
    exact ⟨by rw [HA.out]; rfl, K2.out⟩
  | false =>
    have hr := h2 ha
    have HA := Lib.hid ha
    subst hr
    clear h1 h2 k2 ha
    go_wp2_with fail
    go_returns
    exact ⟨by rw [HA.out]; rfl, K2.out⟩

set_option maxRecDepth 100000 in
set_option maxHeartbeats 400000 in
theorem index_Exc {B : Nat} {W : World} {d : Nat} (K : FuncId) (hK : ∀ (args : Array Value) (w : World), (callFunc K args).run Try.prog w = .ok (.enter K args) w) (cap : Addr) (f : Ex → Bool) (w : World)
    (one : ∀ (t : Ex) (cs : List Value) (w' : World), ExAt B W d t cs → In B W w' → Nw w w' → Calls Try.prog K #[.agg cs.toArray, .pointer (some cap)] w' (BoolPost w' (f t)))
    (l : List Ex) (v : Value) (hl : SlB B W 4 (ExAt B W d) l v) (h : In B W w) :
    Calls Try.prog 104 #[v, .func (.func K) #[] #[.pointer (some cap)]] w (IdxPost w (l.any f)) := by
  obtain ⟨x, c, rfl, hlen, hel⟩ := hl
  have G := Lib.hid h
  have HE := Lib.hid hel
  have ONE := Lib.hid one
  clear h hel one
  obtain ⟨n, hn⟩ : ∃ n, n = l.length := ⟨_, rfl⟩
  rw [← hn] at hlen ⊢
  have HN := Lib.hid hn
  clear hn
  go_enter Try.func104, Try.ntmps104
  go_wp2_with fail
  go_loopw [5, 8] (fun _ i wr => ∃ k : Nat, k ≤ n ∧ i = .int .i64 k ∧ Nw w wr ∧ (l.take k).any f = false) (fun _ i _ => n - (intOf i).toNat)
  case atStart => exact ⟨0, Nat.zero_le _, rfl, Nw.refl w, by simp⟩
  case round =>
    obtain ⟨k, hk, rfl, g, hany⟩ := hrel
    have Gk := Lib.hid g
    have Hany := Lib.hid hany
    clear g hany
    by_cases hlt : k < n
    · have hkl : k < l.length := by rw [← HN.out]; exact hlt
      obtain ⟨b, o, rfl, hb, he⟩ := HE.out (by intro e; rw [e] at hkl; simp at hkl)
      obtain ⟨cs, hcl, hcc, hce⟩ := he k hkl
      obtain ⟨q0, q1, q2, q3, q3l, q3c, rfl⟩ := shape_Ex hce
      have f0 := ((G.out.nw Gk.out).bel.cell (p := ⟨b, o + k * 4 + 0, none⟩) hb).trans (hcc 0 (by simp))
      have f1 := ((G.out.nw Gk.out).bel.cell (p := ⟨b, o + k * 4 + 1, none⟩) hb).trans (hcc 1 (by simp))
      have f2 := ((G.out.nw Gk.out).bel.cell (p := ⟨b, o + k * 4 + 2, none⟩) hb).trans (hcc 2 (by simp))
      have f3 := ((G.out.nw Gk.out).bel.cell (p := ⟨b, o + k * 4 + 3, none⟩) hb).trans (hcc 3 (by simp))
      simp only [List.getElem?_cons_zero, List.getElem?_cons_succ, Nat.add_zero] at f0 f1 f2 f3
      have HCE := Lib.hid hce
      clear he hcc hce
      cases hf : f (l[k]'hkl) with
      | false =>
        have HR := Lib.hid (any_take hkl Hany.out hf)
        have HF := Lib.hid hf
        clear hf
        go_wp2_with fail
        refine (ONE.out _ _ _ HCE.out (G.out.nw Gk.out) Gk.out).mono ?_
        rintro e2 w2 ⟨rfl, k2⟩
        rw [HF.out]
        have K2 := Lib.hid (Gk.out.trans k2)
        clear k2
        go_wp2_with fail
        go_roundw
        case rel => exact ⟨k + 1, by omega, by go_num, K2.out, HR.out⟩
        case measure => simp [intOf]; omega
      | true =>
        have HA := Lib.hid (any_at hkl hf)
        have HF := Lib.hid hf
        clear hf
        go_wp2_with fail
        refine (ONE.out _ _ _ HCE.out (G.out.nw Gk.out) Gk.out).mono ?_
        rintro e2 w2 ⟨rfl, k2⟩
        rw [HF.out]
        have K2 := Lib.hid (Gk.out.trans k2)
        clear k2
        have HX := Lib.hid (show IdxPost w (l.any f) (.returned (.int .i64 k)) w2 from ⟨k, rfl, (fun _ => by omega), (fun e => by rw [HA.out] at e; cases e), K2.out⟩)
        go_wp2_with fail
        go_returns
        exact HX.out
    · have ha : l.any f = false := any_all (k := k) (by rw [← HN.out]; omega) Hany.out
      have HX := Lib.hid (show IdxPost w (l.any f) (.returned (.int .i64 (-1))) wr from ⟨-1, rfl, (fun e => by rw [ha] at e; cases e), fun _ => rfl, Gk.out⟩)
      clear ha
      go_wp2_with fail
      go_returns
      exact HX.out
set_option maxRecDepth 100000 in
set_option maxHeartbeats 400000 in
theorem contains_Exc {B : Nat} {W : World} {d : Nat} (K : FuncId) (hK : ∀ (args : Array Value) (w : World), (callFunc K args).run Try.prog w = .ok (.enter K args) w) (cap : Addr) (f : Ex → Bool) (w : World)
    (one : ∀ (t : Ex) (cs : List Value) (w' : World), ExAt B W d t cs → In B W w' → Nw w w' → Calls Try.prog K #[.agg cs.toArray, .pointer (some cap)] w' (BoolPost w' (f t)))
    (l : List Ex) (v : Value) (hl : SlB B W 4 (ExAt B W d) l v) (h : In B W w) :
    Calls Try.prog 84 #[v, .func (.func K) #[] #[.pointer (some cap)]] w (BoolPost w (l.any f)) := by
  have I := Lib.hid (index_Exc K hK cap f w one l v hl h)
  obtain ⟨x, m, c, rfl⟩ := hl.slice
  clear one hl h hK
  go_enter Try.func84, Try.ntmps84
  go_wp2_with fail
  refine I.out.mono ?_
  rintro e2 w2 ⟨r, rfl, h1, h2, k2⟩
  have K2 := Lib.hid k2
  cases ha : l.any f with
  | true =>
    have hr := h1 ha
    have HA := Lib.hid ha
    clear h1 h2 k2 ha
    go_wp2_with fail
    go_returns
    exact ⟨by rw [HA.out]; rfl, K2.out⟩
  | false =>
    have hr := h2 ha
    have HA := Lib.hid ha
    subst hr
    clear h1 h2 k2 ha
    go_wp2_with fail
    go_returns
    exact ⟨by rw [HA.out]; rfl, K2.out⟩

set_option maxRecDepth 100000 in
set_option maxHeartbeats 400000 in
theorem index_Stc {B : Nat} {W : World} {d : Nat} (K : FuncId) (hK : ∀ (args : Array Value) (w : World), (callFunc K args).run Try.prog w = .ok (.enter K args) w) (cap : Addr) (f : St → Bool) (w : World)
    (one : ∀ (t : St) (cs : List Value) (w' : World), StAt B W d t cs → In B W w' → Nw w w' → Calls Try.prog K #[.agg cs.toArray, .pointer (some cap)] w' (BoolPost w' (f t)))
    (l : List St) (v : Value) (hl : SlB B W 5 (StAt B W d) l v) (h : In B W w) :
    Calls Try.prog 82 #[v, .func (.func K) #[] #[.pointer (some cap)]] w (IdxPost w (l.any f)) := by
  obtain ⟨x, c, rfl, hlen, hel⟩ := hl
  have G := Lib.hid h
  have HE := Lib.hid hel
  have ONE := Lib.hid one
  clear h hel one
  obtain ⟨n, hn⟩ : ∃ n, n = l.length := ⟨_, rfl⟩
  rw [← hn] at hlen ⊢
  have HN := Lib.hid hn
  clear hn
  go_enter Try.func82, Try.ntmps82
  go_wp2_with fail
  go_loopw [5, 8] (fun _ i wr => ∃ k : Nat, k ≤ n ∧ i = .int .i64 k ∧ Nw w wr ∧ (l.take k).any f = false) (fun _ i _ => n - (intOf i).toNat)
  case atStart => exact ⟨0, Nat.zero_le _, rfl, Nw.refl w, by simp⟩
  case round =>
    obtain ⟨k, hk, rfl, g, hany⟩ := hrel
    have Gk := Lib.hid g
    have Hany := Lib.hid hany
    clear g hany
    by_cases hlt : k < n
    · have hkl : k < l.length := by rw [← HN.out]; exact hlt
      obtain ⟨b, o, rfl, hb, he⟩ := HE.out (by intro e; rw [e] at hkl; simp at hkl)
      obtain ⟨cs, hcl, hcc, hce⟩ := he k hkl
      obtain ⟨q0, q1, q2, q2l, q2c, q3, q3l, q3c, q4, q4l, q4c, rfl⟩ := shape_St hce
      have f0 := ((G.out.nw Gk.out).bel.cell (p := ⟨b, o + k * 5 + 0, none⟩) hb).trans (hcc 0 (by simp))
      have f1 := ((G.out.nw Gk.out).bel.cell (p := ⟨b, o + k * 5 + 1, none⟩) hb).trans (hcc 1 (by simp))
      have f2 := ((G.out.nw Gk.out).bel.cell (p := ⟨b, o + k * 5 + 2, none⟩) hb).trans (hcc 2 (by simp))
      have f3 := ((G.out.nw Gk.out).bel.cell (p := ⟨b, o + k * 5 + 3, none⟩) hb).trans (hcc 3 (by simp))
      have f4 := ((G.out.nw Gk.out).bel.cell (p := ⟨b, o + k * 5 + 4, none⟩) hb).trans (hcc 4 (by simp))
      simp only [List.getElem?_cons_zero, List.getElem?_cons_succ, Nat.add_zero] at f0 f1 f2 f3 f4
      have HCE := Lib.hid hce
      clear he hcc hce
      cases hf : f (l[k]'hkl) with
      | false =>
        have HR := Lib.hid (any_take hkl Hany.out hf)
        have HF := Lib.hid hf
        clear hf
        go_wp2_with fail
        refine (ONE.out _ _ _ HCE.out (G.out.nw Gk.out) Gk.out).mono ?_
        rintro e2 w2 ⟨rfl, k2⟩
        rw [HF.out]
        have K2 := Lib.hid (Gk.out.trans k2)
        clear k2
        go_wp2_with fail
        go_roundw
        case rel => exact ⟨k + 1, by omega, by go_num, K2.out, HR.out⟩
        case measure => simp [intOf]; omega
      | true =>
        have HA := Lib.hid (any_at hkl hf)
        have HF := Lib.hid hf
        clear hf
        go_wp2_with fail
        refine (ONE.out _ _ _ HCE.out (G.out.nw Gk.out) Gk.out).mono ?_
        rintro e2 w2 ⟨rfl, k2⟩
        rw [HF.out]
        have K2 := Lib.hid (Gk.out.trans k2)
        clear k2
        have HX := Lib.hid (show IdxPost w (l.any f) (.returned (.int .i64 k)) w2 from ⟨k, rfl, (fun _ => by omega), (fun e => by rw [HA.out] at e; cases e), K2.out⟩)
        go_wp2_with fail
        go_returns
        exact HX.out
    · have ha : l.any f = false := any_all (k := k) (by rw [← HN.out]; omega) Hany.out
      have HX := Lib.hid (show IdxPost w (l.any f) (.returned (.int .i64 (-1))) wr from ⟨-1, rfl, (fun e => by rw [ha] at e; cases e), fun _ => rfl, Gk.out⟩)
      clear ha
      go_wp2_with fail
      go_returns
      exact HX.out
set_option maxRecDepth 100000 in
set_option maxHeartbeats 400000 in
theorem contains_Stc {B : Nat} {W : World} {d : Nat} (K : FuncId) (hK : ∀ (args : Array Value) (w : World), (callFunc K args).run Try.prog w = .ok (.enter K args) w) (cap : Addr) (f : St → Bool) (w : World)
    (one : ∀ (t : St) (cs : List Value) (w' : World), StAt B W d t cs → In B W w' → Nw w w' → Calls Try.prog K #[.agg cs.toArray, .pointer (some cap)] w' (BoolPost w' (f t)))
    (l : List St) (v : Value) (hl : SlB B W 5 (StAt B W d) l v) (h : In B W w) :
    Calls Try.prog 54 #[v, .func (.func K) #[] #[.pointer (some cap)]] w (BoolPost w (l.any f)) := by
  have I := Lib.hid (index_Stc K hK cap f w one l v hl h)
  obtain ⟨x, m, c, rfl⟩ := hl.slice
  clear one hl h hK
  go_enter Try.func54, Try.ntmps54
  go_wp2_with fail
  refine I.out.mono ?_
  rintro e2 w2 ⟨r, rfl, h1, h2, k2⟩
  have K2 := Lib.hid k2
  cases ha : l.any f with
  | true =>
    have hr := h1 ha
    have HA := Lib.hid ha
    clear h1 h2 k2 ha
    go_wp2_with fail
    go_returns
    exact ⟨by rw [HA.out]; rfl, K2.out⟩
  | false =>
    have hr := h2 ha
    have HA := Lib.hid ha
    subst hr
    clear h1 h2 k2 ha
    go_wp2_with fail
    go_returns
    exact ⟨by rw [HA.out]; rfl, K2.out⟩

set_option maxRecDepth 100000 in
set_option maxHeartbeats 400000 in
theorem index_Stp {B : Nat} {W : World} {d : Nat} (K : FuncId) (hK : ∀ (args : Array Value) (w : World), (callFunc K args).run Try.prog w = .ok (.enter K args) w) (f : St → Bool) (w : World)
    (one : ∀ (t : St) (cs : List Value) (w' : World), StAt B W d t cs → In B W w' → Nw w w' → Calls Try.prog K #[.agg cs.toArray] w' (BoolPost w' (f t)))
    (l : List St) (v : Value) (hl : SlB B W 5 (StAt B W d) l v) (h : In B W w) :
    Calls Try.prog 82 #[v, .func (.func K) #[] #[]] w (IdxPost w (l.any f)) := by
  obtain ⟨x, c, rfl, hlen, hel⟩ := hl
  have G := Lib.hid h
  have HE := Lib.hid hel
  have ONE := Lib.hid one
  clear h hel one
  obtain ⟨n, hn⟩ : ∃ n, n = l.length := ⟨_, rfl⟩
  rw [← hn] at hlen ⊢
  have HN := Lib.hid hn
  clear hn
  go_enter Try.func82, Try.ntmps82
  go_wp2_with fail
  go_loopw [5, 8] (fun _ i wr => ∃ k : Nat, k ≤ n ∧ i = .int .i64 k ∧ Nw w wr ∧ (l.take k).any f = false) (fun _ i _ => n - (intOf i).toNat)
  case atStart => exact ⟨0, Nat.zero_le _, rfl, Nw.refl w, by simp⟩
  case round =>
    obtain ⟨k, hk, rfl, g, hany⟩ := hrel
    have Gk := Lib.hid g
    have Hany := Lib.hid hany
    clear g hany
    by_cases hlt : k < n
    · have hkl : k < l.length := by rw [← HN.out]; exact hlt
      obtain ⟨b, o, rfl, hb, he⟩ := HE.out (by intro e; rw [e] at hkl; simp at hkl)
      obtain ⟨cs, hcl, hcc, hce⟩ := he k hkl
      obtain ⟨q0, q1, q2, q2l, q2c, q3, q3l, q3c, q4, q4l, q4c, rfl⟩ := shape_St hce
      have f0 := ((G.out.nw Gk.out).bel.cell (p := ⟨b, o + k * 5 + 0, none⟩) hb).trans (hcc 0 (by simp))
      have f1 := ((G.out.nw Gk.out).bel.cell (p := ⟨b, o + k * 5 + 1, none⟩) hb).trans (hcc 1 (by simp))
      have f2 := ((G.out.nw Gk.out).bel.cell (p := ⟨b, o + k * 5 + 2, none⟩) hb).trans (hcc 2 (by simp))
      have f3 := ((G.out.nw Gk.out).bel.cell (p := ⟨b, o + k * 5 + 3, none⟩) hb).trans (hcc 3 (by simp))
      have f4 := ((G.out.nw Gk.out).bel.cell (p := ⟨b, o + k * 5 + 4, none⟩) hb).trans (hcc 4 (by simp))
      simp only [List.getElem?_cons_zero, List.getElem?_cons_succ, Nat.add_zero] at f0 f1 f2 f3 f4
      have HCE := Lib.hid hce
      clear he hcc hce
      cases hf : f (l[k]'hkl) with
      | false =>
        have HR := Lib.hid (any_take hkl Hany.out hf)
        have HF := Lib.hid hf
        clear hf
        go_wp2_with fail
        refine (ONE.out _ _ _ HCE.out (G.out.nw Gk.out) Gk.out).mono ?_
        rintro e2 w2 ⟨rfl, k2⟩
        rw [HF.out]
        have K2 := Lib.hid (Gk.out.trans k2)
        clear k2
        go_wp2_with fail
        go_roundw
        case rel => exact ⟨k + 1, by omega, by go_num, K2.out, HR.out⟩
        case measure => simp [intOf]; omega
      | true =>
        have HA := Lib.hid (any_at hkl hf)
        have HF := Lib.hid hf
        clear hf
        go_wp2_with fail
        refine (ONE.out _ _ _ HCE.out (G.out.nw Gk.out) Gk.out).mono ?_
        rintro e2 w2 ⟨rfl, k2⟩
        rw [HF.out]
        have K2 := Lib.hid (Gk.out.trans k2)
        clear k2
        have HX := Lib.hid (show IdxPost w (l.any f) (.returned (.int .i64 k)) w2 from ⟨k, rfl, (fun _ => by omega), (fun e => by rw [HA.out] at e; cases e), K2.out⟩)
        go_wp2_with fail
        go_returns
        exact HX.out
    · have ha : l.any f = false := any_all (k := k) (by rw [← HN.out]; omega) Hany.out
      have HX := Lib.hid (show IdxPost w (l.any f) (.returned (.int .i64 (-1))) wr from ⟨-1, rfl, (fun e => by rw [ha] at e; cases e), fun _ => rfl, Gk.out⟩)
      clear ha
      go_wp2_with fail
      go_returns
      exact HX.out
set_option maxRecDepth 100000 in
set_option maxHeartbeats 400000 in
theorem contains_Stp {B : Nat} {W : World} {d : Nat} (K : FuncId) (hK : ∀ (args : Array Value) (w : World), (callFunc K args).run Try.prog w = .ok (.enter K args) w) (f : St → Bool) (w : World)
    (one : ∀ (t : St) (cs : List Value) (w' : World), StAt B W d t cs → In B W w' → Nw w w' → Calls Try.prog K #[.agg cs.toArray] w' (BoolPost w' (f t)))
    (l : List St) (v : Value) (hl : SlB B W 5 (StAt B W d) l v) (h : In B W w) :
    Calls Try.prog 54 #[v, .func (.func K) #[] #[]] w (BoolPost w (l.any f)) := by
  have I := Lib.hid (index_Stp K hK f w one l v hl h)
  obtain ⟨x, m, c, rfl⟩ := hl.slice
  clear one hl h hK
  go_enter Try.func54, Try.ntmps54
  go_wp2_with fail
  refine I.out.mono ?_
  rintro e2 w2 ⟨r, rfl, h1, h2, k2⟩
  have K2 := Lib.hid k2
  cases ha : l.any f with
  | true =>
    have hr := h1 ha
    have HA := Lib.hid ha
    clear h1 h2 k2 ha
    go_wp2_with fail
    go_returns
    exact ⟨by rw [HA.out]; rfl, K2.out⟩
  | false =>
    have hr := h2 ha
    have HA := Lib.hid ha
    subst hr
    clear h1 h2 k2 ha
    go_wp2_with fail
    go_returns
    exact ⟨by rw [HA.out]; rfl, K2.out⟩

set_option maxRecDepth 100000 in
set_option maxHeartbeats 400000 in
theorem index_Fdp {B : Nat} {W : World} {d : Nat} (K : FuncId) (hK : ∀ (args : Array Value) (w : World), (callFunc K args).run Try.prog w = .ok (.enter K args) w) (f : Fd → Bool) (w : World)
    (one : ∀ (t : Fd) (cs : List Value) (w' : World), FdAt B W d t cs → In B W w' → Nw w w' → Calls Try.prog K #[.agg cs.toArray] w' (BoolPost w' (f t)))
    (l : List Fd) (v : Value) (hl : SlB B W 6 (FdAt B W d) l v) (h : In B W w) :
    Calls Try.prog 81 #[v, .func (.func K) #[] #[]] w (IdxPost w (l.any f)) := by
  obtain ⟨x, c, rfl, hlen, hel⟩ := hl
  have G := Lib.hid h
  have HE := Lib.hid hel
  have ONE := Lib.hid one
  clear h hel one
  obtain ⟨n, hn⟩ : ∃ n, n = l.length := ⟨_, rfl⟩
  rw [← hn] at hlen ⊢
  have HN := Lib.hid hn
  clear hn
  go_enter Try.func81, Try.ntmps81
  go_wp2_with fail
  go_loopw [5, 8] (fun _ i wr => ∃ k : Nat, k ≤ n ∧ i = .int .i64 k ∧ Nw w wr ∧ (l.take k).any f = false) (fun _ i _ => n - (intOf i).toNat)
  case atStart => exact ⟨0, Nat.zero_le _, rfl, Nw.refl w, by simp⟩
  case round =>
    obtain ⟨k, hk, rfl, g, hany⟩ := hrel
    have Gk := Lib.hid g
    have Hany := Lib.hid hany
    clear g hany
    by_cases hlt : k < n
    · have hkl : k < l.length := by rw [← HN.out]; exact hlt
      obtain ⟨b, o, rfl, hb, he⟩ := HE.out (by intro e; rw [e] at hkl; simp at hkl)
      obtain ⟨cs, hcl, hcc, hce⟩ := he k hkl
      obtain ⟨q0, q1, q2, q3, q4, q4l, q4c, q5, q5l, q5c, rfl⟩ := shape_Fd hce
      have f0 := ((G.out.nw Gk.out).bel.cell (p := ⟨b, o + k * 6 + 0, none⟩) hb).trans (hcc 0 (by simp))
      have f1 := ((G.out.nw Gk.out).bel.cell (p := ⟨b, o + k * 6 + 1, none⟩) hb).trans (hcc 1 (by simp))
      have f2 := ((G.out.nw Gk.out).bel.cell (p := ⟨b, o + k * 6 + 2, none⟩) hb).trans (hcc 2 (by simp))
      have f3 := ((G.out.nw Gk.out).bel.cell (p := ⟨b, o + k * 6 + 3, none⟩) hb).trans (hcc 3 (by simp))
      have f4 := ((G.out.nw Gk.out).bel.cell (p := ⟨b, o + k * 6 + 4, none⟩) hb).trans (hcc 4 (by simp))
      have f5 := ((G.out.nw Gk.out).bel.cell (p := ⟨b, o + k * 6 + 5, none⟩) hb).trans (hcc 5 (by simp))
      simp only [List.getElem?_cons_zero, List.getElem?_cons_succ, Nat.add_zero] at f0 f1 f2 f3 f4 f5
      have HCE := Lib.hid hce
      clear he hcc hce
      cases hf : f (l[k]'hkl) with
      | false =>
        have HR := Lib.hid (any_take hkl Hany.out hf)
        have HF := Lib.hid hf
        clear hf
        go_wp2_with fail
        refine (ONE.out _ _ _ HCE.out (G.out.nw Gk.out) Gk.out).mono ?_
        rintro e2 w2 ⟨rfl, k2⟩
        rw [HF.out]
        have K2 := Lib.hid (Gk.out.trans k2)
        clear k2
        go_wp2_with fail
        go_roundw
        case rel => exact ⟨k + 1, by omega, by go_num, K2.out, HR.out⟩
        case measure => simp [intOf]; omega
      | true =>
        have HA := Lib.hid (any_at hkl hf)
        have HF := Lib.hid hf
        clear hf
        go_wp2_with fail
        refine (ONE.out _ _ _ HCE.out (G.out.nw Gk.out) Gk.out).mono ?_
        rintro e2 w2 ⟨rfl, k2⟩
        rw [HF.out]
        have K2 := Lib.hid (Gk.out.trans k2)
        clear k2
        have HX := Lib.hid (show IdxPost w (l.any f) (.returned (.int .i64 k)) w2 from ⟨k, rfl, (fun _ => by omega), (fun e => by rw [HA.out] at e; cases e), K2.out⟩)
        go_wp2_with fail
        go_returns
        exact HX.out
    · have ha : l.any f = false := any_all (k := k) (by rw [← HN.out]; omega) Hany.out
      have HX := Lib.hid (show IdxPost w (l.any f) (.returned (.int .i64 (-1))) wr from ⟨-1, rfl, (fun e => by rw [ha] at e; cases e), fun _ => rfl, Gk.out⟩)
      clear ha
      go_wp2_with fail
      go_returns
      exact HX.out
set_option maxRecDepth 100000 in
set_option maxHeartbeats 400000 in
theorem contains_Fdp {B : Nat} {W : World} {d : Nat} (K : FuncId) (hK : ∀ (args : Array Value) (w : World), (callFunc K args).run Try.prog w = .ok (.enter K args) w) (f : Fd → Bool) (w : World)
    (one : ∀ (t : Fd) (cs : List Value) (w' : World), FdAt B W d t cs → In B W w' → Nw w w' → Calls Try.prog K #[.agg cs.toArray] w' (BoolPost w' (f t)))
    (l : List Fd) (v : Value) (hl : SlB B W 6 (FdAt B W d) l v) (h : In B W w) :
    Calls Try.prog 52 #[v, .func (.func K) #[] #[]] w (BoolPost w (l.any f)) := by
  have I := Lib.hid (index_Fdp K hK f w one l v hl h)
  obtain ⟨x, m, c, rfl⟩ := hl.slice
  clear one hl h hK
  go_enter Try.func52, Try.ntmps52
  go_wp2_with fail
  refine I.out.mono ?_
  rintro e2 w2 ⟨r, rfl, h1, h2, k2⟩
  have K2 := Lib.hid k2
  cases ha : l.any f with
  | true =>
    have hr := h1 ha
    have HA := Lib.hid ha
    clear h1 h2 k2 ha
    go_wp2_with fail
    go_returns
    exact ⟨by rw [HA.out]; rfl, K2.out⟩
  | false =>
    have hr := h2 ha
    have HA := Lib.hid ha
    subst hr
    clear h1 h2 k2 ha
    go_wp2_with fail
    go_returns
    exact ⟨by rw [HA.out]; rfl, K2.out⟩

set_option maxRecDepth 100000 in
set_option maxHeartbeats 400000 in
theorem clo_ty1 {B : Nat} {W : World} {d : Nat}
    (ih : ∀ (t : Ty) (cs : List Value) (a : Int) (w : World), TyAt B W d t cs → In B W w → 0 ≤ a → a ≤ 101 → Calls Try.prog 51 #[.agg cs.toArray, .int .i64 a] w (BoolPost w (fitTy t a)))
    (bx : Nat) (a : Int) (h0 : 0 ≤ a) (h1 : a ≤ 100) (t : Ty) (cs : List Value) (w : World) (hx : TyAt B W d t cs) (h : In B W w) (hc : w.cell? ⟨bx, 0, none⟩ = some (.int .i64 a)) :
    Calls Try.prog 79 #[.agg cs.toArray, .pointer (some ⟨bx, 0, none⟩)] w (BoolPost w (!fitTy t (a + 1))) := by
  obtain ⟨q0, q1, q2, q3, q3l, q3c, q4, q4l, q4c, rfl⟩ := shape_Ty hx
  have hlt := World.block_lt_of_cell? w _ hc
  have IH := Lib.hid (ih t _ (a + 1) (w.alloc (.cells #[.int .i64 q0, .string q1, .string q2, .slice q3 q3l q3c, .slice q4 q4l q4c] 41)) hx (h.alloc _) (by omega) (by omega))
  have hc' : (w.alloc (.cells #[.int .i64 q0, .string q1, .string q2, .slice q3 q3l q3c, .slice q4 q4l q4c] 41)).cell? ⟨bx, 0, none⟩ = some (.int .i64 a) := (Nw.new w _).keeps hc
  clear ih hx h hc
  go_enter Try.func79, Try.ntmps79
  go_wp2_with fail
  refine IH.out.mono ?_
  rintro e2 w2 ⟨rfl, k2⟩
  have K2 := Lib.hid ((Nw.new w _).trans k2)
  clear k2
  go_wp2_with fail
  go_returns
  exact ⟨rfl, K2.out⟩

set_option maxRecDepth 100000 in
set_option maxHeartbeats 400000 in
theorem clo_ty2 {B : Nat} {W : World} {d : Nat}
    (ih : ∀ (t : Ty) (cs : List Value) (a : Int) (w : World), TyAt B W d t cs → In B W w → 0 ≤ a → a ≤ 101 → Calls Try.prog 51 #[.agg cs.toArray, .int .i64 a] w (BoolPost w (fitTy t a)))
    (bx : Nat) (a : Int) (h0 : 0 ≤ a) (h1 : a ≤ 100) (t : Ty) (cs : List Value) (w : World) (hx : TyAt B W d t cs) (h : In B W w) (hc : w.cell? ⟨bx, 0, none⟩ = some (.int .i64 a)) :
    Calls Try.prog 80 #[.agg cs.toArray, .pointer (some ⟨bx, 0, none⟩)] w (BoolPost w (!fitTy t (a + 1))) := by
  obtain ⟨q0, q1, q2, q3, q3l, q3c, q4, q4l, q4c, rfl⟩ := shape_Ty hx
  have hlt := World.block_lt_of_cell? w _ hc
  have IH := Lib.hid (ih t _ (a + 1) (w.alloc (.cells #[.int .i64 q0, .string q1, .string q2, .slice q3 q3l q3c, .slice q4 q4l q4c] 41)) hx (h.alloc _) (by omega) (by omega))
  have hc' : (w.alloc (.cells #[.int .i64 q0, .string q1, .string q2, .slice q3 q3l q3c, .slice q4 q4l q4c] 41)).cell? ⟨bx, 0, none⟩ = some (.int .i64 a) := (Nw.new w _).keeps hc
  clear ih hx h hc
  go_enter Try.func80, Try.ntmps80
  go_wp2_with fail
  refine IH.out.mono ?_
  rintro e2 w2 ⟨rfl, k2⟩
  have K2 := Lib.hid ((Nw.new w _).trans k2)
  clear k2
  go_wp2_with fail
  go_returns
  exact ⟨rfl, K2.out⟩

set_option maxRecDepth 100000 in
set_option maxHeartbeats 400000 in
theorem clo_ex {B : Nat} {W : World} {d : Nat}
    (ih : ∀ (t : Ex) (cs : List Value) (a : Int) (w : World), ExAt B W d t cs → In B W w → 0 ≤ a → a ≤ 101 → Calls Try.prog 86 #[.agg cs.toArray, .int .i64 a] w (BoolPost w (fitEx t a)))
    (bx : Nat) (a : Int) (h0 : 0 ≤ a) (h1 : a ≤ 100) (t : Ex) (cs : List Value) (w : World) (hx : ExAt B W d t cs) (h : In B W w) (hc : w.cell? ⟨bx, 0, none⟩ = some (.int .i64 a)) :
    Calls Try.prog 105 #[.agg cs.toArray, .pointer (some ⟨bx, 0, none⟩)] w (BoolPost w (!fitEx t (a + 1))) := by
  obtain ⟨q0, q1, q2, q3, q3l, q3c, rfl⟩ := shape_Ex hx
  have hlt := World.block_lt_of_cell? w _ hc
  have IH := Lib.hid (ih t _ (a + 1) (w.alloc (.cells #[.int .i64 q0, .int .i64 q1, .string q2, .slice q3 q3l q3c] 132)) hx (h.alloc _) (by omega) (by omega))
  have hc' : (w.alloc (.cells #[.int .i64 q0, .int .i64 q1, .string q2, .slice q3 q3l q3c] 132)).cell? ⟨bx, 0, none⟩ = some (.int .i64 a) := (Nw.new w _).keeps hc
  clear ih hx h hc
  go_enter Try.func105, Try.ntmps105
  go_wp2_with fail
  refine IH.out.mono ?_
  rintro e2 w2 ⟨rfl, k2⟩
  have K2 := Lib.hid ((Nw.new w _).trans k2)
  clear k2
  go_wp2_with fail
  go_returns
  exact ⟨rfl, K2.out⟩

set_option maxRecDepth 100000 in
set_option maxHeartbeats 400000 in
theorem clo_st1 {B : Nat} {W : World} {d : Nat}
    (ih : ∀ (t : St) (cs : List Value) (a : Int) (w : World), StAt B W d t cs → In B W w → 0 ≤ a → a ≤ 101 → Calls Try.prog 56 #[.agg cs.toArray, .int .i64 a] w (BoolPost w (fitSt t a)))
    (bx : Nat) (a : Int) (h0 : 0 ≤ a) (h1 : a ≤ 100) (t : St) (cs : List Value) (w : World) (hx : StAt B W d t cs) (h : In B W w) (hc : w.cell? ⟨bx, 0, none⟩ = some (.int .i64 a)) :
    Calls Try.prog 83 #[.agg cs.toArray, .pointer (some ⟨bx, 0, none⟩)] w (BoolPost w (!fitSt t (a + 1))) := by
  obtain ⟨q0, q1, q2, q2l, q2c, q3, q3l, q3c, q4, q4l, q4c, rfl⟩ := shape_St hx
  have hlt := World.block_lt_of_cell? w _ hc
  have IH := Lib.hid (ih t _ (a + 1) (w.alloc (.cells #[.int .i64 q0, .int .i64 q1, .slice q2 q2l q2c, .slice q3 q3l q3c, .slice q4 q4l q4c] 101)) hx (h.alloc _) (by omega) (by omega))
  have hc' : (w.alloc (.cells #[.int .i64 q0, .int .i64 q1, .slice q2 q2l q2c, .slice q3 q3l q3c, .slice q4 q4l q4c] 101)).cell? ⟨bx, 0, none⟩ = some (.int .i64 a) := (Nw.new w _).keeps hc
  clear ih hx h hc
  go_enter Try.func83, Try.ntmps83
  go_wp2_with fail
  refine IH.out.mono ?_
  rintro e2 w2 ⟨rfl, k2⟩
  have K2 := Lib.hid ((Nw.new w _).trans k2)
  clear k2
  go_wp2_with fail
  go_returns
  exact ⟨rfl, K2.out⟩

set_option maxRecDepth 100000 in
set_option maxHeartbeats 400000 in
theorem clo_st2 {B : Nat} {W : World} {d : Nat}
    (ih : ∀ (t : Ex) (cs : List Value) (a : Int) (w : World), ExAt B W d t cs → In B W w → 0 ≤ a → a ≤ 101 → Calls Try.prog 86 #[.agg cs.toArray, .int .i64 a] w (BoolPost w (fitEx t a)))
    (bx : Nat) (a : Int) (h0 : 0 ≤ a) (h1 : a ≤ 100) (t : Ex) (cs : List Value) (w : World) (hx : ExAt B W d t cs) (h : In B W w) (hc : w.cell? ⟨bx, 0, none⟩ = some (.int .i64 a)) :
    Calls Try.prog 85 #[.agg cs.toArray, .pointer (some ⟨bx, 0, none⟩)] w (BoolPost w (!fitEx t (a + 1))) := by
  obtain ⟨q0, q1, q2, q3, q3l, q3c, rfl⟩ := shape_Ex hx
  have hlt := World.block_lt_of_cell? w _ hc
  have IH := Lib.hid (ih t _ (a + 1) (w.alloc (.cells #[.int .i64 q0, .int .i64 q1, .string q2, .slice q3 q3l q3c] 132)) hx (h.alloc _) (by omega) (by omega))
  have hc' : (w.alloc (.cells #[.int .i64 q0, .int .i64 q1, .string q2, .slice q3 q3l q3c] 132)).cell? ⟨bx, 0, none⟩ = some (.int .i64 a) := (Nw.new w _).keeps hc
  clear ih hx h hc
  go_enter Try.func85, Try.ntmps85
  go_wp2_with fail
  refine IH.out.mono ?_
  rintro e2 w2 ⟨rfl, k2⟩
  have K2 := Lib.hid ((Nw.new w _).trans k2)
  clear k2
  go_wp2_with fail
  go_returns
  exact ⟨rfl, K2.out⟩

set_option maxRecDepth 100000 in
set_option maxHeartbeats 400000 in
theorem clo_sh1 {B : Nat} {W : World} {d : Nat}
    (ih : ∀ (t : Ty) (cs : List Value) (a : Int) (w : World), TyAt B W d t cs → In B W w → 0 ≤ a → a ≤ 101 → Calls Try.prog 51 #[.agg cs.toArray, .int .i64 a] w (BoolPost w (fitTy t a)))
    (t : Fd) (cs : List Value) (w : World) (hx : FdAt B W d t cs) (h : In B W w) :
    Calls Try.prog 53 #[.agg cs.toArray] w (BoolPost w (!fitTy t.type 0)) := by
  obtain ⟨q0, q1, q2, q3, q4, q4l, q4c, q5, q5l, q5c, rfl⟩ := shape_Fd hx
  obtain ⟨ct, he, _, _, ht⟩ := hx
  injection he with he1 he2
  subst he2
  have IH := Lib.hid (ih t.type _ 0 (w.alloc (.cells #[.string q0, .int .i64 q1, .string q2, .string q3, .slice q4 q4l q4c, .slice q5 q5l q5c] 93)) ht (h.alloc _) (by omega) (by omega))
  clear ih h
  go_enter Try.func53, Try.ntmps53
  go_wp2_with fail
  refine IH.out.mono ?_
  rintro e2 w2 ⟨rfl, k2⟩
  have K2 := Lib.hid ((Nw.new w _).trans k2)
  clear k2
  go_wp2_with fail
  go_returns
  exact ⟨rfl, K2.out⟩

set_option maxRecDepth 100000 in
set_option maxHeartbeats 400000 in
theorem clo_sh2 {B : Nat} {W : World} {d : Nat}
    (ih : ∀ (t : St) (cs : List Value) (a : Int) (w : World), StAt B W d t cs → In B W w → 0 ≤ a → a ≤ 101 → Calls Try.prog 56 #[.agg cs.toArray, .int .i64 a] w (BoolPost w (fitSt t a)))
    (t : St) (cs : List Value) (w : World) (hx : StAt B W d t cs) (h : In B W w) :
    Calls Try.prog 55 #[.agg cs.toArray] w (BoolPost w (!fitSt t 0)) := by
  obtain ⟨q0, q1, q2, q2l, q2c, q3, q3l, q3c, q4, q4l, q4c, rfl⟩ := shape_St hx
  have ht := hx
  have IH := Lib.hid (ih t _ 0 (w.alloc (.cells #[.int .i64 q0, .int .i64 q1, .slice q2 q2l q2c, .slice q3 q3l q3c, .slice q4 q4l q4c] 101)) ht (h.alloc _) (by omega) (by omega))
  clear ih h
  go_enter Try.func55, Try.ntmps55
  go_wp2_with fail
  refine IH.out.mono ?_
  rintro e2 w2 ⟨rfl, k2⟩
  have K2 := Lib.hid ((Nw.new w _).trans k2)
  clear k2
  go_wp2_with fail
  go_returns
  exact ⟨rfl, K2.out⟩

set_option maxRecDepth 100000 in
set_option maxHeartbeats 400000 in
theorem typeFits_succ {B : Nat} {W : World} {d : Nat}
    (ih : ∀ (t : Ty) (cs : List Value) (a : Int) (w : World), TyAt B W d t cs → In B W w → 0 ≤ a → a ≤ 101 → Calls Try.prog 51 #[.agg cs.toArray, .int .i64 a] w (BoolPost w (fitTy t a)))
    (t : Ty) (cs : List Value) (a : Int) (w : World) (hx : TyAt B W (d + 1) t cs) (h : In B W w) (h0 : 0 ≤ a) (_h1 : a ≤ 101) :
    Calls Try.prog 51 #[.agg cs.toArray, .int .i64 a] w (BoolPost w (fitTy t a)) := by
  have hmf : ∀ (f : Fn) (first cap : Array Value) (w : World), (Instr.makeFunc f first cap).run Try.prog w = .ok (.func f first cap) w := fun _ _ _ _ => rfl
  obtain ⟨kd, pk, nm, la, lr⟩ := t
  obtain ⟨va, vr, rfl, _, _, _, ha, hr⟩ := hx
  obtain ⟨x1, m1, c1, rfl⟩ := ha.slice
  obtain ⟨x2, m2, c2, rfl⟩ := hr.slice
  have k0 : Nw w ((w.alloc (.cells #[.int .i64 kd, .string pk, .string nm, .slice x1 m1 c1, .slice x2 m2 c2] 41)).alloc (.cells #[.int .i64 a] 3)) := ((Nw.refl w).alloc _).alloc _
  have cb : ((w.alloc (.cells #[.int .i64 kd, .string pk, .string nm, .slice x1 m1 c1, .slice x2 m2 c2] 41)).alloc (.cells #[.int .i64 a] 3)).cell? ⟨w.heap.size + 1, 0, none⟩ = some (.int .i64 a) := by
    have e : (w.alloc (.cells #[.int .i64 kd, .string pk, .string nm, .slice x1 m1 c1, .slice x2 m2 c2] 41)).heap.size = w.heap.size + 1 := by simp
    have := (Blk.new (w.alloc (.cells #[.int .i64 kd, .string pk, .string nm, .slice x1 m1 c1, .slice x2 m2 c2] 41)) [.int .i64 a] 3).cell 0
    rw [e] at this; exact this
  have bb : Blk ((w.alloc (.cells #[.int .i64 kd, .string pk, .string nm, .slice x1 m1 c1, .slice x2 m2 c2] 41)).alloc (.cells #[.int .i64 a] 3)) w.heap.size [.int .i64 kd, .string pk, .string nm, .slice x1 m1 c1, .slice x2 m2 c2] 41 := (Blk.new w [.int .i64 kd, .string pk, .string nm, .slice x1 m1 c1, .slice x2 m2 c2] 41).alloc _
  by_cases hle : a ≤ 100
  · have hd : decide (a ≤ 100) = true := by simp [hle]
    have C1 := Lib.hid (contains_Tyc 79 (call_enter Try.func79 (by kernel_rfl) rfl) ⟨w.heap.size + 1, 0, none⟩ (fun t => !fitTy t (a + 1)) ((w.alloc (.cells #[.int .i64 kd, .string pk, .string nm, .slice x1 m1 c1, .slice x2 m2 c2] 41)).alloc (.cells #[.int .i64 a] 3)) (fun t cs w' hx hi hn => clo_ty1 ih (w.heap.size + 1) a h0 hle t cs w' hx hi (hn.keeps cb)) _ _ ha (h.nw k0))
    rw [fitTys_any] at C1
    cases hb1 : fitTys la (a + 1) with
    | false =>
      rw [hb1] at C1
      have HF := Lib.hid (show fitTy (.mk kd pk nm la lr) a = false by simp [fitTy, hb1])
      clear hb1
      have K0 := Lib.hid k0
      have BB := Lib.hid bb
      clear k0 bb
      go_enter Try.func51, Try.ntmps51
      go_wp2_with fail
      refine C1.out.mono ?_
      rintro e1 w1 ⟨rfl, k1⟩
      have K1 := Lib.hid k1
      have c1 := (BB.out.nw K1.out).cell
      clear k1
      go_wp2_with fail
      go_returns
      exact ⟨by rw [HF.out]; rfl, K0.out.trans K1.out⟩
    | true =>
      rw [hb1] at C1
      have C2 := Lib.hid (fun (wx : World) (kx : Nw ((w.alloc (.cells #[.int .i64 kd, .string pk, .string nm, .slice x1 m1 c1, .slice x2 m2 c2] 41)).alloc (.cells #[.int .i64 a] 3)) wx) => contains_Tyc 80 (call_enter Try.func80 (by kernel_rfl) rfl) ⟨w.heap.size + 1, 0, none⟩ (fun t => !fitTy t (a + 1)) wx (fun t cs w' hx hi hn => clo_ty2 ih (w.heap.size + 1) a h0 hle t cs w' hx hi (hn.keeps (kx.keeps cb))) _ _ hr (h.nw (k0.trans kx)))
      rw [fitTys_any] at C2
      cases hb2 : fitTys lr (a + 1) with
      | false =>
        rw [hb2] at C2
        have HF := Lib.hid (show fitTy (.mk kd pk nm la lr) a = false by simp [fitTy, hb1, hb2])
        clear hb1 hb2
        have K0 := Lib.hid k0
        have BB := Lib.hid bb
        clear k0 bb
        go_enter Try.func51, Try.ntmps51
        go_wp2_with fail
        refine C1.out.mono ?_
        rintro e1 w1 ⟨rfl, k1⟩
        have K1 := Lib.hid k1
        have c1 := (BB.out.nw K1.out).cell
        clear k1
        go_wp2_with fail
        refine (C2.out _ K1.out).mono ?_
        rintro e2 w2 ⟨rfl, k2⟩
        have K2 := Lib.hid (K1.out.trans k2)
        have c2 := (BB.out.nw K2.out).cell
        clear k2 c1
        go_wp2_with fail
        go_returns
        exact ⟨by rw [HF.out]; rfl, K0.out.trans K2.out⟩
      | true =>
        rw [hb2] at C2
        have HF := Lib.hid (show fitTy (.mk kd pk nm la lr) a = true by simp [fitTy, hb1, hb2, hle])
        clear hb1 hb2
        have K0 := Lib.hid k0
        have BB := Lib.hid bb
        clear k0 bb
        go_enter Try.func51, Try.ntmps51
        go_wp2_with fail
        refine C1.out.mono ?_
        rintro e1 w1 ⟨rfl, k1⟩
        have K1 := Lib.hid k1
        have c1 := (BB.out.nw K1.out).cell
        clear k1
        go_wp2_with fail
        refine (C2.out _ K1.out).mono ?_
        rintro e2 w2 ⟨rfl, k2⟩
        have K2 := Lib.hid (K1.out.trans k2)
        have c2 := (BB.out.nw K2.out).cell
        clear k2 c1
        go_wp2_with fail
        go_returns
        exact ⟨by rw [HF.out]; rfl, K0.out.trans K2.out⟩
  · have hd : decide (a ≤ 100) = false := by simp [hle]
    have HF := Lib.hid (show fitTy (.mk kd pk nm la lr) a = false by simp [fitTy, hle])
    have K0 := Lib.hid k0
    clear k0 bb ih
    go_enter Try.func51, Try.ntmps51
    go_wp2_with fail
    go_returns
    exact ⟨by rw [HF.out]; rfl, K0.out⟩
theorem typeFits {B : Nat} {W : World} (d : Nat) : ∀ (t : Ty) (cs : List Value) (a : Int) (w : World), TyAt B W d t cs → In B W w → 0 ≤ a → a ≤ 101 → Calls Try.prog 51 #[.agg cs.toArray, .int .i64 a] w (BoolPost w (fitTy t a)) := by
  induction d with
  | zero => intro _ _ _ _ h; exact h.elim
  | succ d ih => exact typeFits_succ ih

set_option maxRecDepth 100000 in
set_option maxHeartbeats 400000 in
theorem exprFits_succ {B : Nat} {W : World} {d : Nat}
    (ih : ∀ (t : Ex) (cs : List Value) (a : Int) (w : World), ExAt B W d t cs → In B W w → 0 ≤ a → a ≤ 101 → Calls Try.prog 86 #[.agg cs.toArray, .int .i64 a] w (BoolPost w (fitEx t a)))
    (t : Ex) (cs : List Value) (a : Int) (w : World) (hx : ExAt B W (d + 1) t cs) (h : In B W w) (h0 : 0 ≤ a) (_h1 : a ≤ 101) :
    Calls Try.prog 86 #[.agg cs.toArray, .int .i64 a] w (BoolPost w (fitEx t a)) := by
  have hmf : ∀ (f : Fn) (first cap : Array Value) (w : World), (Instr.makeFunc f first cap).run Try.prog w = .ok (.func f first cap) w := fun _ _ _ _ => rfl
  obtain ⟨op, nn, s, ks⟩ := t
  obtain ⟨vk, rfl, _, _, _, hk⟩ := hx
  obtain ⟨x1, m1, c1, rfl⟩ := hk.slice
  have k0 : Nw w ((w.alloc (.cells #[.int .i64 op, .int .i64 nn, .string s, .slice x1 m1 c1] 132)).alloc (.cells #[.int .i64 a] 3)) := ((Nw.refl w).alloc _).alloc _
  have cb : ((w.alloc (.cells #[.int .i64 op, .int .i64 nn, .string s, .slice x1 m1 c1] 132)).alloc (.cells #[.int .i64 a] 3)).cell? ⟨w.heap.size + 1, 0, none⟩ = some (.int .i64 a) := by
    have e : (w.alloc (.cells #[.int .i64 op, .int .i64 nn, .string s, .slice x1 m1 c1] 132)).heap.size = w.heap.size + 1 := by simp
    have := (Blk.new (w.alloc (.cells #[.int .i64 op, .int .i64 nn, .string s, .slice x1 m1 c1] 132)) [.int .i64 a] 3).cell 0
    rw [e] at this; exact this
  have bb : Blk ((w.alloc (.cells #[.int .i64 op, .int .i64 nn, .string s, .slice x1 m1 c1] 132)).alloc (.cells #[.int .i64 a] 3)) w.heap.size [.int .i64 op, .int .i64 nn, .string s, .slice x1 m1 c1] 132 := (Blk.new w [.int .i64 op, .int .i64 nn, .string s, .slice x1 m1 c1] 132).alloc _
  by_cases hle : a ≤ 100
  · have hd : decide (a ≤ 100) = true := by simp [hle]
    have C1 := Lib.hid (contains_Exc 105 (call_enter Try.func105 (by kernel_rfl) rfl) ⟨w.heap.size + 1, 0, none⟩ (fun t => !fitEx t (a + 1)) ((w.alloc (.cells #[.int .i64 op, .int .i64 nn, .string s, .slice x1 m1 c1] 132)).alloc (.cells #[.int .i64 a] 3)) (fun t cs w' hx hi hn => clo_ex ih (w.heap.size + 1) a h0 hle t cs w' hx hi (hn.keeps cb)) _ _ hk (h.nw k0))
    rw [fitExs_any] at C1
    cases hb1 : fitExs ks (a + 1) with
    | false =>
      rw [hb1] at C1
      have HF := Lib.hid (show fitEx (.mk op nn s ks) a = false by simp [fitEx, hb1])
      clear hb1
      have K0 := Lib.hid k0
      have BB := Lib.hid bb
      clear k0 bb
      go_enter Try.func86, Try.ntmps86
      go_wp2_with fail
      refine C1.out.mono ?_
      rintro e1 w1 ⟨rfl, k1⟩
      have K1 := Lib.hid k1
      have c1 := (BB.out.nw K1.out).cell
      clear k1
      go_wp2_with fail
      go_returns
      exact ⟨by rw [HF.out]; rfl, K0.out.trans K1.out⟩
    | true =>
      rw [hb1] at C1
      have HF := Lib.hid (show fitEx (.mk op nn s ks) a = true by simp [fitEx, hb1, hle])
      clear hb1
      have K0 := Lib.hid k0
      have BB := Lib.hid bb
      clear k0 bb
      go_enter Try.func86, Try.ntmps86
      go_wp2_with fail
      refine C1.out.mono ?_
      rintro e1 w1 ⟨rfl, k1⟩
      have K1 := Lib.hid k1
      have c1 := (BB.out.nw K1.out).cell
      clear k1
      go_wp2_with fail
      go_returns
      exact ⟨by rw [HF.out]; rfl, K0.out.trans K1.out⟩
  · have hd : decide (a ≤ 100) = false := by simp [hle]
    have HF := Lib.hid (show fitEx (.mk op nn s ks) a = false by simp [fitEx, hle])
    have K0 := Lib.hid k0
    clear k0 bb ih
    go_enter Try.func86, Try.ntmps86
    go_wp2_with fail
    go_returns
    exact ⟨by rw [HF.out]; rfl, K0.out⟩
theorem exprFits {B : Nat} {W : World} (d : Nat) : ∀ (t : Ex) (cs : List Value) (a : Int) (w : World), ExAt B W d t cs → In B W w → 0 ≤ a → a ≤ 101 → Calls Try.prog 86 #[.agg cs.toArray, .int .i64 a] w (BoolPost w (fitEx t a)) := by
  induction d with
  | zero => intro _ _ _ _ h; exact h.elim
  | succ d ih => exact exprFits_succ ih

set_option maxRecDepth 100000 in
set_option maxHeartbeats 400000 in
theorem statFits_succ {B : Nat} {W : World} {d : Nat}
    (ih : ∀ (t : St) (cs : List Value) (a : Int) (w : World), StAt B W d t cs → In B W w → 0 ≤ a → a ≤ 101 → Calls Try.prog 56 #[.agg cs.toArray, .int .i64 a] w (BoolPost w (fitSt t a)))
    (t : St) (cs : List Value) (a : Int) (w : World) (hx : StAt B W (d + 1) t cs) (h : In B W w) (h0 : 0 ≤ a) (_h1 : a ≤ 101) :
    Calls Try.prog 56 #[.agg cs.toArray, .int .i64 a] w (BoolPost w (fitSt t a)) := by
  have hmf : ∀ (f : Fn) (first cap : Array Value) (w : World), (Instr.makeFunc f first cap).run Try.prog w = .ok (.func f first cap) w := fun _ _ _ _ => rfl
  obtain ⟨op, nn, es, bs, ls⟩ := t
  obtain ⟨ve, vb, vl, rfl, _, _, he, hb, hl⟩ := hx
  obtain ⟨x1, m1, c1, rfl⟩ := he.slice
  obtain ⟨x2, m2, c2, rfl⟩ := hb.slice
  obtain ⟨x3, m3, c3, rfl⟩ := hl.slice
  have k0 : Nw w ((w.alloc (.cells #[.int .i64 op, .int .i64 nn, .slice x1 m1 c1, .slice x2 m2 c2, .slice x3 m3 c3] 101)).alloc (.cells #[.int .i64 a] 3)) := ((Nw.refl w).alloc _).alloc _
  have cb : ((w.alloc (.cells #[.int .i64 op, .int .i64 nn, .slice x1 m1 c1, .slice x2 m2 c2, .slice x3 m3 c3] 101)).alloc (.cells #[.int .i64 a] 3)).cell? ⟨w.heap.size + 1, 0, none⟩ = some (.int .i64 a) := by
    have e : (w.alloc (.cells #[.int .i64 op, .int .i64 nn, .slice x1 m1 c1, .slice x2 m2 c2, .slice x3 m3 c3] 101)).heap.size = w.heap.size + 1 := by simp
    have := (Blk.new (w.alloc (.cells #[.int .i64 op, .int .i64 nn, .slice x1 m1 c1, .slice x2 m2 c2, .slice x3 m3 c3] 101)) [.int .i64 a] 3).cell 0
    rw [e] at this; exact this
  have bb : Blk ((w.alloc (.cells #[.int .i64 op, .int .i64 nn, .slice x1 m1 c1, .slice x2 m2 c2, .slice x3 m3 c3] 101)).alloc (.cells #[.int .i64 a] 3)) w.heap.size [.int .i64 op, .int .i64 nn, .slice x1 m1 c1, .slice x2 m2 c2, .slice x3 m3 c3] 101 := (Blk.new w [.int .i64 op, .int .i64 nn, .slice x1 m1 c1, .slice x2 m2 c2, .slice x3 m3 c3] 101).alloc _
  by_cases hle : a ≤ 100
  · have hd : decide (a ≤ 100) = true := by simp [hle]
    have C1 := Lib.hid (contains_Exc 85 (call_enter Try.func85 (by kernel_rfl) rfl) ⟨w.heap.size + 1, 0, none⟩ (fun t => !fitEx t (a + 1)) ((w.alloc (.cells #[.int .i64 op, .int .i64 nn, .slice x1 m1 c1, .slice x2 m2 c2, .slice x3 m3 c3] 101)).alloc (.cells #[.int .i64 a] 3)) (fun t cs w' hx hi hn => clo_st2 (exprFits d) (w.heap.size + 1) a h0 hle t cs w' hx hi (hn.keeps cb)) _ _ he (h.nw k0))
    rw [fitExs_any] at C1
    cases hb1 : fitExs es (a + 1) with
    | false =>
      rw [hb1] at C1
      have HF := Lib.hid (show fitSt (.mk op nn es bs ls) a = false by simp [fitSt, hb1])
      clear hb1
      have K0 := Lib.hid k0
      have BB := Lib.hid bb
      clear k0 bb
      go_enter Try.func56, Try.ntmps56
      go_wp2_with fail
      refine C1.out.mono ?_
      rintro e1 w1 ⟨rfl, k1⟩
      have K1 := Lib.hid k1
      have c1 := (BB.out.nw K1.out).cell
      clear k1
      go_wp2_with fail
      go_returns
      exact ⟨by rw [HF.out]; rfl, K0.out.trans K1.out⟩
    | true =>
      rw [hb1] at C1
      have C2 := Lib.hid (fun (wx : World) (kx : Nw ((w.alloc (.cells #[.int .i64 op, .int .i64 nn, .slice x1 m1 c1, .slice x2 m2 c2, .slice x3 m3 c3] 101)).alloc (.cells #[.int .i64 a] 3)) wx) => contains_Stc 83 (call_enter Try.func83 (by kernel_rfl) rfl) ⟨w.heap.size + 1, 0, none⟩ (fun t => !fitSt t (a + 1)) wx (fun t cs w' hx hi hn => clo_st1 ih (w.heap.size + 1) a h0 hle t cs w' hx hi (hn.keeps (kx.keeps cb))) _ _ hb (h.nw (k0.trans kx)))
      rw [fitSts_any] at C2
      cases hb2 : fitSts bs (a + 1) with
      | false =>
        rw [hb2] at C2
        have HF := Lib.hid (show fitSt (.mk op nn es bs ls) a = false by simp [fitSt, hb1, hb2])
        clear hb1 hb2
        have K0 := Lib.hid k0
        have BB := Lib.hid bb
        clear k0 bb
        go_enter Try.func56, Try.ntmps56
        go_wp2_with fail
        refine C1.out.mono ?_
        rintro e1 w1 ⟨rfl, k1⟩
        have K1 := Lib.hid k1
        have c1 := (BB.out.nw K1.out).cell
        clear k1
        go_wp2_with fail
        refine (C2.out _ K1.out).mono ?_
        rintro e2 w2 ⟨rfl, k2⟩
        have K2 := Lib.hid (K1.out.trans k2)
        have c2 := (BB.out.nw K2.out).cell
        clear k2 c1
        go_wp2_with fail
        go_returns
        exact ⟨by rw [HF.out]; rfl, K0.out.trans K2.out⟩
      | true =>
        rw [hb2] at C2
        have C3 := Lib.hid (fun (wx : World) (kx : Nw ((w.alloc (.cells #[.int .i64 op, .int .i64 nn, .slice x1 m1 c1, .slice x2 m2 c2, .slice x3 m3 c3] 101)).alloc (.cells #[.int .i64 a] 3)) wx) => contains_Stc 83 (call_enter Try.func83 (by kernel_rfl) rfl) ⟨w.heap.size + 1, 0, none⟩ (fun t => !fitSt t (a + 1)) wx (fun t cs w' hx hi hn => clo_st1 ih (w.heap.size + 1) a h0 hle t cs w' hx hi (hn.keeps (kx.keeps cb))) _ _ hl (h.nw (k0.trans kx)))
        rw [fitSts_any] at C3
        cases hb3 : fitSts ls (a + 1) with
        | false =>
          rw [hb3] at C3
          have HF := Lib.hid (show fitSt (.mk op nn es bs ls) a = false by simp [fitSt, hb1, hb2, hb3])
          clear hb1 hb2 hb3
          have K0 := Lib.hid k0
          have BB := Lib.hid bb
          clear k0 bb
          go_enter Try.func56, Try.ntmps56
          go_wp2_with fail
          refine C1.out.mono ?_
          rintro e1 w1 ⟨rfl, k1⟩
          have K1 := Lib.hid k1
          have c1 := (BB.out.nw K1.out).cell
          clear k1
          go_wp2_with fail
          refine (C2.out _ K1.out).mono ?_
          rintro e2 w2 ⟨rfl, k2⟩
          have K2 := Lib.hid (K1.out.trans k2)
          have c2 := (BB.out.nw K2.out).cell
          clear k2 c1
          go_wp2_with fail
          refine (C3.out _ K2.out).mono ?_
          rintro e3 w3 ⟨rfl, k3⟩
          have K3 := Lib.hid (K2.out.trans k3)
          have c3 := (BB.out.nw K3.out).cell
          clear k3 c2
          go_wp2_with fail
          go_returns
          exact ⟨by rw [HF.out]; rfl, K0.out.trans K3.out⟩
        | true =>
          rw [hb3] at C3
          have HF := Lib.hid (show fitSt (.mk op nn es bs ls) a = true by simp [fitSt, hb1, hb2, hb3, hle])
          clear hb1 hb2 hb3
          have K0 := Lib.hid k0
          have BB := Lib.hid bb
          clear k0 bb
          go_enter Try.func56, Try.ntmps56
          go_wp2_with fail
          refine C1.out.mono ?_
          rintro e1 w1 ⟨rfl, k1⟩
          have K1 := Lib.hid k1
          have c1 := (BB.out.nw K1.out).cell
          clear k1
          go_wp2_with fail
          refine (C2.out _ K1.out).mono ?_
          rintro e2 w2 ⟨rfl, k2⟩
          have K2 := Lib.hid (K1.out.trans k2)
          have c2 := (BB.out.nw K2.out).cell
          clear k2 c1
          go_wp2_with fail
          refine (C3.out _ K2.out).mono ?_
          rintro e3 w3 ⟨rfl, k3⟩
          have K3 := Lib.hid (K2.out.trans k3)
          have c3 := (BB.out.nw K3.out).cell
          clear k3 c2
          go_wp2_with fail
          go_returns
          exact ⟨by rw [HF.out]; rfl, K0.out.trans K3.out⟩
  · have hd : decide (a ≤ 100) = false := by simp [hle]
    have HF := Lib.hid (show fitSt (.mk op nn es bs ls) a = false by simp [fitSt, hle])
    have K0 := Lib.hid k0
    clear k0 bb ih
    go_enter Try.func56, Try.ntmps56
    go_wp2_with fail
    go_returns
    exact ⟨by rw [HF.out]; rfl, K0.out⟩
theorem statFits {B : Nat} {W : World} (d : Nat) : ∀ (t : St) (cs : List Value) (a : Int) (w : World), StAt B W d t cs → In B W w → 0 ≤ a → a ≤ 101 → Calls Try.prog 56 #[.agg cs.toArray, .int .i64 a] w (BoolPost w (fitSt t a)) := by
  induction d with
  | zero => intro _ _ _ _ h; exact h.elim
  | succ d ih => exact statFits_succ ih

end Go.Proofs.Ytpopgnengimieaa
