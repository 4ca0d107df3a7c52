/- Linking: the symbols collected: where they lie; better; collect. -/
import Derived.Test.YtfdjlicegfgodaaLk6
import Derived.StillTailTactics
namespace Go.Proofs.Ytfdjlicegfgodaa
open Go.RowKit
set_option linter.unusedSimpArgs false
set_option linter.unusedVariables false

/-- where what counts lies in the image -/
def placeC (os : List Ob) (nb : Nat) (c : Cn) : Int := c.sym.at_ + (if c.sym.kind = 1 then ((nb + 1 + sumC (os.take c.obj) : Nat) : Int) else ((2 + sumD (os.take c.obj) : Nat) : Int))
def cnCs (os : List Ob) (nb : Nat) (c : Cn) : List Value := [.string c.sym.name, .int .i64 c.sym.kind, .bool c.sym.weak, .int .i64 (placeC os nb c), .int .i64 c.sym.size, .int .i64 c.sym.frame, .int .i64 (c.obj : Int), .int .i64 (c.pos : Int), .bool c.twice]
def ptrV (ptr : ByteArray → Option Nat) : ByteArray → Option Value := fun s => (ptr s).map fun b => .pointer (some ⟨b, 0, none⟩)
/-- the map mb holds what counts of l; its symbols lie in blocks from base on -/
structure Coll (os : List Ob) (nb base : Nat) (w : World) (mb : Nat) (ptr : ByteArray → Option Nat) (l : List Occ) : Prop where
  map : SMap w mb (ptrV ptr)
  blk : ∀ s b, ptr s = some b → ∃ c, cnF s l = some c ∧ Blk w b (cnCs os nb c) 121 ∧ base ≤ b
  no : ∀ s, ptr s = none → cnF s l = none
  inj : ∀ s s' b, ptr s = some b → ptr s' = some b → s = s'
theorem Blk.ne {w : World} {b b' : Nat} {cs cs' : List Value} {t t' : TypeId} (h : Blk w b cs t) (h' : Blk w b' cs' t') (hl : cs.length ≠ cs'.length) : b ≠ b' := by
  intro e
  subst e
  have := h.symm.trans h'
  injection this with this
  injection this with h1
  have h2 : cs = cs' := by
    have := congrArg Array.toList h1
    simpa using this
  exact hl (by rw [h2])
theorem SMap.neBlk {w : World} {b b' : Nat} {f : ByteArray → Option Value} {cs : List Value} {t : TypeId} (h : SMap w b f) (h' : Blk w b' cs t) : b ≠ b' := by
  obtain ⟨es, clock, h1, _⟩ := h
  intro e
  subst e
  have := h1.symm.trans h'
  cases this
section
variable {os : List Ob} {nb base mb : Nat} {w w' : World} {ptr : ByteArray → Option Nat} {l : List Occ}
theorem Coll.nw (h : Coll os nb base w mb ptr l) (k : Nw w w') : Coll os nb base w' mb ptr l :=
  ⟨h.map.nw k, fun s b hs => by obtain ⟨c, h1, h2, h3⟩ := h.blk s b hs; exact ⟨c, h1, h2.nw k, h3⟩, h.no, h.inj⟩
theorem Coll.kp {S : Nat → Prop} (h : Coll os nb base w mb ptr l) (k : Kp S w w') (hm : ¬ S mb) (hb : ∀ b, base ≤ b → b < w.heap.size → ¬ S b) : Coll os nb base w' mb ptr l :=
  ⟨h.map.kp k hm, fun s b hs => by obtain ⟨c, h1, h2, h3⟩ := h.blk s b hs; exact ⟨c, h1, h2.kp k (hb b h3 h2.lt), h3⟩, h.no, h.inj⟩
theorem Coll.start {f : ByteArray → Option Value} (h : SMap w mb (fun _ => none)) : Coll os nb base w mb (fun _ => none) [] :=
  ⟨h, fun s b hs => (by cases hs), fun s _ => cnF_nil s, fun s s' b hs => (by cases hs)⟩
/-- a name that has not come -/
theorem Coll.fresh (h : Coll os nb base w mb ptr l) {x : Occ} (hp : ptr x.s.name = none) {b : Nat} (k1 : Nw w w') (hbn : w.heap.size ≤ b) (hb : base ≤ b) (hB : Blk w' b (cnCs os nb ⟨x.i, x.k, x.s, false⟩) 121)
    {w2 : World} (k2 : Kp (fun j => j = mb) w' w2) (hm : SMap w2 mb (upd (ptrV ptr) x.s.name (.pointer (some ⟨b, 0, none⟩)))) : Coll os nb base w2 mb (upd ptr x.s.name b) (l ++ [x]) := by
  have hne : mb ≠ b := (h.map.nw k1).neBlk hB
  refine ⟨?_, ?_, ?_, ?_⟩
  · have e : ptrV (upd ptr x.s.name b) = upd (ptrV ptr) x.s.name (.pointer (some ⟨b, 0, none⟩)) := by
      funext s
      unfold ptrV
      by_cases e : s = x.s.name
      · rw [e, upd_self, upd_self]; rfl
      · rw [upd_other _ _ e, upd_other _ _ e]
    rw [e]; exact hm
  · intro s b' hs
    by_cases e : s = x.s.name
    · subst e
      rw [upd_self] at hs
      injection hs with hs
      subst hs
      exact ⟨_, by rw [cnF_snoc, h.no _ hp]; exact stepC_new rfl, hB.kp k2 (fun e => hne e.symm), hb⟩
    · rw [upd_other _ _ e] at hs
      obtain ⟨c, h1, h2, h3⟩ := h.blk s b' hs
      exact ⟨c, by rw [cnF_snoc, stepC_other (fun hh => e hh.symm)]; exact h1, (h2.nw k1).kp k2 (fun hh => h.map.neBlk h2 hh.symm), h3⟩
  · intro s hs
    by_cases e : s = x.s.name
    · subst e; rw [upd_self] at hs; cases hs
    · rw [upd_other _ _ e] at hs
      rw [cnF_snoc, stepC_other (fun hh => e hh.symm)]
      exact h.no s hs
  · intro s s' b' h1 h2
    by_cases e : s = x.s.name
    · subst e
      rw [upd_self] at h1
      injection h1 with h1
      by_cases e' : s' = x.s.name
      · exact e'.symm
      · rw [upd_other _ _ e'] at h2
        obtain ⟨c, _, h4, _⟩ := h.blk s' b' h2
        have := h4.lt
        omega
    · rw [upd_other _ _ e] at h1
      by_cases e' : s' = x.s.name
      · subst e'
        rw [upd_self] at h2
        injection h2 with h2
        obtain ⟨c, _, h4, _⟩ := h.blk s b' h1
        have := h4.lt
        omega
      · rw [upd_other _ _ e'] at h2
        exact h.inj s s' b' h1 h2
/-- a name that has come -/
theorem Coll.again (h : Coll os nb base w mb ptr l) {x : Occ} {b : Nat} (hp : ptr x.s.name = some b) {c' : Cn} (hc : cnF x.s.name (l ++ [x]) = some c') (k : Kp (fun j => j = b) w w') (hB : Blk w' b (cnCs os nb c') 121) : Coll os nb base w' mb ptr (l ++ [x]) := by
  obtain ⟨c0, g1, g2, g3⟩ := h.blk _ _ hp
  refine ⟨h.map.kp k (fun e => h.map.neBlk g2 e), ?_, ?_, h.inj⟩
  · intro s b' hs
    by_cases e : s = x.s.name
    · subst e
      rw [hp] at hs
      injection hs with hs
      subst hs
      exact ⟨c', hc, hB, g3⟩
    · obtain ⟨c, h1, h2, h3⟩ := h.blk s b' hs
      refine ⟨c, by rw [cnF_snoc, stepC_other (fun hh => e hh.symm)]; exact h1, h2.kp k (fun hh => ?_), h3⟩
      have hh : b' = b := hh
      subst hh
      exact e (h.inj _ _ _ hs hp)
  · intro s hs
    by_cases e : s = x.s.name
    · subst e; rw [hp] at hs; cases hs
    · rw [cnF_snoc, stepC_other (fun hh => e hh.symm)]
      exact h.no s hs
end
theorem sym_ok {u : Ob} (h : codeV u = 0) {k : Nat} (hk : k < u.syms.length) : symB u.code.length u.data.length u.syms[k].name u.syms[k].kind u.syms[k].at_ u.syms[k].size u.syms[k].frame = true := by
  unfold codeV at h
  split at h
  · cases h
  · split at h
    · rename_i hv
      unfold validB at hv
      simp only [Bool.and_eq_true] at hv
      have h1 := hv.2.2.1
      unfold symsB okPre at h1
      rw [Bool.and_eq_true] at h1
      exact List.all_eq_true.1 h1.1 _ (List.getElem_mem hk)
    · cases h
theorem sym_lies {u : Ob} (h : codeV u = 0) {k : Nat} (hk : k < u.syms.length) : LiesP u.code.length u.data.length u.syms[k].kind u.syms[k].at_ u.syms[k].size u.syms[k].frame := by
  have := sym_ok h hk
  unfold symB at this
  rw [Bool.and_eq_true] at this
  exact of_decide_eq_true this.2
theorem sym_at {u : Ob} (h : codeV u = 0) {k : Nat} (hk : k < u.syms.length) : 0 ≤ u.syms[k].at_ ∧ u.syms[k].at_ ≤ 65536 := by
  have h1 := sym_lies h hk
  have h2 := codeV_len h
  unfold LiesP at h1
  omega
theorem zeroPtr (u : World) : (zeroValue 118).run Try.prog u = .ok (.pointer none) u := by kernel_rfl
set_option maxRecDepth 100000 in
set_option maxHeartbeats 1000000 in
theorem better_any {w : World} {b : Nat} {n0 : ByteArray} {a1 : Int} {wk : Bool} {ct : List Value} {t : TypeId} (hB : Blk w b (.string n0 :: .int .i64 a1 :: .bool wk :: ct) t) (nm : ByteArray) (k1 : Int) (xw : Bool) (k3 k4 k5 : Int) :
    Calls Try.prog 72 #[.pointer (some ⟨b, 0, none⟩), .agg #[.string nm, .int .i64 k1, .bool xw, .int .i64 k3, .int .i64 k4, .int .i64 k5]] w (BoolPost w (wk && !xw)) := by
  have N0 := Lib.hid (Nw.new w (.cells #[.string nm, .int .i64 k1, .bool xw, .int .i64 k3, .int .i64 k4, .int .i64 k5] 44))
  have cA := (Blk.new w [.string nm, .int .i64 k1, .bool xw, .int .i64 k3, .int .i64 k4, .int .i64 k5] 44).cell
  have c2 := N0.out.keeps (show w.cell? ⟨b, 2, none⟩ = some (.bool wk) from hB.cell 2)
  clear hB
  cases wk <;> cases xw
  all_goals
    go_enter Try.func72, Try.ntmps72
    go_wp2_with fail
    go_returns
    exact ⟨rfl, N0.out⟩
end Go.Proofs.Ytfdjlicegfgodaa
