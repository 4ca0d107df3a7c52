/- Reading a unit's bytes: what counts as deep. -/
import Derived.Test.YtpopgnengimieaaTake4
namespace Go.Proofs.Ytpopgnengimieaa
open Go.RowKit
set_option linter.unusedSimpArgs false
set_option linter.unusedVariables false

/-- cells laid one behind the other -/
def lays (w : World) (b o : Nat) : List Value → World
  | [] => w
  | v :: r => lays (w.setCell ⟨b, o, none⟩ v) b (o + 1) r
def laysL (cs : List Value) (o : Nat) : List Value → List Value
  | [] => cs
  | v :: r => laysL (cs.set o v) (o + 1) r
theorem size_sets (w : World) (b o : Nat) (vs : List Value) : (lays w b o vs).heap.size = w.heap.size := by
  induction vs generalizing w o with
  | nil => rfl
  | cons v r ih => rw [lays, ih]; simp [World.setCell]
theorem size_alloc (w : World) (o : Obj) : (w.alloc o).heap.size = w.heap.size + 1 := by simp
theorem Kp.sets {S : Nat → Prop} {a w : World} (h : Kp S a w) {b : Nat} (hb : b < a.heap.size → S b) (o : Nat) (vs : List Value) : Kp S a (lays w b o vs) := by
  induction vs generalizing w o with
  | nil => exact h
  | cons v r ih => exact ih (h.setCell (p := ⟨b, o, none⟩) hb v) (o + 1)
theorem Blk.sets {w : World} {b : Nat} {cs : List Value} {t : TypeId} (h : Blk w b cs t) (o : Nat) (vs : List Value) : Blk (lays w b o vs) b (laysL cs o vs) t := by
  induction vs generalizing w o cs with
  | nil => exact h
  | cons v r ih => exact ih (h.set o v) (o + 1)
theorem Blk.setsO {w : World} {b b' : Nat} {cs : List Value} {t : TypeId} (h : Blk w b cs t) (hne : b ≠ b') (o : Nat) (vs : List Value) : Blk (lays w b' o vs) b cs t := by
  induction vs generalizing w o with
  | nil => exact h
  | cons v r ih => exact ih (h.setOther (a := ⟨b', o, none⟩) hne v) (o + 1)
theorem RdAt.sets {B : Nat} {W w : World} {q : Nat} {r : List UInt8} {k : Int} (h : RdAt B W w q r k) {b : Nat} (hq : q < b) (o : Nat) (vs : List Value) : RdAt B W (lays w b o vs) q r k := by
  have hB := h.2.1
  exact h.kp ((Kp.refl (fun x => x = b) w).sets (fun _ => rfl) o vs) (fun x hx e => by omega) (fun e => by omega)
theorem Carry.next {α : Type} {E : (Nat → Prop) → World → α → List Value → Prop} (hE : Carry E) {L : Nat} {w1 w2 : World} {x : α} {cs : List Value} (h : E (fun b => L ≤ b ∧ b < w1.heap.size) w1 x cs) (k : Kp (fun b => b < L) w1 w2) : E (fun b => L ≤ b ∧ b < w2.heap.size) w2 x cs :=
  hE _ _ _ _ _ _ (fun b hb => ⟨hb.1, Nat.lt_of_lt_of_le hb.2 k.size⟩) (fun b hb => k.block b hb.2 (by omega)) h
theorem Carry.lo {α : Type} {E : (Nat → Prop) → World → α → List Value → Prop} (hE : Carry E) {L L' : Nat} {w1 : World} {x : α} {cs : List Value} (h : E (fun b => L ≤ b ∧ b < w1.heap.size) w1 x cs) (k : L' ≤ L) : E (fun b => L' ≤ b ∧ b < w1.heap.size) w1 x cs :=
  hE _ _ _ _ _ _ (fun b hb => ⟨Nat.le_trans k hb.1, hb.2⟩) (fun b hb => rfl) h
theorem SlT.next {α : Type} {E : (Nat → Prop) → World → α → List Value → Prop} (hE : Carry E) {L n : Nat} {w1 w2 : World} {l : List α} {v : Value} (h : VL n E (fun b => L ≤ b ∧ b < w1.heap.size) w1 l v) (k : Kp (fun b => b < L) w1 w2) : VL n E (fun b => L ≤ b ∧ b < w2.heap.size) w2 l v :=
  SlT.carry hE h (fun b hb => ⟨hb.1, Nat.lt_of_lt_of_le hb.2 k.size⟩) (fun b hb => k.block b hb.2 (by omega))
theorem SlT.lo {α : Type} {E : (Nat → Prop) → World → α → List Value → Prop} (hE : Carry E) {L L' n : Nat} {w1 : World} {l : List α} {v : Value} (h : VL n E (fun b => L ≤ b ∧ b < w1.heap.size) w1 l v) (k : L' ≤ L) : VL n E (fun b => L' ≤ b ∧ b < w1.heap.size) w1 l v :=
  SlT.carry hE h (fun b hb => ⟨Nat.le_trans k hb.1, hb.2⟩) (fun b hb => rfl)
theorem encFn_mk (a : ByteArray) (b : Bool) (c d : Int) (e : List St) : encFn ⟨a, b, c, d, e⟩ = encS a ++ encT b ++ le8 c ++ le8 d ++ encL encSt e := rfl
theorem encDe_mk (a : Int) (b c : ByteArray) (d : Int) (e : Ty) (g : List Fd) : encDe ⟨a, b, c, d, e, g⟩ = le8 a ++ encS b ++ encS c ++ le8 d ++ encTy e ++ encL encFd g := rfl
theorem encIm_mk (a : ByteArray) (b : Int) : encIm ⟨a, b⟩ = encS a ++ le8 b := rfl
theorem encFd_mk (a : ByteArray) (b : Ty) : encFd ⟨a, b⟩ = encS a ++ encTy b := rfl

theorem size_set (w : World) (a : Addr) (v : Value) : (w.setCell a v).heap.size = w.heap.size := by simp [World.setCell]
theorem RdAt.deep {B : Nat} {W w : World} {q : Nat} {r : List UInt8} {k : Int} (h : RdAt B W w q r k) (k' : Int) : RdAt B W (w.setCell ⟨q, 1, none⟩ (.int .i64 k')) q r k' := by
  obtain ⟨g, hB, b, o, c, hb, h4⟩ := h
  exact ⟨g.kp ((Kp.refl (fun x => x = q) w).setCell (p := ⟨q, 1, none⟩) (fun _ => rfl) _) (fun x hx e => by omega), hB, b, o, c, hb.set 1 _, h4⟩
theorem RdAt.cells {B : Nat} {W w : World} {q : Nat} {r : List UInt8} {k : Int} (h : RdAt B W w q r k) : w.cell? ⟨q, 1, none⟩ = some (.int .i64 k) ∧ w.frozen? ⟨q, 1, none⟩ = false := by
  obtain ⟨_, _, b, o, c, hb, _⟩ := h
  exact ⟨hb.cell 1, hb.frozen 1⟩
set_option maxRecDepth 100000 in
set_option maxHeartbeats 2000000 in
theorem within_Ty {B : Nat} {W w : World} {q bx : Nat} {r : List UInt8} {k : Int} {m : Nat} (hk0 : 0 ≤ k) (hk1 : k ≤ 100) (hbx : bx ≠ q)
    (cl : ∀ (wz : World), RdAt B W wz q r (k + 1) → wz.cell? ⟨bx, 0, none⟩ = some (.pointer (some ⟨q, 0, none⟩)) → Calls Try.prog 91 #[.pointer (some ⟨bx, 0, none⟩)] wz (Rp B W q r (k + 1) (OkTy (m + 1)) encTy (VT (fun T w => TyT T w (m + 1))) wz))
    (hb : w.cell? ⟨bx, 0, none⟩ = some (.pointer (some ⟨q, 0, none⟩))) (h : RdAt B W w q r k) :
    Calls Try.prog 90 #[.pointer (some ⟨q, 0, none⟩), .func (.func 91) #[] #[.pointer (some ⟨bx, 0, none⟩)]] w (Rp B W q r k (OkTy (m + 1)) encTy (VT (fun T w => TyT T w (m + 1))) w) := by
  have hq := h.lt
  have hB := h.2.1
  have RA := (RdAt.deep h (k + 1)).alloc (.cells #[.int .i64 0, .string ⟨#[]⟩, .string ⟨#[]⟩, .slice none 0 0, .slice none 0 0] 41)
  have KA := Lib.hid (((Kp.refl (fun b => b = q) w).setCell (p := ⟨q, 1, none⟩) (fun _ => rfl) (.int .i64 (k + 1))).alloc (.cells #[.int .i64 0, .string ⟨#[]⟩, .string ⟨#[]⟩, .slice none 0 0, .slice none 0 0] 41))
  have BA := Lib.hid (show Blk ((w.setCell ⟨q, 1, none⟩ (.int .i64 (k + 1))).alloc (.cells #[.int .i64 0, .string ⟨#[]⟩, .string ⟨#[]⟩, .slice none 0 0, .slice none 0 0] 41)) w.heap.size [.int .i64 0, .string ⟨#[]⟩, .string ⟨#[]⟩, .slice none 0 0, .slice none 0 0] 41 by
    have := Blk.new (w.setCell ⟨q, 1, none⟩ (.int .i64 (k + 1))) [.int .i64 0, .string ⟨#[]⟩, .string ⟨#[]⟩, .slice none 0 0, .slice none 0 0] 41
    rw [size_set] at this; exact this)
  have CL := Lib.hid (cl _ RA (KA.out.keeps hb hbx))
  obtain ⟨c1, z1⟩ := (h.alloc (.cells #[.int .i64 0, .string ⟨#[]⟩, .string ⟨#[]⟩, .slice none 0 0, .slice none 0 0] 41)).cells
  have sA : w.heap.size + 1 ≤ ((w.setCell ⟨q, 1, none⟩ (.int .i64 (k + 1))).alloc (.cells #[.int .i64 0, .string ⟨#[]⟩, .string ⟨#[]⟩, .slice none 0 0, .slice none 0 0] 41)).heap.size := by simp [World.setCell]
  clear cl hb h RA
  have hw : IntKind.i64.wrap (k + 1) = k + 1 := IntWalk.i64_in _ (by omega)
  have hw2 : IntKind.i64.wrap (k + 1 - 1) = k := by rw [IntWalk.i64_in _ (by omega)]; omega
  have hgt : ¬ (100 : Int) < k := by omega
  go_enter Try.func90, Try.ntmps90
  go_wp2_with fail
  refine (CL.out).mono ?_
  rintro e1 w1 (⟨x, r', _, rfl, hx, hr, ⟨cs, rfl, hE⟩, hrd, hk⟩ | ⟨rfl, hno, hk⟩)
  rotate_left
  · unfold PAN
    have KF := Lib.hid (KA.out.thn hk)
    clear hk
    go_wp2_with fail
    exact ⟨rfl, .inr ⟨rfl, hno, KF.out⟩⟩
  · obtain ⟨t0, t1, t2, t3, t3l, t3c, t4, t4l, t4c, rfl⟩ := shapeT_Ty hE
    have s1 := Nat.le_trans sA hk.size
    have BR := Lib.hid (Blk.kp BA.out hk (fun e => by omega))
    have FIN := Lib.hid (show Rp B W q r k (OkTy (m + 1)) encTy (VT (fun T w => TyT T w (m + 1))) w (.returned (.agg #[.int .i64 t0, .string t1, .string t2, .slice t3 t3l t3c, .slice t4 t4l t4c])) (lays ((w1.setCell ⟨q, 1, none⟩ (.int .i64 k)).alloc (.cells #[.int .i64 t0, .string t1, .string t2, .slice t3 t3l t3c, .slice t4 t4l t4c] 41)) w.heap.size 0 [.int .i64 t0, .string t1, .string t2, .slice t3 t3l t3c, .slice t4 t4l t4c]) by
      have KL := Kp.sets (Kp.alloc (Kp.setCell (Kp.refl (fun b => b < w.heap.size + 1) w1) (p := ⟨q, 1, none⟩) (fun _ => by simp only; omega) (.int .i64 k)) (.cells #[.int .i64 t0, .string t1, .string t2, .slice t3 t3l t3c, .slice t4 t4l t4c] 41)) (b := w.heap.size) (fun _ => by omega) 0 [.int .i64 t0, .string t1, .string t2, .slice t3 t3l t3c, .slice t4 t4l t4c]
      refine .inl ⟨x, r', _, rfl, hx, hr, ⟨[.int .i64 t0, .string t1, .string t2, .slice t3 t3l t3c, .slice t4 t4l t4c], rfl, Carry.lo (carry_Ty (m + 1)) (L' := w.heap.size) (Carry.next (carry_Ty (m + 1)) (L := w.heap.size + 1) (Carry.lo (carry_Ty (m + 1)) hE sA) KL) (by omega)⟩,
        RdAt.sets ((RdAt.deep hrd k).alloc (.cells #[.int .i64 t0, .string t1, .string t2, .slice t3 t3l t3c, .slice t4 t4l t4c] 41)) (b := w.heap.size) (by omega) 0 [.int .i64 t0, .string t1, .string t2, .slice t3 t3l t3c, .slice t4 t4l t4c],
        Kp.sets (Kp.alloc (Kp.setCell (KA.out.thn hk) (p := ⟨q, 1, none⟩) (fun _ => rfl) (.int .i64 k)) (.cells #[.int .i64 t0, .string t1, .string t2, .slice t3 t3l t3c, .slice t4 t4l t4c] 41)) (b := w.heap.size) (fun _ => by omega) 0 [.int .i64 t0, .string t1, .string t2, .slice t3 t3l t3c, .slice t4 t4l t4c]⟩)
    obtain ⟨cq, zq⟩ := hrd.cells
    have hn1 : ¬ w1.heap.size = q := by omega
    have hn2 : ¬ q = w1.heap.size := by omega
    have hn3 : ¬ w1.heap.size = w.heap.size := by omega
    have hn4 : ¬ w.heap.size = w1.heap.size := by omega
    have hn5 : ¬ w.heap.size = q := by omega
    have hn6 : ¬ q = w.heap.size := by omega
    have hlq : q < w1.heap.size := by omega
    have BRW := Lib.hid (Blk.alloc (Blk.setOther BR.out (a := ⟨q, 1, none⟩) (by simp only; omega) (.int .i64 k)) (.cells #[.int .i64 t0, .string t1, .string t2, .slice t3 t3l t3c, .slice t4 t4l t4c] 41))
    have cR := BRW.out.cell
    have zR := BRW.out.frozen
    clear hx hr hE hrd hk c1 z1 CL
    have fR0 := cR 0
    have fR1 := cR 1
    have fR2 := cR 2
    have fR3 := cR 3
    have fR4 := cR 4
    simp only [List.getElem?_cons_zero, List.getElem?_cons_succ] at fR0 fR1 fR2 fR3 fR4
    go_wp2_with fail
    try simp only [Exit.inBlock, Exit.then]
    refine bodyPost_ret (v := .agg #[.int .i64 t0, .string t1, .string t2, .slice t3 t3l t3c, .slice t4 t4l t4c]) (by simp [results, Try.results90, go_sem, fR0, fR1, fR2, fR3, fR4]) rfl FIN.out
set_option maxRecDepth 100000 in
set_option maxHeartbeats 1000000 in
theorem within_deep_Ty {B : Nat} {W w : World} {q bx : Nat} {r : List UInt8} {k : Int} (hk1 : k = 101) (h : RdAt B W w q r k) :
    Calls Try.prog 90 #[.pointer (some ⟨q, 0, none⟩), .func (.func 91) #[] #[.pointer (some ⟨bx, 0, none⟩)]] w (Rp B W q r k (OkTy 0) encTy (VT (fun T w => TyT T w 0)) w) := by
  have hq := h.lt
  obtain ⟨c1, z1⟩ := (h.alloc (.cells #[.int .i64 0, .string ⟨#[]⟩, .string ⟨#[]⟩, .slice none 0 0, .slice none 0 0] 41)).cells
  have KA := Lib.hid ((Kp.refl (fun b => b = q) w).alloc (.cells #[.int .i64 0, .string ⟨#[]⟩, .string ⟨#[]⟩, .slice none 0 0, .slice none 0 0] 41))
  subst hk1
  clear h
  go_enter Try.func90, Try.ntmps90
  go_wp2_with fail
  exact ⟨rfl, .inr ⟨rfl, fun _ _ h _ => h.elim, KA.out⟩⟩
set_option maxRecDepth 100000 in
set_option maxHeartbeats 2000000 in
theorem rtyp_of {B : Nat} {W w : World} {q : Nat} {r : List UInt8} {k : Int} {m : Nat}
    (wi : ∀ (bx : Nat) (wz : World), bx ≠ q → wz.cell? ⟨bx, 0, none⟩ = some (.pointer (some ⟨q, 0, none⟩)) → RdAt B W wz q r k → Calls Try.prog 90 #[.pointer (some ⟨q, 0, none⟩), .func (.func 91) #[] #[.pointer (some ⟨bx, 0, none⟩)]] wz (Rp B W q r k (OkTy m) encTy (VT (fun T w => TyT T w m)) wz))
    (h : RdAt B W w q r k) : Calls Try.prog 66 #[.pointer (some ⟨q, 0, none⟩)] w (Rp B W q r k (OkTy m) encTy (VT (fun T w => TyT T w m)) w) := by
  have hmf : ∀ (fn : Fn) (first cap : Array Value) (w : World), (Instr.makeFunc fn first cap).run Try.prog w = .ok (.func fn first cap) w := fun _ _ _ _ => rfl
  have hq := h.lt
  have hB := h.2.1
  have cb : ((w.alloc (.cells #[.pointer (some ⟨q, 0, none⟩)] 72)).alloc (.cells #[.int .i64 0, .string ⟨#[]⟩, .string ⟨#[]⟩, .slice none 0 0, .slice none 0 0] 41)).cell? ⟨w.heap.size, 0, none⟩ = some (.pointer (some ⟨q, 0, none⟩)) := ((Blk.new w [.pointer (some ⟨q, 0, none⟩)] 72).alloc (.cells #[.int .i64 0, .string ⟨#[]⟩, .string ⟨#[]⟩, .slice none 0 0, .slice none 0 0] 41)).cell 0
  have WIC := Lib.hid (wi w.heap.size ((w.alloc (.cells #[.pointer (some ⟨q, 0, none⟩)] 72)).alloc (.cells #[.int .i64 0, .string ⟨#[]⟩, .string ⟨#[]⟩, .slice none 0 0, .slice none 0 0] 41)) (by omega) cb ((h.alloc (.cells #[.pointer (some ⟨q, 0, none⟩)] 72)).alloc (.cells #[.int .i64 0, .string ⟨#[]⟩, .string ⟨#[]⟩, .slice none 0 0, .slice none 0 0] 41)))
  have KA := Lib.hid (((Kp.refl (fun b => b = q) w).alloc (.cells #[.pointer (some ⟨q, 0, none⟩)] 72)).alloc (.cells #[.int .i64 0, .string ⟨#[]⟩, .string ⟨#[]⟩, .slice none 0 0, .slice none 0 0] 41))
  have BA := Lib.hid (show Blk ((w.alloc (.cells #[.pointer (some ⟨q, 0, none⟩)] 72)).alloc (.cells #[.int .i64 0, .string ⟨#[]⟩, .string ⟨#[]⟩, .slice none 0 0, .slice none 0 0] 41)) (w.heap.size + 1) [.int .i64 0, .string ⟨#[]⟩, .string ⟨#[]⟩, .slice none 0 0, .slice none 0 0] 41 by
    have := Blk.new (w.alloc (.cells #[.pointer (some ⟨q, 0, none⟩)] 72)) [.int .i64 0, .string ⟨#[]⟩, .string ⟨#[]⟩, .slice none 0 0, .slice none 0 0] 41
    rw [size_alloc] at this; exact this)
  have sA : w.heap.size + 2 ≤ ((w.alloc (.cells #[.pointer (some ⟨q, 0, none⟩)] 72)).alloc (.cells #[.int .i64 0, .string ⟨#[]⟩, .string ⟨#[]⟩, .slice none 0 0, .slice none 0 0] 41)).heap.size := by simp
  clear wi h
  go_enter Try.func66, Try.ntmps66
  go_wp2_with fail
  refine (WIC.out).mono ?_
  rintro e1 w1 (⟨x, r', _, rfl, hx, hr, ⟨cs, rfl, hE⟩, hrd, hk⟩ | ⟨rfl, hno, hk⟩)
  rotate_left
  · unfold PAN
    have KF := Lib.hid (KA.out.thn hk)
    clear hk
    go_wp2_with fail
    exact ⟨rfl, .inr ⟨rfl, hno, KF.out⟩⟩
  · obtain ⟨t0, t1, t2, t3, t3l, t3c, t4, t4l, t4c, rfl⟩ := shapeT_Ty hE
    have s1 := Nat.le_trans sA hk.size
    have BR := Lib.hid (Blk.kp BA.out hk (fun e => by omega))
    have FIN := Lib.hid (show Rp B W q r k (OkTy m) encTy (VT (fun T w => TyT T w m)) w (.returned (.agg #[.int .i64 t0, .string t1, .string t2, .slice t3 t3l t3c, .slice t4 t4l t4c])) (lays w1 (w.heap.size + 1) 0 [.int .i64 t0, .string t1, .string t2, .slice t3 t3l t3c, .slice t4 t4l t4c]) by
      have KL := Kp.sets (Kp.refl (fun b => b < w.heap.size + 2) w1) (b := (w.heap.size + 1)) (fun _ => by omega) 0 [.int .i64 t0, .string t1, .string t2, .slice t3 t3l t3c, .slice t4 t4l t4c]
      refine .inl ⟨x, r', _, rfl, hx, hr, ⟨[.int .i64 t0, .string t1, .string t2, .slice t3 t3l t3c, .slice t4 t4l t4c], rfl, Carry.lo (carry_Ty m) (L' := w.heap.size) (Carry.next (carry_Ty m) (L := w.heap.size + 2) (Carry.lo (carry_Ty m) hE sA) KL) (by omega)⟩,
        RdAt.sets hrd (b := (w.heap.size + 1)) (by omega) 0 [.int .i64 t0, .string t1, .string t2, .slice t3 t3l t3c, .slice t4 t4l t4c], Kp.sets (KA.out.thn hk) (b := (w.heap.size + 1)) (fun _ => by omega) 0 [.int .i64 t0, .string t1, .string t2, .slice t3 t3l t3c, .slice t4 t4l t4c]⟩)
    have cR := BR.out.cell
    have zR := BR.out.frozen
    clear hx hr hE hrd hk cb WIC
    have fR0 := cR 0
    have fR1 := cR 1
    have fR2 := cR 2
    have fR3 := cR 3
    have fR4 := cR 4
    simp only [List.getElem?_cons_zero, List.getElem?_cons_succ] at fR0 fR1 fR2 fR3 fR4
    go_wp2_with fail
    try simp only [Exit.inBlock, Exit.then]
    refine bodyPost_ret (v := .agg #[.int .i64 t0, .string t1, .string t2, .slice t3 t3l t3c, .slice t4 t4l t4c]) (by simp [results, Try.results66, go_sem, fR0, fR1, fR2, fR3, fR4]) rfl FIN.out
set_option maxRecDepth 100000 in
set_option maxHeartbeats 2000000 in
theorem within_Ex {B : Nat} {W w : World} {q bx : Nat} {r : List UInt8} {k : Int} {m : Nat} (hk0 : 0 ≤ k) (hk1 : k ≤ 100) (hbx : bx ≠ q)
    (cl : ∀ (wz : World), RdAt B W wz q r (k + 1) → wz.cell? ⟨bx, 0, none⟩ = some (.pointer (some ⟨q, 0, none⟩)) → Calls Try.prog 107 #[.pointer (some ⟨bx, 0, none⟩)] wz (Rp B W q r (k + 1) (OkEx (m + 1)) encEx (VT (fun T w => ExT T w (m + 1))) wz))
    (hb : w.cell? ⟨bx, 0, none⟩ = some (.pointer (some ⟨q, 0, none⟩))) (h : RdAt B W w q r k) :
    Calls Try.prog 106 #[.pointer (some ⟨q, 0, none⟩), .func (.func 107) #[] #[.pointer (some ⟨bx, 0, none⟩)]] w (Rp B W q r k (OkEx (m + 1)) encEx (VT (fun T w => ExT T w (m + 1))) w) := by
  have hq := h.lt
  have hB := h.2.1
  have RA := (RdAt.deep h (k + 1)).alloc (.cells #[.int .i64 0, .int .i64 0, .string ⟨#[]⟩, .slice none 0 0] 132)
  have KA := Lib.hid (((Kp.refl (fun b => b = q) w).setCell (p := ⟨q, 1, none⟩) (fun _ => rfl) (.int .i64 (k + 1))).alloc (.cells #[.int .i64 0, .int .i64 0, .string ⟨#[]⟩, .slice none 0 0] 132))
  have BA := Lib.hid (show Blk ((w.setCell ⟨q, 1, none⟩ (.int .i64 (k + 1))).alloc (.cells #[.int .i64 0, .int .i64 0, .string ⟨#[]⟩, .slice none 0 0] 132)) w.heap.size [.int .i64 0, .int .i64 0, .string ⟨#[]⟩, .slice none 0 0] 132 by
    have := Blk.new (w.setCell ⟨q, 1, none⟩ (.int .i64 (k + 1))) [.int .i64 0, .int .i64 0, .string ⟨#[]⟩, .slice none 0 0] 132
    rw [size_set] at this; exact this)
  have CL := Lib.hid (cl _ RA (KA.out.keeps hb hbx))
  obtain ⟨c1, z1⟩ := (h.alloc (.cells #[.int .i64 0, .int .i64 0, .string ⟨#[]⟩, .slice none 0 0] 132)).cells
  have sA : w.heap.size + 1 ≤ ((w.setCell ⟨q, 1, none⟩ (.int .i64 (k + 1))).alloc (.cells #[.int .i64 0, .int .i64 0, .string ⟨#[]⟩, .slice none 0 0] 132)).heap.size := by simp [World.setCell]
  clear cl hb h RA
  have hw : IntKind.i64.wrap (k + 1) = k + 1 := IntWalk.i64_in _ (by omega)
  have hw2 : IntKind.i64.wrap (k + 1 - 1) = k := by rw [IntWalk.i64_in _ (by omega)]; omega
  have hgt : ¬ (100 : Int) < k := by omega
  go_enter Try.func106, Try.ntmps106
  go_wp2_with fail
  refine (CL.out).mono ?_
  rintro e1 w1 (⟨x, r', _, rfl, hx, hr, ⟨cs, rfl, hE⟩, hrd, hk⟩ | ⟨rfl, hno, hk⟩)
  rotate_left
  · unfold PAN
    have KF := Lib.hid (KA.out.thn hk)
    clear hk
    go_wp2_with fail
    exact ⟨rfl, .inr ⟨rfl, hno, KF.out⟩⟩
  · obtain ⟨t0, t1, t2, t3, t3l, t3c, rfl⟩ := shapeT_Ex hE
    have s1 := Nat.le_trans sA hk.size
    have BR := Lib.hid (Blk.kp BA.out hk (fun e => by omega))
    have FIN := Lib.hid (show Rp B W q r k (OkEx (m + 1)) encEx (VT (fun T w => ExT T w (m + 1))) w (.returned (.agg #[.int .i64 t0, .int .i64 t1, .string t2, .slice t3 t3l t3c])) (lays ((w1.setCell ⟨q, 1, none⟩ (.int .i64 k)).alloc (.cells #[.int .i64 t0, .int .i64 t1, .string t2, .slice t3 t3l t3c] 132)) w.heap.size 0 [.int .i64 t0, .int .i64 t1, .string t2, .slice t3 t3l t3c]) by
      have KL := Kp.sets (Kp.alloc (Kp.setCell (Kp.refl (fun b => b < w.heap.size + 1) w1) (p := ⟨q, 1, none⟩) (fun _ => by simp only; omega) (.int .i64 k)) (.cells #[.int .i64 t0, .int .i64 t1, .string t2, .slice t3 t3l t3c] 132)) (b := w.heap.size) (fun _ => by omega) 0 [.int .i64 t0, .int .i64 t1, .string t2, .slice t3 t3l t3c]
      refine .inl ⟨x, r', _, rfl, hx, hr, ⟨[.int .i64 t0, .int .i64 t1, .string t2, .slice t3 t3l t3c], rfl, Carry.lo (carry_Ex (m + 1)) (L' := w.heap.size) (Carry.next (carry_Ex (m + 1)) (L := w.heap.size + 1) (Carry.lo (carry_Ex (m + 1)) hE sA) KL) (by omega)⟩,
        RdAt.sets ((RdAt.deep hrd k).alloc (.cells #[.int .i64 t0, .int .i64 t1, .string t2, .slice t3 t3l t3c] 132)) (b := w.heap.size) (by omega) 0 [.int .i64 t0, .int .i64 t1, .string t2, .slice t3 t3l t3c],
        Kp.sets (Kp.alloc (Kp.setCell (KA.out.thn hk) (p := ⟨q, 1, none⟩) (fun _ => rfl) (.int .i64 k)) (.cells #[.int .i64 t0, .int .i64 t1, .string t2, .slice t3 t3l t3c] 132)) (b := w.heap.size) (fun _ => by omega) 0 [.int .i64 t0, .int .i64 t1, .string t2, .slice t3 t3l t3c]⟩)
    obtain ⟨cq, zq⟩ := hrd.cells
    have hn1 : ¬ w1.heap.size = q := by omega
    have hn2 : ¬ q = w1.heap.size := by omega
    have hn3 : ¬ w1.heap.size = w.heap.size := by omega
    have hn4 : ¬ w.heap.size = w1.heap.size := by omega
    have hn5 : ¬ w.heap.size = q := by omega
    have hn6 : ¬ q = w.heap.size := by omega
    have hlq : q < w1.heap.size := by omega
    have BRW := Lib.hid (Blk.alloc (Blk.setOther BR.out (a := ⟨q, 1, none⟩) (by simp only; omega) (.int .i64 k)) (.cells #[.int .i64 t0, .int .i64 t1, .string t2, .slice t3 t3l t3c] 132))
    have cR := BRW.out.cell
    have zR := BRW.out.frozen
    clear hx hr hE hrd hk c1 z1 CL
    have fR0 := cR 0
    have fR1 := cR 1
    have fR2 := cR 2
    have fR3 := cR 3
    simp only [List.getElem?_cons_zero, List.getElem?_cons_succ] at fR0 fR1 fR2 fR3
    go_wp2_with fail
    try simp only [Exit.inBlock, Exit.then]
    refine bodyPost_ret (v := .agg #[.int .i64 t0, .int .i64 t1, .string t2, .slice t3 t3l t3c]) (by simp [results, Try.results106, go_sem, fR0, fR1, fR2, fR3]) rfl FIN.out
set_option maxRecDepth 100000 in
set_option maxHeartbeats 1000000 in
theorem within_deep_Ex {B : Nat} {W w : World} {q bx : Nat} {r : List UInt8} {k : Int} (hk1 : k = 101) (h : RdAt B W w q r k) :
    Calls Try.prog 106 #[.pointer (some ⟨q, 0, none⟩), .func (.func 107) #[] #[.pointer (some ⟨bx, 0, none⟩)]] w (Rp B W q r k (OkEx 0) encEx (VT (fun T w => ExT T w 0)) w) := by
  have hq := h.lt
  obtain ⟨c1, z1⟩ := (h.alloc (.cells #[.int .i64 0, .int .i64 0, .string ⟨#[]⟩, .slice none 0 0] 132)).cells
  have KA := Lib.hid ((Kp.refl (fun b => b = q) w).alloc (.cells #[.int .i64 0, .int .i64 0, .string ⟨#[]⟩, .slice none 0 0] 132))
  subst hk1
  clear h
  go_enter Try.func106, Try.ntmps106
  go_wp2_with fail
  exact ⟨rfl, .inr ⟨rfl, fun _ _ h _ => h.elim, KA.out⟩⟩
set_option maxRecDepth 100000 in
set_option maxHeartbeats 2000000 in
theorem rexpr_of {B : Nat} {W w : World} {q : Nat} {r : List UInt8} {k : Int} {m : Nat}
    (wi : ∀ (bx : Nat) (wz : World), bx ≠ q → wz.cell? ⟨bx, 0, none⟩ = some (.pointer (some ⟨q, 0, none⟩)) → RdAt B W wz q r k → Calls Try.prog 106 #[.pointer (some ⟨q, 0, none⟩), .func (.func 107) #[] #[.pointer (some ⟨bx, 0, none⟩)]] wz (Rp B W q r k (OkEx m) encEx (VT (fun T w => ExT T w m)) wz))
    (h : RdAt B W w q r k) : Calls Try.prog 96 #[.pointer (some ⟨q, 0, none⟩)] w (Rp B W q r k (OkEx m) encEx (VT (fun T w => ExT T w m)) w) := by
  have hmf : ∀ (fn : Fn) (first cap : Array Value) (w : World), (Instr.makeFunc fn first cap).run Try.prog w = .ok (.func fn first cap) w := fun _ _ _ _ => rfl
  have hq := h.lt
  have hB := h.2.1
  have cb : ((w.alloc (.cells #[.pointer (some ⟨q, 0, none⟩)] 72)).alloc (.cells #[.int .i64 0, .int .i64 0, .string ⟨#[]⟩, .slice none 0 0] 132)).cell? ⟨w.heap.size, 0, none⟩ = some (.pointer (some ⟨q, 0, none⟩)) := ((Blk.new w [.pointer (some ⟨q, 0, none⟩)] 72).alloc (.cells #[.int .i64 0, .int .i64 0, .string ⟨#[]⟩, .slice none 0 0] 132)).cell 0
  have WIC := Lib.hid (wi w.heap.size ((w.alloc (.cells #[.pointer (some ⟨q, 0, none⟩)] 72)).alloc (.cells #[.int .i64 0, .int .i64 0, .string ⟨#[]⟩, .slice none 0 0] 132)) (by omega) cb ((h.alloc (.cells #[.pointer (some ⟨q, 0, none⟩)] 72)).alloc (.cells #[.int .i64 0, .int .i64 0, .string ⟨#[]⟩, .slice none 0 0] 132)))
  have KA := Lib.hid (((Kp.refl (fun b => b = q) w).alloc (.cells #[.pointer (some ⟨q, 0, none⟩)] 72)).alloc (.cells #[.int .i64 0, .int .i64 0, .string ⟨#[]⟩, .slice none 0 0] 132))
  have BA := Lib.hid (show Blk ((w.alloc (.cells #[.pointer (some ⟨q, 0, none⟩)] 72)).alloc (.cells #[.int .i64 0, .int .i64 0, .string ⟨#[]⟩, .slice none 0 0] 132)) (w.heap.size + 1) [.int .i64 0, .int .i64 0, .string ⟨#[]⟩, .slice none 0 0] 132 by
    have := Blk.new (w.alloc (.cells #[.pointer (some ⟨q, 0, none⟩)] 72)) [.int .i64 0, .int .i64 0, .string ⟨#[]⟩, .slice none 0 0] 132
    rw [size_alloc] at this; exact this)
  have sA : w.heap.size + 2 ≤ ((w.alloc (.cells #[.pointer (some ⟨q, 0, none⟩)] 72)).alloc (.cells #[.int .i64 0, .int .i64 0, .string ⟨#[]⟩, .slice none 0 0] 132)).heap.size := by simp
  clear wi h
  go_enter Try.func96, Try.ntmps96
  go_wp2_with fail
  refine (WIC.out).mono ?_
  rintro e1 w1 (⟨x, r', _, rfl, hx, hr, ⟨cs, rfl, hE⟩, hrd, hk⟩ | ⟨rfl, hno, hk⟩)
  rotate_left
  · unfold PAN
    have KF := Lib.hid (KA.out.thn hk)
    clear hk
    go_wp2_with fail
    exact ⟨rfl, .inr ⟨rfl, hno, KF.out⟩⟩
  · obtain ⟨t0, t1, t2, t3, t3l, t3c, rfl⟩ := shapeT_Ex hE
    have s1 := Nat.le_trans sA hk.size
    have BR := Lib.hid (Blk.kp BA.out hk (fun e => by omega))
    have FIN := Lib.hid (show Rp B W q r k (OkEx m) encEx (VT (fun T w => ExT T w m)) w (.returned (.agg #[.int .i64 t0, .int .i64 t1, .string t2, .slice t3 t3l t3c])) (lays w1 (w.heap.size + 1) 0 [.int .i64 t0, .int .i64 t1, .string t2, .slice t3 t3l t3c]) by
      have KL := Kp.sets (Kp.refl (fun b => b < w.heap.size + 2) w1) (b := (w.heap.size + 1)) (fun _ => by omega) 0 [.int .i64 t0, .int .i64 t1, .string t2, .slice t3 t3l t3c]
      refine .inl ⟨x, r', _, rfl, hx, hr, ⟨[.int .i64 t0, .int .i64 t1, .string t2, .slice t3 t3l t3c], rfl, Carry.lo (carry_Ex m) (L' := w.heap.size) (Carry.next (carry_Ex m) (L := w.heap.size + 2) (Carry.lo (carry_Ex m) hE sA) KL) (by omega)⟩,
        RdAt.sets hrd (b := (w.heap.size + 1)) (by omega) 0 [.int .i64 t0, .int .i64 t1, .string t2, .slice t3 t3l t3c], Kp.sets (KA.out.thn hk) (b := (w.heap.size + 1)) (fun _ => by omega) 0 [.int .i64 t0, .int .i64 t1, .string t2, .slice t3 t3l t3c]⟩)
    have cR := BR.out.cell
    have zR := BR.out.frozen
    clear hx hr hE hrd hk cb WIC
    have fR0 := cR 0
    have fR1 := cR 1
    have fR2 := cR 2
    have fR3 := cR 3
    simp only [List.getElem?_cons_zero, List.getElem?_cons_succ] at fR0 fR1 fR2 fR3
    go_wp2_with fail
    try simp only [Exit.inBlock, Exit.then]
    refine bodyPost_ret (v := .agg #[.int .i64 t0, .int .i64 t1, .string t2, .slice t3 t3l t3c]) (by simp [results, Try.results96, go_sem, fR0, fR1, fR2, fR3]) rfl FIN.out
set_option maxRecDepth 100000 in
set_option maxHeartbeats 2000000 in
theorem within_St {B : Nat} {W w : World} {q bx : Nat} {r : List UInt8} {k : Int} {m : Nat} (hk0 : 0 ≤ k) (hk1 : k ≤ 100) (hbx : bx ≠ q)
    (cl : ∀ (wz : World), RdAt B W wz q r (k + 1) → wz.cell? ⟨bx, 0, none⟩ = some (.pointer (some ⟨q, 0, none⟩)) → Calls Try.prog 94 #[.pointer (some ⟨bx, 0, none⟩)] wz (Rp B W q r (k + 1) (OkSt (m + 1)) encSt (VT (fun T w => StT T w (m + 1))) wz))
    (hb : w.cell? ⟨bx, 0, none⟩ = some (.pointer (some ⟨q, 0, none⟩))) (h : RdAt B W w q r k) :
    Calls Try.prog 93 #[.pointer (some ⟨q, 0, none⟩), .func (.func 94) #[] #[.pointer (some ⟨bx, 0, none⟩)]] w (Rp B W q r k (OkSt (m + 1)) encSt (VT (fun T w => StT T w (m + 1))) w) := by
  have hq := h.lt
  have hB := h.2.1
  have RA := (RdAt.deep h (k + 1)).alloc (.cells #[.int .i64 0, .int .i64 0, .slice none 0 0, .slice none 0 0, .slice none 0 0] 101)
  have KA := Lib.hid (((Kp.refl (fun b => b = q) w).setCell (p := ⟨q, 1, none⟩) (fun _ => rfl) (.int .i64 (k + 1))).alloc (.cells #[.int .i64 0, .int .i64 0, .slice none 0 0, .slice none 0 0, .slice none 0 0] 101))
  have BA := Lib.hid (show Blk ((w.setCell ⟨q, 1, none⟩ (.int .i64 (k + 1))).alloc (.cells #[.int .i64 0, .int .i64 0, .slice none 0 0, .slice none 0 0, .slice none 0 0] 101)) w.heap.size [.int .i64 0, .int .i64 0, .slice none 0 0, .slice none 0 0, .slice none 0 0] 101 by
    have := Blk.new (w.setCell ⟨q, 1, none⟩ (.int .i64 (k + 1))) [.int .i64 0, .int .i64 0, .slice none 0 0, .slice none 0 0, .slice none 0 0] 101
    rw [size_set] at this; exact this)
  have CL := Lib.hid (cl _ RA (KA.out.keeps hb hbx))
  obtain ⟨c1, z1⟩ := (h.alloc (.cells #[.int .i64 0, .int .i64 0, .slice none 0 0, .slice none 0 0, .slice none 0 0] 101)).cells
  have sA : w.heap.size + 1 ≤ ((w.setCell ⟨q, 1, none⟩ (.int .i64 (k + 1))).alloc (.cells #[.int .i64 0, .int .i64 0, .slice none 0 0, .slice none 0 0, .slice none 0 0] 101)).heap.size := by simp [World.setCell]
  clear cl hb h RA
  have hw : IntKind.i64.wrap (k + 1) = k + 1 := IntWalk.i64_in _ (by omega)
  have hw2 : IntKind.i64.wrap (k + 1 - 1) = k := by rw [IntWalk.i64_in _ (by omega)]; omega
  have hgt : ¬ (100 : Int) < k := by omega
  go_enter Try.func93, Try.ntmps93
  go_wp2_with fail
  refine (CL.out).mono ?_
  rintro e1 w1 (⟨x, r', _, rfl, hx, hr, ⟨cs, rfl, hE⟩, hrd, hk⟩ | ⟨rfl, hno, hk⟩)
  rotate_left
  · unfold PAN
    have KF := Lib.hid (KA.out.thn hk)
    clear hk
    go_wp2_with fail
    exact ⟨rfl, .inr ⟨rfl, hno, KF.out⟩⟩
  · obtain ⟨t0, t1, t2, t2l, t2c, t3, t3l, t3c, t4, t4l, t4c, rfl⟩ := shapeT_St hE
    have s1 := Nat.le_trans sA hk.size
    have BR := Lib.hid (Blk.kp BA.out hk (fun e => by omega))
    have FIN := Lib.hid (show Rp B W q r k (OkSt (m + 1)) encSt (VT (fun T w => StT T w (m + 1))) w (.returned (.agg #[.int .i64 t0, .int .i64 t1, .slice t2 t2l t2c, .slice t3 t3l t3c, .slice t4 t4l t4c])) (lays ((w1.setCell ⟨q, 1, none⟩ (.int .i64 k)).alloc (.cells #[.int .i64 t0, .int .i64 t1, .slice t2 t2l t2c, .slice t3 t3l t3c, .slice t4 t4l t4c] 101)) w.heap.size 0 [.int .i64 t0, .int .i64 t1, .slice t2 t2l t2c, .slice t3 t3l t3c, .slice t4 t4l t4c]) by
      have KL := Kp.sets (Kp.alloc (Kp.setCell (Kp.refl (fun b => b < w.heap.size + 1) w1) (p := ⟨q, 1, none⟩) (fun _ => by simp only; omega) (.int .i64 k)) (.cells #[.int .i64 t0, .int .i64 t1, .slice t2 t2l t2c, .slice t3 t3l t3c, .slice t4 t4l t4c] 101)) (b := w.heap.size) (fun _ => by omega) 0 [.int .i64 t0, .int .i64 t1, .slice t2 t2l t2c, .slice t3 t3l t3c, .slice t4 t4l t4c]
      refine .inl ⟨x, r', _, rfl, hx, hr, ⟨[.int .i64 t0, .int .i64 t1, .slice t2 t2l t2c, .slice t3 t3l t3c, .slice t4 t4l t4c], rfl, Carry.lo (carry_St (m + 1)) (L' := w.heap.size) (Carry.next (carry_St (m + 1)) (L := w.heap.size + 1) (Carry.lo (carry_St (m + 1)) hE sA) KL) (by omega)⟩,
        RdAt.sets ((RdAt.deep hrd k).alloc (.cells #[.int .i64 t0, .int .i64 t1, .slice t2 t2l t2c, .slice t3 t3l t3c, .slice t4 t4l t4c] 101)) (b := w.heap.size) (by omega) 0 [.int .i64 t0, .int .i64 t1, .slice t2 t2l t2c, .slice t3 t3l t3c, .slice t4 t4l t4c],
        Kp.sets (Kp.alloc (Kp.setCell (KA.out.thn hk) (p := ⟨q, 1, none⟩) (fun _ => rfl) (.int .i64 k)) (.cells #[.int .i64 t0, .int .i64 t1, .slice t2 t2l t2c, .slice t3 t3l t3c, .slice t4 t4l t4c] 101)) (b := w.heap.size) (fun _ => by omega) 0 [.int .i64 t0, .int .i64 t1, .slice t2 t2l t2c, .slice t3 t3l t3c, .slice t4 t4l t4c]⟩)
    obtain ⟨cq, zq⟩ := hrd.cells
    have hn1 : ¬ w1.heap.size = q := by omega
    have hn2 : ¬ q = w1.heap.size := by omega
    have hn3 : ¬ w1.heap.size = w.heap.size := by omega
    have hn4 : ¬ w.heap.size = w1.heap.size := by omega
    have hn5 : ¬ w.heap.size = q := by omega
    have hn6 : ¬ q = w.heap.size := by omega
    have hlq : q < w1.heap.size := by omega
    have BRW := Lib.hid (Blk.alloc (Blk.setOther BR.out (a := ⟨q, 1, none⟩) (by simp only; omega) (.int .i64 k)) (.cells #[.int .i64 t0, .int .i64 t1, .slice t2 t2l t2c, .slice t3 t3l t3c, .slice t4 t4l t4c] 101))
    have cR := BRW.out.cell
    have zR := BRW.out.frozen
    clear hx hr hE hrd hk c1 z1 CL
    have fR0 := cR 0
    have fR1 := cR 1
    have fR2 := cR 2
    have fR3 := cR 3
    have fR4 := cR 4
    simp only [List.getElem?_cons_zero, List.getElem?_cons_succ] at fR0 fR1 fR2 fR3 fR4
    go_wp2_with fail
    try simp only [Exit.inBlock, Exit.then]
    refine bodyPost_ret (v := .agg #[.int .i64 t0, .int .i64 t1, .slice t2 t2l t2c, .slice t3 t3l t3c, .slice t4 t4l t4c]) (by simp [results, Try.results93, go_sem, fR0, fR1, fR2, fR3, fR4]) rfl FIN.out
set_option maxRecDepth 100000 in
set_option maxHeartbeats 1000000 in
theorem within_deep_St {B : Nat} {W w : World} {q bx : Nat} {r : List UInt8} {k : Int} (hk1 : k = 101) (h : RdAt B W w q r k) :
    Calls Try.prog 93 #[.pointer (some ⟨q, 0, none⟩), .func (.func 94) #[] #[.pointer (some ⟨bx, 0, none⟩)]] w (Rp B W q r k (OkSt 0) encSt (VT (fun T w => StT T w 0)) w) := by
  have hq := h.lt
  obtain ⟨c1, z1⟩ := (h.alloc (.cells #[.int .i64 0, .int .i64 0, .slice none 0 0, .slice none 0 0, .slice none 0 0] 101)).cells
  have KA := Lib.hid ((Kp.refl (fun b => b = q) w).alloc (.cells #[.int .i64 0, .int .i64 0, .slice none 0 0, .slice none 0 0, .slice none 0 0] 101))
  subst hk1
  clear h
  go_enter Try.func93, Try.ntmps93
  go_wp2_with fail
  exact ⟨rfl, .inr ⟨rfl, fun _ _ h _ => h.elim, KA.out⟩⟩
set_option maxRecDepth 100000 in
set_option maxHeartbeats 2000000 in
theorem rstat_of {B : Nat} {W w : World} {q : Nat} {r : List UInt8} {k : Int} {m : Nat}
    (wi : ∀ (bx : Nat) (wz : World), bx ≠ q → wz.cell? ⟨bx, 0, none⟩ = some (.pointer (some ⟨q, 0, none⟩)) → RdAt B W wz q r k → Calls Try.prog 93 #[.pointer (some ⟨q, 0, none⟩), .func (.func 94) #[] #[.pointer (some ⟨bx, 0, none⟩)]] wz (Rp B W q r k (OkSt m) encSt (VT (fun T w => StT T w m)) wz))
    (h : RdAt B W w q r k) : Calls Try.prog 71 #[.pointer (some ⟨q, 0, none⟩)] w (Rp B W q r k (OkSt m) encSt (VT (fun T w => StT T w m)) w) := by
  have hmf : ∀ (fn : Fn) (first cap : Array Value) (w : World), (Instr.makeFunc fn first cap).run Try.prog w = .ok (.func fn first cap) w := fun _ _ _ _ => rfl
  have hq := h.lt
  have hB := h.2.1
  have cb : ((w.alloc (.cells #[.pointer (some ⟨q, 0, none⟩)] 72)).alloc (.cells #[.int .i64 0, .int .i64 0, .slice none 0 0, .slice none 0 0, .slice none 0 0] 101)).cell? ⟨w.heap.size, 0, none⟩ = some (.pointer (some ⟨q, 0, none⟩)) := ((Blk.new w [.pointer (some ⟨q, 0, none⟩)] 72).alloc (.cells #[.int .i64 0, .int .i64 0, .slice none 0 0, .slice none 0 0, .slice none 0 0] 101)).cell 0
  have WIC := Lib.hid (wi w.heap.size ((w.alloc (.cells #[.pointer (some ⟨q, 0, none⟩)] 72)).alloc (.cells #[.int .i64 0, .int .i64 0, .slice none 0 0, .slice none 0 0, .slice none 0 0] 101)) (by omega) cb ((h.alloc (.cells #[.pointer (some ⟨q, 0, none⟩)] 72)).alloc (.cells #[.int .i64 0, .int .i64 0, .slice none 0 0, .slice none 0 0, .slice none 0 0] 101)))
  have KA := Lib.hid (((Kp.refl (fun b => b = q) w).alloc (.cells #[.pointer (some ⟨q, 0, none⟩)] 72)).alloc (.cells #[.int .i64 0, .int .i64 0, .slice none 0 0, .slice none 0 0, .slice none 0 0] 101))
  have BA := Lib.hid (show Blk ((w.alloc (.cells #[.pointer (some ⟨q, 0, none⟩)] 72)).alloc (.cells #[.int .i64 0, .int .i64 0, .slice none 0 0, .slice none 0 0, .slice none 0 0] 101)) (w.heap.size + 1) [.int .i64 0, .int .i64 0, .slice none 0 0, .slice none 0 0, .slice none 0 0] 101 by
    have := Blk.new (w.alloc (.cells #[.pointer (some ⟨q, 0, none⟩)] 72)) [.int .i64 0, .int .i64 0, .slice none 0 0, .slice none 0 0, .slice none 0 0] 101
    rw [size_alloc] at this; exact this)
  have sA : w.heap.size + 2 ≤ ((w.alloc (.cells #[.pointer (some ⟨q, 0, none⟩)] 72)).alloc (.cells #[.int .i64 0, .int .i64 0, .slice none 0 0, .slice none 0 0, .slice none 0 0] 101)).heap.size := by simp
  clear wi h
  go_enter Try.func71, Try.ntmps71
  go_wp2_with fail
  refine (WIC.out).mono ?_
  rintro e1 w1 (⟨x, r', _, rfl, hx, hr, ⟨cs, rfl, hE⟩, hrd, hk⟩ | ⟨rfl, hno, hk⟩)
  rotate_left
  · unfold PAN
    have KF := Lib.hid (KA.out.thn hk)
    clear hk
    go_wp2_with fail
    exact ⟨rfl, .inr ⟨rfl, hno, KF.out⟩⟩
  · obtain ⟨t0, t1, t2, t2l, t2c, t3, t3l, t3c, t4, t4l, t4c, rfl⟩ := shapeT_St hE
    have s1 := Nat.le_trans sA hk.size
    have BR := Lib.hid (Blk.kp BA.out hk (fun e => by omega))
    have FIN := Lib.hid (show Rp B W q r k (OkSt m) encSt (VT (fun T w => StT T w m)) w (.returned (.agg #[.int .i64 t0, .int .i64 t1, .slice t2 t2l t2c, .slice t3 t3l t3c, .slice t4 t4l t4c])) (lays w1 (w.heap.size + 1) 0 [.int .i64 t0, .int .i64 t1, .slice t2 t2l t2c, .slice t3 t3l t3c, .slice t4 t4l t4c]) by
      have KL := Kp.sets (Kp.refl (fun b => b < w.heap.size + 2) w1) (b := (w.heap.size + 1)) (fun _ => by omega) 0 [.int .i64 t0, .int .i64 t1, .slice t2 t2l t2c, .slice t3 t3l t3c, .slice t4 t4l t4c]
      refine .inl ⟨x, r', _, rfl, hx, hr, ⟨[.int .i64 t0, .int .i64 t1, .slice t2 t2l t2c, .slice t3 t3l t3c, .slice t4 t4l t4c], rfl, Carry.lo (carry_St m) (L' := w.heap.size) (Carry.next (carry_St m) (L := w.heap.size + 2) (Carry.lo (carry_St m) hE sA) KL) (by omega)⟩,
        RdAt.sets hrd (b := (w.heap.size + 1)) (by omega) 0 [.int .i64 t0, .int .i64 t1, .slice t2 t2l t2c, .slice t3 t3l t3c, .slice t4 t4l t4c], Kp.sets (KA.out.thn hk) (b := (w.heap.size + 1)) (fun _ => by omega) 0 [.int .i64 t0, .int .i64 t1, .slice t2 t2l t2c, .slice t3 t3l t3c, .slice t4 t4l t4c]⟩)
    have cR := BR.out.cell
    have zR := BR.out.frozen
    clear hx hr hE hrd hk cb WIC
    have fR0 := cR 0
    have fR1 := cR 1
    have fR2 := cR 2
    have fR3 := cR 3
    have fR4 := cR 4
    simp only [List.getElem?_cons_zero, List.getElem?_cons_succ] at fR0 fR1 fR2 fR3 fR4
    go_wp2_with fail
    try simp only [Exit.inBlock, Exit.then]
    refine bodyPost_ret (v := .agg #[.int .i64 t0, .int .i64 t1, .slice t2 t2l t2c, .slice t3 t3l t3c, .slice t4 t4l t4c]) (by simp [results, Try.results71, go_sem, fR0, fR1, fR2, fR3, fR4]) rfl FIN.out
end Go.Proofs.Ytpopgnengimieaa
