/- The writer of objects over an object's parts. -/
import Derived.Test.YtfdjlicegfgodaaOW2
import Derived.Test.YtfdjlicegfgodaaObj1
namespace Go.Proofs.Ytfdjlicegfgodaa
open Go.RowKit
set_option linter.unusedSimpArgs false
set_option linter.unusedVariables false

def encB (b : Bool) : List UInt8 := le8 (if b = true then 1 else 0)
theorem encB_length (b : Bool) : (encB b).length = 8 := le8_length _
def encIm (i : Im) : List UInt8 := encS i.name ++ le8 i.hash
def encSy (s : Sy) : List UInt8 := encS s.name ++ (le8 s.kind ++ (encB s.weak ++ (le8 s.at_ ++ (le8 s.size ++ le8 s.frame))))
def encRe (r : Re) : List UInt8 := encB r.data ++ (le8 r.at_ ++ encS r.name)
def encO (o : Ob) : List UInt8 := encS o.pkg ++ (le8 o.hash ++ (encL encIm o.imports ++ (encL encSy o.syms ++ (encL encRe o.relocs ++ (encL le8 o.code ++ encL le8 o.data)))))
section
variable {α : Type}
theorem fm_take (f : α → List UInt8) {l : List α} {k : Nat} (h : k < l.length) : (l.take (k + 1)).flatMap f = (l.take k).flatMap f ++ f l[k] := by
  rw [List.take_succ_eq_append_getElem h, List.flatMap_append]; simp
theorem fm_drop (f : α → List UInt8) {l : List α} {k : Nat} (h : k < l.length) : ((l.drop k).flatMap f).length = (f l[k]).length + ((l.drop (k + 1)).flatMap f).length := by
  rw [List.drop_eq_getElem_cons h, List.flatMap_cons, List.length_append]
end
/-- a block of the call's own beside the writer -/
structure Loc (w : World) (p : Nat) (ob : Option Nat) (bx : Nat) (cs : List Value) (t : TypeId) : Prop where
  blk : Blk w bx cs t
  np : bx ≠ p
  no : some bx ≠ ob
theorem Loc.new {B : Nat} {W w : World} {p : Nat} {ob : Option Nat} {bs : List UInt8} {R : Nat} (h : OwIn B W w p ob bs R) (cs : List Value) (t : TypeId) : Loc (w.alloc (.cells cs.toArray t)) p ob w.heap.size cs t :=
  ⟨Blk.new w cs t, fun e => by have := h.raw.p_lt; omega, fun e => by have := h.raw.ob_lt _ e.symm; omega⟩
theorem Loc.alloc {w : World} {p : Nat} {ob : Option Nat} {bx : Nat} {cs : List Value} {t : TypeId} (h : Loc w p ob bx cs t) (o : Obj) : Loc (w.alloc o) p ob bx cs t := ⟨h.blk.alloc o, h.np, h.no⟩
theorem Loc.next {w w' : World} {p : Nat} {ob ob' : Option Nat} {bx : Nat} {cs : List Value} {t : TypeId} (h : Loc w p ob bx cs t) (k : Kp (fun b => b = p ∨ some b = ob) w w')
    (ho : ∀ k, ob' = some k → ob = some k ∨ w.heap.size ≤ k) : Loc w' p ob' bx cs t :=
  ⟨h.blk.kp k (by rintro (e | e); exact h.np e; exact h.no e), h.np, fun e => by
    rcases ho bx e.symm with h1 | h1
    · exact h.no h1.symm
    · have := h.blk.lt; omega⟩
theorem otruth_in {B : Nat} {W w : World} {p : Nat} {ob : Option Nat} {bs : List UInt8} {R : Nat} (b : Bool) (h : OwIn B W w p ob bs (8 + R)) :
    Calls Try.prog 61 #[.pointer (some ⟨p, 0, none⟩), .bool b] w (OOut B W w p ob (bs ++ encB b) R) := by
  have G := Lib.hid h
  clear h
  cases b
  all_goals
    (go_enter Try.func61, Try.ntmps61
     go_wp2_with fail
     refine (onum_in _ G.out).mono ?_
     intro e2 w2 h2
     have X := Lib.hid h2
     obtain ⟨rfl, _⟩ := h2
     go_wp2_with fail
     go_returns
     exact X.out)
set_option maxHeartbeats 400000 in
theorem otext_in {B : Nat} {W w : World} {p : Nat} {ob : Option Nat} {bs : List UInt8} {R : Nat} (s : ByteArray) (h : OwIn B W w p ob bs ((encS s).length + R)) :
    Calls Try.prog 60 #[.pointer (some ⟨p, 0, none⟩), .string s] w (OOut B W w p ob (bs ++ encS s) R) := by
  have G := Lib.hid (h.room_eq (R' := 8 + (s.data.toList.length + R)) rfl (by unfold encS; rw [List.length_append, le8_length]; omega))
  clear h
  go_enter Try.func60, Try.ntmps60
  go_wp2_with fail
  refine (onum_in _ G.out).mono ?_
  rintro e1 w1 ⟨rfl, ob1, g1, k1, o1⟩
  have G1 := Lib.hid g1
  have K1 := Lib.hid k1
  have O1 := Lib.hid o1
  clear g1 k1 o1
  go_wp2_with fail
  refine (oraw_in s G1.out).mono ?_
  intro e2 w2 h2
  have X := Lib.hid (OOut.trans K1.out O1.out h2)
  obtain ⟨rfl, _⟩ := h2
  go_wp2_with fail
  go_returns
  exact X.out.eq (by unfold encS; rw [List.append_assoc]) (Nat.le_refl _)
set_option maxRecDepth 100000 in
set_option maxHeartbeats 400000 in
theorem owords_in {B : Nat} {W w : World} {p : Nat} {ob : Option Nat} {bs : List UInt8} {R : Nat} (l : List Int) (v : Value) (hv : SlB B W 1 WdAt l v) (h : OwIn B W w p ob bs ((encL le8 l).length + R)) :
    Calls Try.prog 62 #[.pointer (some ⟨p, 0, none⟩), v] w (OOut B W w p ob (bs ++ encL le8 l) R) := by
  obtain ⟨x, c, rfl, hl, he⟩ := hv
  have HE := Lib.hid he
  have G := Lib.hid (h.room_eq (R' := 8 + ((l.flatMap le8).length + R)) rfl (by unfold encL; rw [List.length_append, le8_length]; omega))
  clear h he
  have HB := Lib.hid (show bs ++ encL le8 l = bs ++ le8 l.length ++ l.flatMap le8 by unfold encL; rw [List.append_assoc])
  rw [HB.out]
  obtain ⟨m, e1⟩ : ∃ m, m = l.length := ⟨_, rfl⟩
  rw [← e1] at hl ⊢
  have E1 := Lib.hid e1
  clear e1 HB
  go_enter Try.func62, Try.ntmps62
  go_wp2_with fail
  refine (onum_in _ G.out).mono ?_
  rintro e1 w1 ⟨rfl, ob1, g1, k1, o1⟩
  have G1 := Lib.hid g1
  have K1 := Lib.hid k1
  have O1 := Lib.hid o1
  clear g1 k1 o1
  go_wp2_with fail
  go_loopw [12] (fun i wr => ∃ k : Nat, k ≤ m ∧ i = .int .i64 k ∧ ∃ obj, OwIn B W wr p obj ((bs ++ le8 m) ++ (l.take k).flatMap le8) (((l.drop k).flatMap le8).length + R) ∧ Kp (fun b => b = p ∨ some b = ob) w wr ∧ ∀ k, obj = some k → ob = some k ∨ w.heap.size ≤ k) (fun i _ => m - (intOf i).toNat)
  case atStart => exact ⟨0, Nat.zero_le _, rfl, ob1, by simpa using G1.out, K1.out, O1.out⟩
  case round =>
    obtain ⟨k, hk0, rfl, obj, g, kk, oo⟩ := hrel
    have Gk := Lib.hid g
    have Kk := Lib.hid kk
    have Ok := Lib.hid oo
    clear g kk oo
    by_cases hlt : k < m
    · have hkl : k < l.length := by rw [← E1.out]; exact hlt
      have hq0 : (0 : Int) ≤ (k : Int) := by omega
      have hq1 : (k : Int) < (m : Int) := by omega
      obtain ⟨b, o, rfl, hb, he⟩ := HE.out (by intro e; rw [e] at hkl; simp at hkl)
      obtain ⟨cs, hcl2, hcc, rfl, _⟩ := he k hkl
      have f0 := (Gk.out.bel.cell (p := ⟨b, o + k * 1 + 0, none⟩) hb).trans (hcc 0 (by simp))
      simp only [List.getElem?_cons_zero, Nat.add_zero, Nat.mul_one] at f0
      clear he hcc hcl2
      have HT := Lib.hid (fm_take le8 hkl)
      have G2 := Lib.hid (Gk.out.room_eq (R' := 8 + (((l.drop (k + 1)).flatMap le8).length + R)) rfl (by rw [fm_drop le8 hkl, le8_length]; omega))
      generalize l[k]'hkl = y at *
      go_wp2_with fail
      refine (onum_in _ G2.out).mono ?_
      rintro e2 w2 ⟨rfl, ob2, g2, k2, o2⟩
      have G3 := Lib.hid g2
      have C := Lib.hid (chain Kk.out Ok.out k2 o2)
      clear g2 k2 o2
      go_wp2_with fail
      go_roundw
      case rel => exact ⟨k + 1, by omega, by go_num, ob2, by rw [HT.out, ← List.append_assoc]; exact G3.out, C.out.1, C.out.2⟩
      case measure => simp [intOf]; omega
    · have hkm : Hid (l.length ≤ k) := Lib.hid (by rw [← E1.out]; omega)
      have FF := Lib.hid (show OOut B W w p ob (bs ++ le8 m ++ l.flatMap le8) R (.returned (.tuple #[])) wr from ⟨rfl, obj, Gk.out.room_eq (by rw [List.take_of_length_le hkm.out]) (by omega), Kk.out, Ok.out⟩)
      clear Gk Kk Ok
      go_wp2_with fail
      go_returns
      exact FF.out
set_option maxRecDepth 100000 in
set_option maxHeartbeats 4000000 in
theorem oobject_in {B : Nat} {W w : World} {p : Nat} {ob : Option Nat} {bs : List UInt8} {R : Nat} (o : Ob) (cs : List Value) (hx : ObAt B W o cs) (h : OwIn B W w p ob bs ((encO o).length + R)) :
    Calls Try.prog 34 #[.pointer (some ⟨p, 0, none⟩), .agg cs.toArray] w (OOut B W w p ob (bs ++ encO o) R) := by
  obtain ⟨pk, hash, is, ss, rs, code, data⟩ := o
  obtain ⟨vi, vs, vr, vc, vd, rfl, hp, hh, hi, hs, hr, hc, hd⟩ := hx
  have HCs := Lib.hid hc
  have HDs := Lib.hid hd
  obtain ⟨x2, c2, rfl, hil, hie⟩ := hi
  obtain ⟨x3, c3, rfl, hsl, hse⟩ := hs
  obtain ⟨x4, c4, rfl, hrl, hre⟩ := hr
  obtain ⟨x5, c5, rfl, hcl, hce⟩ := hc
  obtain ⟨x6, c6, rfl, hdl, hde⟩ := hd
  have HI := Lib.hid hie
  have HS := Lib.hid hse
  have HR := Lib.hid hre
  clear hie hse hre hce hde
  dsimp only at hil hsl hrl hcl hdl HCs HDs hp hh HI HS HR
  have HB := Lib.hid (show bs ++ encO ⟨pk, hash, is, ss, rs, code, data⟩ = bs ++ encS pk ++ le8 hash ++ le8 is.length ++ is.flatMap encIm ++ le8 ss.length ++ ss.flatMap encSy ++ le8 rs.length ++ rs.flatMap encRe ++ encL le8 code ++ encL le8 data by simp only [encO, encL, List.append_assoc])
  have G := Lib.hid (h.room_eq (R' := (encS pk).length + (8 + (8 + ((is.flatMap encIm).length + (8 + ((ss.flatMap encSy).length + (8 + ((rs.flatMap encRe).length + ((encL le8 code).length + ((encL le8 data).length + R)))))))))) rfl (by
    simp only [encO, encL, List.length_append, le8_length]; omega))
  clear h
  rw [HB.out]
  dsimp only
  obtain ⟨m2, e2⟩ : ∃ n, n = is.length := ⟨_, rfl⟩
  obtain ⟨m3, e3⟩ : ∃ n, n = ss.length := ⟨_, rfl⟩
  obtain ⟨m4, e4⟩ : ∃ n, n = rs.length := ⟨_, rfl⟩
  obtain ⟨m5, e5⟩ : ∃ n, n = code.length := ⟨_, rfl⟩
  obtain ⟨m6, e6⟩ : ∃ n, n = data.length := ⟨_, rfl⟩
  rw [← e2] at hil ⊢
  rw [← e3] at hsl ⊢
  rw [← e4] at hrl ⊢
  rw [← e5] at hcl HCs ⊢
  rw [← e6] at hdl HDs ⊢
  have E2 := Lib.hid e2
  have E3 := Lib.hid e3
  have E4 := Lib.hid e4
  clear e2 e3 e4 e5 e6 HB
  have L0 := Lib.hid (Loc.new G.out [.string pk, .int .i64 hash, .slice x2 m2 c2, .slice x3 m3 c3, .slice x4 m4 c4, .slice x5 m5 c5, .slice x6 m6 c6] 27)
  have G0 := Lib.hid (G.out.alloc (.cells #[.string pk, .int .i64 hash, .slice x2 m2 c2, .slice x3 m3 c3, .slice x4 m4 c4, .slice x5 m5 c5, .slice x6 m6 c6] 27))
  have K0 := Lib.hid ((Kp.refl (fun b => b = p ∨ some b = ob) w).alloc (.cells #[.string pk, .int .i64 hash, .slice x2 m2 c2, .slice x3 m3 c3, .slice x4 m4 c4, .slice x5 m5 c5, .slice x6 m6 c6] 27))
  have O0 := Lib.hid (show ∀ k, ob = some k → ob = some k ∨ w.heap.size ≤ k from fun k hk => .inl hk)
  clear G
  go_enter Try.func34, Try.ntmps34
  go_upto_region 1 with fail
  generalize w.alloc (.cells #[.string pk, .int .i64 hash, .slice x2 m2 c2, .slice x3 m3 c3, .slice x4 m4 c4, .slice x5 m5 c5, .slice x6 m6 c6] 27) = w0 at *
  have cO := L0.out.blk.cell
  go_wp2_with fail
  refine (otext_in pk G0.out).mono ?_
  rintro e1 w1 ⟨rfl, ob1, g1, k1, o1⟩
  have G1 := Lib.hid g1
  have L1 := Lib.hid (L0.out.next k1 o1)
  have C1 := Lib.hid (chain K0.out O0.out k1 o1)
  have K1 := Lib.hid C1.out.1
  have O1 := Lib.hid C1.out.2
  clear g1 k1 o1 C1 G0 L0 K0 O0 cO
  have cO := L1.out.blk.cell
  go_wp2_with fail
  refine (onum_in _ G1.out).mono ?_
  rintro e2 w2 ⟨rfl, ob2, g2, k2, o2⟩
  have G2 := Lib.hid g2
  have L2 := Lib.hid (L1.out.next k2 o2)
  have C2 := Lib.hid (chain K1.out O1.out k2 o2)
  have K2 := Lib.hid C2.out.1
  have O2 := Lib.hid C2.out.2
  clear g2 k2 o2 C2 G1 L1 K1 O1 cO
  have cO := L2.out.blk.cell
  go_wp2_with fail
  refine (onum_in _ G2.out).mono ?_
  rintro e3 w3 ⟨rfl, ob3, g3, k3, o3⟩
  have G3 := Lib.hid g3
  have L3 := Lib.hid (L2.out.next k3 o3)
  have C3 := Lib.hid (chain K2.out O2.out k3 o3)
  have K3 := Lib.hid C3.out.1
  have O3 := Lib.hid C3.out.2
  clear g3 k3 o3 C3 G2 L2 K2 O2 cO
  have cO := L3.out.blk.cell
  go_wp2_with fail
  go_loopw [26] (fun i wr => ∃ k : Nat, k ≤ m2 ∧ i = .int .i64 k ∧ ∃ obj, OwIn B W wr p obj ((bs ++ encS pk ++ le8 hash ++ le8 m2) ++ (is.take k).flatMap encIm) (((is.drop k).flatMap encIm).length + (8 + ((ss.flatMap encSy).length + (8 + ((rs.flatMap encRe).length + ((encL le8 code).length + ((encL le8 data).length + R))))))) ∧ Loc wr p obj w.heap.size [.string pk, .int .i64 hash, .slice x2 m2 c2, .slice x3 m3 c3, .slice x4 m4 c4, .slice x5 m5 c5, .slice x6 m6 c6] 27 ∧ Kp (fun b => b = p ∨ some b = ob) w wr ∧ ∀ k, obj = some k → ob = some k ∨ w.heap.size ≤ k) (fun i _ => m2 - (intOf i).toNat)
  case atStart => exact ⟨0, Nat.zero_le _, rfl, ob3, by simpa using G3.out, L3.out, K3.out, O3.out⟩
  case round =>
    clear cO
    obtain ⟨k, hk0, rfl, obj, g, lo, kk, oo⟩ := hrel
    have Gk := Lib.hid g
    have Lk := Lib.hid lo
    have Kk := Lib.hid kk
    have Ok := Lib.hid oo
    clear g lo kk oo
    by_cases hlt : k < m2
    · have hkl : k < is.length := by rw [← E2.out]; exact hlt
      have hq0 : (0 : Int) ≤ (k : Int) := by omega
      have hq1 : (k : Int) < (m2 : Int) := by omega
      obtain ⟨b, o, rfl, hb, he⟩ := HI.out (by intro e; rw [e] at hkl; simp at hkl)
      obtain ⟨cs, hcl2, hcc, rfl, hf1, hf2⟩ := he k hkl
      have f0 := (Gk.out.bel.cell (p := ⟨b, o + k * 2 + 0, none⟩) hb).trans (hcc 0 (by simp))
      have f1 := (Gk.out.bel.cell (p := ⟨b, o + k * 2 + 1, none⟩) hb).trans (hcc 1 (by simp))
      simp only [List.getElem?_cons_zero, List.getElem?_cons_succ, Nat.add_zero] at f0 f1
      clear he hcc hcl2
      have HT := Lib.hid (fm_take encIm hkl)
      have HD := Lib.hid (fm_drop encIm hkl)
      generalize is[k]'hkl = y at *
      obtain ⟨nm, hsh⟩ := y
      dsimp only at *
      have GA := Lib.hid ((Gk.out.room_eq (R' := ((encS nm).length + (8 + (((is.drop (k + 1)).flatMap encIm).length + (8 + ((ss.flatMap encSy).length + (8 + ((rs.flatMap encRe).length + ((encL le8 code).length + ((encL le8 data).length + R)))))))))) rfl (by rw [HD.out]; simp only [encIm, List.length_append, le8_length, encB_length]; omega)).alloc (.cells #[.string nm, .int .i64 hsh] 51))
      have LA := Lib.hid (Lk.out.alloc (.cells #[.string nm, .int .i64 hsh] 51))
      have MA := Lib.hid (Loc.new Gk.out [.string nm, .int .i64 hsh] 51)
      have KA := Lib.hid (Kk.out.alloc (.cells #[.string nm, .int .i64 hsh] 51))
      have OA := Lib.hid Ok.out
      clear HD
      have cO := LA.out.blk.cell
      have cM := MA.out.blk.cell
      go_wp2_with fail
      refine (otext_in nm GA.out).mono ?_
      rintro e4 w4 ⟨rfl, ob4, g4, k4, o4⟩
      have G4 := Lib.hid g4
      have L4 := Lib.hid (LA.out.next k4 o4)
      have M4 := Lib.hid (MA.out.next k4 o4)
      have C4 := Lib.hid (chain KA.out OA.out k4 o4)
      have K4 := Lib.hid C4.out.1
      have O4 := Lib.hid C4.out.2
      clear g4 k4 o4 C4 GA LA KA OA cO MA cM
      have cO := L4.out.blk.cell
      have cM := M4.out.blk.cell
      go_wp2_with fail
      refine (onum_in hsh G4.out).mono ?_
      rintro e5 w5 ⟨rfl, ob5, g5, k5, o5⟩
      have G5 := Lib.hid g5
      have L5 := Lib.hid (L4.out.next k5 o5)
      have M5 := Lib.hid (M4.out.next k5 o5)
      have C5 := Lib.hid (chain K4.out O4.out k5 o5)
      have K5 := Lib.hid C5.out.1
      have O5 := Lib.hid C5.out.2
      clear g5 k5 o5 C5 G4 L4 K4 O4 cO M4 cM
      have cO := L5.out.blk.cell
      have cM := M5.out.blk.cell
      clear cM cO
      go_wp2_with fail
      go_roundw
      case rel => exact ⟨k + 1, by omega, by go_num, ob5, by rw [HT.out]; exact G5.out.room_eq (by simp only [encIm, List.append_assoc]) (Nat.le_refl _), L5.out, K5.out, O5.out⟩
      case measure => simp [intOf]; omega
    · have hkm : Hid (is.length ≤ k) := Lib.hid (by rw [← E2.out]; omega)
      have GZ := Lib.hid (Gk.out.room_eq (bs' := (bs ++ encS pk ++ le8 hash ++ le8 m2) ++ is.flatMap encIm) (R' := (8 + ((ss.flatMap encSy).length + (8 + ((rs.flatMap encRe).length + ((encL le8 code).length + ((encL le8 data).length + R))))))) (by rw [List.take_of_length_le hkm.out]) (by omega))
      have LZ := Lib.hid Lk.out
      have KZ := Lib.hid Kk.out
      have OZ := Lib.hid Ok.out
      clear Gk Lk Kk Ok hkm
      have cO := LZ.out.blk.cell
      go_wp2_with fail
      refine (onum_in _ GZ.out).mono ?_
      rintro e6 w6 ⟨rfl, ob6, g6, k6, o6⟩
      have G6 := Lib.hid g6
      have L6 := Lib.hid (LZ.out.next k6 o6)
      have C6 := Lib.hid (chain KZ.out OZ.out k6 o6)
      have K6 := Lib.hid C6.out.1
      have O6 := Lib.hid C6.out.2
      clear g6 k6 o6 C6 GZ LZ KZ OZ cO
      have cO := L6.out.blk.cell
      go_wp2_with fail
      go_loopw [47] (fun i wr => ∃ k : Nat, k ≤ m3 ∧ i = .int .i64 k ∧ ∃ obj, OwIn B W wr p obj (((bs ++ encS pk ++ le8 hash ++ le8 m2) ++ is.flatMap encIm ++ le8 m3) ++ (ss.take k).flatMap encSy) (((ss.drop k).flatMap encSy).length + (8 + ((rs.flatMap encRe).length + ((encL le8 code).length + ((encL le8 data).length + R))))) ∧ Loc wr p obj w.heap.size [.string pk, .int .i64 hash, .slice x2 m2 c2, .slice x3 m3 c3, .slice x4 m4 c4, .slice x5 m5 c5, .slice x6 m6 c6] 27 ∧ Kp (fun b => b = p ∨ some b = ob) w wr ∧ ∀ k, obj = some k → ob = some k ∨ w.heap.size ≤ k) (fun i _ => m3 - (intOf i).toNat)
      case atStart => exact ⟨0, Nat.zero_le _, rfl, ob6, by simpa using G6.out, L6.out, K6.out, O6.out⟩
      case round =>
        clear cO
        obtain ⟨k, hk0, rfl, obj, g, lo, kk, oo⟩ := hrel
        have Gk := Lib.hid g
        have Lk := Lib.hid lo
        have Kk := Lib.hid kk
        have Ok := Lib.hid oo
        clear g lo kk oo
        by_cases hlt : k < m3
        · have hkl : k < ss.length := by rw [← E3.out]; exact hlt
          have hq0 : (0 : Int) ≤ (k : Int) := by omega
          have hq1 : (k : Int) < (m3 : Int) := by omega
          obtain ⟨b, o, rfl, hb, he⟩ := HS.out (by intro e; rw [e] at hkl; simp at hkl)
          obtain ⟨cs, hcl2, hcc, rfl, hf1, hf2, hf3, hf4, hf5⟩ := he k hkl
          have f0 := (Gk.out.bel.cell (p := ⟨b, o + k * 6 + 0, none⟩) hb).trans (hcc 0 (by simp))
          have f1 := (Gk.out.bel.cell (p := ⟨b, o + k * 6 + 1, none⟩) hb).trans (hcc 1 (by simp))
          have f2 := (Gk.out.bel.cell (p := ⟨b, o + k * 6 + 2, none⟩) hb).trans (hcc 2 (by simp))
          have f3 := (Gk.out.bel.cell (p := ⟨b, o + k * 6 + 3, none⟩) hb).trans (hcc 3 (by simp))
          have f4 := (Gk.out.bel.cell (p := ⟨b, o + k * 6 + 4, none⟩) hb).trans (hcc 4 (by simp))
          have f5 := (Gk.out.bel.cell (p := ⟨b, o + k * 6 + 5, none⟩) hb).trans (hcc 5 (by simp))
          simp only [List.getElem?_cons_zero, List.getElem?_cons_succ, Nat.add_zero] at f0 f1 f2 f3 f4 f5
          clear he hcc hcl2
          have HT := Lib.hid (fm_take encSy hkl)
          have HD := Lib.hid (fm_drop encSy hkl)
          generalize ss[k]'hkl = y at *
          obtain ⟨nm, kind, wk, at_, size, frame⟩ := y
          dsimp only at *
          have GA := Lib.hid ((Gk.out.room_eq (R' := ((encS nm).length + (8 + (8 + (8 + (8 + (8 + (((ss.drop (k + 1)).flatMap encSy).length + (8 + ((rs.flatMap encRe).length + ((encL le8 code).length + ((encL le8 data).length + R)))))))))))) rfl (by rw [HD.out]; simp only [encSy, List.length_append, le8_length, encB_length]; omega)).alloc (.cells #[.string nm, .int .i64 kind, .bool wk, .int .i64 at_, .int .i64 size, .int .i64 frame] 44))
          have LA := Lib.hid (Lk.out.alloc (.cells #[.string nm, .int .i64 kind, .bool wk, .int .i64 at_, .int .i64 size, .int .i64 frame] 44))
          have MA := Lib.hid (Loc.new Gk.out [.string nm, .int .i64 kind, .bool wk, .int .i64 at_, .int .i64 size, .int .i64 frame] 44)
          have KA := Lib.hid (Kk.out.alloc (.cells #[.string nm, .int .i64 kind, .bool wk, .int .i64 at_, .int .i64 size, .int .i64 frame] 44))
          have OA := Lib.hid Ok.out
          clear HD
          have cO := LA.out.blk.cell
          have cM := MA.out.blk.cell
          go_wp2_with fail
          refine (otext_in nm GA.out).mono ?_
          rintro e7 w7 ⟨rfl, ob7, g7, k7, o7⟩
          have G7 := Lib.hid g7
          have L7 := Lib.hid (LA.out.next k7 o7)
          have M7 := Lib.hid (MA.out.next k7 o7)
          have C7 := Lib.hid (chain KA.out OA.out k7 o7)
          have K7 := Lib.hid C7.out.1
          have O7 := Lib.hid C7.out.2
          clear g7 k7 o7 C7 GA LA KA OA cO MA cM
          have cO := L7.out.blk.cell
          have cM := M7.out.blk.cell
          go_wp2_with fail
          refine (onum_in kind G7.out).mono ?_
          rintro e8 w8 ⟨rfl, ob8, g8, k8, o8⟩
          have G8 := Lib.hid g8
          have L8 := Lib.hid (L7.out.next k8 o8)
          have M8 := Lib.hid (M7.out.next k8 o8)
          have C8 := Lib.hid (chain K7.out O7.out k8 o8)
          have K8 := Lib.hid C8.out.1
          have O8 := Lib.hid C8.out.2
          clear g8 k8 o8 C8 G7 L7 K7 O7 cO M7 cM
          have cO := L8.out.blk.cell
          have cM := M8.out.blk.cell
          go_wp2_with fail
          refine (otruth_in wk G8.out).mono ?_
          rintro e9 w9 ⟨rfl, ob9, g9, k9, o9⟩
          have G9 := Lib.hid g9
          have L9 := Lib.hid (L8.out.next k9 o9)
          have M9 := Lib.hid (M8.out.next k9 o9)
          have C9 := Lib.hid (chain K8.out O8.out k9 o9)
          have K9 := Lib.hid C9.out.1
          have O9 := Lib.hid C9.out.2
          clear g9 k9 o9 C9 G8 L8 K8 O8 cO M8 cM
          have cO := L9.out.blk.cell
          have cM := M9.out.blk.cell
          go_wp2_with fail
          refine (onum_in at_ G9.out).mono ?_
          rintro e10 w10 ⟨rfl, ob10, g10, k10, o10⟩
          have G10 := Lib.hid g10
          have L10 := Lib.hid (L9.out.next k10 o10)
          have M10 := Lib.hid (M9.out.next k10 o10)
          have C10 := Lib.hid (chain K9.out O9.out k10 o10)
          have K10 := Lib.hid C10.out.1
          have O10 := Lib.hid C10.out.2
          clear g10 k10 o10 C10 G9 L9 K9 O9 cO M9 cM
          have cO := L10.out.blk.cell
          have cM := M10.out.blk.cell
          go_wp2_with fail
          refine (onum_in size G10.out).mono ?_
          rintro e11 w11 ⟨rfl, ob11, g11, k11, o11⟩
          have G11 := Lib.hid g11
          have L11 := Lib.hid (L10.out.next k11 o11)
          have M11 := Lib.hid (M10.out.next k11 o11)
          have C11 := Lib.hid (chain K10.out O10.out k11 o11)
          have K11 := Lib.hid C11.out.1
          have O11 := Lib.hid C11.out.2
          clear g11 k11 o11 C11 G10 L10 K10 O10 cO M10 cM
          have cO := L11.out.blk.cell
          have cM := M11.out.blk.cell
          go_wp2_with fail
          refine (onum_in frame G11.out).mono ?_
          rintro e12 w12 ⟨rfl, ob12, g12, k12, o12⟩
          have G12 := Lib.hid g12
          have L12 := Lib.hid (L11.out.next k12 o12)
          have M12 := Lib.hid (M11.out.next k12 o12)
          have C12 := Lib.hid (chain K11.out O11.out k12 o12)
          have K12 := Lib.hid C12.out.1
          have O12 := Lib.hid C12.out.2
          clear g12 k12 o12 C12 G11 L11 K11 O11 cO M11 cM
          have cO := L12.out.blk.cell
          have cM := M12.out.blk.cell
          clear cM cO
          go_wp2_with fail
          go_roundw
          case rel => exact ⟨k + 1, by omega, by go_num, ob12, by rw [HT.out]; exact G12.out.room_eq (by simp only [encSy, List.append_assoc]) (Nat.le_refl _), L12.out, K12.out, O12.out⟩
          case measure => simp [intOf]; omega
        · have hkm : Hid (ss.length ≤ k) := Lib.hid (by rw [← E3.out]; omega)
          have GZ := Lib.hid (Gk.out.room_eq (bs' := ((bs ++ encS pk ++ le8 hash ++ le8 m2) ++ is.flatMap encIm ++ le8 m3) ++ ss.flatMap encSy) (R' := (8 + ((rs.flatMap encRe).length + ((encL le8 code).length + ((encL le8 data).length + R))))) (by rw [List.take_of_length_le hkm.out]) (by omega))
          have LZ := Lib.hid Lk.out
          have KZ := Lib.hid Kk.out
          have OZ := Lib.hid Ok.out
          clear Gk Lk Kk Ok hkm
          have cO := LZ.out.blk.cell
          go_wp2_with fail
          refine (onum_in _ GZ.out).mono ?_
          rintro e13 w13 ⟨rfl, ob13, g13, k13, o13⟩
          have G13 := Lib.hid g13
          have L13 := Lib.hid (LZ.out.next k13 o13)
          have C13 := Lib.hid (chain KZ.out OZ.out k13 o13)
          have K13 := Lib.hid C13.out.1
          have O13 := Lib.hid C13.out.2
          clear g13 k13 o13 C13 GZ LZ KZ OZ cO
          have cO := L13.out.blk.cell
          go_wp2_with fail
          go_loopw [84] (fun i wr => ∃ k : Nat, k ≤ m4 ∧ i = .int .i64 k ∧ ∃ obj, OwIn B W wr p obj ((((bs ++ encS pk ++ le8 hash ++ le8 m2) ++ is.flatMap encIm ++ le8 m3) ++ ss.flatMap encSy ++ le8 m4) ++ (rs.take k).flatMap encRe) (((rs.drop k).flatMap encRe).length + ((encL le8 code).length + ((encL le8 data).length + R))) ∧ Loc wr p obj w.heap.size [.string pk, .int .i64 hash, .slice x2 m2 c2, .slice x3 m3 c3, .slice x4 m4 c4, .slice x5 m5 c5, .slice x6 m6 c6] 27 ∧ Kp (fun b => b = p ∨ some b = ob) w wr ∧ ∀ k, obj = some k → ob = some k ∨ w.heap.size ≤ k) (fun i _ => m4 - (intOf i).toNat)
          case atStart => exact ⟨0, Nat.zero_le _, rfl, ob13, by simpa using G13.out, L13.out, K13.out, O13.out⟩
          case round =>
            clear cO
            obtain ⟨k, hk0, rfl, obj, g, lo, kk, oo⟩ := hrel
            have Gk := Lib.hid g
            have Lk := Lib.hid lo
            have Kk := Lib.hid kk
            have Ok := Lib.hid oo
            clear g lo kk oo
            by_cases hlt : k < m4
            · have hkl : k < rs.length := by rw [← E4.out]; exact hlt
              have hq0 : (0 : Int) ≤ (k : Int) := by omega
              have hq1 : (k : Int) < (m4 : Int) := by omega
              obtain ⟨b, o, rfl, hb, he⟩ := HR.out (by intro e; rw [e] at hkl; simp at hkl)
              obtain ⟨cs, hcl2, hcc, rfl, hf1, hf2⟩ := he k hkl
              have f0 := (Gk.out.bel.cell (p := ⟨b, o + k * 3 + 0, none⟩) hb).trans (hcc 0 (by simp))
              have f1 := (Gk.out.bel.cell (p := ⟨b, o + k * 3 + 1, none⟩) hb).trans (hcc 1 (by simp))
              have f2 := (Gk.out.bel.cell (p := ⟨b, o + k * 3 + 2, none⟩) hb).trans (hcc 2 (by simp))
              simp only [List.getElem?_cons_zero, List.getElem?_cons_succ, Nat.add_zero] at f0 f1 f2
              clear he hcc hcl2
              have HT := Lib.hid (fm_take encRe hkl)
              have HD := Lib.hid (fm_drop encRe hkl)
              generalize rs[k]'hkl = y at *
              obtain ⟨dd, at_, nm⟩ := y
              dsimp only at *
              have GA := Lib.hid ((Gk.out.room_eq (R' := (8 + (8 + ((encS nm).length + (((rs.drop (k + 1)).flatMap encRe).length + ((encL le8 code).length + ((encL le8 data).length + R))))))) rfl (by rw [HD.out]; simp only [encRe, List.length_append, le8_length, encB_length]; omega)).alloc (.cells #[.bool dd, .int .i64 at_, .string nm] 64))
              have LA := Lib.hid (Lk.out.alloc (.cells #[.bool dd, .int .i64 at_, .string nm] 64))
              have MA := Lib.hid (Loc.new Gk.out [.bool dd, .int .i64 at_, .string nm] 64)
              have KA := Lib.hid (Kk.out.alloc (.cells #[.bool dd, .int .i64 at_, .string nm] 64))
              have OA := Lib.hid Ok.out
              clear HD
              have cO := LA.out.blk.cell
              have cM := MA.out.blk.cell
              go_wp2_with fail
              refine (otruth_in dd GA.out).mono ?_
              rintro e14 w14 ⟨rfl, ob14, g14, k14, o14⟩
              have G14 := Lib.hid g14
              have L14 := Lib.hid (LA.out.next k14 o14)
              have M14 := Lib.hid (MA.out.next k14 o14)
              have C14 := Lib.hid (chain KA.out OA.out k14 o14)
              have K14 := Lib.hid C14.out.1
              have O14 := Lib.hid C14.out.2
              clear g14 k14 o14 C14 GA LA KA OA cO MA cM
              have cO := L14.out.blk.cell
              have cM := M14.out.blk.cell
              go_wp2_with fail
              refine (onum_in at_ G14.out).mono ?_
              rintro e15 w15 ⟨rfl, ob15, g15, k15, o15⟩
              have G15 := Lib.hid g15
              have L15 := Lib.hid (L14.out.next k15 o15)
              have M15 := Lib.hid (M14.out.next k15 o15)
              have C15 := Lib.hid (chain K14.out O14.out k15 o15)
              have K15 := Lib.hid C15.out.1
              have O15 := Lib.hid C15.out.2
              clear g15 k15 o15 C15 G14 L14 K14 O14 cO M14 cM
              have cO := L15.out.blk.cell
              have cM := M15.out.blk.cell
              go_wp2_with fail
              refine (otext_in nm G15.out).mono ?_
              rintro e16 w16 ⟨rfl, ob16, g16, k16, o16⟩
              have G16 := Lib.hid g16
              have L16 := Lib.hid (L15.out.next k16 o16)
              have M16 := Lib.hid (M15.out.next k16 o16)
              have C16 := Lib.hid (chain K15.out O15.out k16 o16)
              have K16 := Lib.hid C16.out.1
              have O16 := Lib.hid C16.out.2
              clear g16 k16 o16 C16 G15 L15 K15 O15 cO M15 cM
              have cO := L16.out.blk.cell
              have cM := M16.out.blk.cell
              clear cM cO
              go_wp2_with fail
              go_roundw
              case rel => exact ⟨k + 1, by omega, by go_num, ob16, by rw [HT.out]; exact G16.out.room_eq (by simp only [encRe, List.append_assoc]) (Nat.le_refl _), L16.out, K16.out, O16.out⟩
              case measure => simp [intOf]; omega
            · have hkm : Hid (rs.length ≤ k) := Lib.hid (by rw [← E4.out]; omega)
              have GZ := Lib.hid (Gk.out.room_eq (bs' := (((bs ++ encS pk ++ le8 hash ++ le8 m2) ++ is.flatMap encIm ++ le8 m3) ++ ss.flatMap encSy ++ le8 m4) ++ rs.flatMap encRe) (R' := ((encL le8 code).length + ((encL le8 data).length + R))) (by rw [List.take_of_length_le hkm.out]) (by omega))
              have LZ := Lib.hid Lk.out
              have KZ := Lib.hid Kk.out
              have OZ := Lib.hid Ok.out
              clear Gk Lk Kk Ok hkm
              have cO := LZ.out.blk.cell
              go_wp2_with fail
              refine (owords_in code _ HCs.out GZ.out).mono ?_
              rintro e17 w17 ⟨rfl, ob17, g17, k17, o17⟩
              have G17 := Lib.hid g17
              have L17 := Lib.hid (LZ.out.next k17 o17)
              have C17 := Lib.hid (chain KZ.out OZ.out k17 o17)
              have K17 := Lib.hid C17.out.1
              have O17 := Lib.hid C17.out.2
              clear g17 k17 o17 C17 GZ LZ KZ OZ cO
              have cO := L17.out.blk.cell
              go_wp2_with fail
              refine (owords_in data _ HDs.out G17.out).mono ?_
              rintro e18 w18 ⟨rfl, ob18, g18, k18, o18⟩
              have G18 := Lib.hid g18
              have L18 := Lib.hid (L17.out.next k18 o18)
              have C18 := Lib.hid (chain K17.out O17.out k18 o18)
              have K18 := Lib.hid C18.out.1
              have O18 := Lib.hid C18.out.2
              clear g18 k18 o18 C18 G17 L17 K17 O17 cO
              have cO := L18.out.blk.cell
              have FF := Lib.hid (show OOut B W w p ob _ R (.returned (.tuple #[])) w18 from ⟨rfl, ob18, G18.out, K18.out, O18.out⟩)
              clear cO
              go_wp2_with fail
              go_returns
              exact FF.out
end Go.Proofs.Ytfdjlicegfgodaa
