/- What the document's Encode and Hash return for any unit of few parts. -/
import Derived.Test.YtpopgnengimieaaRDecl
import Derived.Test.YtpopgnengimieaaAwake8
namespace Go.Proofs.Ytpopgnengimieaa
open Go.RowKit
set_option linter.unusedSimpArgs false
set_option linter.unusedVariables false

def cntDes : List De → Nat
  | [] => 0
  | x :: r => cntDe x + cntDes r
def cntFns : List Fn1 → Nat
  | [] => 0
  | x :: r => cntFn x + cntFns r
def cntUn (u : Un) : Nat := u.imports.length + cntDes u.decls + cntFns u.bodies
theorem cntDes_append : ∀ l m : List De, cntDes (l ++ m) = cntDes l + cntDes m
  | [], m => by simp [cntDes]
  | t :: r, m => by simp [cntDes, cntDes_append r m, Nat.add_assoc]
theorem cntFns_append : ∀ l m : List Fn1, cntFns (l ++ m) = cntFns l + cntFns m
  | [], m => by simp [cntFns]
  | t :: r, m => by simp [cntFns, cntFns_append r m, Nat.add_assoc]
theorem cntDes_take {l : List De} {k : Nat} (h : k < l.length) : cntDes (l.take (k + 1)) = cntDes (l.take k) + cntDe l[k] := by
  rw [List.take_succ_eq_append_getElem h, cntDes_append]; simp [cntDes]
theorem cntFns_take {l : List Fn1} {k : Nat} (h : k < l.length) : cntFns (l.take (k + 1)) = cntFns (l.take k) + cntFn l[k] := by
  rw [List.take_succ_eq_append_getElem h, cntFns_append]; simp [cntFns]
theorem cntDes_le {l : List De} (k : Nat) : cntDes (l.take k) ≤ cntDes l := by
  have h := cntDes_append (l.take k) (l.drop k); rw [List.take_append_drop] at h; omega
theorem cntFns_le {l : List Fn1} (k : Nat) : cntFns (l.take k) ≤ cntFns l := by
  have h := cntFns_append (l.take k) (l.drop k); rw [List.take_append_drop] at h; omega
theorem all_take_eq {α : Type} {f : α → Bool} {l : List α} {k : Nat} (h : k < l.length) : (l.take (k + 1)).all f = ((l.take k).all f && f l[k]) := by
  rw [List.take_succ_eq_append_getElem h, List.all_append]; simp
theorem fitFn_eq (f : Fn1) : fitFn f = fitSts f.body 0 := by rw [fitFn, fitSts_any, Bool.not_not]
theorem means0 : RwMeans [] false (some (some [])) 0 :=
  ⟨Nat.le_refl _, (fun e => by cases e), fun s e => by cases e; exact ⟨rfl, (fun e => by cases e), fun l e => by cases e; exact ⟨rfl, by decide⟩⟩⟩
theorem raw0 {w : World} {p : Nat} (hb : Blk w p [.slice none 0 0, .bool false, .int .i64 0] 89) : RwRaw w p none [] false 0 :=
  ⟨none, 0, hb, ownsNil _ _ _, rfl, (fun e => by cases e)⟩
theorem start0 {B : Nat} {W w : World} {p : Nat} (hb : Blk w p [.slice none 0 0, .bool false, .int .i64 0] 89) (h : Below B W w) (hp : B ≤ p) : RwIn B W w p none (some (some [])) 0 0 :=
  ⟨⟨[], false, raw0 hb, means0⟩, h, hp, (fun k hk => by cases hk)⟩
theorem mark0 {B : Nat} {W w : World} {p : Nat} (m : ByteArray) (hm : m.data.toList.length = m.size) (hb : Blk w p [.slice none 0 0, .bool false, .int .i64 0] 89) (h : Below B W w) (hp : B ≤ p) (x' : Option Addr) (c' : Nat) (w' : World)
    (ho : w'.ownsRow 0 5 1 (.slice x' (0 + m.size) c') (0 + m.size) ([] ++ Lib.strCells m)) (hg : w.grownBy w' (Value.slice none 0 0).ownBlock)
    (hl : (Value.slice x' (0 + m.size) c').ownBlock = (Value.slice none 0 0).ownBlock ∨ (Value.slice x' (0 + m.size) c').ownBlock = some w.heap.size) :
    w'.cell? ⟨p, 0, none⟩ = some (.slice none 0 0) ∧ w'.frozen? ⟨p, 0, none⟩ = false ∧ ∃ ob', RwIn B W (w'.setCell ⟨p, 0, none⟩ (.slice x' (0 + m.size) c')) p ob' (rput (some (some [])) m.data.toList) 0 m.size ∧
      Kp (fun b => b = p ∨ some b = none) w (w'.setCell ⟨p, 0, none⟩ (.slice x' (0 + m.size) c')) ∧ ∀ k, ob' = some k → (none : Option Nat) = some k ∨ w.heap.size ≤ k := by
  obtain ⟨y0, y1, ob', r, k, o⟩ := RwRaw.grow (bs := []) (n := 0 + m.size) (ys := m.data.toList) (by rw [hm]; rfl) hb rfl (fun e => by cases e) ho hg hl
  refine ⟨y0, y1, ob', ?_, k, o⟩
  have hp2 := means0.put (s := m.data.toList) (by decide)
  rw [hm, Nat.zero_add] at hp2
  exact RwIn.mk' (start0 hb h hp) r hp2 k o
def pre1 (u : Un) : List UInt8 := [77, 85, 49, 10] ++ encS u.pkg ++ encL encIm u.imports ++ le8 u.decls.length
def pre2 (u : Un) : List UInt8 := pre1 u ++ u.decls.flatMap encDe ++ le8 u.bodies.length
theorem encUn_pre (u : Un) : encUn u = pre2 u ++ u.bodies.flatMap encFn := by simp only [encUn, pre2, pre1, encL, List.append_assoc]

set_option maxRecDepth 100000 in
set_option maxHeartbeats 2000000 in
theorem rencode_any {B : Nat} {W : World} (d : Nat) (u : Un) (cs : List Value) (w : World) (hx : UnAt B W d u cs) (h : In B W w) (hu : cntUn u ≤ 300000) :
    Calls Try.prog 17 #[.agg cs.toArray] w (EncPost w u) := by
  obtain ⟨i0, hi0, hz0, hz1, hz2⟩ := info_parts u8info
  obtain ⟨vi, vd, vb, rfl, hp, hi, hd, hb⟩ := hx
  obtain ⟨pk, is, ds, bs⟩ := u
  obtain ⟨x1, m1, c1, rfl⟩ := hi.slice
  obtain ⟨x2, c2, rfl, hdl, hde⟩ := hd
  obtain ⟨x3, c3, rfl, hbl, hbe⟩ := hb
  have HI := Lib.hid hi
  have HD := Lib.hid hde
  have HB := Lib.hid hbe
  simp only [cntUn] at hu
  have HU := Lib.hid hu
  obtain ⟨m2, e2⟩ : ∃ n, n = ds.length := ⟨_, rfl⟩
  obtain ⟨m3, e3⟩ : ∃ n, n = bs.length := ⟨_, rfl⟩
  dsimp only at hdl hbl ⊢
  rw [← e2] at hdl ⊢
  rw [← e3] at hbl ⊢
  have ED := Lib.hid e2
  have EB := Lib.hid e3
  obtain ⟨p, hpp⟩ : ∃ p, p = w.heap.size + 1 := ⟨_, rfl⟩
  have hsz : (w.alloc (.cells #[.string pk, .slice x1 m1 c1, .slice x2 m2 c2, .slice x3 m3 c3] 30)).heap.size = w.heap.size + 1 := by simp
  have N0 := Lib.hid (show Nw w ((w.alloc (.cells #[.string pk, .slice x1 m1 c1, .slice x2 m2 c2, .slice x3 m3 c3] 30)).alloc (.cells #[.slice none 0 0, .bool false, .int .i64 0] 89)) from (Nw.new w _).trans (Nw.new _ _))
  have hbel := h.bel
  have hle := h.le
  have hblk : Blk ((w.alloc (.cells #[.string pk, .slice x1 m1 c1, .slice x2 m2 c2, .slice x3 m3 c3] 30)).alloc (.cells #[.slice none 0 0, .bool false, .int .i64 0] 89)) p [.slice none 0 0, .bool false, .int .i64 0] 89 := by
    have := Blk.new (w.alloc (.cells #[.string pk, .slice x1 m1 c1, .slice x2 m2 c2, .slice x3 m3 c3] 30)) [.slice none 0 0, .bool false, .int .i64 0] 89
    rw [hsz, ← hpp] at this; exact this
  have hb2 : Below B W ((w.alloc (.cells #[.string pk, .slice x1 m1 c1, .slice x2 m2 c2, .slice x3 m3 c3] 30)).alloc (.cells #[.slice none 0 0, .bool false, .int .i64 0] 89)) := ((h.alloc _).alloc _).bel
  have L0 := Lib.hid (show Loc ((w.alloc (.cells #[.string pk, .slice x1 m1 c1, .slice x2 m2 c2, .slice x3 m3 c3] 30)).alloc (.cells #[.slice none 0 0, .bool false, .int .i64 0] 89)) p none w.heap.size [.string pk, .slice x1 m1 c1, .slice x2 m2 c2, .slice x3 m3 c3] 30 from ⟨(Blk.new w [.string pk, .slice x1 m1 c1, .slice x2 m2 c2, .slice x3 m3 c3] 30).alloc _, by omega, (fun e => by cases e)⟩)
  have FIN := Lib.hid (mark0 (B := B) (W := W) ⟨#[77, 85, 49, 10]⟩ rfl hblk hb2 (by omega))
  have HN := Lib.hid (ownsNil ((w.alloc (.cells #[.string pk, .slice x1 m1 c1, .slice x2 m2 c2, .slice x3 m3 c3] 30)).alloc (.cells #[.slice none 0 0, .bool false, .int .i64 0] 89)) 5 1)
  have H63 := Lib.hid (show 0 + (⟨#[77, 85, 49, 10]⟩ : ByteArray).size ≤ maxLen by unfold maxLen; decide)
  have HBY := Lib.hid (show 0 + (⟨#[77, 85, 49, 10]⟩ : ByteArray).size ≤ 140737488355328 by decide)
  clear hp hi hde hbe hu e2 e3 h hbel hblk hb2
  subst hpp
  go_enter Try.func17, Try.ntmps17
  go_wp2_with (at_builtin; refine wpList_app_string _ rfl (.tmp 13) (.const (.string ⟨#[77, 85, 49, 10]⟩)) 22 9 rfl 0 5 i0 Try.underlying22 Try.underlying9 hi0 hz0 hz1 hz2 _ 0 [] rfl HN.out ⟨#[77, 85, 49, 10]⟩ rfl H63.out HBY.out (Nat.zero_le _) ?_; intro a' c' w' ho' hg hl'; obtain ⟨y0, y1, ob1, r1, k1, o1⟩ := FIN.out a' c' w' ho' hg hl'; have cb : ∀ o, (w'.setCell ⟨w.heap.size + 1, 0, none⟩ (.slice a' 4 c')).cell? ⟨w.heap.size, o, none⟩ = ([.string pk, .slice x1 m1 c1, .slice x2 m2 c2, .slice x3 m3 c3] : List Value)[o]? := (L0.out.next k1 o1).blk.cell; have L1 := Lib.hid (show Loc (w'.setCell ⟨w.heap.size + 1, 0, none⟩ (.slice a' 4 c')) (w.heap.size + 1) ob1 w.heap.size [.string pk, .slice x1 m1 c1, .slice x2 m2 c2, .slice x3 m3 c3] 30 from L0.out.next k1 o1); have G1 := Lib.hid (show RwIn B W (w'.setCell ⟨w.heap.size + 1, 0, none⟩ (.slice a' 4 c')) (w.heap.size + 1) ob1 (rput (some (some [])) [77, 85, 49, 10]) 0 4 from r1); have C1 := Lib.hid (show Kp (fun b => b = w.heap.size + 1 ∨ some b = none) ((w.alloc (.cells #[.string pk, .slice x1 m1 c1, .slice x2 m2 c2, .slice x3 m3 c3] 30)).alloc (.cells #[.slice none 0 0, .bool false, .int .i64 0] 89)) (w'.setCell ⟨w.heap.size + 1, 0, none⟩ (.slice a' 4 c')) ∧ ∀ k, ob1 = some k → (none : Option Nat) = some k ∨ ((w.alloc (.cells #[.string pk, .slice x1 m1 c1, .slice x2 m2 c2, .slice x3 m3 c3] 30)).alloc (.cells #[.slice none 0 0, .bool false, .int .i64 0] 89)).heap.size ≤ k from ⟨k1, o1⟩); clear r1 k1 o1 ho' hg hl')
  refine (rtext_in G1.out _ (by omega)).mono ?_
  rintro e2 w2 ⟨rfl, ob2, g2, k2, o2⟩
  have C2 := Lib.hid (chain C1.out.1 C1.out.2 k2 o2)
  have L2 := Lib.hid (L1.out.next k2 o2)
  have c2' := L2.out.blk.cell
  have G2 := Lib.hid g2
  clear g2 k2 o2 cb y0 y1
  go_wp2_with fail
  refine (rimports is _ _ _ _ _ _ _ HI.out G2.out (by have := HU.out; omega)).mono ?_
  rintro e3 w3 ⟨rfl, ob3, g3, k3, o3⟩
  have C3 := Lib.hid (chain C2.out.1 C2.out.2 k3 o3)
  have L3 := Lib.hid (L2.out.next k3 o3)
  have c3' := L3.out.blk.cell
  have G3 := Lib.hid g3
  clear g3 k3 o3 c2'
  go_wp2_with fail
  refine (rnum_in G3.out _).mono ?_
  rintro e4 w4 ⟨rfl, ob4, g4, k4, o4⟩
  have C4 := Lib.hid (chain C3.out.1 C3.out.2 k4 o4)
  have L4 := Lib.hid (L3.out.next k4 o4)
  have c4' := L4.out.blk.cell
  have G4 := Lib.hid (show RwIn B W w4 (w.heap.size + 1) ob4 (rc ((ds.take 0).all fitDe) (some (some [])) (pre1 ⟨pk, is, ds, bs⟩ ++ (ds.take 0).flatMap encDe)) 0 (1000000 + 1000000 * is.length + 1000000 * cntDes (ds.take 0)) by
    simp only [rput_rc, rc_rc, Bool.true_and, ED.out] at g4
    simp only [List.take_zero, cntDes, List.flatMap_nil, List.append_nil, pre1, List.all_nil]
    simp only [List.append_assoc] at g4 ⊢
    exact g4.more (by omega))
  clear g4 k4 o4 c3'
  go_wp2_with fail
  go_loopw [5] (fun i wr => ∃ k : Nat, k ≤ m2 ∧ i = .int .i64 k ∧ ∃ obk, RwIn B W wr (w.heap.size + 1) obk (rc ((ds.take k).all fitDe) (some (some [])) (pre1 ⟨pk, is, ds, bs⟩ ++ (ds.take k).flatMap encDe)) 0 (1000000 + 1000000 * is.length + 1000000 * cntDes (ds.take k)) ∧ Loc wr (w.heap.size + 1) obk w.heap.size [.string pk, .slice x1 m1 c1, .slice x2 m2 c2, .slice x3 m3 c3] 30 ∧ Kp (fun b => b = w.heap.size + 1 ∨ some b = none) ((w.alloc (.cells #[.string pk, .slice x1 m1 c1, .slice x2 m2 c2, .slice x3 m3 c3] 30)).alloc (.cells #[.slice none 0 0, .bool false, .int .i64 0] 89)) wr ∧ ∀ k, obk = some k → (none : Option Nat) = some k ∨ ((w.alloc (.cells #[.string pk, .slice x1 m1 c1, .slice x2 m2 c2, .slice x3 m3 c3] 30)).alloc (.cells #[.slice none 0 0, .bool false, .int .i64 0] 89)).heap.size ≤ k) (fun i _ => m2 - (intOf i).toNat)
  case atStart => exact ⟨0, Nat.zero_le _, rfl, ob4, G4.out, L4.out, C4.out.1, C4.out.2⟩
  case round =>
    obtain ⟨k, hk, rfl, obk, g, lk, kk, ok⟩ := hrel
    have Gk := Lib.hid g
    have Lk := Lib.hid lk
    have ck := lk.blk.cell
    have Kk := Lib.hid (And.intro kk ok)
    clear g lk kk ok c4'
    by_cases hlt : k < m2
    · have hkl : k < ds.length := by rw [← ED.out]; exact hlt
      obtain ⟨b, o, rfl, hb, he⟩ := HD.out (by intro e; rw [e] at hkl; simp at hkl)
      obtain ⟨cs, hcl, hcc, hce⟩ := he k hkl
      have HF := Lib.hid (take_flat encDe ds k hkl)
      have HF2 := Lib.hid (all_take_eq (f := fitDe) hkl)
      have HF3 := Lib.hid (cntDes_take hkl)
      have HF4 := Lib.hid (cntDes_le (l := ds) (k + 1))
      obtain ⟨q0, q1, q2, q3, q4, q5, q6, q7, q7l, q7c, q8, q8l, q8c, q9, q9l, q9c, rfl⟩ := shape_De hce
      have f0 := (Gk.out.bel.cell (p := ⟨b, o + k * 10 + 0, none⟩) hb).trans (hcc 0 (by simp))
      have f1 := (Gk.out.bel.cell (p := ⟨b, o + k * 10 + 1, none⟩) hb).trans (hcc 1 (by simp))
      have f2 := (Gk.out.bel.cell (p := ⟨b, o + k * 10 + 2, none⟩) hb).trans (hcc 2 (by simp))
      have f3 := (Gk.out.bel.cell (p := ⟨b, o + k * 10 + 3, none⟩) hb).trans (hcc 3 (by simp))
      have f4 := (Gk.out.bel.cell (p := ⟨b, o + k * 10 + 4, none⟩) hb).trans (hcc 4 (by simp))
      have f5 := (Gk.out.bel.cell (p := ⟨b, o + k * 10 + 5, none⟩) hb).trans (hcc 5 (by simp))
      have f6 := (Gk.out.bel.cell (p := ⟨b, o + k * 10 + 6, none⟩) hb).trans (hcc 6 (by simp))
      have f7 := (Gk.out.bel.cell (p := ⟨b, o + k * 10 + 7, none⟩) hb).trans (hcc 7 (by simp))
      have f8 := (Gk.out.bel.cell (p := ⟨b, o + k * 10 + 8, none⟩) hb).trans (hcc 8 (by simp))
      have f9 := (Gk.out.bel.cell (p := ⟨b, o + k * 10 + 9, none⟩) hb).trans (hcc 9 (by simp))
      simp only [List.getElem?_cons_zero, List.getElem?_cons_succ, Nat.add_zero] at f0 f1 f2 f3 f4 f5 f6 f7 f8 f9
      have HCE := Lib.hid hce
      clear hcc hce he hb
      go_wp2_with fail
      refine (rdecl d _ _ _ _ _ _ _ HCE.out Gk.out (by have h1 := HU.out; have h2 := HF3.out; have h3 := HF4.out; omega)).mono ?_
      rintro e8 w8 ⟨rfl, ob8, g8, k8, o8⟩
      have C8 := Lib.hid (chain Kk.out.1 Kk.out.2 k8 o8)
      have L8 := Lib.hid (Lk.out.next k8 o8)
      have G8 := Lib.hid (show RwIn B W w8 (w.heap.size + 1) ob8 (rc ((ds.take (k + 1)).all fitDe) (some (some [])) (pre1 ⟨pk, is, ds, bs⟩ ++ (ds.take (k + 1)).flatMap encDe)) 0 (1000000 + 1000000 * is.length + 1000000 * cntDes (ds.take (k + 1))) by
        rw [HF.out, HF2.out, HF3.out, ← List.append_assoc, ← rc_rc]
        exact g8.more (by omega))
      clear g8 k8 o8
      go_wp2_with fail
      go_roundw
      case rel => exact ⟨k + 1, by omega, by go_num, ob8, G8.out, L8.out, C8.out.1, C8.out.2⟩
      case measure => simp [intOf]; omega
    · have hkn : ds.length ≤ k := by rw [← ED.out]; omega
      have GA := Lib.hid (show RwIn B W wr (w.heap.size + 1) obk (rc (ds.all fitDe) (some (some [])) (pre1 ⟨pk, is, ds, bs⟩ ++ ds.flatMap encDe)) 0 (1000000 + 1000000 * is.length + 1000000 * cntDes ds) by
        have g := Gk.out
        rw [List.take_of_length_le hkn] at g
        exact g)
      clear hkn
      go_wp2_with fail
      refine (rnum_in GA.out _).mono ?_
      rintro e5 w5 ⟨rfl, ob5, g5, k5, o5⟩
      have C5 := Lib.hid (chain Kk.out.1 Kk.out.2 k5 o5)
      have L5 := Lib.hid (Lk.out.next k5 o5)
      have c5' := L5.out.blk.cell
      have G5 := Lib.hid (show RwIn B W w5 (w.heap.size + 1) ob5 (rc (ds.all fitDe && (bs.take 0).all fitFn) (some (some [])) (pre2 ⟨pk, is, ds, bs⟩ ++ (bs.take 0).flatMap encFn)) 0 (2000000 + 1000000 * is.length + 1000000 * cntDes ds + 1000000 * cntFns (bs.take 0)) by
        simp only [rput_rc, rc_rc, Bool.true_and, Bool.and_true, EB.out] at g5
        simp only [List.take_zero, cntFns, List.flatMap_nil, List.append_nil, pre2, List.all_nil, Bool.and_true]
        exact g5.more (by omega))
      clear g5 k5 o5 ck
      go_wp2_with fail
      obtain ⟨wo, hwo⟩ : ∃ wo : World, wo = wr := ⟨_, rfl⟩
      subst hwo
      go_loopw [6] (fun i wr => ∃ k : Nat, k ≤ m3 ∧ i = .int .i64 k ∧ ∃ obk, RwIn B W wr (w.heap.size + 1) obk (rc (ds.all fitDe && (bs.take k).all fitFn) (some (some [])) (pre2 ⟨pk, is, ds, bs⟩ ++ (bs.take k).flatMap encFn)) 0 (2000000 + 1000000 * is.length + 1000000 * cntDes ds + 1000000 * cntFns (bs.take k)) ∧ Loc wr (w.heap.size + 1) obk w.heap.size [.string pk, .slice x1 m1 c1, .slice x2 m2 c2, .slice x3 m3 c3] 30 ∧ Kp (fun b => b = w.heap.size + 1 ∨ some b = none) ((w.alloc (.cells #[.string pk, .slice x1 m1 c1, .slice x2 m2 c2, .slice x3 m3 c3] 30)).alloc (.cells #[.slice none 0 0, .bool false, .int .i64 0] 89)) wr ∧ ∀ k, obk = some k → (none : Option Nat) = some k ∨ ((w.alloc (.cells #[.string pk, .slice x1 m1 c1, .slice x2 m2 c2, .slice x3 m3 c3] 30)).alloc (.cells #[.slice none 0 0, .bool false, .int .i64 0] 89)).heap.size ≤ k) (fun i _ => m3 - (intOf i).toNat)
      case atStart => exact ⟨0, Nat.zero_le _, rfl, ob5, G5.out, L5.out, C5.out.1, C5.out.2⟩
      case round =>
        obtain ⟨k2, hk2, rfl, obj, g, lk, kk, ok⟩ := hrel
        have Gj := Lib.hid g
        have Lj := Lib.hid lk
        have cj := lk.blk.cell
        have Kj := Lib.hid (And.intro kk ok)
        clear g lk kk ok c5'
        by_cases hlt2 : k2 < m3
        · have hkl : k2 < bs.length := by rw [← EB.out]; exact hlt2
          obtain ⟨b, o, rfl, hb, he⟩ := HB.out (by intro e; rw [e] at hkl; simp at hkl)
          obtain ⟨cs, hcl, hcc, hce⟩ := he k2 hkl
          have HF := Lib.hid (take_flat encFn bs k2 hkl)
          have HF2 := Lib.hid (all_take_eq (f := fitFn) hkl)
          have HF3 := Lib.hid (cntFns_take hkl)
          have HF4 := Lib.hid (cntFns_le (l := bs) (k2 + 1))
          obtain ⟨q0, q1, q2, q3, q4, q4l, q4c, rfl⟩ := shape_Fn hce
          have f0 := (Gj.out.bel.cell (p := ⟨b, o + k2 * 5 + 0, none⟩) hb).trans (hcc 0 (by simp))
          have f1 := (Gj.out.bel.cell (p := ⟨b, o + k2 * 5 + 1, none⟩) hb).trans (hcc 1 (by simp))
          have f2 := (Gj.out.bel.cell (p := ⟨b, o + k2 * 5 + 2, none⟩) hb).trans (hcc 2 (by simp))
          have f3 := (Gj.out.bel.cell (p := ⟨b, o + k2 * 5 + 3, none⟩) hb).trans (hcc 3 (by simp))
          have f4 := (Gj.out.bel.cell (p := ⟨b, o + k2 * 5 + 4, none⟩) hb).trans (hcc 4 (by simp))
          simp only [List.getElem?_cons_zero, List.getElem?_cons_succ, Nat.add_zero] at f0 f1 f2 f3 f4
          have HCE := Lib.hid hce
          clear hcc hce he hb
          go_wp2_with fail
          refine (rfunc d _ _ _ _ _ _ _ HCE.out Gj.out (by have h1 := HU.out; have h2 := HF3.out; have h3 := HF4.out; omega)).mono ?_
          rintro e8 w8 ⟨rfl, ob8, g8, k8, o8⟩
          have C8 := Lib.hid (chain Kj.out.1 Kj.out.2 k8 o8)
          have L8 := Lib.hid (Lj.out.next k8 o8)
          have G8 := Lib.hid (show RwIn B W w8 (w.heap.size + 1) ob8 (rc (ds.all fitDe && (bs.take (k2 + 1)).all fitFn) (some (some [])) (pre2 ⟨pk, is, ds, bs⟩ ++ (bs.take (k2 + 1)).flatMap encFn)) 0 (2000000 + 1000000 * is.length + 1000000 * cntDes ds + 1000000 * cntFns (bs.take (k2 + 1))) by
            rw [HF.out, HF2.out, HF3.out, ← List.append_assoc, ← Bool.and_assoc, ← rc_rc, fitFn_eq]
            exact g8.more (by omega))
          clear g8 k8 o8
          go_wp2_with fail
          go_roundw
          case rel => exact ⟨k2 + 1, by omega, by go_num, ob8, G8.out, L8.out, C8.out.1, C8.out.2⟩
          case measure => simp [intOf]; omega
        · have hkn : bs.length ≤ k2 := by rw [← EB.out]; omega
          have g := Gj.out
          rw [List.take_of_length_le hkn, ← encUn_pre] at g
          have HFU : fitUn ⟨pk, is, ds, bs⟩ = (ds.all fitDe && bs.all fitFn) := rfl
          rw [← HFU] at g
          have GF := Lib.hid g
          obtain ⟨⟨bx, dx, hr, hm⟩, _⟩ := g
          have HM := Lib.hid hm
          obtain ⟨ax, cx, hbk, how, hob, hne⟩ := id hr
          have q0 := hbk.cell 0
          have q1 := hbk.cell 1
          simp only [List.getElem?_cons_zero, List.getElem?_cons_succ] at q0 q1
          have HR := Lib.hid hr
          have NW := Lib.hid (show ∀ (wz : World), Kp (fun b => b = w.heap.size + 1 ∨ some b = none) ((w.alloc (.cells #[.string pk, .slice x1 m1 c1, .slice x2 m2 c2, .slice x3 m3 c3] 30)).alloc (.cells #[.slice none 0 0, .bool false, .int .i64 0] 89)) wz → Nw w wz from fun wz k => Kp.trans N0.out k (by
            rintro x hx (e | e)
            · omega
            · cases e))
          have BA := Lib.hid (own_bytesAt how)
          clear HFU hkn hbk how hob hne hr hm
          cases hfu : fitUn ⟨pk, is, ds, bs⟩ with
          | false =>
            have hdx : dx = true := by have := HM.out.2.1; rw [hfu] at this; exact this rfl
            subst hdx
            have HC := Lib.hid (show codeU ⟨pk, is, ds, bs⟩ = 3 by simp [codeU, hfu])
            have X := Lib.hid (NW.out _ Kj.out.1)
            clear hfu
            go_wp2_with fail
            go_returns
            exact ⟨none, 0, 0, by rw [HC.out]; rfl, X.out, by rw [if_neg (by rw [HC.out]; decide)]; exact ⟨rfl, ownsNil _ _ _, fun g hg => by cases hg⟩⟩
          | true =>
            have hmm := HM.out.2.2
            rw [hfu] at hmm
            obtain ⟨hdx, hn1, hn2⟩ := hmm (wput (some []) (encUn ⟨pk, is, ds, bs⟩)) rfl
            subst hdx
            have FS := Lib.hid (fin_st ⟨pk, is, ds, bs⟩ bx (fun x hx => (hn2 x hx).1))
            have HS := Lib.hid (rsum_any _ _ _ BA.out)
            have HFU := Lib.hid hfu
            clear hmm hn1 hn2 hfu
            go_wp2_with fail
            refine HS.out.mono ?_
            rintro e9 w9 ⟨rfl, rfl⟩
            go_wp2_with fail
            refine (rnum_in GF.out _).mono ?_
            rintro e10 w10 ⟨rfl, ob10, g10, k10, o10⟩
            have C10 := Lib.hid (chain Kj.out.1 Kj.out.2 k10 o10)
            obtain ⟨⟨by_, dy, hr, hm⟩, _⟩ := g10
            have FULL := Lib.hid (rfull_any _ _ _ _ _ _ hr)
            obtain ⟨ay, cy, hbk, how, hob, hne⟩ := hr
            have r0 := hbk.cell 0
            simp only [List.getElem?_cons_zero] at r0
            have hmx := hm.2.2
            rw [HFU.out] at hmx
            obtain ⟨_, hn1, hn2⟩ := hmx (wput (wput (some []) (encUn ⟨pk, is, ds, bs⟩)) (le8 (fnv bx))) rfl
            rw [FS.out] at hn1 hn2
            have X := Lib.hid (NW.out _ C10.out.1)
            have HOB := Lib.hid (show ∀ g, ob10 = some g → w.heap.size ≤ g from fun g hg => by
              rcases C10.out.2 g hg with e | e
              · cases e
              · simp at e; omega)
            have HOW := Lib.hid how
            have HO2 := Lib.hid hob
            clear k10 o10 hbk how hob hne hm hmx
            by_cases hl : (encB ⟨pk, is, ds, bs⟩).length ≤ 262144
            · rw [if_pos hl] at hn2
              obtain ⟨hbe, hbl2⟩ := hn2 _ rfl
              subst hbe
              have HDD := Lib.hid (show decide (262144 < (encB ⟨pk, is, ds, bs⟩).length) = false by simp; omega)
              have HC := Lib.hid (show codeU ⟨pk, is, ds, bs⟩ = 0 by simp [codeU, HFU.out, hl])
              clear hn1 hn2 hl hbl2
              go_wp2_with fail
              refine FULL.out.mono ?_
              rintro e11 w11 ⟨rfl, rfl⟩
              rw [HDD.out]
              go_wp2_with fail
              go_returns
              exact ⟨ay, _, cy, by rw [HC.out]; rfl, X.out, by rw [if_pos HC.out]; exact ⟨rfl, HOW.out, fun g hg => HOB.out g (by rw [← HO2.out]; exact hg)⟩⟩
            · rw [if_neg hl] at hn1
              have HDD := Lib.hid (show decide (262144 < by_.length) = true by simp [hn1 rfl])
              have HC := Lib.hid (show codeU ⟨pk, is, ds, bs⟩ = 2 by simp [codeU, HFU.out, hl])
              clear hn1 hn2 hl
              go_wp2_with fail
              refine FULL.out.mono ?_
              rintro e11 w11 ⟨rfl, rfl⟩
              rw [HDD.out]
              go_wp2_with fail
              go_returns
              exact ⟨none, 0, 0, by rw [HC.out]; rfl, X.out, by rw [if_neg (by rw [HC.out]; decide)]; exact ⟨rfl, ownsNil _ _ _, fun g hg => by cases hg⟩⟩
end Go.Proofs.Ytpopgnengimieaa
