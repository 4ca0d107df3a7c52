/- What the document's Encode returns for any object. -/
import Derived.Test.YtfdjlicegfgodaaOW4
import Derived.Test.YtfdjlicegfgodaaValid3
import Derived.Test.YtfdjlicegfgodaaRW2
namespace Go.Proofs.Ytfdjlicegfgodaa
open Go.RowKit
set_option linter.unusedSimpArgs false
set_option linter.unusedVariables false

theorem RwIn.in {B : Nat} {W w : World} {p : Nat} {ob : Option Nat} {x : Option (Option (List UInt8))} {a : Int} {L : Nat} (h : RwIn B W w p ob x a L) : In B W w := ⟨h.bel, Nat.le_of_lt (Nat.lt_of_le_of_lt h.hp h.p_lt)⟩
theorem rput_nil {B : Nat} {W w : World} {p : Nat} {ob : Option Nat} {x : Option (Option (List UInt8))} {a : Int} {L : Nat} (h : RwIn B W w p ob x a L) : RwIn B W w p ob (rput x []) a L := by
  obtain ⟨⟨bs, deep, h1, h2, h3, h4⟩, h5, h6, h7⟩ := h
  refine ⟨⟨bs, deep, h1, h2, ?_, ?_⟩, h5, h6, h7⟩
  · intro e
    cases x with
    | none => exact h3 rfl
    | some s => simp [rput] at e
  · intro s e
    cases x with
    | none => simp [rput] at e
    | some s0 =>
      obtain ⟨q1, q2, q3⟩ := h4 s0 rfl
      have e0 : wput s0 [] = s0 := by
        cases s0 with
        | none => rfl
        | some l => simp [wput, (q3 l rfl).2]
      simp only [rput, Option.map_some, Option.some.injEq] at e
      rw [e0] at e
      subst e
      exact ⟨q1, q2, q3⟩
theorem LocR.new {B : Nat} {W w : World} {p : Nat} {ob : Option Nat} {x : Option (Option (List UInt8))} {a : Int} {L : Nat} (h : RwIn B W w p ob x a L) (cs : List Value) (t : TypeId) : Loc (w.alloc (.cells cs.toArray t)) p ob w.heap.size cs t :=
  ⟨Blk.new w cs t, fun e => by have := h.p_lt; omega, fun e => by have := h.ob_lt _ e.symm; omega⟩

set_option maxRecDepth 100000 in
set_option maxHeartbeats 400000 in
theorem rwords_in {B : Nat} {W w : World} {p : Nat} {ob : Option Nat} {x : Option (Option (List UInt8))} {a : Int} {L : Nat} (l : List Int) (v : Value) (hv : SlB B W 1 WdAt l v) (h : RwIn B W w p ob x a L) :
    Calls Try.prog 41 #[.pointer (some ⟨p, 0, none⟩), v] w (ROut B W w p ob (rput x (encL le8 l)) a (L + 8 + 8 * l.length)) := by
  obtain ⟨xa, c, rfl, hl, he⟩ := hv
  have HE := Lib.hid he
  have G := Lib.hid h
  clear h he
  have HB := Lib.hid (show rput x (encL le8 l) = rput x (le8 l.length ++ l.flatMap le8) from rfl)
  rw [HB.out]
  obtain ⟨m, e1⟩ : ∃ m, m = l.length := ⟨_, rfl⟩
  rw [← e1] at hl ⊢
  have E1 := Lib.hid e1
  clear e1 HB
  go_enter Try.func41, Try.ntmps41
  go_wp2_with fail
  refine (rnum_in G.out _).mono ?_
  rintro e1 w1 ⟨rfl, ob1, g1, k1, o1⟩
  have G1 := Lib.hid (rput_nil g1)
  have K1 := Lib.hid k1
  have O1 := Lib.hid o1
  clear g1 k1 o1
  go_wp2_with fail
  go_loopw [4] (fun i wr => ∃ k : Nat, k ≤ m ∧ i = .int .i64 k ∧ ∃ obj, RwIn B W wr p obj (rput x (le8 m ++ (l.take k).flatMap le8)) a (L + 8 + 8 * k) ∧ Kp (fun b => b = p ∨ some b = ob) w wr ∧ ∀ k, obj = some k → ob = some k ∨ w.heap.size ≤ k) (fun i _ => m - (intOf i).toNat)
  case atStart => exact ⟨0, Nat.zero_le _, rfl, ob1, by have := G1.out; rw [rput_rput] at this; exact this, K1.out, O1.out⟩
  case round =>
    obtain ⟨k, hk0, rfl, obj, g, kk, oo⟩ := hrel
    have Gk := Lib.hid g
    have Kk := Lib.hid kk
    have Ok := Lib.hid oo
    clear g kk oo
    by_cases hlt : k < m
    · have hkl : k < l.length := by rw [← E1.out]; exact hlt
      have hq0 : (0 : Int) ≤ (k : Int) := by omega
      have hq1 : (k : Int) < (m : Int) := by omega
      obtain ⟨b, o, rfl, hb, he⟩ := HE.out (by intro e; rw [e] at hkl; simp at hkl)
      obtain ⟨cs, hcl2, hcc, rfl, _⟩ := he k hkl
      have FE := Lib.hid (fun (wz : World) (hz : In B W wz) (j : Nat) (hj : j < 1) => (hz.bel.cell (p := ⟨b, o + k * 1 + j, none⟩) hb).trans (hcc j (by simpa using hj)))
      clear he hcc hcl2
      have HT := Lib.hid (fm_take le8 hkl)
      generalize l[k]'hkl = y at *
      have f0 := FE.out _ Gk.out.in 0 (by omega)
      simp only [List.getElem?_cons_zero, Nat.add_zero, Nat.mul_one] at f0
      go_wp2_with fail
      refine (rnum_in Gk.out _).mono ?_
      rintro e2 w2 ⟨rfl, ob2, g2, k2, o2⟩
      have G3 := Lib.hid g2
      have C := Lib.hid (chain Kk.out Ok.out k2 o2)
      clear g2 k2 o2
      go_wp2_with fail
      go_roundw
      case rel => exact ⟨k + 1, by omega, by go_num, ob2, by have := G3.out; rw [rput_rput, List.append_assoc, ← HT.out] at this; exact this.more (by omega), C.out.1, C.out.2⟩
      case measure => simp [intOf]; omega
    · have hkm : Hid (l.length ≤ k) := Lib.hid (by rw [← E1.out]; omega)
      have FF := Lib.hid (show ROut B W w p ob (rput x (le8 m ++ l.flatMap le8)) a (L + 8 + 8 * m) (.returned (.tuple #[])) wr from ⟨rfl, obj, by have := Gk.out; rw [List.take_of_length_le hkm.out] at this; exact this.more (by omega), Kk.out, Ok.out⟩)
      clear Gk Kk Ok
      go_wp2_with fail
      go_returns
      exact FF.out
set_option maxRecDepth 100000 in
set_option maxHeartbeats 1000000 in
theorem rimports_in {B : Nat} {W w : World} {p : Nat} {ob : Option Nat} {x : Option (Option (List UInt8))} {a : Int} {L : Nat} (l : List Im) (v : Value) (hv : SlB B W 2 ImAt l v) (h : RwIn B W w p ob x a L) (hL : L + 8 + 1000000 * l.length ≤ 1000000000000) :
    Calls Try.prog 39 #[.pointer (some ⟨p, 0, none⟩), v] w (ROut B W w p ob (rput x (encL encIm l)) a (L + 8 + 1000000 * l.length)) := by
  obtain ⟨xa, c, rfl, hl, he⟩ := hv
  have HE := Lib.hid he
  have G := Lib.hid h
  clear h he
  have HB := Lib.hid (show rput x (encL encIm l) = rput x (le8 l.length ++ l.flatMap encIm) from rfl)
  rw [HB.out]
  obtain ⟨m, e1⟩ : ∃ m, m = l.length := ⟨_, rfl⟩
  rw [← e1] at hl hL ⊢
  have E1 := Lib.hid e1
  have HL := Lib.hid hL
  clear e1 HB hL
  go_enter Try.func39, Try.ntmps39
  go_wp2_with fail
  refine (rnum_in G.out _).mono ?_
  rintro e1 w1 ⟨rfl, ob1, g1, k1, o1⟩
  have G1 := Lib.hid (rput_nil g1)
  have K1 := Lib.hid k1
  have O1 := Lib.hid o1
  clear g1 k1 o1
  go_wp2_with fail
  go_loopw [4] (fun i wr => ∃ k : Nat, k ≤ m ∧ i = .int .i64 k ∧ ∃ obj, RwIn B W wr p obj (rput x (le8 m ++ (l.take k).flatMap encIm)) a (L + 8 + 1000000 * k) ∧ Kp (fun b => b = p ∨ some b = ob) w wr ∧ ∀ k, obj = some k → ob = some k ∨ w.heap.size ≤ k) (fun i _ => m - (intOf i).toNat)
  case atStart => exact ⟨0, Nat.zero_le _, rfl, ob1, by have := G1.out; rw [rput_rput] at this; exact this, K1.out, O1.out⟩
  case round =>
    obtain ⟨k, hk0, rfl, obj, g, kk, oo⟩ := hrel
    have Gk := Lib.hid g
    have Kk := Lib.hid kk
    have Ok := Lib.hid oo
    clear g kk oo
    by_cases hlt : k < m
    · obtain ⟨⟨bs, deep, hr, hm⟩, _⟩ := id Gk.out
      have FULL := Lib.hid (rfull_any wr p obj bs deep a hr)
      by_cases hf : 262144 < bs.length
      · have HD := Lib.hid (show decide (262144 < bs.length) = true by simp [hf])
        have HX := Lib.hid (show ROut B W w p ob (rput x (le8 m ++ l.flatMap encIm)) a (L + 8 + 1000000 * m) (.returned (.tuple #[])) wr by
          refine ROut.trans Kk.out Ok.out (ROut.mk Gk.out hr ?_ (Kp.refl _ wr) (fun k hk => .inl hk))
          have e : rput x (le8 m ++ l.flatMap encIm) = rput (rput x (le8 m ++ (l.take k).flatMap encIm)) ((l.drop k).flatMap encIm) := by
            rw [rput_rput, List.append_assoc, ← List.flatMap_append, List.take_append_drop]
          rw [e]
          have := hm.full (s := (l.drop k).flatMap encIm) hf
          exact ⟨Nat.le_trans this.1 (by omega), this.2⟩)
        clear hr hm hf
        go_wp2_with fail
        refine FULL.out.mono ?_
        rintro e2 w2 ⟨rfl, rfl⟩
        rw [HD.out]
        go_wp2_with fail
        go_returns
        exact HX.out
      · have HD := Lib.hid (show decide (262144 < bs.length) = false by simp; omega)
        have hkl : k < l.length := by rw [← E1.out]; exact hlt
        have hq0 : (0 : Int) ≤ (k : Int) := by omega
        have hq1 : (k : Int) < (m : Int) := by omega
        obtain ⟨b, o, rfl, hb, he⟩ := HE.out (by intro e; rw [e] at hkl; simp at hkl)
        obtain ⟨cs, hcl2, hcc, rfl, _, _⟩ := he k hkl
        have FE := Lib.hid (fun (wz : World) (hz : In B W wz) (j : Nat) (hj : j < 2) => (hz.bel.cell (p := ⟨b, o + k * 2 + j, none⟩) hb).trans (hcc j (by simpa using hj)))
        clear he hcc hcl2
        have HT := Lib.hid (fm_take encIm hkl)
        generalize l[k]'hkl = y at *
        obtain ⟨nm, hsh⟩ := y
        dsimp only at *
        have f0 := FE.out _ Gk.out.in 0 (by omega)
        simp only [List.getElem?_cons_zero, Nat.add_zero] at f0
        clear hr hm hf
        go_wp2_with fail
        refine FULL.out.mono ?_
        rintro e2 w2 ⟨rfl, rfl⟩
        rw [HD.out]
        go_wp2_with fail
        refine (rtext_in Gk.out _ (by have h1 := HL.out; omega)).mono ?_
        rintro e7 w7 ⟨rfl, ob7, g7, k7, o7⟩
        have C7 := Lib.hid (chain Kk.out Ok.out k7 o7)
        have G7 := Lib.hid g7
        clear g7 k7 o7 f0
        have f1 := FE.out _ G7.out.in 1 (by omega)
        simp only [List.getElem?_cons_succ, List.getElem?_cons_zero] at f1
        go_wp2_with fail
        refine (rnum_in G7.out _).mono ?_
        rintro e8 w8 ⟨rfl, ob8, g8, k8, o8⟩
        have G8 := Lib.hid g8
        have C := Lib.hid (chain C7.out.1 C7.out.2 k8 o8)
        clear g8 k8 o8
        go_wp2_with fail
        go_roundw
        case rel => exact ⟨k + 1, by omega, by go_num, ob8, by have := G8.out; simp only [rput_rput, List.append_assoc] at this; rw [HT.out]; exact this.more (by omega), C.out.1, C.out.2⟩
        case measure => simp [intOf]; omega
    · have hkm : Hid (l.length ≤ k) := Lib.hid (by rw [← E1.out]; omega)
      have FF := Lib.hid (show ROut B W w p ob (rput x (le8 m ++ l.flatMap encIm)) a (L + 8 + 1000000 * m) (.returned (.tuple #[])) wr from ⟨rfl, obj, by have := Gk.out; rw [List.take_of_length_le hkm.out] at this; exact this.more (by omega), Kk.out, Ok.out⟩)
      clear Gk Kk Ok
      go_wp2_with fail
      go_returns
      exact FF.out
theorem means0 : RwMeans [] false (some (some [])) 0 :=
  ⟨Nat.le_refl _, (fun e => by cases e), fun s e => by cases e; exact ⟨rfl, (fun e => by cases e), fun l e => by cases e; exact ⟨rfl, by decide⟩⟩⟩
theorem raw0 {w : World} {p : Nat} (hb : Blk w p [.slice none 0 0, .bool false, .int .i64 0] 81) : RwRaw w p none [] false 0 :=
  ⟨none, 0, hb, ownsNil _ _ _, rfl, (fun e => by cases e)⟩
theorem start0 {B : Nat} {W w : World} {p : Nat} (hb : Blk w p [.slice none 0 0, .bool false, .int .i64 0] 81) (h : Below B W w) (hp : B ≤ p) : RwIn B W w p none (some (some [])) 0 0 :=
  ⟨⟨[], false, raw0 hb, means0⟩, h, hp, (fun k hk => by cases hk)⟩
theorem mark0 {B : Nat} {W w : World} {p : Nat} (m : ByteArray) (hm : m.data.toList.length = m.size) (hb : Blk w p [.slice none 0 0, .bool false, .int .i64 0] 81) (h : Below B W w) (hp : B ≤ p) (x' : Option Addr) (c' : Nat) (w' : World)
    (ho : w'.ownsRow 0 5 1 (.slice x' (0 + m.size) c') (0 + m.size) ([] ++ Lib.strCells m)) (hg : w.grownBy w' (Value.slice none 0 0).ownBlock)
    (hl : (Value.slice x' (0 + m.size) c').ownBlock = (Value.slice none 0 0).ownBlock ∨ (Value.slice x' (0 + m.size) c').ownBlock = some w.heap.size) :
    w'.cell? ⟨p, 0, none⟩ = some (.slice none 0 0) ∧ w'.frozen? ⟨p, 0, none⟩ = false ∧ ∃ ob', RwIn B W (w'.setCell ⟨p, 0, none⟩ (.slice x' (0 + m.size) c')) p ob' (rput (some (some [])) m.data.toList) 0 m.size ∧
      Kp (fun b => b = p ∨ some b = none) w (w'.setCell ⟨p, 0, none⟩ (.slice x' (0 + m.size) c')) ∧ ∀ k, ob' = some k → (none : Option Nat) = some k ∨ w.heap.size ≤ k := by
  obtain ⟨y0, y1, ob', r, k, o⟩ := RwRaw.grow (bs := []) (n := 0 + m.size) (ys := m.data.toList) (by rw [hm]; rfl) hb rfl (fun e => by cases e) ho hg hl
  refine ⟨y0, y1, ob', ?_, k, o⟩
  have hp2 := means0.put (s := m.data.toList) (by decide)
  rw [hm, Nat.zero_add] at hp2
  exact RwIn.mk' (start0 hb h hp) r hp2 k o
theorem fin_st (mk bs : List UInt8) (h : ∀ x, wput (some []) mk = some x → bs = x) :
    wput (wput (some []) mk) (le8 (fnv bs)) = if (mk ++ le8 (fnv mk)).length ≤ 262144 then some (mk ++ le8 (fnv mk)) else none := by
  by_cases hl : mk.length ≤ 262144
  · have e : wput (some []) mk = some mk := by simp [wput, hl]
    have hb := h _ e
    subst hb
    rw [e]
    simp only [wput, List.length_append]
  · have e : wput (some []) mk = none := by simp only [wput, List.length_nil, Nat.zero_add]; rw [if_neg hl]
    rw [e, wput_none, if_neg]
    simp only [List.length_append]; omega
set_option maxRecDepth 100000 in
set_option maxHeartbeats 4000000 in
theorem r28encode_any {B : Nat} {W w : World} (o : Ob) (cs : List Value) (hx : ObAt B W o cs) (h : In B W w) (hs1 : o.imports.length ≤ 100000) (hs2 : o.syms.length ≤ 100000) (hs3 : o.relocs.length ≤ 100000) :
    Calls Try.prog 17 #[.agg cs.toArray] w (OEncPost w o) := by
  obtain ⟨i0, hi0, hz0, hz1, hz2⟩ := info_parts u8info
  have HX := Lib.hid hx
  obtain ⟨pk, hash, is, ss, rs, code, data⟩ := o
  obtain ⟨vi, vs, vr, vc, vd, rfl, hp, hh, hi, hs, hr, hc, hd⟩ := hx
  have HIs := Lib.hid hi
  have HCs := Lib.hid hc
  have HDs := Lib.hid hd
  obtain ⟨x2, m2, c2, rfl⟩ := hi.slice
  obtain ⟨x3, c3, rfl, hsl, hse⟩ := hs
  obtain ⟨x4, c4, rfl, hrl, hre⟩ := hr
  obtain ⟨x5, c5, rfl, hcl, hce⟩ := hc
  obtain ⟨x6, c6, rfl, hdl, hde⟩ := hd
  have HS := Lib.hid hse
  have HR := Lib.hid hre
  dsimp only at HX HIs HCs HDs HS HR hs1 hs2 hs3 hsl hrl hcl hdl ⊢
  have VCL := Lib.hid (show codeV ⟨pk, hash, is, ss, rs, code, data⟩ = 0 → code.length ≤ 65536 ∧ data.length ≤ 16384 from fun e => by
    unfold codeV at e
    split at e
    · cases e
    · rename_i hn; dsimp only at hn; omega)
  have MKO := Lib.hid (show mkO ⟨pk, hash, is, ss, rs, code, data⟩ = [77, 79, 49, 10] ++ (encS pk ++ (le8 hash ++ (encL encIm is ++ (le8 ss.length ++ (ss.flatMap encSy ++ (le8 rs.length ++ (rs.flatMap encRe ++ (encL le8 code ++ encL le8 data)))))))) by simp only [mkO, encO, encL, List.append_assoc])
  clear hi hse hre hce hde
  obtain ⟨ov, hov⟩ : ∃ ov : Ob, ov = ⟨pk, hash, is, ss, rs, code, data⟩ := ⟨_, rfl⟩
  rw [← hov] at HX VCL MKO ⊢
  clear hov
  obtain ⟨m3, e3⟩ : ∃ n, n = ss.length := ⟨_, rfl⟩
  obtain ⟨m4, e4⟩ : ∃ n, n = rs.length := ⟨_, rfl⟩
  obtain ⟨m5, e5⟩ : ∃ n, n = code.length := ⟨_, rfl⟩
  obtain ⟨m6, e6⟩ : ∃ n, n = data.length := ⟨_, rfl⟩
  try dsimp only
  rw [← e3] at hsl hs2 MKO HX ⊢
  rw [← e4] at hrl hs3 MKO HX ⊢
  rw [← e5] at hcl HCs HX VCL ⊢
  rw [← e6] at hdl HDs HX VCL ⊢
  have E3 := Lib.hid e3
  have E4 := Lib.hid e4
  have E5 := Lib.hid e5
  have E6 := Lib.hid e6
  clear e3 e4 e5 e6
  have G := Lib.hid h
  have N0 := Lib.hid (Nw.new w (.cells #[.string pk, .int .i64 hash, .slice x2 m2 c2, .slice x3 m3 c3, .slice x4 m4 c4, .slice x5 m5 c5, .slice x6 m6 c6] 27))
  have BX := Lib.hid (Blk.new w [.string pk, .int .i64 hash, .slice x2 m2 c2, .slice x3 m3 c3, .slice x4 m4 c4, .slice x5 m5 c5, .slice x6 m6 c6] 27)
  have VA := Lib.hid (rvalid_any (w := w.alloc (.cells #[.string pk, .int .i64 hash, .slice x2 m2 c2, .slice x3 m3 c3, .slice x4 m4 c4, .slice x5 m5 c5, .slice x6 m6 c6] 27)) ov _ HX.out (h.alloc _))
  clear h
  go_enter Try.func17, Try.ntmps17
  go_upto_region 1 with fail
  have hw0 : w.heap.size < (w.alloc (.cells #[.string pk, .int .i64 hash, .slice x2 m2 c2, .slice x3 m3 c3, .slice x4 m4 c4, .slice x5 m5 c5, .slice x6 m6 c6] 27)).heap.size := by simp
  generalize w.alloc (.cells #[.string pk, .int .i64 hash, .slice x2 m2 c2, .slice x3 m3 c3, .slice x4 m4 c4, .slice x5 m5 c5, .slice x6 m6 c6] 27) = w0 at *
  have cO := BX.out.cell
  by_cases hv : codeV ov = 0
  · have HV := Lib.hid hv
    obtain ⟨hs5, hs6⟩ := VCL.out hv
    go_wp2_with fail
    refine VA.out.mono ?_
    rintro e1 w1 ⟨rfl, k1⟩
    rw [HV.out]
    have N1 := Lib.hid (N0.out.trans k1)
    have BX1 := Lib.hid (BX.out.nw k1)
    have IN1 := Lib.hid (G.out.nw N1.out)
    have hsz : w.heap.size < w1.heap.size := Nat.lt_of_lt_of_le hw0 k1.size
    clear k1 hw0 cO hv VA
    go_upto_region 5 with fail
    have hblk := Blk.new w1 [.slice none 0 0, .bool false, .int .i64 0] 81
    have L0 := Lib.hid (show Loc (w1.alloc (.cells #[.slice none 0 0, .bool false, .int .i64 0] 81)) w1.heap.size none w.heap.size [.string pk, .int .i64 hash, .slice x2 m2 c2, .slice x3 m3 c3, .slice x4 m4 c4, .slice x5 m5 c5, .slice x6 m6 c6] 27 from ⟨BX1.out.alloc _, by omega, (fun e => by cases e)⟩)
    have FIN := Lib.hid (mark0 (B := B) (W := W) ⟨#[77, 79, 49, 10]⟩ rfl hblk (IN1.out.alloc _).bel IN1.out.le)
    have HN := Lib.hid (ownsNil (w1.alloc (.cells #[.slice none 0 0, .bool false, .int .i64 0] 81)) 5 1)
    have H63 := Lib.hid (show 0 + (⟨#[77, 79, 49, 10]⟩ : ByteArray).size ≤ maxLen by unfold maxLen; decide)
    have HBY := Lib.hid (show 0 + (⟨#[77, 79, 49, 10]⟩ : ByteArray).size ≤ 140737488355328 by decide)
    have N2 := Lib.hid (N1.out.alloc (.cells #[.slice none 0 0, .bool false, .int .i64 0] 81))
    have hz2 : w1.heap.size < (w1.alloc (.cells #[.slice none 0 0, .bool false, .int .i64 0] 81)).heap.size := by simp
    have w0c := hblk.cell 0
    simp only [List.getElem?_cons_zero] at w0c
    clear hblk
    generalize w1.alloc (.cells #[.slice none 0 0, .bool false, .int .i64 0] 81) = w2 at *
    generalize w1.heap.size = pw at *
    have HSZ := Lib.hid (show w.heap.size < pw ∧ pw < w2.heap.size from ⟨hsz, hz2⟩)
    clear hsz hz2 N1 BX1 IN1
    go_wp2_with (at_builtin; refine wpList_app_string _ rfl (.tmp 20) (.const (.string ⟨#[77, 79, 49, 10]⟩)) 34 9 rfl 0 5 i0 Try.underlying34 Try.underlying9 hi0 hz0 hz1 hz2 _ 0 [] rfl HN.out ⟨#[77, 79, 49, 10]⟩ rfl H63.out HBY.out (Nat.zero_le _) ?_; intro a' c' w' ho' hg' hl'; obtain ⟨y0, y1, ob3, r1, k3, o3⟩ := FIN.out a' c' w' ho' hg' hl'; have L3 := Lib.hid (L0.out.next k3 o3); have G3 := Lib.hid (show RwIn B W (w'.setCell ⟨pw, 0, none⟩ (.slice a' 4 c')) pw ob3 (rput (some (some [])) [77, 79, 49, 10]) 0 4 from r1); have C3 := Lib.hid (show Kp (fun b => b = pw ∨ some b = none) w2 (w'.setCell ⟨pw, 0, none⟩ (.slice a' 4 c')) ∧ ∀ k, ob3 = some k → (none : Option Nat) = some k ∨ w2.heap.size ≤ k from ⟨k3, o3⟩); have cO : ∀ o, (w'.setCell ⟨pw, 0, none⟩ (.slice a' 4 c')).cell? ⟨w.heap.size, o, none⟩ = ([.string pk, .int .i64 hash, .slice x2 m2 c2, .slice x3 m3 c3, .slice x4 m4 c4, .slice x5 m5 c5, .slice x6 m6 c6] : List Value)[o]? := (L0.out.next k3 o3).blk.cell; clear r1 k3 o3 ho' hg' hl')
    refine (rtext_in G3.out _ (by omega)).mono ?_
    rintro e4 w4 ⟨rfl, ob4, g4, k4, o4⟩
    have G4 := Lib.hid g4
    have L4 := Lib.hid (L3.out.next k4 o4)
    have C4 := Lib.hid (chain C3.out.1 C3.out.2 k4 o4)
    clear g4 k4 o4 G3 L3 C3 cO y0 y1
    have cO := L4.out.blk.cell
    go_wp2_with fail
    refine (rnum_in G4.out _).mono ?_
    rintro e5 w5 ⟨rfl, ob5, g5, k5, o5⟩
    have G5 := Lib.hid g5
    have L5 := Lib.hid (L4.out.next k5 o5)
    have C5 := Lib.hid (chain C4.out.1 C4.out.2 k5 o5)
    clear g5 k5 o5 G4 L4 C4 cO
    have cO := L5.out.blk.cell
    go_wp2_with fail
    refine (rimports_in is _ HIs.out G5.out (by omega)).mono ?_
    rintro e6 w6 ⟨rfl, ob6, g6, k6, o6⟩
    have G6 := Lib.hid g6
    have L6 := Lib.hid (L5.out.next k6 o6)
    have C6 := Lib.hid (chain C5.out.1 C5.out.2 k6 o6)
    clear g6 k6 o6 G5 L5 C5 cO
    have cO := L6.out.blk.cell
    go_wp2_with fail
    refine (rnum_in G6.out _).mono ?_
    rintro e7 w7 ⟨rfl, ob7, g7, k7, o7⟩
    have G7 := Lib.hid g7
    have L7 := Lib.hid (L6.out.next k7 o7)
    have C7 := Lib.hid (chain C6.out.1 C6.out.2 k7 o7)
    clear g7 k7 o7 G6 L6 C6 cO
    have cO := L7.out.blk.cell
    go_wp2_with fail
    go_loopw [6] (fun i wr => ∃ k : Nat, k ≤ m3 ∧ i = .int .i64 k ∧ ∃ obj, RwIn B W wr pw obj (rput (some (some [])) (([77, 79, 49, 10] ++ (encS pk ++ (le8 hash ++ (encL encIm is ++ le8 m3)))) ++ (ss.take k).flatMap encSy)) 0 ((200000000000) + 1000000 * k) ∧ Loc wr pw obj w.heap.size [.string pk, .int .i64 hash, .slice x2 m2 c2, .slice x3 m3 c3, .slice x4 m4 c4, .slice x5 m5 c5, .slice x6 m6 c6] 27 ∧ Kp (fun b => b = pw ∨ some b = none) w2 wr ∧ ∀ k, obj = some k → (none : Option Nat) = some k ∨ w2.heap.size ≤ k) (fun i _ => m3 - (intOf i).toNat)
    case atStart => exact ⟨0, Nat.zero_le _, rfl, ob7, by have := G7.out; simp only [rput_rput, List.append_assoc] at this; simp only [List.take_zero, List.flatMap_nil, List.append_nil, List.append_assoc]; exact this.more (by omega), L7.out, C7.out.1, C7.out.2⟩
    case round =>
      clear cO
      obtain ⟨k, hk0, rfl, obj, g, lo, kk, oo⟩ := hrel
      have Gk := Lib.hid g
      have Lk := Lib.hid lo
      have Ck := Lib.hid (And.intro kk oo)
      clear g lo kk oo
      by_cases hlt : k < m3
      · skip
        have hkl : k < ss.length := by rw [← E3.out]; exact hlt
        have hq0 : (0 : Int) ≤ (k : Int) := by omega
        have hq1 : (k : Int) < (m3 : Int) := by omega
        obtain ⟨b, o, rfl, hb, he⟩ := HS.out (by intro e; rw [e] at hkl; simp at hkl)
        obtain ⟨cs, hcl2, hcc, rfl, _, _, _, _, _⟩ := he k hkl
        have FE := Lib.hid (fun (wz : World) (hz : In B W wz) (j : Nat) (hj : j < 6) => (hz.bel.cell (p := ⟨b, o + k * 6 + j, none⟩) hb).trans (hcc j (by simpa using hj)))
        clear he hcc hcl2
        have HT := Lib.hid (fm_take encSy hkl)
        generalize ss[k]'hkl = y at *
        obtain ⟨nm, kind, wk, at_, size, frame⟩ := y
        dsimp only at *
        have f0 := FE.out _ Gk.out.in 0 (by omega)
        have f1 := FE.out _ Gk.out.in 1 (by omega)
        have f2 := FE.out _ Gk.out.in 2 (by omega)
        have f3 := FE.out _ Gk.out.in 3 (by omega)
        have f4 := FE.out _ Gk.out.in 4 (by omega)
        have f5 := FE.out _ Gk.out.in 5 (by omega)
        simp only [List.getElem?_cons_zero, List.getElem?_cons_succ, Nat.add_zero] at f0 f1 f2 f3 f4 f5
        have GA := Lib.hid (Gk.out.alloc (.cells #[.string nm, .int .i64 kind, .bool wk, .int .i64 at_, .int .i64 size, .int .i64 frame] 44))
        have LA := Lib.hid (Lk.out.alloc (.cells #[.string nm, .int .i64 kind, .bool wk, .int .i64 at_, .int .i64 size, .int .i64 frame] 44))
        have MA := Lib.hid (LocR.new Gk.out [.string nm, .int .i64 kind, .bool wk, .int .i64 at_, .int .i64 size, .int .i64 frame] 44)
        have CA := Lib.hid (And.intro (Ck.out.1.alloc (.cells #[.string nm, .int .i64 kind, .bool wk, .int .i64 at_, .int .i64 size, .int .i64 frame] 44)) Ck.out.2)
        have cO1 := Lk.out.blk.cell
        have cO := LA.out.blk.cell
        have cM := MA.out.blk.cell
        go_wp2_with fail
        clear cO1
        refine (rtext_in GA.out _ (by omega)).mono ?_
        rintro e8 w8 ⟨rfl, ob8, g8, k8, o8⟩
        have G8 := Lib.hid g8
        have L8 := Lib.hid (LA.out.next k8 o8)
        have M8 := Lib.hid (MA.out.next k8 o8)
        have C8 := Lib.hid (chain CA.out.1 CA.out.2 k8 o8)
        clear g8 k8 o8 GA LA CA cO MA cM
        have cO := L8.out.blk.cell
        have cM := M8.out.blk.cell
        go_wp2_with fail
        refine (rnum_in G8.out _).mono ?_
        rintro e9 w9 ⟨rfl, ob9, g9, k9, o9⟩
        have G9 := Lib.hid g9
        have L9 := Lib.hid (L8.out.next k9 o9)
        have M9 := Lib.hid (M8.out.next k9 o9)
        have C9 := Lib.hid (chain C8.out.1 C8.out.2 k9 o9)
        clear g9 k9 o9 G8 L8 C8 cO M8 cM
        have cO := L9.out.blk.cell
        have cM := M9.out.blk.cell
        go_wp2_with fail
        refine (rbool_in G9.out _).mono ?_
        rintro e10 w10 ⟨rfl, ob10, g10, k10, o10⟩
        have G10 := Lib.hid g10
        have L10 := Lib.hid (L9.out.next k10 o10)
        have M10 := Lib.hid (M9.out.next k10 o10)
        have C10 := Lib.hid (chain C9.out.1 C9.out.2 k10 o10)
        clear g10 k10 o10 G9 L9 C9 cO M9 cM
        have cO := L10.out.blk.cell
        have cM := M10.out.blk.cell
        go_wp2_with fail
        refine (rnum_in G10.out _).mono ?_
        rintro e11 w11 ⟨rfl, ob11, g11, k11, o11⟩
        have G11 := Lib.hid g11
        have L11 := Lib.hid (L10.out.next k11 o11)
        have M11 := Lib.hid (M10.out.next k11 o11)
        have C11 := Lib.hid (chain C10.out.1 C10.out.2 k11 o11)
        clear g11 k11 o11 G10 L10 C10 cO M10 cM
        have cO := L11.out.blk.cell
        have cM := M11.out.blk.cell
        go_wp2_with fail
        refine (rnum_in G11.out _).mono ?_
        rintro e12 w12 ⟨rfl, ob12, g12, k12, o12⟩
        have G12 := Lib.hid g12
        have L12 := Lib.hid (L11.out.next k12 o12)
        have M12 := Lib.hid (M11.out.next k12 o12)
        have C12 := Lib.hid (chain C11.out.1 C11.out.2 k12 o12)
        clear g12 k12 o12 G11 L11 C11 cO M11 cM
        have cO := L12.out.blk.cell
        have cM := M12.out.blk.cell
        go_wp2_with fail
        refine (rnum_in G12.out _).mono ?_
        rintro e13 w13 ⟨rfl, ob13, g13, k13, o13⟩
        have G13 := Lib.hid g13
        have L13 := Lib.hid (L12.out.next k13 o13)
        have M13 := Lib.hid (M12.out.next k13 o13)
        have C13 := Lib.hid (chain C12.out.1 C12.out.2 k13 o13)
        clear g13 k13 o13 G12 L12 C12 cO M12 cM
        have cO := L13.out.blk.cell
        have cM := M13.out.blk.cell
        go_wp2_with fail
        clear cO cM
        go_roundw
        case rel => exact ⟨k + 1, by omega, by go_num, ob13, by have := G13.out; simp only [rput_rput, List.append_assoc] at this; rw [HT.out]; simp only [encSy, encB, List.append_assoc]; exact this.more (by omega), L13.out, C13.out.1, C13.out.2⟩
        case measure => simp [intOf]; omega
      · have hkm : Hid (ss.length ≤ k) := Lib.hid (by rw [← E3.out]; omega)
        have GZ := Lib.hid (show RwIn B W wr pw obj (rput (some (some [])) (([77, 79, 49, 10] ++ (encS pk ++ (le8 hash ++ (encL encIm is ++ le8 m3)))) ++ ss.flatMap encSy)) 0 ((200000000000) + 1000000 * m3) by have := Gk.out; rw [List.take_of_length_le hkm.out] at this; exact this.more (by omega))
        have LZ := Lib.hid Lk.out
        have CZ := Lib.hid Ck.out
        clear Gk Lk Ck hkm
        have cO := LZ.out.blk.cell
        go_wp2_with fail
        refine (rnum_in GZ.out _).mono ?_
        rintro e14 w14 ⟨rfl, ob14, g14, k14, o14⟩
        have G14 := Lib.hid g14
        have L14 := Lib.hid (LZ.out.next k14 o14)
        have C14 := Lib.hid (chain CZ.out.1 CZ.out.2 k14 o14)
        clear g14 k14 o14 GZ LZ CZ cO
        have cO := L14.out.blk.cell
        go_wp2_with fail
        go_loopw [8] (fun i wr => ∃ k : Nat, k ≤ m4 ∧ i = .int .i64 k ∧ ∃ obj, RwIn B W wr pw obj (rput (some (some [])) ((([77, 79, 49, 10] ++ (encS pk ++ (le8 hash ++ (encL encIm is ++ le8 m3)))) ++ ss.flatMap encSy ++ le8 m4) ++ (rs.take k).flatMap encRe)) 0 ((400000000000) + 1000000 * k) ∧ Loc wr pw obj w.heap.size [.string pk, .int .i64 hash, .slice x2 m2 c2, .slice x3 m3 c3, .slice x4 m4 c4, .slice x5 m5 c5, .slice x6 m6 c6] 27 ∧ Kp (fun b => b = pw ∨ some b = none) w2 wr ∧ ∀ k, obj = some k → (none : Option Nat) = some k ∨ w2.heap.size ≤ k) (fun i _ => m4 - (intOf i).toNat)
        case atStart => exact ⟨0, Nat.zero_le _, rfl, ob14, by have := G14.out; simp only [rput_rput, List.append_assoc] at this; simp only [List.take_zero, List.flatMap_nil, List.append_nil, List.append_assoc]; exact this.more (by omega), L14.out, C14.out.1, C14.out.2⟩
        case round =>
          clear cO
          obtain ⟨k, hk0, rfl, obj, g, lo, kk, oo⟩ := hrel
          have Gk := Lib.hid g
          have Lk := Lib.hid lo
          have Ck := Lib.hid (And.intro kk oo)
          clear g lo kk oo
          by_cases hlt : k < m4
          · skip
            have hkl : k < rs.length := by rw [← E4.out]; exact hlt
            have hq0 : (0 : Int) ≤ (k : Int) := by omega
            have hq1 : (k : Int) < (m4 : Int) := by omega
            obtain ⟨b, o, rfl, hb, he⟩ := HR.out (by intro e; rw [e] at hkl; simp at hkl)
            obtain ⟨cs, hcl2, hcc, rfl, _, _⟩ := he k hkl
            have FE := Lib.hid (fun (wz : World) (hz : In B W wz) (j : Nat) (hj : j < 3) => (hz.bel.cell (p := ⟨b, o + k * 3 + j, none⟩) hb).trans (hcc j (by simpa using hj)))
            clear he hcc hcl2
            have HT := Lib.hid (fm_take encRe hkl)
            generalize rs[k]'hkl = y at *
            obtain ⟨dd, at_, nm⟩ := y
            dsimp only at *
            have cO := Lk.out.blk.cell
            have f0 := FE.out _ Gk.out.in 0 (by omega)
            simp only [List.getElem?_cons_zero, List.getElem?_cons_succ, Nat.add_zero] at f0
            go_wp2_with fail
            refine (rbool_in Gk.out _).mono ?_
            rintro e15 w15 ⟨rfl, ob15, g15, k15, o15⟩
            have G15 := Lib.hid g15
            have L15 := Lib.hid (Lk.out.next k15 o15)
            have C15 := Lib.hid (chain Ck.out.1 Ck.out.2 k15 o15)
            clear g15 k15 o15 Gk Lk Ck cO
            have cO := L15.out.blk.cell
            skip
            clear f0
            have f0 := FE.out _ G15.out.in 1 (by omega)
            simp only [List.getElem?_cons_zero, List.getElem?_cons_succ, Nat.add_zero] at f0
            go_wp2_with fail
            refine (rnum_in G15.out _).mono ?_
            rintro e16 w16 ⟨rfl, ob16, g16, k16, o16⟩
            have G16 := Lib.hid g16
            have L16 := Lib.hid (L15.out.next k16 o16)
            have C16 := Lib.hid (chain C15.out.1 C15.out.2 k16 o16)
            clear g16 k16 o16 G15 L15 C15 cO
            have cO := L16.out.blk.cell
            skip
            clear f0
            have f0 := FE.out _ G16.out.in 2 (by omega)
            simp only [List.getElem?_cons_zero, List.getElem?_cons_succ, Nat.add_zero] at f0
            go_wp2_with fail
            refine (rtext_in G16.out _ (by omega)).mono ?_
            rintro e17 w17 ⟨rfl, ob17, g17, k17, o17⟩
            have G17 := Lib.hid g17
            have L17 := Lib.hid (L16.out.next k17 o17)
            have C17 := Lib.hid (chain C16.out.1 C16.out.2 k17 o17)
            clear g17 k17 o17 G16 L16 C16 cO
            have cO := L17.out.blk.cell
            skip
            clear f0
            go_wp2_with fail
            clear cO
            go_roundw
            case rel => exact ⟨k + 1, by omega, by go_num, ob17, by have := G17.out; simp only [rput_rput, List.append_assoc] at this; rw [HT.out]; simp only [encRe, encB, List.append_assoc]; exact this.more (by omega), L17.out, C17.out.1, C17.out.2⟩
            case measure => simp [intOf]; omega
          · have hkm : Hid (rs.length ≤ k) := Lib.hid (by rw [← E4.out]; omega)
            have GZ := Lib.hid (show RwIn B W wr pw obj (rput (some (some [])) ((([77, 79, 49, 10] ++ (encS pk ++ (le8 hash ++ (encL encIm is ++ le8 m3)))) ++ ss.flatMap encSy ++ le8 m4) ++ rs.flatMap encRe)) 0 ((400000000000) + 1000000 * m4) by have := Gk.out; rw [List.take_of_length_le hkm.out] at this; exact this.more (by omega))
            have LZ := Lib.hid Lk.out
            have CZ := Lib.hid Ck.out
            clear Gk Lk Ck hkm
            have cO := LZ.out.blk.cell
            go_wp2_with fail
            refine (rwords_in code _ HCs.out GZ.out).mono ?_
            rintro e18 w18 ⟨rfl, ob18, g18, k18, o18⟩
            have G18 := Lib.hid g18
            have L18 := Lib.hid (LZ.out.next k18 o18)
            have C18 := Lib.hid (chain CZ.out.1 CZ.out.2 k18 o18)
            clear g18 k18 o18 GZ LZ CZ cO
            have cO := L18.out.blk.cell
            go_wp2_with fail
            refine (rwords_in data _ HDs.out G18.out).mono ?_
            rintro e19 w19 ⟨rfl, ob19, g19, k19, o19⟩
            have G19 := Lib.hid g19
            have L19 := Lib.hid (L18.out.next k19 o19)
            have C19 := Lib.hid (chain C18.out.1 C18.out.2 k19 o19)
            clear g19 k19 o19 G18 L18 C18 cO
            have cO := L19.out.blk.cell
            skip
            have GF := Lib.hid (show RwIn B W w19 pw ob19 (rput (some (some [])) (mkO ov)) 0 (600000000000) by have := G19.out; simp only [rput_rput, List.append_assoc] at this; rw [MKO.out]; exact this.more (by have h5 := E5.out; have h6 := E6.out; omega))
            clear cO L19 G19
            obtain ⟨⟨bx, dx, hr, hm⟩, _⟩ := id GF.out
            obtain ⟨ax, cx, hbk, how, hob, hne⟩ := hr
            have q0 := hbk.cell 0
            simp only [List.getElem?_cons_zero] at q0
            have BA := Lib.hid (own_bytesAt how)
            obtain ⟨hdx, hn1, hn2⟩ := hm.2.2 (wput (some []) (mkO ov)) rfl
            have FS := Lib.hid (fin_st (mkO ov) bx (fun x hx => (hn2 x hx).1))
            have HS2 := Lib.hid (rsum_any _ _ _ BA.out)
            clear hbk how hob hne hm hn1 hn2
            generalize bx.length = lx at *
            go_wp2_with fail
            refine HS2.out.mono ?_
            rintro e90 w90 ⟨rfl, rfl⟩
            go_wp2_with fail
            refine (rnum_in GF.out _).mono ?_
            rintro e91 w91 ⟨rfl, ob91, g91, k91, o91⟩
            have C91 := Lib.hid (chain C19.out.1 C19.out.2 k91 o91)
            obtain ⟨⟨by_, dy, hr, hm⟩, _⟩ := g91
            have FULL := Lib.hid (rfull_any _ _ _ _ _ _ hr)
            obtain ⟨ay, cy, hbk, how, hob, hne⟩ := hr
            have r0 := hbk.cell 0
            simp only [List.getElem?_cons_zero] at r0
            obtain ⟨_, hn1, hn2⟩ := hm.2.2 (wput (wput (some []) (mkO ov)) (le8 (fnv bx))) rfl
            rw [FS.out, show mkO ov ++ le8 (fnv (mkO ov)) = objB ov from rfl] at hn1 hn2
            have X := Lib.hid (show Nw w w91 from Kp.trans N2.out C91.out.1 (by
              rintro x hx (e | e)
              · have := HSZ.out; omega
              · cases e))
            have HOB := Lib.hid (show ∀ g, ob91 = some g → w.heap.size ≤ g from fun g hg => by
              rcases C91.out.2 g hg with e | e
              · cases e
              · have := HSZ.out; omega)
            have HOW := Lib.hid how
            have HO2 := Lib.hid hob
            clear k91 o91 hbk how hob hne hm q0
            by_cases hl : (objB ov).length ≤ 262144
            · rw [if_pos hl] at hn2
              obtain ⟨hbe, hbl2⟩ := hn2 _ rfl
              subst hbe
              have HDD := Lib.hid (show decide (262144 < (objB ov).length) = false by simp; omega)
              have HC := Lib.hid (show codeO ov = 0 by unfold codeO; rw [if_pos HV.out, if_pos hl])
              clear hn1 hn2 hl hbl2
              go_wp2_with fail
              refine FULL.out.mono ?_
              rintro e92 w92 ⟨rfl, rfl⟩
              rw [HDD.out]
              go_wp2_with fail
              go_returns
              exact ⟨ay, _, cy, by rw [HC.out]; rfl, X.out, by rw [if_pos HC.out]; exact ⟨rfl, HOW.out, fun g hg => HOB.out g (by rw [← HO2.out]; exact hg)⟩⟩
            · rw [if_neg hl] at hn1
              have HDD := Lib.hid (show decide (262144 < by_.length) = true by simp [hn1 rfl])
              have HC := Lib.hid (show codeO ov = 2 by unfold codeO; rw [if_pos HV.out, if_neg hl])
              clear hn1 hn2 hl
              go_wp2_with fail
              refine FULL.out.mono ?_
              rintro e92 w92 ⟨rfl, rfl⟩
              rw [HDD.out]
              go_wp2_with fail
              go_returns
              exact ⟨none, 0, 0, by rw [HC.out]; rfl, X.out, by rw [if_neg (by rw [HC.out]; decide)]; exact ⟨rfl, ownsNil _ _ _, fun g hg => by cases hg⟩⟩
  · have HC := Lib.hid (codeV_ne hv)
    obtain ⟨cv, hcv⟩ : ∃ n, n = codeV ov := ⟨_, rfl⟩
    rw [← hcv] at hv VA
    have HCV := Lib.hid hcv
    obtain ⟨vn1, vn2, vn3, vn4⟩ := int_ne hv
    clear hcv hv
    go_wp2_with fail
    refine VA.out.mono ?_
    rintro e1 w1 ⟨rfl, k1⟩
    have N1 := Lib.hid (N0.out.trans k1)
    clear k1 cO
    go_wp2_with fail
    go_returns
    exact ⟨none, 0, 0, by rw [HC.out.1, ← HCV.out]; rfl, N1.out, by rw [if_neg HC.out.2]; exact ⟨rfl, ownsNil _ _ _, fun g hg => by cases hg⟩⟩
end Go.Proofs.Ytfdjlicegfgodaa
