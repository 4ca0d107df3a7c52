/- The document's writer: numbers, texts, truths, one deeper. -/
import Derived.Test.YtfdjlicegfgodaaRW
namespace Go.Proofs.Ytfdjlicegfgodaa
open Go.RowKit

set_option maxRecDepth 100000 in
theorem rnum_in {B : Nat} {W w : World} {p : Nat} {ob : Option Nat} {x : Option (Option (List UInt8))} {a : Int} {L : Nat} (h : RwIn B W w p ob x a L) (n : Int) :
    Calls Try.prog 38 #[.pointer (some ⟨p, 0, none⟩), .int .i64 n] w (ROut B W w p ob (rput x (le8 n)) a (L + 8)) := by
  obtain ⟨⟨bs, deep, hr, hm⟩, _⟩ := id h
  by_cases hl : bs.length ≤ 262144
  · refine (rnum_raw w p ob bs deep a n hr hl).mono ?_
    rintro e w' ⟨rfl, ob', hr', k, o⟩
    exact ROut.mk h hr' (hm.put hl) k o
  · have FULL := Lib.hid (rfull_any w p ob bs deep a hr)
    have FIN := Lib.hid (show ROut B W w p ob (rput x (le8 n)) a (L + 8) (.returned (.tuple #[])) w from
      ROut.mk h hr ⟨Nat.le_trans hm.1 (by omega), (hm.full (s := le8 n) (by omega)).2⟩ (Kp.refl _ w) (fun k hk => .inl hk))
    have HD := Lib.hid (show decide (262144 < bs.length) = true by simp; omega)
    clear h hr hm hl
    go_enter Try.func38, Try.ntmps38
    go_wp2_with fail
    refine FULL.out.mono ?_
    rintro e1 w1 ⟨rfl, rfl⟩
    rw [HD.out]
    go_wp2_with fail
    go_returns
    exact FIN.out
theorem rbool_in {B : Nat} {W w : World} {p : Nat} {ob : Option Nat} {x : Option (Option (List UInt8))} {a : Int} {L : Nat} (h : RwIn B W w p ob x a L) (b : Bool) :
    Calls Try.prog 40 #[.pointer (some ⟨p, 0, none⟩), .bool b] w (ROut B W w p ob (rput x (le8 (if b = true then 1 else 0))) a (L + 8)) := by
  have G := Lib.hid h
  clear h
  cases b
  all_goals
    (go_enter Try.func40, Try.ntmps40
     go_wp2_with fail
     refine (rnum_in G.out _).mono ?_
     intro e2 w2 h2
     have X := Lib.hid h2
     obtain ⟨rfl, _⟩ := h2
     go_wp2_with fail
     go_returns
     exact X.out)
theorem bytes_of_string (s : ByteArray) : Lib.strCells s = byteV s.data.toList := rfl
theorem zeros_bytes (k : Nat) : List.replicate k (Value.int .u8 0) = byteV (List.replicate k 0) := by simp [byteV]

set_option maxRecDepth 100000 in
set_option maxHeartbeats 400000 in
theorem rtext_big {B : Nat} {W w : World} {p : Nat} {ob : Option Nat} {x : Option (Option (List UInt8))} {a : Int} {L : Nat} (h : RwIn B W w p ob x a L) (s : ByteArray) (hL : L ≤ 1000000000000) (hs : 262144 < s.size) :
    Calls Try.prog 37 #[.pointer (some ⟨p, 0, none⟩), .string s] w (ROut B W w p ob (rput x (encS s)) a (L + 300000)) := by
  obtain ⟨i0, hi, hz0, hz1, hz2⟩ := info_parts u8info
  have G := Lib.hid h
  have HL := Lib.hid hL
  have HS := Lib.hid hs
  clear h hL
  go_enter Try.func37, Try.ntmps37
  go_wp2_with fail
  refine (rnum_in G.out _).mono ?_
  rintro e1 w1 ⟨rfl, ob1, g1, k1, o1⟩
  have K1 := Lib.hid k1
  have O1 := Lib.hid o1
  have G1 := Lib.hid g1
  clear k1 o1 g1
  obtain ⟨⟨bs, deep, hr, hm⟩, _⟩ := G1.out
  have hlen := hm.1
  have HM := Lib.hid hm
  obtain ⟨y, c, hblk, how, hv, hne⟩ := hr
  have HRW := Lib.hid (show RwRaw w1 p ob1 bs deep a from ⟨y, c, hblk, how, hv, hne⟩)
  have c0 := hblk.cell 0
  simp only [List.getElem?_cons_zero] at c0
  have hlen2 : bs.length + 262145 ≤ 140737488355328 := by have := HL.out; omega
  obtain ⟨x', c', w2, hrun, ho', hg', hl'⟩ := run_app_zeros (P := Try.prog) w1 34 3 34 5 i0 .i64 .i64 Try.underlying34 Try.underlying3 hi hz0 hz1 hz2 _ _ _ how 262145 (by decide) hlen2
  rw [zeros_bytes] at ho'
  have hzl : (List.replicate 262145 (0 : UInt8)).length = 262145 := List.length_replicate
  obtain ⟨y0, y1, ob2, r2, k2, o2⟩ := RwRaw.grow (n := bs.length + 262145) (ys := List.replicate 262145 0) (by rw [hzl]) hblk hv hne ho' hg' hl'
  have X := Lib.hid (show ROut B W w p ob (rput x (encS s)) a (L + 300000) (.returned (.tuple #[])) (w2.setCell ⟨p, 0, none⟩ (.slice x' (bs.length + 262145) c')) by
    refine ROut.trans K1.out O1.out (ROut.mk G1.out r2 ?_ k2 o2)
    have hz := HM.out.zeros (s := s.data.toList) (z := List.replicate 262145 0) (by rw [← size_eq]; exact HS.out) (by rw [hzl]; decide)
    rw [rput_rput] at hz
    exact ⟨Nat.le_trans hz.1 (by rw [hzl]; omega), hz.2⟩)
  have HR := Lib.hid hrun
  obtain ⟨nn, hnn⟩ : ∃ nn, nn = bs.length := ⟨_, rfl⟩
  rw [← hnn] at HR c0 y0 X
  have hnb : (nn : Int) ≤ 2000000000000 := by have := HL.out; omega
  clear hblk how hv hne hm hlen hlen2 hrun ho' hg' hl' hzl r2 k2 o2 hnn
  go_wp2_with (at_builtin; refine Lib.wpList_append_run _ rfl (.tmp 15) (.const (.int .i64 262145)) 34 3 rfl _ _ rfl rfl _ _ HR.out ?_)
  go_returns
  exact X.out

set_option maxRecDepth 100000 in
set_option maxHeartbeats 400000 in
theorem rtext_small {B : Nat} {W w : World} {p : Nat} {ob : Option Nat} {x : Option (Option (List UInt8))} {a : Int} {L : Nat} (h : RwIn B W w p ob x a L) (s : ByteArray) (hs : s.size ≤ 262144) :
    Calls Try.prog 37 #[.pointer (some ⟨p, 0, none⟩), .string s] w (ROut B W w p ob (rput x (encS s)) a (L + 300000)) := by
  obtain ⟨i0, hi, hz0, hz1, hz2⟩ := info_parts u8info
  have G := Lib.hid h
  have HS := Lib.hid hs
  clear h
  go_enter Try.func37, Try.ntmps37
  go_wp2_with fail
  refine (rnum_in G.out _).mono ?_
  rintro e1 w1 ⟨rfl, ob1, g1, k1, o1⟩
  have K1 := Lib.hid k1
  have O1 := Lib.hid o1
  have G1 := Lib.hid g1
  clear k1 o1 g1
  obtain ⟨⟨bs, deep, hr, hm⟩, _⟩ := G1.out
  have HM := Lib.hid hm
  have FULL := Lib.hid (rfull_any w1 p ob1 bs deep a hr)
  by_cases hf : 262144 < bs.length
  · have HD := Lib.hid (show decide (262144 < bs.length) = true by simp [hf])
    have X := Lib.hid (show ROut B W w p ob (rput x (encS s)) a (L + 300000) (.returned (.tuple #[])) w1 by
      refine ROut.trans K1.out O1.out (ROut.mk G1.out hr ?_ (Kp.refl _ w1) (fun k hk => .inl hk))
      have hz := HM.out.full (s := s.data.toList) hf
      rw [rput_rput] at hz
      exact ⟨Nat.le_trans hz.1 (by omega), hz.2⟩)
    clear hr hm hf
    go_wp2_with fail
    refine FULL.out.mono ?_
    rintro e2 w2 ⟨rfl, rfl⟩
    rw [HD.out]
    go_wp2_with fail
    go_returns
    exact X.out
  · have HD := Lib.hid (show decide (262144 < bs.length) = false by simp; omega)
    obtain ⟨y, c, hblk, how, hv, hne⟩ := hr
    have c0 := hblk.cell 0
    simp only [List.getElem?_cons_zero] at c0
    have HOW := Lib.hid how
    have FIN := Lib.hid (show ∀ (x' : Option Addr) (c' : Nat) (w' : World), w'.ownsRow 0 5 1 (.slice x' (bs.length + s.size) c') (bs.length + s.size) (byteV bs ++ Lib.strCells s) → w1.grownBy w' (Value.slice y bs.length c).ownBlock →
        ((Value.slice x' (bs.length + s.size) c').ownBlock = (Value.slice y bs.length c).ownBlock ∨ (Value.slice x' (bs.length + s.size) c').ownBlock = some w1.heap.size) →
        w'.cell? ⟨p, 0, none⟩ = some (.slice y bs.length c) ∧ w'.frozen? ⟨p, 0, none⟩ = false ∧ ROut B W w p ob (rput x (encS s)) a (L + 300000) (.returned (.tuple #[])) (w'.setCell ⟨p, 0, none⟩ (.slice x' (bs.length + s.size) c')) by
      intro x' c' w' ho' hg' hl'
      obtain ⟨y0, y1, ob2, r2, k2, o2⟩ := RwRaw.grow (n := bs.length + s.size) (ys := s.data.toList) (by rw [size_eq]) hblk hv hne ho' hg' hl'
      refine ⟨y0, y1, ROut.trans K1.out O1.out (ROut.mk G1.out r2 ?_ k2 o2)⟩
      have hz := HM.out.put (s := s.data.toList) (by omega)
      rw [rput_rput] at hz
      exact ⟨Nat.le_trans hz.1 (by have := HS.out; rw [← size_eq]; omega), hz.2⟩)
    have H63 := Lib.hid (show bs.length + s.size ≤ maxLen by unfold maxLen; omega)
    have HBY := Lib.hid (show bs.length + s.size ≤ 140737488355328 by omega)
    obtain ⟨nn, hnn⟩ : ∃ nn, nn = bs.length := ⟨_, rfl⟩
    rw [← hnn] at c0 HOW FIN H63 HBY FULL HD
    clear hblk how hv hne hm hf hnn
    go_wp2_with fail
    refine FULL.out.mono ?_
    rintro e2 w2 ⟨rfl, rfl⟩
    rw [HD.out]
    go_wp2_with (at_builtin; refine wpList_app_string _ rfl (.tmp 26) (.tmp 27) 34 9 rfl 0 5 i0 Try.underlying34 Try.underlying9 hi hz0 hz1 hz2 _ _ _ rfl HOW.out s rfl H63.out HBY.out (Nat.zero_le _) ?_; intro a' c' w' ho' hg hl'; obtain ⟨x0, x1, x2⟩ := FIN.out a' c' w' ho' hg hl'; have X2 := Lib.hid x2; clear x2 ho' hg hl')
    go_wp2_with fail
    go_returns
    exact X2.out
theorem rtext_in {B : Nat} {W w : World} {p : Nat} {ob : Option Nat} {x : Option (Option (List UInt8))} {a : Int} {L : Nat} (h : RwIn B W w p ob x a L) (s : ByteArray) (hL : L ≤ 1000000000000) :
    Calls Try.prog 37 #[.pointer (some ⟨p, 0, none⟩), .string s] w (ROut B W w p ob (rput x (encS s)) a (L + 300000)) := by
  by_cases hs : s.size ≤ 262144
  · exact rtext_small h s hs
  · exact rtext_big h s hL (by omega)

end Go.Proofs.Ytfdjlicegfgodaa
