/- The statements' helpers: Code, num, Same, Alike, Begins. -/
import Derived.Test.YthlcoocboidnlaaMach13
namespace Go.Proofs.Ythlcoocboidnlaa
open Go.RowKit
set_option linter.unusedSimpArgs false
set_option linter.unusedVariables false

structure In5 where
  op : Int
  a : Int
  b : Int
  c : Int
  n : Int
/-- an instruction's word; 1: it has none -/
def In5.word (i : In5) : Int := if okIns i.op i.a i.b i.c i.n = true then encIns i.op i.a i.b i.c i.n else 1
def In5.cells (i : In5) : List Value := [.int .i64 i.op, .int .i64 i.a, .int .i64 i.b, .int .i64 i.c, .int .i64 i.n]
/-- the row b has these instructions -/
def InsAt (w : World) (b : Nat) (l : List In5) : Prop := ∀ k (h : k < l.length), w.cell? ⟨b, k * 5, none⟩ = some (.int .i64 l[k].op) ∧ w.cell? ⟨b, k * 5 + 1, none⟩ = some (.int .i64 l[k].a) ∧ w.cell? ⟨b, k * 5 + 2, none⟩ = some (.int .i64 l[k].b) ∧ w.cell? ⟨b, k * 5 + 3, none⟩ = some (.int .i64 l[k].c) ∧ w.cell? ⟨b, k * 5 + 4, none⟩ = some (.int .i64 l[k].n)
theorem InsAt.nw {w w' : World} {b : Nat} {l : List In5} (h : InsAt w b l) (k : Nw w w') : InsAt w' b l := fun j hj => by
  obtain ⟨h0, h1, h2, h3, h4⟩ := h j hj
  exact ⟨k.keeps h0, k.keeps h1, k.keeps h2, k.keeps h3, k.keeps h4⟩
def wordsOf (l : List In5) : List Int := l.map In5.word
def CodeP (l : List In5) (w : World) (e : Ending) (w' : World) : Prop :=
  ∃ x c, e = .returned (.slice x l.length c) ∧ w'.ownsRow w.heap.size 2 1 (.slice x l.length c) l.length ((wordsOf l).map (Value.int .i64)) ∧ Nw w w'
theorem take_word {l : List In5} {k : Nat} (h : k < l.length) : (wordsOf (l.take (k + 1))).map (Value.int .i64) = (wordsOf (l.take k)).map (Value.int .i64) ++ [.int .i64 l[k].word] := by
  rw [List.take_succ_eq_append_getElem h]
  simp only [wordsOf, List.map_append, List.map_cons, List.map_nil]
set_option maxRecDepth 100000 in
set_option maxHeartbeats 2000000 in
theorem code_any (w : World) (b : Nat) (l : List In5) (cp : Nat) (h : InsAt w b l) (hl : l.length ≤ 2000) (hcp : l.length ≤ cp) :
    Calls Try.prog 12 #[.slice (some ⟨b, 0, none⟩) l.length cp] w (CodeP l w) := by
  obtain ⟨i0, hi, hz0, hz1, hz2⟩ := info_parts i64info
  obtain ⟨n, hn⟩ : ∃ n, n = l.length := ⟨_, rfl⟩
  have H := Lib.hid h
  have HN := Lib.hid hn
  rw [← hn] at hl hcp ⊢
  have hwn : IntKind.i64.wrap ((n : Nat) : Int) = n := IntWalk.i64_in _ (by omega)
  have hn2 : (n : Int) ≤ 2000 := by omega
  clear h hn
  go_enter Try.func12, Try.ntmps12
  go_wp2_with fail
  go_loopw [3, 4] (fun v i wr => ∃ (k : Nat) (x : Option Addr) (c : Nat), k ≤ n ∧ i = .int .i64 k ∧ v = .slice x k c ∧ wr.ownsRow w.heap.size 2 1 (.slice x k c) k ((wordsOf (l.take k)).map (Value.int .i64)) ∧ Nw w wr) (fun _ i _ => n - (intOf i).toNat)
  case atStart => exact ⟨0, none, 0, Nat.zero_le _, rfl, rfl, ⟨rfl, .inl ⟨rfl, rfl⟩⟩, Nw.refl w⟩
  case round =>
    obtain ⟨k, x, c, hk, rfl, rfl, ho, hw⟩ := hrel
    by_cases hlt : k < n
    · have hkl : k < l.length := by rw [← HN.out]; exact hlt
      have TW := Lib.hid (take_word hkl)
      obtain ⟨g0, g1, g2, g3, g4⟩ := (H.out.nw hw) k hkl
      obtain ⟨op, hop⟩ : ∃ x, x = l[k].op := ⟨_, rfl⟩
      obtain ⟨a, ha⟩ : ∃ x, x = l[k].a := ⟨_, rfl⟩
      obtain ⟨b1, hb1⟩ : ∃ x, x = l[k].b := ⟨_, rfl⟩
      obtain ⟨c1, hc1⟩ : ∃ x, x = l[k].c := ⟨_, rfl⟩
      obtain ⟨n1, hn1⟩ : ∃ x, x = l[k].n := ⟨_, rfl⟩
      have WD := Lib.hid (show l[k].word = if okIns op a b1 c1 n1 = true then encIns op a b1 c1 n1 else 1 by rw [hop, ha, hb1, hc1, hn1]; rfl)
      rw [← hop] at g0
      rw [← ha] at g1
      rw [← hb1] at g2
      rw [← hc1] at g3
      rw [← hn1] at g4
      have OW := Lib.hid ho
      have NW := Lib.hid hw
      have EN := Lib.hid (rEncode_any wr op a b1 c1 n1)
      clear hop ha hb1 hc1 hn1 ho hw
      obtain ⟨y, er, hy, hT, hF⟩ : ∃ y er : Int, (Calls Try.prog 30 #[.agg #[.int .i64 op, .int .i64 a, .int .i64 b1, .int .i64 c1, .int .i64 n1]] wr fun e w' => e = .returned (.tuple #[.int .i64 y, .int .i64 er]) ∧ Nw wr w') ∧ (er = 0 → l[k].word = y) ∧ (¬ er = 0 → l[k].word = 1) := by
        refine ⟨_, _, EN.out, fun h0 => ?_, fun h0 => ?_⟩
        · rw [WD.out]
          cases hh : okIns op a b1 c1 n1 with
          | true => rfl
          | false => rw [hh] at h0; simp at h0
        · rw [WD.out]
          cases hh : okIns op a b1 c1 n1 with
          | true => rw [hh] at h0; simp at h0
          | false => rfl
      have EY := Lib.hid hy
      have HT := Lib.hid hT
      have HF := Lib.hid hF
      clear hy hT hF EN WD
      have hk0 : (0 : Int) ≤ (k : Int) := by omega
      have hk1 : (k : Int) < (n : Int) := by omega
      have hk2 : (k : Int) < 2000 := by omega
      have ARM := Lib.hid (fun (v : Int) (hv : l[k].word = v) (w2 : World) (k2 : Nw wr w2) (x' : Option Addr) (c' : Nat) (w3 : World) (ho : w3.ownsRow w.heap.size 2 1 (.slice x' (k + 1) c') (k + 1) ((wordsOf (l.take k)).map (Value.int .i64) ++ [.int .i64 v])) (hg : (w2.alloc (.cells #[.int .i64 v] 2)).grownBy w3 (Value.slice x k c).ownBlock) =>
        (show w3.ownsRow w.heap.size 2 1 (.slice x' (k + 1) c') (k + 1) ((wordsOf (l.take (k + 1))).map (Value.int .i64)) ∧ Nw w w3 from
          ⟨by rw [TW.out, hv]; exact ho, grown_nw ((NW.out.trans k2).alloc (.cells #[.int .i64 v] 2)) hg (fun g hg => own_block OW.out g hg)⟩))
      have OWF := Lib.hid (fun (v : Int) (w2 : World) (k2 : Nw wr w2) => (show (w2.alloc (.cells #[.int .i64 v] 2)).ownsRow w.heap.size 2 1 (.slice x k c) k ((wordsOf (l.take k)).map (Value.int .i64)) from own_kp OW.out (k2.alloc _) (fun _ _ x => x)))
      have H63 := Lib.hid (show k + 1 ≤ maxLen by unfold maxLen; omega)
      have HBY := Lib.hid (show (k + 1) * 8 ≤ 140737488355328 by omega)
      have HBS := Lib.hid (fun (v : Int) (w2 : World) (k2 : Nw wr w2) => (show w.heap.size ≤ (w2.alloc (.cells #[.int .i64 v] 2)).heap.size from (NW.out.trans (k2.alloc _)).size))
      by_cases h0 : er = 0
      · subst h0
        have AR := Lib.hid (ARM.out y (HT.out rfl))
        clear ARM HT HF TW
        go_wp2_with fail
        refine EY.out.mono ?_
        rintro e2 w2 ⟨rfl, k2⟩
        have K2 := Lib.hid k2
        have OW2 := Lib.hid (OWF.out y w2 k2)
        have HN1 := Lib.hid (cell_one_new w2 (.int .i64 y) 2)
        have HN2 := Lib.hid (show ∀ u ∈ [(.int .i64 y : Value)], u.oneCell' = true from by
          intro u hu
          simp only [List.mem_cons, List.not_mem_nil, or_false] at hu
          subst hu; rfl)
        have HB2 := Lib.hid (HBS.out y w2 k2)
        clear k2
        go_wp2_with (at_builtin; refine wpList_app _ rfl (.tmp 27) (.tmp 29) 22 rfl w.heap.size 2 i0 (.int .i64 0) 1 8 Try.underlying22 hi hz0 hz1 hz2 rfl (by decide) _ _ _ rfl OW2.out ⟨w2.heap.size, 0, none⟩ 1 1 [.int .i64 y] rfl rfl HN1.out HN2.out H63.out HBY.out HB2.out ?_; intro x' c' w3 ho hg hl'; have S3 := Lib.hid (AR.out w2 K2.out x' c' w3 ho hg); clear ho hg hl')
        go_wp2_with fail
        go_roundw
        case rel => exact ⟨k + 1, x', c', by omega, by go_num, rfl, S3.out.1, S3.out.2⟩
        case measure => simp [intOf]; omega
      · obtain ⟨ne1, ne2, ne3, ne4⟩ := int_ne h0
        have AR := Lib.hid (ARM.out 1 (HF.out h0))
        clear ARM HT HF TW h0
        go_wp2_with fail
        refine EY.out.mono ?_
        rintro e2 w2 ⟨rfl, k2⟩
        have K2 := Lib.hid k2
        have OW2 := Lib.hid (OWF.out 1 w2 k2)
        have HN1 := Lib.hid (cell_one_new w2 (.int .i64 1) 2)
        have HN2 := Lib.hid (show ∀ u ∈ [(.int .i64 1 : Value)], u.oneCell' = true from by
          intro u hu
          simp only [List.mem_cons, List.not_mem_nil, or_false] at hu
          subst hu; rfl)
        have HB2 := Lib.hid (HBS.out 1 w2 k2)
        clear k2
        go_wp2_with (at_builtin; refine wpList_app _ rfl (.tmp 27) (.tmp 29) 22 rfl w.heap.size 2 i0 (.int .i64 0) 1 8 Try.underlying22 hi hz0 hz1 hz2 rfl (by decide) _ _ _ rfl OW2.out ⟨w2.heap.size, 0, none⟩ 1 1 [.int .i64 1] rfl rfl HN1.out HN2.out H63.out HBY.out HB2.out ?_; intro x' c' w3 ho hg hl'; have S3 := Lib.hid (AR.out w2 K2.out x' c' w3 ho hg); clear ho hg hl')
        go_wp2_with fail
        go_roundw
        case rel => exact ⟨k + 1, x', c', by omega, by go_num, rfl, S3.out.1, S3.out.2⟩
        case measure => simp [intOf]; omega
    · obtain rfl : k = n := by omega
      have FIN := Lib.hid (show CodeP l w (.returned (.slice x k c)) wr from ⟨x, c, by rw [HN.out], by
        rw [← HN.out]
        rw [HN.out, List.take_length] at ho
        rw [HN.out]
        exact ho, hw⟩)
      clear ho hw
      go_wp2_with fail
      go_returns
      exact FIN.out
theorem num_any (w : World) (n : Int) : Calls Try.prog 14 #[.int .i64 n] w (NumP n w) := by
  go_enter Try.func14, Try.ntmps14
  go_wp2_with fail
  go_returns
  exact ⟨rfl, rfl⟩
end Go.Proofs.Ythlcoocboidnlaa
