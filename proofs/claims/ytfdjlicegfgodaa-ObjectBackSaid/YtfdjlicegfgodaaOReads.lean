/- ObjectReads: the law's walk. -/
import Derived.Test.YtfdjlicegfgodaaSO
namespace Go.Proofs.Ytfdjlicegfgodaa
open Go.RowKit
set_option linter.unusedSimpArgs false
set_option linter.unusedVariables false

theorem fm_len16 {α : Type} (f : α → List UInt8) : ∀ (l : List α), (∀ x ∈ l, 16 ≤ (f x).length) → 16 * l.length ≤ (l.flatMap f).length
  | [], _ => by simp
  | a :: r, h => by
    have h1 := h a (by simp)
    have h2 := fm_len16 f r (fun x hx => h x (List.mem_cons_of_mem _ hx))
    rw [List.flatMap_cons, List.length_append, List.length_cons]
    omega
theorem few_of {u : Ob} (h : (objB u).length ≤ 262144) : u.imports.length ≤ 100000 ∧ u.syms.length ≤ 100000 ∧ u.relocs.length ≤ 100000 := by
  have h1 := objB_length u
  have a1 := fm_len16 encIm u.imports (fun x _ => by unfold encIm encS; simp only [List.length_append, le8_length]; omega)
  have a2 := fm_len16 encSy u.syms (fun x _ => by unfold encSy encS; simp only [List.length_append, le8_length]; omega)
  have a3 := fm_len16 encRe u.relocs (fun x _ => by unfold encRe encS; simp only [List.length_append, le8_length, encB_length]; omega)
  have h2 : (u.imports.flatMap encIm).length ≤ (encO u).length := by unfold encO encL; simp only [List.length_append]; omega
  have h3 : (u.syms.flatMap encSy).length ≤ (encO u).length := by unfold encO encL; simp only [List.length_append]; omega
  have h4 : (u.relocs.flatMap encRe).length ≤ (encO u).length := by unfold encO encL; simp only [List.length_append]; omega
  omega
def obZ : Ob := ⟨⟨#[]⟩, 0, [], [], [], [], []⟩
theorem zero_at (B : Nat) (W : World) : ObAt B W obZ [.string ⟨#[]⟩, .int .i64 0, .slice none 0 0, .slice none 0 0, .slice none 0 0, .slice none 0 0, .slice none 0 0] :=
  ⟨_, _, _, _, _, rfl, (by unfold Fits obZ; decide), (by unfold I64 obZ; decide), SlB.nil _ _ _ _, SlB.nil _ _ _ _, SlB.nil _ _ _ _, SlB.nil _ _ _ _, SlB.nil _ _ _ _⟩
theorem codeO_ok {u : Ob} (h : codeV u = 0) (hl : (objB u).length ≤ 262144) : codeO u = 0 := by
  unfold codeO; rw [if_pos h, if_pos hl]
set_option maxRecDepth 100000 in
set_option maxHeartbeats 2000000 in
theorem objectReads_walk (w : World) (v : Value) (l : List UInt8) (h : BytesAt w v l) :
    Calls Try.prog 5 #[v] w (BoolPost w true) := by
  have H := Lib.hid h
  have DE := Lib.hid (decode_any w v l h)
  obtain ⟨x, c, rfl, hlc, hm, hcell⟩ := h
  obtain ⟨n, hn⟩ : ∃ n, n = l.length := ⟨_, rfl⟩
  rw [← hn] at hlc H DE ⊢
  have HN := Lib.hid hn
  have hmm : n ≤ 9223372036854775807 := by unfold maxLen at hm; omega
  clear hcell hn
  by_cases hg : 300000 < n
  · have hq : (300000 : Int) < (n : Int) := by omega
    go_enter Try.func5, Try.ntmps5
    go_wp2_with fail
    refine (awake28_any _).mono ?_
    rintro e2 w2 ⟨rfl, k2⟩
    have K2 := Lib.hid k2
    clear k2
    go_wp2_with fail
    go_returns
    exact ⟨rfl, K2.out⟩
  · have hq : ¬ (300000 : Int) < (n : Int) := by omega
    go_enter Try.func5, Try.ntmps5
    go_wp2_with fail
    refine (DE.out).mono ?_
    rintro e1 w1 (⟨u, cs, rfl, hok, hcv, hen, hlen, hut, k1⟩ | ⟨rfl, hno, k1⟩)
    · have UA := Lib.hid (at_Ob (B := w1.heap.size) (fun b hb => hb.2) hut)
      have CN := Lib.hid (few_of (u := u) (by rw [hen]; exact hlen))
      have C0 := Lib.hid (codeO_ok hcv (by rw [hen]; exact hlen))
      have HE := Lib.hid hen
      obtain ⟨vi, vs, vr, vc, vd, rfl, _, _, g2, g3, g4, g5, g6⟩ := hut
      obtain ⟨x2, m2, c2, rfl⟩ := SlT.slice g2
      obtain ⟨x3, m3, c3, rfl⟩ := SlT.slice g3
      obtain ⟨x4, m4, c4, rfl⟩ := SlT.slice g4
      obtain ⟨x5, m5, c5, rfl⟩ := SlT.slice g5
      obtain ⟨x6, m6, c6, rfl⟩ := SlT.slice g6
      have K1 := Lib.hid k1
      have EN := Lib.hid (r28encode_any (w := w1.alloc (.cells #[.string u.pkg, .int .i64 u.hash, .slice x2 m2 c2, .slice x3 m3 c3, .slice x4 m4 c4, .slice x5 m5 c5, .slice x6 m6 c6] 27)) u _ UA.out ((In.self w1).alloc _) CN.out.1 CN.out.2.1 CN.out.2.2)
      have BX := Lib.hid (Blk.new w1 [.string u.pkg, .int .i64 u.hash, .slice x2 m2 c2, .slice x3 m3 c3, .slice x4 m4 c4, .slice x5 m5 c5, .slice x6 m6 c6] 27)
      have cB := BX.out.cell
      clear hok hcv hen hlen g2 g3 g4 g5 g6 k1
      go_wp2_with fail
      refine (num28_any _ _).mono ?_
      rintro _ _ ⟨rfl, rfl⟩
      go_wp2_with fail
      refine (EN.out).mono ?_
      rintro e3 w3 ⟨a3, n3, z3, rfl, k3, hb3⟩
      rw [C0.out]
      rw [if_pos C0.out] at hb3
      obtain ⟨s, hs⟩ : ∃ s : ByteArray, s = ⟨l.toArray⟩ := ⟨_, rfl⟩
      have cv1 : (convert 34 9 (.slice x n c)).run Try.prog w3 = .ok (.string s) w3 := by rw [hs]; exact conv_bytes (bytesAt_nw H.out ((K1.out.alloc _).trans k3))
      have cv2 : (convert 34 9 (.slice a3 n3 z3)).run Try.prog w3 = .ok (.string s) w3 := by rw [hs, ← HE.out]; exact conv_bytes hb3.at
      have K3 := Lib.hid ((K1.out.alloc (.cells #[.string u.pkg, .int .i64 u.hash, .slice x2 m2 c2, .slice x3 m3 c3, .slice x4 m4 c4, .slice x5 m5 c5, .slice x6 m6 c6] 27)).trans k3)
      clear hs hb3 k3 cB EN DE
      go_wp2_with fail
      refine (awake28_any _).mono ?_
      rintro e4 w4 ⟨rfl, k4⟩
      have K4 := Lib.hid (K3.out.trans k4)
      clear k4 cv1 cv2
      go_wp2_with fail
      go_returns
      exact ⟨rfl, K4.out⟩
    · have K1 := Lib.hid k1
      have SU := Lib.hid (same28 (w := w1.alloc (.cells #[.string ⟨#[]⟩, .int .i64 0, .slice none 0 0, .slice none 0 0, .slice none 0 0, .slice none 0 0, .slice none 0 0] 27)) _ _ _ _ (zero_at w1.heap.size w1) (zero_at w1.heap.size w1) ((In.self w1).alloc _))
      have D := Lib.hid (dc_true (rfl : obZ = obZ))
      have BX := Lib.hid (Blk.new w1 [.string ⟨#[]⟩, .int .i64 0, .slice none 0 0, .slice none 0 0, .slice none 0 0, .slice none 0 0, .slice none 0 0] 27)
      have cB := BX.out.cell
      clear hno k1 DE
      go_wp2_with fail
      refine (num28_any _ _).mono ?_
      rintro _ _ ⟨rfl, rfl⟩
      go_wp2_with fail
      refine (num28_any _ _).mono ?_
      rintro _ _ ⟨rfl, rfl⟩
      go_wp2_with fail
      refine (SU.out).mono ?_
      rintro e3 w3 ⟨rfl, k3⟩
      rw [D.out]
      have K3 := Lib.hid ((K1.out.alloc (.cells #[.string ⟨#[]⟩, .int .i64 0, .slice none 0 0, .slice none 0 0, .slice none 0 0, .slice none 0 0, .slice none 0 0] 27)).trans k3)
      clear k3 cB
      go_wp2_with fail
      refine (awake28_any _).mono ?_
      rintro e4 w4 ⟨rfl, k4⟩
      have K4 := Lib.hid (K3.out.trans k4)
      clear k4
      go_wp2_with fail
      go_returns
      exact ⟨rfl, K4.out⟩
end Go.Proofs.Ytfdjlicegfgodaa
