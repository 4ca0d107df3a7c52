/- ExportReads: the law's walk. -/
import Derived.Test.YtpopgnengimieaaTake10
namespace Go.Proofs.Ytpopgnengimieaa
open Go.RowKit
set_option linter.unusedSimpArgs false
set_option linter.unusedVariables false

theorem encL_cnt {α : Type} {enc : α → List UInt8} {cnt : α → Nat} (l : List α) (h : ∀ x ∈ l, cnt x ≤ (enc x).length) : ∀ s : Nat, s = (l.map cnt).sum → s + 8 ≤ (encL enc l).length := by
  intro s hs
  unfold encL
  rw [List.length_append, le8_length]
  suffices (l.map cnt).sum ≤ (l.flatMap enc).length by omega
  clear hs s
  induction l with
  | nil => simp
  | cons x r ih =>
    simp only [List.map_cons, List.sum_cons, List.flatMap_cons, List.length_append]
    have h1 := h x (List.mem_cons_self ..)
    have h2 := ih (fun y hy => h y (List.mem_cons_of_mem _ hy))
    omega
theorem cntTys_sum : ∀ l : List Ty, cntTys l = (l.map cntTy).sum
  | [] => by simp [cntTys]
  | x :: r => by simp [cntTys, cntTys_sum r]
theorem cntExs_sum : ∀ l : List Ex, cntExs l = (l.map cntEx).sum
  | [] => by simp [cntExs]
  | x :: r => by simp [cntExs, cntExs_sum r]
theorem cntSts_sum : ∀ l : List St, cntSts l = (l.map cntSt).sum
  | [] => by simp [cntSts]
  | x :: r => by simp [cntSts, cntSts_sum r]
theorem cntFds_sum : ∀ l : List Fd, cntFds l = (l.map fun f => 1 + cntTy f.type).sum
  | [] => by simp [cntFds]
  | x :: r => by simp [cntFds, cntFds_sum r]
theorem cntDes_sum : ∀ l : List De, cntDes l = (l.map cntDe).sum
  | [] => by simp [cntDes]
  | x :: r => by simp [cntDes, cntDes_sum r]
theorem cntFns_sum : ∀ l : List Fn1, cntFns l = (l.map cntFn).sum
  | [] => by simp [cntFns]
  | x :: r => by simp [cntFns, cntFns_sum r]
theorem cntTy_le : ∀ (m : Nat) (x : Ty), OkTy m x → cntTy x ≤ (encTy x).length
  | 0, _, h => h.elim
  | m + 1, .mk k p n la lr, ⟨_, _, _, h4, h5⟩ => by
    have h1 := encL_cnt la (fun x hx => cntTy_le m x (h4.2 x hx)) _ (cntTys_sum la)
    have h2 := encL_cnt lr (fun x hx => cntTy_le m x (h5.2 x hx)) _ (cntTys_sum lr)
    rw [encTy_mk, cntTy]
    simp only [List.length_append, le8_length]
    omega
theorem cntEx_le : ∀ (m : Nat) (x : Ex), OkEx m x → cntEx x ≤ (encEx x).length
  | 0, _, h => h.elim
  | m + 1, .mk k p n la, ⟨_, _, _, h4⟩ => by
    have h1 := encL_cnt la (fun x hx => cntEx_le m x (h4.2 x hx)) _ (cntExs_sum la)
    rw [encEx_mk, cntEx]
    simp only [List.length_append, le8_length]
    omega
theorem cntSt_le : ∀ (m : Nat) (x : St), OkSt m x → cntSt x ≤ (encSt x).length
  | 0, _, h => h.elim
  | m + 1, .mk k p es bs ls, ⟨_, _, h3, h4, h5⟩ => by
    have h1 := encL_cnt es (fun x hx => cntEx_le m x (h3.2 x hx)) _ (cntExs_sum es)
    have h2 := encL_cnt bs (fun x hx => cntSt_le m x (h4.2 x hx)) _ (cntSts_sum bs)
    have h3 := encL_cnt ls (fun x hx => cntSt_le m x (h5.2 x hx)) _ (cntSts_sum ls)
    rw [encSt_mk, cntSt]
    simp only [List.length_append, le8_length]
    omega
theorem cntUn_le {u : Un} (h : OkUn u) : cntUn u ≤ (encB u).length := by
  obtain ⟨pk, is, ds, bs⟩ := u
  obtain ⟨_, h2, h3, h4⟩ := h
  have h1 := encL_cnt (enc := encIm) (cnt := fun _ => 1) is (fun x hx => by unfold encIm; rw [List.length_append, le8_length]; omega) _ rfl
  have h5 : ∀ l : List Im, (l.map fun _ => 1).sum = l.length := by
    intro l
    induction l with
    | nil => rfl
    | cons a r ih => rw [List.map_cons, List.sum_cons, ih, List.length_cons]; omega
  have h6 := encL_cnt (enc := encDe) ds (fun x hx => by
    obtain ⟨_, _, _, _, g5, g6⟩ := h3.2 x hx
    have k1 := cntTy_le 101 _ g5
    have k2 := encL_cnt (enc := encFd) (cnt := fun f => 1 + cntTy f.type) x.fields (fun f hf => by
      have := cntTy_le 101 _ (g6.2 f hf).2
      unfold encFd encS; simp only [List.length_append, le8_length]; omega) _ (cntFds_sum _)
    unfold cntDe encDe
    simp only [List.length_append, le8_length]
    omega) _ (cntDes_sum ds)
  have h7 := encL_cnt (enc := encFn) bs (fun x hx => by
    obtain ⟨_, _, _, g4⟩ := h4.2 x hx
    have k1 := encL_cnt x.body (fun y hy => cntSt_le 101 y (g4.2 y hy)) _ (cntSts_sum x.body)
    unfold cntFn encFn
    simp only [List.length_append, le8_length]
    omega) _ (cntFns_sum bs)
  unfold encB encUn cntUn
  simp only [List.length_append, le8_length]
  rw [h5] at h1
  omega
theorem zero_at (B : Nat) (W : World) : UnAt B W 0 ⟨⟨#[]⟩, [], [], []⟩ [.string ⟨#[]⟩, .slice none 0 0, .slice none 0 0, .slice none 0 0] :=
  ⟨_, _, _, rfl, by unfold Fits; decide, ⟨none, 0, rfl, by simp, fun h => absurd rfl h⟩, ⟨none, 0, rfl, by simp, fun h => absurd rfl h⟩, ⟨none, 0, rfl, by simp, fun h => absurd rfl h⟩⟩
theorem codeU_ok {u : Un} (h : OkUn u) (hl : (encB u).length ≤ 262144) : codeU u = 0 := by
  unfold codeU; rw [if_pos (fitUn_of h), if_pos hl]

set_option maxRecDepth 100000 in
set_option maxHeartbeats 2000000 in
theorem exportReads_walk (w : World) (v : Value) (l : List UInt8) (h : BytesAt w v l) :
    Calls Try.prog 8 #[v] w (BoolPost w true) := by
  have H := Lib.hid h
  have DE := Lib.hid (decode_any w v l h)
  obtain ⟨x, c, rfl, hlc, hm, hcell⟩ := h
  obtain ⟨n, hn⟩ : ∃ n, n = l.length := ⟨_, rfl⟩
  rw [← hn] at hlc H DE ⊢
  have HN := Lib.hid hn
  have hmm : n ≤ 9223372036854775807 := by unfold maxLen at hm; omega
  clear hcell hn
  by_cases hg : 300000 < n
  · have hq : (300000 : Int) < (n : Int) := by omega
    go_enter Try.func8, Try.ntmps8
    go_wp2_with fail
    refine (awake8_any _).mono ?_
    rintro e2 w2 ⟨rfl, k2⟩
    have K2 := Lib.hid k2
    clear k2
    go_wp2_with fail
    go_returns
    exact ⟨rfl, K2.out⟩
  · have hq : ¬ (300000 : Int) < (n : Int) := by omega
    go_enter Try.func8, Try.ntmps8
    go_wp2_with fail
    refine (DE.out).mono ?_
    rintro e1 w1 (⟨u, cs, rfl, hok, hen, hlen, hut, k1⟩ | ⟨rfl, hno, k1⟩)
    · have UA := Lib.hid (at_Un (B := w1.heap.size) (fun b hb => hb.2) hut)
      have CN := Lib.hid (show cntUn u ≤ 300000 by have := cntUn_le hok; rw [hen] at this; omega)
      have C0 := Lib.hid (codeU_ok hok (by rw [hen]; exact hlen))
      have HE := Lib.hid hen
      obtain ⟨vi, vd, vb, rfl, _, hi, hd, hb⟩ := hut
      obtain ⟨x1, m1, c1, rfl⟩ := hi.slice
      obtain ⟨x2, m2, c2, rfl⟩ := hd.slice
      obtain ⟨x3, m3, c3, rfl⟩ := hb.slice
      have K1 := Lib.hid k1
      have EN := Lib.hid (rencode_any 101 u _ (w1.alloc (.cells #[.string u.pkg, .slice x1 m1 c1, .slice x2 m2 c2, .slice x3 m3 c3] 30)) UA.out ((In.self w1).alloc _) CN.out)
      have BX := Lib.hid (Blk.new w1 [.string u.pkg, .slice x1 m1 c1, .slice x2 m2 c2, .slice x3 m3 c3] 30)
      have cB := BX.out.cell
      clear hok hen hlen hi hd hb k1
      go_wp2_with fail
      refine (num8_any _ _).mono ?_
      rintro _ _ ⟨rfl, rfl⟩
      go_wp2_with fail
      refine (EN.out).mono ?_
      rintro e3 w3 ⟨a3, n3, z3, rfl, k3, hb3⟩
      rw [C0.out]
      rw [if_pos C0.out] at hb3
      obtain ⟨s, hs⟩ : ∃ s : ByteArray, s = ⟨l.toArray⟩ := ⟨_, rfl⟩
      have cv1 : (convert 22 9 (.slice x n c)).run Try.prog w3 = .ok (.string s) w3 := by rw [hs]; exact conv_bytes (bytesAt_nw H.out ((K1.out.alloc _).trans k3))
      have cv2 : (convert 22 9 (.slice a3 n3 z3)).run Try.prog w3 = .ok (.string s) w3 := by rw [hs, ← HE.out]; exact conv_bytes hb3.at
      have K3 := Lib.hid ((K1.out.alloc (.cells #[.string u.pkg, .slice x1 m1 c1, .slice x2 m2 c2, .slice x3 m3 c3] 30)).trans k3)
      clear hs hb3 k3 cB EN DE
      go_wp2_with fail
      refine (awake8_any _).mono ?_
      rintro e4 w4 ⟨rfl, k4⟩
      have K4 := Lib.hid (K3.out.trans k4)
      clear k4 cv1 cv2
      go_wp2_with fail
      go_returns
      exact ⟨rfl, K4.out⟩
    · have K1 := Lib.hid k1
      have SU := Lib.hid (sameUnit_any _ _ _ _ (w1.alloc (.cells #[.string ⟨#[]⟩, .slice none 0 0, .slice none 0 0, .slice none 0 0] 30)) (zero_at w1.heap.size w1) (zero_at w1.heap.size w1) ((In.self w1).alloc _))
      have D := Lib.hid (dc_true (rfl : (⟨⟨#[]⟩, [], [], []⟩ : Un) = ⟨⟨#[]⟩, [], [], []⟩))
      have BX := Lib.hid (Blk.new w1 [.string ⟨#[]⟩, .slice none 0 0, .slice none 0 0, .slice none 0 0] 30)
      have cB := BX.out.cell
      clear hno k1 DE
      go_wp2_with fail
      refine (num8_any _ _).mono ?_
      rintro _ _ ⟨rfl, rfl⟩
      go_wp2_with fail
      refine (num8_any _ _).mono ?_
      rintro _ _ ⟨rfl, rfl⟩
      go_wp2_with fail
      refine (SU.out).mono ?_
      rintro e3 w3 ⟨rfl, k3⟩
      rw [D.out]
      have K3 := Lib.hid ((K1.out.alloc (.cells #[.string ⟨#[]⟩, .slice none 0 0, .slice none 0 0, .slice none 0 0] 30)).trans k3)
      clear k3 cB
      go_wp2_with fail
      refine (awake8_any _).mono ?_
      rintro e4 w4 ⟨rfl, k4⟩
      have K4 := Lib.hid (K3.out.trans k4)
      clear k4
      go_wp2_with fail
      go_returns
      exact ⟨rfl, K4.out⟩
end Go.Proofs.Ytpopgnengimieaa
