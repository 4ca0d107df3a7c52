/- Reading a unit's bytes: types, expressions, statements. -/
import Derived.Test.YtpopgnengimieaaTake5
import Derived.Deep.RegionHeld3
import Derived.Deep.DeepCutAuto
namespace Go.Proofs.Ytpopgnengimieaa
open Go.RowKit
set_option linter.unusedSimpArgs false
set_option linter.unusedVariables false
set_option maxRecDepth 100000 in
set_option maxHeartbeats 4000000 in
theorem rtyp_in {B : Nat} {W w : World} {q : Nat} {r : List UInt8} {k : Int} {m : Nat} (one : ∀ (w : World) (r : List UInt8), RdAt B W w q r k → Calls Try.prog 66 #[.pointer (some ⟨q, 0, none⟩)] w (Rp B W q r k (OkTy m) encTy (VT (fun T w => TyT T w m)) w)) {bx : Nat} (hbx : bx ≠ q) (hb : w.cell? ⟨bx, 0, none⟩ = some (.pointer (some ⟨q, 0, none⟩))) (h : RdAt B W w q r k) :
    Calls Try.prog 91 #[.pointer (some ⟨bx, 0, none⟩)] w (Rp B W q r k (OkTy (m + 1)) encTy (VT (fun T w => TyT T w (m + 1))) w) := by
  have hq := h.lt
  have hB := h.2.1
  have G := Lib.hid h
  have hbl : bx < w.heap.size := World.block_lt_of_cell? w _ hb
  have BX := Lib.hid hb
  have ONE := Lib.hid one
  clear hb h one
  go_enter Try.func91, Try.ntmps91
  go_upto_region 1 with fail
  have RA := G.out.alloc (.cells #[.int .i64 0, .string ⟨#[]⟩, .string ⟨#[]⟩, .slice none 0 0, .slice none 0 0] 41)
  have KA := Lib.hid ((Kp.refl (fun b => b = q) w).alloc (.cells #[.int .i64 0, .string ⟨#[]⟩, .string ⟨#[]⟩, .slice none 0 0, .slice none 0 0] 41))
  have BA := Lib.hid (Blk.new w [.int .i64 0, .string ⟨#[]⟩, .string ⟨#[]⟩, .slice none 0 0, .slice none 0 0] 41)
  have cA := (Nw.new w (.cells #[.int .i64 0, .string ⟨#[]⟩, .string ⟨#[]⟩, .slice none 0 0, .slice none 0 0] 41)).keeps BX.out
  have sA : w.heap.size + 1 ≤ (w.alloc (.cells #[.int .i64 0, .string ⟨#[]⟩, .string ⟨#[]⟩, .slice none 0 0, .slice none 0 0] 41)).heap.size := by simp
  generalize w.alloc (.cells #[.int .i64 0, .string ⟨#[]⟩, .string ⟨#[]⟩, .slice none 0 0, .slice none 0 0] 41) = wA at *
  go_cut [2] (fun s2 wx => ∃ (g : Nat) (a0 : Int) (a1 a2 : ByteArray) (r0 r1 r2 : List UInt8), s2 = .pointer (some ⟨g, 0, none⟩) ∧ w.heap.size + 1 ≤ g ∧ g + 1 ≤ wx.heap.size ∧ I64 a0 ∧ Fits a1 ∧ Fits a2 ∧ r = le8 a0 ++ r0 ∧ r0 = encS a1 ++ r1 ∧ r1 = encS a2 ++ r2 ∧ RdAt B W wx q r2 k ∧ Kp (fun b => b = q) w wx ∧
    Blk wx g [.int .i64 a0, .string a1, .string a2, .slice none 0 0, .slice none 0 0] 41 ∧ Blk wx w.heap.size [.int .i64 0, .string ⟨#[]⟩, .string ⟨#[]⟩, .slice none 0 0, .slice none 0 0] 41)
  case first =>
    refine wp_region_held_drew (S := fun wz => wz.cell? ⟨bx, 0, none⟩ = some (.pointer (some ⟨q, 0, none⟩))) (by kernel_rfl) cA (fun hHeld => ?_)
    have R := RA.nw (Nw.drew (Nw.refl wA))
    have KW := Lib.hid (Kp.drew KA.out)
    have BR := Lib.hid (Blk.drew BA.out)
    have cb : wA.drew.cell? ⟨bx, 0, none⟩ = some (.pointer (some ⟨q, 0, none⟩)) := cA
    have sz : w.heap.size + 1 ≤ wA.drew.heap.size := sA
    clear RA KA BA cA sA
    generalize wA.drew = wB at *
    refine wpAnyH_take (i := 0) (v := (.pointer (some ⟨q, 0, none⟩))) rfl (by kernel_rfl) (by kernel_rfl) (by kernel_rfl) (fun _ _ _ h => h) (Or.inl ⟨by rfl, ?_⟩) (by assumption) ?_
    · intro wq hSw
      go_simp
    try simp only [Act.put, List.setIfInBounds_toArray, List.set_cons_zero, List.set_cons_succ]
    refine wpAnyH_take (i := 2) (v := (.pointer (some ⟨q, 0, none⟩))) rfl (by kernel_rfl) (by kernel_rfl) (by kernel_rfl) (fun _ _ _ h => h) (Or.inl ⟨by rfl, ?_⟩) (by assumption) ?_
    · intro wq hSw
      go_simp
    try simp only [Act.put, List.setIfInBounds_toArray, List.set_cons_zero, List.set_cons_succ]
    refine wpAnyH_take (i := 4) (v := (.pointer (some ⟨q, 0, none⟩))) rfl (by kernel_rfl) (by kernel_rfl) (by kernel_rfl) (fun _ _ _ h => h) (Or.inl ⟨by rfl, ?_⟩) (by assumption) ?_
    · intro wq hSw
      go_simp
    try simp only [Act.put, List.setIfInBounds_toArray, List.set_cons_zero, List.set_cons_succ]
    refine wpAnyH_ready (rs := [1, 7]) (by kernel_rfl) (by simp) ?_
    refine AllReadyH.cons rfl (fun K hK => ?_) ?_
    · rw [if_pos (by rfl)]
      go_simp
      refine (rnum (r := r) (k := k) (B := B) (W := W) (q := q) R).mono ?_
      rintro e0 w0 (⟨a0, r0, _, rfl, hx0, hr0, rfl, hrd0, hk0⟩ | ⟨rfl, hno, hk0⟩)
      rotate_left
      · have NO := Lib.hid (show No (OkTy (m + 1)) encTy r by
            intro z s hz e
            obtain ⟨c0, c1, c2, c3, c4⟩ := z
            obtain ⟨g0, g1, g2, g3, g4⟩ := hz
            simp only [encTy_mk, List.append_assoc] at e
            exact hno _ _ g0 e)
        have KF := KW.out.thn hk0
        unfold PAN
        exact ⟨rfl, .inr ⟨rfl, NO.out, KF⟩⟩
      · have R' := hrd0
        have KW' := Lib.hid (KW.out.thn hk0)
        have BR' := Lib.hid (Blk.kp BR.out hk0 (fun e => by omega))
        have cb' := Kp.keeps hk0 (p := ⟨bx, 0, none⟩) cb hbx
        have s0 := Nat.le_trans sz hk0.size
        have X0 := Lib.hid hx0
        have HR0 := Lib.hid hr0
        clear R KW BR cb hHeld hrd0 hk0 hx0 hr0
        have R := R'
        clear R'
        have KW := KW'
        clear KW'
        have BR := BR'
        clear BR'
        have cb := cb'
        clear cb'
        have sz := s0
        show K _ _
        refine hK.out _ _ (by assumption) (fun hHeld => ?_)
        clear hK K
        try simp only [Act.put, List.setIfInBounds_toArray, List.set_cons_zero, List.set_cons_succ]
        refine wpAnyH_ready (rs := [3, 7]) (by kernel_rfl) (by simp) ?_
        refine AllReadyH.cons rfl (fun K hK => ?_) ?_
        · rw [if_pos (by rfl)]
          go_simp
          refine (rtext (r := r0) (k := k) (B := B) (W := W) (q := q) R).mono ?_
          rintro e1 w1 (⟨a1, r1, _, rfl, hx1, hr1, rfl, hrd1, hk1⟩ | ⟨rfl, hno, hk1⟩)
          rotate_left
          · have NO := Lib.hid (show No (OkTy (m + 1)) encTy r by
                intro z s hz e
                obtain ⟨c0, c1, c2, c3, c4⟩ := z
                obtain ⟨g0, g1, g2, g3, g4⟩ := hz
                simp only [encTy_mk, List.append_assoc] at e
                rw [HR0.out] at e
                obtain ⟨_, e⟩ := le8_pi X0.out g0 e
                exact hno _ _ g1 e)
            have KF := KW.out.thn hk1
            unfold PAN
            exact ⟨rfl, .inr ⟨rfl, NO.out, KF⟩⟩
          · have R' := hrd1
            have KW' := Lib.hid (KW.out.thn hk1)
            have BR' := Lib.hid (Blk.kp BR.out hk1 (fun e => by omega))
            have cb' := Kp.keeps hk1 (p := ⟨bx, 0, none⟩) cb hbx
            have s1 := Nat.le_trans sz hk1.size
            have X1 := Lib.hid hx1
            have HR1 := Lib.hid hr1
            clear R KW BR cb hHeld hrd1 hk1 hx1 hr1
            have R := R'
            clear R'
            have KW := KW'
            clear KW'
            have BR := BR'
            clear BR'
            have cb := cb'
            clear cb'
            have sz := s1
            show K _ _
            refine hK.out _ _ (by assumption) (fun hHeld => ?_)
            clear hK K
            try simp only [Act.put, List.setIfInBounds_toArray, List.set_cons_zero, List.set_cons_succ]
            refine wpAnyH_ready (rs := [5, 7]) (by kernel_rfl) (by simp) ?_
            refine AllReadyH.cons rfl (fun K hK => ?_) ?_
            · rw [if_pos (by rfl)]
              go_simp
              refine (rtext (r := r1) (k := k) (B := B) (W := W) (q := q) R).mono ?_
              rintro e2 w2 (⟨a2, r2, _, rfl, hx2, hr2, rfl, hrd2, hk2⟩ | ⟨rfl, hno, hk2⟩)
              rotate_left
              · have NO := Lib.hid (show No (OkTy (m + 1)) encTy r by
                    intro z s hz e
                    obtain ⟨c0, c1, c2, c3, c4⟩ := z
                    obtain ⟨g0, g1, g2, g3, g4⟩ := hz
                    simp only [encTy_mk, List.append_assoc] at e
                    rw [HR0.out] at e
                    obtain ⟨_, e⟩ := le8_pi X0.out g0 e
                    rw [HR1.out] at e
                    obtain ⟨_, e⟩ := encS_pi X1.out g1 e
                    exact hno _ _ g2 e)
                have KF := KW.out.thn hk2
                unfold PAN
                exact ⟨rfl, .inr ⟨rfl, NO.out, KF⟩⟩
              · have R' := hrd2
                have KW' := Lib.hid (KW.out.thn hk2)
                have BR' := Lib.hid (Blk.kp BR.out hk2 (fun e => by omega))
                have cb' := Kp.keeps hk2 (p := ⟨bx, 0, none⟩) cb hbx
                have s2 := Nat.le_trans sz hk2.size
                have X2 := Lib.hid hx2
                have HR2 := Lib.hid hr2
                clear R KW BR cb hHeld hrd2 hk2 hx2 hr2
                have R := R'
                clear R'
                have KW := KW'
                clear KW'
                have BR := BR'
                clear BR'
                have cb := cb'
                clear cb'
                have sz := s2
                show K _ _
                refine hK.out _ _ (by assumption) (fun hHeld => ?_)
                clear hK K
                try simp only [Act.put, List.setIfInBounds_toArray, List.set_cons_zero, List.set_cons_succ]
                refine wpAnyH_take (i := 6) (v := .agg #[.int .i64 a0, .string a1, .string a2, .slice none 0 0, .slice none 0 0]) rfl (by kernel_rfl) (by kernel_rfl) (by kernel_rfl) (fun _ _ _ h => h) (Or.inl ⟨by rfl, ?_⟩) (by assumption) ?_
                · intro wq hSw
                  go_simp
                try simp only [Act.put, List.setIfInBounds_toArray, List.set_cons_zero, List.set_cons_succ]
                refine wpAnyH_ready (rs := [7]) (by kernel_rfl) (by simp) ?_
                refine AllReadyH.cons rfl (fun K hK => ?_) ?_
                · rw [if_pos (by rfl)]
                  go_simp
                  have R' := RdAt.alloc R (.cells #[.int .i64 0, .string ⟨#[]⟩, .string ⟨#[]⟩, .slice none 0 0, .slice none 0 0] 41)
                  have KW' := Lib.hid (Kp.alloc KW.out (.cells #[.int .i64 0, .string ⟨#[]⟩, .string ⟨#[]⟩, .slice none 0 0, .slice none 0 0] 41))
                  have BR' := Lib.hid (Blk.alloc BR.out (.cells #[.int .i64 0, .string ⟨#[]⟩, .string ⟨#[]⟩, .slice none 0 0, .slice none 0 0] 41))
                  have BD := Lib.hid (Blk.new w2 [.int .i64 0, .string ⟨#[]⟩, .string ⟨#[]⟩, .slice none 0 0, .slice none 0 0] 41)
                  have cb' := (Nw.new w2 (.cells #[.int .i64 0, .string ⟨#[]⟩, .string ⟨#[]⟩, .slice none 0 0, .slice none 0 0] 41)).keeps cb
                  have sz' : w2.heap.size + 1 ≤ (w2.alloc (.cells #[.int .i64 0, .string ⟨#[]⟩, .string ⟨#[]⟩, .slice none 0 0, .slice none 0 0] 41)).heap.size := by simp
                  generalize w2.alloc (.cells #[.int .i64 0, .string ⟨#[]⟩, .string ⟨#[]⟩, .slice none 0 0, .slice none 0 0] 41) = v3 at *
                  have sg : w.heap.size + 1 ≤ w2.heap.size := sz
                  have sz0 : w.heap.size + 1 ≤ v3.heap.size := by omega
                  clear R KW BR cb hHeld sz
                  have R := R'
                  clear R'
                  have KW := KW'
                  clear KW'
                  have BR := BR'
                  clear BR'
                  have cb := cb'
                  clear cb'
                  have sz := sz0
                  have sg2 : w2.heap.size + 1 ≤ v3.heap.size := sz'
                  refine hK.out _ _ (by assumption) (fun hHeld => ?_)
                  clear hK K
                  try simp only [Act.put, List.setIfInBounds_toArray, List.set_cons_zero, List.set_cons_succ]
                  refine wpAnyH_ready (rs := [8]) (by kernel_rfl) (by simp) ?_
                  refine AllReadyH.cons rfl (fun K hK => ?_) ?_
                  · rw [if_pos (by rfl)]
                    have cD := BD.out.cell
                    have zD := BD.out.frozen
                    go_simp
                    refine hK.out _ _ (Kp.keeps ((Kp.refl (fun b => b = w2.heap.size) v3).sets (fun _ => rfl) 0 [.int .i64 a0, .string a1, .string a2, .slice none 0 0, .slice none 0 0]) (p := ⟨bx, 0, none⟩) cb (fun e => by simp only at e; omega)) (fun hHeld => ?_)
                    clear hK K cD zD
                    try simp only [Act.put, List.setIfInBounds_toArray, List.set_cons_zero, List.set_cons_succ]
                    refine wpAnyH_done (by kernel_rfl) ?_ _
                    go_wp2_with fail
                    go_meet
                    exact ⟨w2.heap.size, a0, a1, a2, r0, r1, r2, rfl, sg, (by have := size_sets v3 w2.heap.size 0 [.int .i64 a0, .string a1, .string a2, .slice none 0 0, .slice none 0 0]; exact Nat.le_trans (by omega) (Nat.le_of_eq this.symm)), X0.out, X1.out, X2.out, HR0.out, HR1.out, HR2.out, RdAt.sets R (b := w2.heap.size) (by omega) 0 [.int .i64 a0, .string a1, .string a2, .slice none 0 0, .slice none 0 0], Kp.sets KW.out (b := w2.heap.size) (fun _ => by omega) 0 [.int .i64 a0, .string a1, .string a2, .slice none 0 0, .slice none 0 0], Blk.sets BD.out 0 [.int .i64 a0, .string a1, .string a2, .slice none 0 0, .slice none 0 0], Blk.setsO BR.out (b' := w2.heap.size) (by omega) 0 [.int .i64 a0, .string a1, .string a2, .slice none 0 0, .slice none 0 0]⟩
                  · exact AllReadyH.nil
                · exact AllReadyH.nil
            · refine AllReadyH.cons rfl (fun K hK => ?_) ?_
              · rw [if_pos (by rfl)]
                go_simp
                have R' := RdAt.alloc R (.cells #[.int .i64 0, .string ⟨#[]⟩, .string ⟨#[]⟩, .slice none 0 0, .slice none 0 0] 41)
                have KW' := Lib.hid (Kp.alloc KW.out (.cells #[.int .i64 0, .string ⟨#[]⟩, .string ⟨#[]⟩, .slice none 0 0, .slice none 0 0] 41))
                have BR' := Lib.hid (Blk.alloc BR.out (.cells #[.int .i64 0, .string ⟨#[]⟩, .string ⟨#[]⟩, .slice none 0 0, .slice none 0 0] 41))
                have BD := Lib.hid (Blk.new w1 [.int .i64 0, .string ⟨#[]⟩, .string ⟨#[]⟩, .slice none 0 0, .slice none 0 0] 41)
                have cb' := (Nw.new w1 (.cells #[.int .i64 0, .string ⟨#[]⟩, .string ⟨#[]⟩, .slice none 0 0, .slice none 0 0] 41)).keeps cb
                have sz' : w1.heap.size + 1 ≤ (w1.alloc (.cells #[.int .i64 0, .string ⟨#[]⟩, .string ⟨#[]⟩, .slice none 0 0, .slice none 0 0] 41)).heap.size := by simp
                generalize w1.alloc (.cells #[.int .i64 0, .string ⟨#[]⟩, .string ⟨#[]⟩, .slice none 0 0, .slice none 0 0] 41) = v2 at *
                have sg : w.heap.size + 1 ≤ w1.heap.size := sz
                have sz0 : w.heap.size + 1 ≤ v2.heap.size := by omega
                clear R KW BR cb hHeld sz
                have R := R'
                clear R'
                have KW := KW'
                clear KW'
                have BR := BR'
                clear BR'
                have cb := cb'
                clear cb'
                have sz := sz0
                have sg2 : w1.heap.size + 1 ≤ v2.heap.size := sz'
                refine hK.out _ _ (by assumption) (fun hHeld => ?_)
                clear hK K
                try simp only [Act.put, List.setIfInBounds_toArray, List.set_cons_zero, List.set_cons_succ]
                refine wpAnyH_ready (rs := [5]) (by kernel_rfl) (by simp) ?_
                refine AllReadyH.cons rfl (fun K hK => ?_) ?_
                · rw [if_pos (by rfl)]
                  go_simp
                  refine (rtext (r := r1) (k := k) (B := B) (W := W) (q := q) R).mono ?_
                  rintro e2 w2 (⟨a2, r2, _, rfl, hx2, hr2, rfl, hrd2, hk2⟩ | ⟨rfl, hno, hk2⟩)
                  rotate_left
                  · have NO := Lib.hid (show No (OkTy (m + 1)) encTy r by
                        intro z s hz e
                        obtain ⟨c0, c1, c2, c3, c4⟩ := z
                        obtain ⟨g0, g1, g2, g3, g4⟩ := hz
                        simp only [encTy_mk, List.append_assoc] at e
                        rw [HR0.out] at e
                        obtain ⟨_, e⟩ := le8_pi X0.out g0 e
                        rw [HR1.out] at e
                        obtain ⟨_, e⟩ := encS_pi X1.out g1 e
                        exact hno _ _ g2 e)
                    have KF := KW.out.thn hk2
                    unfold PAN
                    exact ⟨rfl, .inr ⟨rfl, NO.out, KF⟩⟩
                  · have R' := hrd2
                    have KW' := Lib.hid (KW.out.thn hk2)
                    have BR' := Lib.hid (Blk.kp BR.out hk2 (fun e => by omega))
                    have BD' := Lib.hid (Blk.kp BD.out hk2 (fun e => by omega))
                    have cb' := Kp.keeps hk2 (p := ⟨bx, 0, none⟩) cb hbx
                    have s2 := Nat.le_trans sz hk2.size
                    have sg2 := Nat.le_trans sg2 hk2.size
                    have X2 := Lib.hid hx2
                    have HR2 := Lib.hid hr2
                    clear R KW BR cb hHeld hrd2 hk2 hx2 hr2 BD
                    have R := R'
                    clear R'
                    have KW := KW'
                    clear KW'
                    have BR := BR'
                    clear BR'
                    have BD := BD'
                    clear BD'
                    have cb := cb'
                    clear cb'
                    have sz := s2
                    show K _ _
                    refine hK.out _ _ (by assumption) (fun hHeld => ?_)
                    clear hK K
                    try simp only [Act.put, List.setIfInBounds_toArray, List.set_cons_zero, List.set_cons_succ]
                    refine wpAnyH_take (i := 6) (v := .agg #[.int .i64 a0, .string a1, .string a2, .slice none 0 0, .slice none 0 0]) rfl (by kernel_rfl) (by kernel_rfl) (by kernel_rfl) (fun _ _ _ h => h) (Or.inl ⟨by rfl, ?_⟩) (by assumption) ?_
                    · intro wq hSw
                      go_simp
                    try simp only [Act.put, List.setIfInBounds_toArray, List.set_cons_zero, List.set_cons_succ]
                    refine wpAnyH_ready (rs := [8]) (by kernel_rfl) (by simp) ?_
                    refine AllReadyH.cons rfl (fun K hK => ?_) ?_
                    · rw [if_pos (by rfl)]
                      have cD := BD.out.cell
                      have zD := BD.out.frozen
                      go_simp
                      refine hK.out _ _ (Kp.keeps ((Kp.refl (fun b => b = w1.heap.size) w2).sets (fun _ => rfl) 0 [.int .i64 a0, .string a1, .string a2, .slice none 0 0, .slice none 0 0]) (p := ⟨bx, 0, none⟩) cb (fun e => by simp only at e; omega)) (fun hHeld => ?_)
                      clear hK K cD zD
                      try simp only [Act.put, List.setIfInBounds_toArray, List.set_cons_zero, List.set_cons_succ]
                      refine wpAnyH_done (by kernel_rfl) ?_ _
                      go_wp2_with fail
                      go_meet
                      exact ⟨w1.heap.size, a0, a1, a2, r0, r1, r2, rfl, sg, (by have := size_sets w2 w1.heap.size 0 [.int .i64 a0, .string a1, .string a2, .slice none 0 0, .slice none 0 0]; exact Nat.le_trans (by omega) (Nat.le_of_eq this.symm)), X0.out, X1.out, X2.out, HR0.out, HR1.out, HR2.out, RdAt.sets R (b := w1.heap.size) (by omega) 0 [.int .i64 a0, .string a1, .string a2, .slice none 0 0, .slice none 0 0], Kp.sets KW.out (b := w1.heap.size) (fun _ => by omega) 0 [.int .i64 a0, .string a1, .string a2, .slice none 0 0, .slice none 0 0], Blk.sets BD.out 0 [.int .i64 a0, .string a1, .string a2, .slice none 0 0, .slice none 0 0], Blk.setsO BR.out (b' := w1.heap.size) (by omega) 0 [.int .i64 a0, .string a1, .string a2, .slice none 0 0, .slice none 0 0]⟩
                    · exact AllReadyH.nil
                · exact AllReadyH.nil
              · exact AllReadyH.nil
        · refine AllReadyH.cons rfl (fun K hK => ?_) ?_
          · rw [if_pos (by rfl)]
            go_simp
            have R' := RdAt.alloc R (.cells #[.int .i64 0, .string ⟨#[]⟩, .string ⟨#[]⟩, .slice none 0 0, .slice none 0 0] 41)
            have KW' := Lib.hid (Kp.alloc KW.out (.cells #[.int .i64 0, .string ⟨#[]⟩, .string ⟨#[]⟩, .slice none 0 0, .slice none 0 0] 41))
            have BR' := Lib.hid (Blk.alloc BR.out (.cells #[.int .i64 0, .string ⟨#[]⟩, .string ⟨#[]⟩, .slice none 0 0, .slice none 0 0] 41))
            have BD := Lib.hid (Blk.new w0 [.int .i64 0, .string ⟨#[]⟩, .string ⟨#[]⟩, .slice none 0 0, .slice none 0 0] 41)
            have cb' := (Nw.new w0 (.cells #[.int .i64 0, .string ⟨#[]⟩, .string ⟨#[]⟩, .slice none 0 0, .slice none 0 0] 41)).keeps cb
            have sz' : w0.heap.size + 1 ≤ (w0.alloc (.cells #[.int .i64 0, .string ⟨#[]⟩, .string ⟨#[]⟩, .slice none 0 0, .slice none 0 0] 41)).heap.size := by simp
            generalize w0.alloc (.cells #[.int .i64 0, .string ⟨#[]⟩, .string ⟨#[]⟩, .slice none 0 0, .slice none 0 0] 41) = v1 at *
            have sg : w.heap.size + 1 ≤ w0.heap.size := sz
            have sz0 : w.heap.size + 1 ≤ v1.heap.size := by omega
            clear R KW BR cb hHeld sz
            have R := R'
            clear R'
            have KW := KW'
            clear KW'
            have BR := BR'
            clear BR'
            have cb := cb'
            clear cb'
            have sz := sz0
            have sg2 : w0.heap.size + 1 ≤ v1.heap.size := sz'
            refine hK.out _ _ (by assumption) (fun hHeld => ?_)
            clear hK K
            try simp only [Act.put, List.setIfInBounds_toArray, List.set_cons_zero, List.set_cons_succ]
            refine wpAnyH_ready (rs := [3]) (by kernel_rfl) (by simp) ?_
            refine AllReadyH.cons rfl (fun K hK => ?_) ?_
            · rw [if_pos (by rfl)]
              go_simp
              refine (rtext (r := r0) (k := k) (B := B) (W := W) (q := q) R).mono ?_
              rintro e1 w1 (⟨a1, r1, _, rfl, hx1, hr1, rfl, hrd1, hk1⟩ | ⟨rfl, hno, hk1⟩)
              rotate_left
              · have NO := Lib.hid (show No (OkTy (m + 1)) encTy r by
                    intro z s hz e
                    obtain ⟨c0, c1, c2, c3, c4⟩ := z
                    obtain ⟨g0, g1, g2, g3, g4⟩ := hz
                    simp only [encTy_mk, List.append_assoc] at e
                    rw [HR0.out] at e
                    obtain ⟨_, e⟩ := le8_pi X0.out g0 e
                    exact hno _ _ g1 e)
                have KF := KW.out.thn hk1
                unfold PAN
                exact ⟨rfl, .inr ⟨rfl, NO.out, KF⟩⟩
              · have R' := hrd1
                have KW' := Lib.hid (KW.out.thn hk1)
                have BR' := Lib.hid (Blk.kp BR.out hk1 (fun e => by omega))
                have BD' := Lib.hid (Blk.kp BD.out hk1 (fun e => by omega))
                have cb' := Kp.keeps hk1 (p := ⟨bx, 0, none⟩) cb hbx
                have s1 := Nat.le_trans sz hk1.size
                have sg2 := Nat.le_trans sg2 hk1.size
                have X1 := Lib.hid hx1
                have HR1 := Lib.hid hr1
                clear R KW BR cb hHeld hrd1 hk1 hx1 hr1 BD
                have R := R'
                clear R'
                have KW := KW'
                clear KW'
                have BR := BR'
                clear BR'
                have BD := BD'
                clear BD'
                have cb := cb'
                clear cb'
                have sz := s1
                show K _ _
                refine hK.out _ _ (by assumption) (fun hHeld => ?_)
                clear hK K
                try simp only [Act.put, List.setIfInBounds_toArray, List.set_cons_zero, List.set_cons_succ]
                refine wpAnyH_ready (rs := [5]) (by kernel_rfl) (by simp) ?_
                refine AllReadyH.cons rfl (fun K hK => ?_) ?_
                · rw [if_pos (by rfl)]
                  go_simp
                  refine (rtext (r := r1) (k := k) (B := B) (W := W) (q := q) R).mono ?_
                  rintro e2 w2 (⟨a2, r2, _, rfl, hx2, hr2, rfl, hrd2, hk2⟩ | ⟨rfl, hno, hk2⟩)
                  rotate_left
                  · have NO := Lib.hid (show No (OkTy (m + 1)) encTy r by
                        intro z s hz e
                        obtain ⟨c0, c1, c2, c3, c4⟩ := z
                        obtain ⟨g0, g1, g2, g3, g4⟩ := hz
                        simp only [encTy_mk, List.append_assoc] at e
                        rw [HR0.out] at e
                        obtain ⟨_, e⟩ := le8_pi X0.out g0 e
                        rw [HR1.out] at e
                        obtain ⟨_, e⟩ := encS_pi X1.out g1 e
                        exact hno _ _ g2 e)
                    have KF := KW.out.thn hk2
                    unfold PAN
                    exact ⟨rfl, .inr ⟨rfl, NO.out, KF⟩⟩
                  · have R' := hrd2
                    have KW' := Lib.hid (KW.out.thn hk2)
                    have BR' := Lib.hid (Blk.kp BR.out hk2 (fun e => by omega))
                    have BD' := Lib.hid (Blk.kp BD.out hk2 (fun e => by omega))
                    have cb' := Kp.keeps hk2 (p := ⟨bx, 0, none⟩) cb hbx
                    have s2 := Nat.le_trans sz hk2.size
                    have sg2 := Nat.le_trans sg2 hk2.size
                    have X2 := Lib.hid hx2
                    have HR2 := Lib.hid hr2
                    clear R KW BR cb hHeld hrd2 hk2 hx2 hr2 BD
                    have R := R'
                    clear R'
                    have KW := KW'
                    clear KW'
                    have BR := BR'
                    clear BR'
                    have BD := BD'
                    clear BD'
                    have cb := cb'
                    clear cb'
                    have sz := s2
                    show K _ _
                    refine hK.out _ _ (by assumption) (fun hHeld => ?_)
                    clear hK K
                    try simp only [Act.put, List.setIfInBounds_toArray, List.set_cons_zero, List.set_cons_succ]
                    refine wpAnyH_take (i := 6) (v := .agg #[.int .i64 a0, .string a1, .string a2, .slice none 0 0, .slice none 0 0]) rfl (by kernel_rfl) (by kernel_rfl) (by kernel_rfl) (fun _ _ _ h => h) (Or.inl ⟨by rfl, ?_⟩) (by assumption) ?_
                    · intro wq hSw
                      go_simp
                    try simp only [Act.put, List.setIfInBounds_toArray, List.set_cons_zero, List.set_cons_succ]
                    refine wpAnyH_ready (rs := [8]) (by kernel_rfl) (by simp) ?_
                    refine AllReadyH.cons rfl (fun K hK => ?_) ?_
                    · rw [if_pos (by rfl)]
                      have cD := BD.out.cell
                      have zD := BD.out.frozen
                      go_simp
                      refine hK.out _ _ (Kp.keeps ((Kp.refl (fun b => b = w0.heap.size) w2).sets (fun _ => rfl) 0 [.int .i64 a0, .string a1, .string a2, .slice none 0 0, .slice none 0 0]) (p := ⟨bx, 0, none⟩) cb (fun e => by simp only at e; omega)) (fun hHeld => ?_)
                      clear hK K cD zD
                      try simp only [Act.put, List.setIfInBounds_toArray, List.set_cons_zero, List.set_cons_succ]
                      refine wpAnyH_done (by kernel_rfl) ?_ _
                      go_wp2_with fail
                      go_meet
                      exact ⟨w0.heap.size, a0, a1, a2, r0, r1, r2, rfl, sg, (by have := size_sets w2 w0.heap.size 0 [.int .i64 a0, .string a1, .string a2, .slice none 0 0, .slice none 0 0]; exact Nat.le_trans (by omega) (Nat.le_of_eq this.symm)), X0.out, X1.out, X2.out, HR0.out, HR1.out, HR2.out, RdAt.sets R (b := w0.heap.size) (by omega) 0 [.int .i64 a0, .string a1, .string a2, .slice none 0 0, .slice none 0 0], Kp.sets KW.out (b := w0.heap.size) (fun _ => by omega) 0 [.int .i64 a0, .string a1, .string a2, .slice none 0 0, .slice none 0 0], Blk.sets BD.out 0 [.int .i64 a0, .string a1, .string a2, .slice none 0 0, .slice none 0 0], Blk.setsO BR.out (b' := w0.heap.size) (by omega) 0 [.int .i64 a0, .string a1, .string a2, .slice none 0 0, .slice none 0 0]⟩
                    · exact AllReadyH.nil
                · exact AllReadyH.nil
            · exact AllReadyH.nil
          · exact AllReadyH.nil
    · refine AllReadyH.cons rfl (fun K hK => ?_) ?_
      · rw [if_pos (by rfl)]
        go_simp
        have R' := RdAt.alloc R (.cells #[.int .i64 0, .string ⟨#[]⟩, .string ⟨#[]⟩, .slice none 0 0, .slice none 0 0] 41)
        have KW' := Lib.hid (Kp.alloc KW.out (.cells #[.int .i64 0, .string ⟨#[]⟩, .string ⟨#[]⟩, .slice none 0 0, .slice none 0 0] 41))
        have BR' := Lib.hid (Blk.alloc BR.out (.cells #[.int .i64 0, .string ⟨#[]⟩, .string ⟨#[]⟩, .slice none 0 0, .slice none 0 0] 41))
        have BD := Lib.hid (Blk.new wB [.int .i64 0, .string ⟨#[]⟩, .string ⟨#[]⟩, .slice none 0 0, .slice none 0 0] 41)
        have cb' := (Nw.new wB (.cells #[.int .i64 0, .string ⟨#[]⟩, .string ⟨#[]⟩, .slice none 0 0, .slice none 0 0] 41)).keeps cb
        have sz' : wB.heap.size + 1 ≤ (wB.alloc (.cells #[.int .i64 0, .string ⟨#[]⟩, .string ⟨#[]⟩, .slice none 0 0, .slice none 0 0] 41)).heap.size := by simp
        generalize wB.alloc (.cells #[.int .i64 0, .string ⟨#[]⟩, .string ⟨#[]⟩, .slice none 0 0, .slice none 0 0] 41) = v0 at *
        have sg : w.heap.size + 1 ≤ wB.heap.size := sz
        have sz0 : w.heap.size + 1 ≤ v0.heap.size := by omega
        clear R KW BR cb hHeld sz
        have R := R'
        clear R'
        have KW := KW'
        clear KW'
        have BR := BR'
        clear BR'
        have cb := cb'
        clear cb'
        have sz := sz0
        have sg2 : wB.heap.size + 1 ≤ v0.heap.size := sz'
        refine hK.out _ _ (by assumption) (fun hHeld => ?_)
        clear hK K
        try simp only [Act.put, List.setIfInBounds_toArray, List.set_cons_zero, List.set_cons_succ]
        refine wpAnyH_ready (rs := [1]) (by kernel_rfl) (by simp) ?_
        refine AllReadyH.cons rfl (fun K hK => ?_) ?_
        · rw [if_pos (by rfl)]
          go_simp
          refine (rnum (r := r) (k := k) (B := B) (W := W) (q := q) R).mono ?_
          rintro e0 w0 (⟨a0, r0, _, rfl, hx0, hr0, rfl, hrd0, hk0⟩ | ⟨rfl, hno, hk0⟩)
          rotate_left
          · have NO := Lib.hid (show No (OkTy (m + 1)) encTy r by
                intro z s hz e
                obtain ⟨c0, c1, c2, c3, c4⟩ := z
                obtain ⟨g0, g1, g2, g3, g4⟩ := hz
                simp only [encTy_mk, List.append_assoc] at e
                exact hno _ _ g0 e)
            have KF := KW.out.thn hk0
            unfold PAN
            exact ⟨rfl, .inr ⟨rfl, NO.out, KF⟩⟩
          · have R' := hrd0
            have KW' := Lib.hid (KW.out.thn hk0)
            have BR' := Lib.hid (Blk.kp BR.out hk0 (fun e => by omega))
            have BD' := Lib.hid (Blk.kp BD.out hk0 (fun e => by omega))
            have cb' := Kp.keeps hk0 (p := ⟨bx, 0, none⟩) cb hbx
            have s0 := Nat.le_trans sz hk0.size
            have sg2 := Nat.le_trans sg2 hk0.size
            have X0 := Lib.hid hx0
            have HR0 := Lib.hid hr0
            clear R KW BR cb hHeld hrd0 hk0 hx0 hr0 BD
            have R := R'
            clear R'
            have KW := KW'
            clear KW'
            have BR := BR'
            clear BR'
            have BD := BD'
            clear BD'
            have cb := cb'
            clear cb'
            have sz := s0
            show K _ _
            refine hK.out _ _ (by assumption) (fun hHeld => ?_)
            clear hK K
            try simp only [Act.put, List.setIfInBounds_toArray, List.set_cons_zero, List.set_cons_succ]
            refine wpAnyH_ready (rs := [3]) (by kernel_rfl) (by simp) ?_
            refine AllReadyH.cons rfl (fun K hK => ?_) ?_
            · rw [if_pos (by rfl)]
              go_simp
              refine (rtext (r := r0) (k := k) (B := B) (W := W) (q := q) R).mono ?_
              rintro e1 w1 (⟨a1, r1, _, rfl, hx1, hr1, rfl, hrd1, hk1⟩ | ⟨rfl, hno, hk1⟩)
              rotate_left
              · have NO := Lib.hid (show No (OkTy (m + 1)) encTy r by
                    intro z s hz e
                    obtain ⟨c0, c1, c2, c3, c4⟩ := z
                    obtain ⟨g0, g1, g2, g3, g4⟩ := hz
                    simp only [encTy_mk, List.append_assoc] at e
                    rw [HR0.out] at e
                    obtain ⟨_, e⟩ := le8_pi X0.out g0 e
                    exact hno _ _ g1 e)
                have KF := KW.out.thn hk1
                unfold PAN
                exact ⟨rfl, .inr ⟨rfl, NO.out, KF⟩⟩
              · have R' := hrd1
                have KW' := Lib.hid (KW.out.thn hk1)
                have BR' := Lib.hid (Blk.kp BR.out hk1 (fun e => by omega))
                have BD' := Lib.hid (Blk.kp BD.out hk1 (fun e => by omega))
                have cb' := Kp.keeps hk1 (p := ⟨bx, 0, none⟩) cb hbx
                have s1 := Nat.le_trans sz hk1.size
                have sg2 := Nat.le_trans sg2 hk1.size
                have X1 := Lib.hid hx1
                have HR1 := Lib.hid hr1
                clear R KW BR cb hHeld hrd1 hk1 hx1 hr1 BD
                have R := R'
                clear R'
                have KW := KW'
                clear KW'
                have BR := BR'
                clear BR'
                have BD := BD'
                clear BD'
                have cb := cb'
                clear cb'
                have sz := s1
                show K _ _
                refine hK.out _ _ (by assumption) (fun hHeld => ?_)
                clear hK K
                try simp only [Act.put, List.setIfInBounds_toArray, List.set_cons_zero, List.set_cons_succ]
                refine wpAnyH_ready (rs := [5]) (by kernel_rfl) (by simp) ?_
                refine AllReadyH.cons rfl (fun K hK => ?_) ?_
                · rw [if_pos (by rfl)]
                  go_simp
                  refine (rtext (r := r1) (k := k) (B := B) (W := W) (q := q) R).mono ?_
                  rintro e2 w2 (⟨a2, r2, _, rfl, hx2, hr2, rfl, hrd2, hk2⟩ | ⟨rfl, hno, hk2⟩)
                  rotate_left
                  · have NO := Lib.hid (show No (OkTy (m + 1)) encTy r by
                        intro z s hz e
                        obtain ⟨c0, c1, c2, c3, c4⟩ := z
                        obtain ⟨g0, g1, g2, g3, g4⟩ := hz
                        simp only [encTy_mk, List.append_assoc] at e
                        rw [HR0.out] at e
                        obtain ⟨_, e⟩ := le8_pi X0.out g0 e
                        rw [HR1.out] at e
                        obtain ⟨_, e⟩ := encS_pi X1.out g1 e
                        exact hno _ _ g2 e)
                    have KF := KW.out.thn hk2
                    unfold PAN
                    exact ⟨rfl, .inr ⟨rfl, NO.out, KF⟩⟩
                  · have R' := hrd2
                    have KW' := Lib.hid (KW.out.thn hk2)
                    have BR' := Lib.hid (Blk.kp BR.out hk2 (fun e => by omega))
                    have BD' := Lib.hid (Blk.kp BD.out hk2 (fun e => by omega))
                    have cb' := Kp.keeps hk2 (p := ⟨bx, 0, none⟩) cb hbx
                    have s2 := Nat.le_trans sz hk2.size
                    have sg2 := Nat.le_trans sg2 hk2.size
                    have X2 := Lib.hid hx2
                    have HR2 := Lib.hid hr2
                    clear R KW BR cb hHeld hrd2 hk2 hx2 hr2 BD
                    have R := R'
                    clear R'
                    have KW := KW'
                    clear KW'
                    have BR := BR'
                    clear BR'
                    have BD := BD'
                    clear BD'
                    have cb := cb'
                    clear cb'
                    have sz := s2
                    show K _ _
                    refine hK.out _ _ (by assumption) (fun hHeld => ?_)
                    clear hK K
                    try simp only [Act.put, List.setIfInBounds_toArray, List.set_cons_zero, List.set_cons_succ]
                    refine wpAnyH_take (i := 6) (v := .agg #[.int .i64 a0, .string a1, .string a2, .slice none 0 0, .slice none 0 0]) rfl (by kernel_rfl) (by kernel_rfl) (by kernel_rfl) (fun _ _ _ h => h) (Or.inl ⟨by rfl, ?_⟩) (by assumption) ?_
                    · intro wq hSw
                      go_simp
                    try simp only [Act.put, List.setIfInBounds_toArray, List.set_cons_zero, List.set_cons_succ]
                    refine wpAnyH_ready (rs := [8]) (by kernel_rfl) (by simp) ?_
                    refine AllReadyH.cons rfl (fun K hK => ?_) ?_
                    · rw [if_pos (by rfl)]
                      have cD := BD.out.cell
                      have zD := BD.out.frozen
                      go_simp
                      refine hK.out _ _ (Kp.keeps ((Kp.refl (fun b => b = wB.heap.size) w2).sets (fun _ => rfl) 0 [.int .i64 a0, .string a1, .string a2, .slice none 0 0, .slice none 0 0]) (p := ⟨bx, 0, none⟩) cb (fun e => by simp only at e; omega)) (fun hHeld => ?_)
                      clear hK K cD zD
                      try simp only [Act.put, List.setIfInBounds_toArray, List.set_cons_zero, List.set_cons_succ]
                      refine wpAnyH_done (by kernel_rfl) ?_ _
                      go_wp2_with fail
                      go_meet
                      exact ⟨wB.heap.size, a0, a1, a2, r0, r1, r2, rfl, sg, (by have := size_sets w2 wB.heap.size 0 [.int .i64 a0, .string a1, .string a2, .slice none 0 0, .slice none 0 0]; exact Nat.le_trans (by omega) (Nat.le_of_eq this.symm)), X0.out, X1.out, X2.out, HR0.out, HR1.out, HR2.out, RdAt.sets R (b := wB.heap.size) (by omega) 0 [.int .i64 a0, .string a1, .string a2, .slice none 0 0, .slice none 0 0], Kp.sets KW.out (b := wB.heap.size) (fun _ => by omega) 0 [.int .i64 a0, .string a1, .string a2, .slice none 0 0, .slice none 0 0], Blk.sets BD.out 0 [.int .i64 a0, .string a1, .string a2, .slice none 0 0, .slice none 0 0], Blk.setsO BR.out (b' := wB.heap.size) (by omega) 0 [.int .i64 a0, .string a1, .string a2, .slice none 0 0, .slice none 0 0]⟩
                    · exact AllReadyH.nil
                · exact AllReadyH.nil
            · exact AllReadyH.nil
        · exact AllReadyH.nil
      · exact AllReadyH.nil
  case rest =>
    obtain ⟨g, a0, a1, a2, r0, r1, r2, rfl, sg, s2, hx0, hx1, hx2, hr0, hr1, hr2, hrd2, hk2, hbd, hbr⟩ := hcut
    have X0 := Lib.hid hx0
    have X1 := Lib.hid hx1
    have X2 := Lib.hid hx2
    have HR0 := Lib.hid hr0
    have HR1 := Lib.hid hr1
    have HR2 := Lib.hid hr2
    have R2 := Lib.hid hrd2
    have K2 := Lib.hid hk2
    have DD2 := Lib.hid hbd
    have DR2 := Lib.hid hbr
    have BX2 := Lib.hid (show wc.cell? ⟨bx, 0, none⟩ = some (.pointer (some ⟨q, 0, none⟩)) from Kp.keeps K2.out BX.out hbx)
    clear hx0 hx1 hx2 hr0 hr1 hr2 hrd2 hk2 hbd hbr cA RA KA BA
    have cD := DD2.out.cell
    have zD := DD2.out.frozen
    have cR := DR2.out.cell
    have zR := DR2.out.frozen
    have C3 := Lib.hid (fun (wz : World) (hz : RdAt B W wz q r2 k) => takes_Ty ONE.out wz r2 hz)
    have cbx : wc.cell? ⟨bx, 0, none⟩ = some (.pointer (some ⟨q, 0, none⟩)) := BX2.out
    go_wp2_with fail
    refine (C3.out _ R2.out).mono ?_
    rintro e3 w3 (⟨a3, r3, v3, rfl, hx3, hr3, hv3, hrd3, hk3⟩ | ⟨rfl, hno, hk3⟩)
    rotate_left
    · have NO := Lib.hid (show No (OkTy (m + 1)) encTy r by
        intro z s hz e
        obtain ⟨c0, c1, c2, c3, c4⟩ := z
        obtain ⟨g0, g1, g2, g3, g4⟩ := hz
        simp only [encTy_mk, List.append_assoc] at e
        rw [HR0.out] at e
        rw [HR1.out] at e
        rw [HR2.out] at e
        try simp only [List.append_assoc] at e
        obtain ⟨_, e⟩ := le8_pi X0.out g0 e
        obtain ⟨_, e⟩ := encS_pi X1.out g1 e
        obtain ⟨_, e⟩ := encS_pi X2.out g2 e
        exact hno _ _ g3 e
        )
      have KF := Lib.hid (Kp.thn K2.out hk3)
      clear hno hk3 C3
      unfold PAN
      go_wp2_with fail
      exact ⟨rfl, .inr ⟨rfl, NO.out, KF.out⟩⟩
    · clear C3
      have R3 := Lib.hid hrd3
      have K3 := Lib.hid (Kp.thn K2.out hk3)
      have X3 := Lib.hid hx3
      have HR3 := Lib.hid hr3
      have s3 : g + 1 ≤ w3.heap.size := by
        have := hk3.size
        try simp only [size_sets, size_alloc] at this
        omega
      have DR3 := Lib.hid (show Blk w3 w.heap.size [.int .i64 0, .string ⟨#[]⟩, .string ⟨#[]⟩, .slice none 0 0, .slice none 0 0] 41 from Blk.kp DR2.out hk3 (fun e => by omega))
      have DD3 := Lib.hid (show Blk w3 g [.int .i64 a0, .string a1, .string a2, .slice none 0 0, .slice none 0 0] 41 from Blk.kp DD2.out hk3 (fun e => by omega))
      clear cD zD cR zR cbx
      have BX3 := Lib.hid (show w3.cell? ⟨bx, 0, none⟩ = some (.pointer (some ⟨q, 0, none⟩)) from Kp.keeps K3.out BX.out hbx)
      have P3 := Lib.hid (SlT.lo (carry_Ty m) (L' := g + 1) hv3 (by (try simp only [size_sets, size_alloc]); omega))
      obtain ⟨y3, y3l, y3c, rfl⟩ := SlT.slice hv3
      clear hv3
      clear hrd3 hk3 hx3 hr3
      have cR := DR3.out.cell
      have zR := DR3.out.frozen
      have cD := DD3.out.cell
      have zD := DD3.out.frozen
      have C4 := Lib.hid (fun (wz : World) (hz : RdAt B W wz q r3 k) => takes_Ty ONE.out wz r3 hz)
      have cbx : (w3.setCell ⟨g, 3, none⟩ (.slice y3 y3l y3c)).cell? ⟨bx, 0, none⟩ = some (.pointer (some ⟨q, 0, none⟩)) := ((World.cell?_setCell_far w3 ⟨g, 3, none⟩ ⟨bx, 0, none⟩ (.slice y3 y3l y3c) (by simp only; omega)).trans BX3.out)
      go_wp2_with fail
      refine (C4.out _ (RdAt.sets R3.out (b := g) (by omega) 3 [.slice y3 y3l y3c])).mono ?_
      rintro e4 w4 (⟨a4, r4, v4, rfl, hx4, hr4, hv4, hrd4, hk4⟩ | ⟨rfl, hno, hk4⟩)
      rotate_left
      · have NO := Lib.hid (show No (OkTy (m + 1)) encTy r by
          intro z s hz e
          obtain ⟨c0, c1, c2, c3, c4⟩ := z
          obtain ⟨g0, g1, g2, g3, g4⟩ := hz
          simp only [encTy_mk, List.append_assoc] at e
          rw [HR0.out] at e
          rw [HR1.out] at e
          rw [HR2.out] at e
          rw [HR3.out] at e
          try simp only [List.append_assoc] at e
          obtain ⟨_, e⟩ := le8_pi X0.out g0 e
          obtain ⟨_, e⟩ := encS_pi X1.out g1 e
          obtain ⟨_, e⟩ := encS_pi X2.out g2 e
          obtain ⟨_, e⟩ := list_pi (pi_OkTy m) _ _ X3.out g3 _ _ e
          exact hno _ _ g4 e
          )
        have KF := Lib.hid (Kp.thn (Kp.sets K3.out (b := g) (fun _ => by omega) 3 [.slice y3 y3l y3c]) hk4)
        clear hno hk4 C4
        unfold PAN
        go_wp2_with fail
        exact ⟨rfl, .inr ⟨rfl, NO.out, KF.out⟩⟩
      · clear C4
        have R4 := Lib.hid hrd4
        have K4 := Lib.hid (Kp.thn (Kp.sets K3.out (b := g) (fun _ => by omega) 3 [.slice y3 y3l y3c]) hk4)
        have X4 := Lib.hid hx4
        have HR4 := Lib.hid hr4
        have s4 : g + 1 ≤ w4.heap.size := by
          have := hk4.size
          try simp only [size_sets, size_alloc] at this
          omega
        have KL := (Kp.trans (Kp.sets (Kp.refl (fun b => b < g + 1) w3) (b := g) (fun _ => by omega) 3 [.slice y3 y3l y3c]) hk4 (fun x _ e => by omega))
        have P3' := Lib.hid (SlT.next (carry_Ty m) P3.out KL)
        clear P3
        have P3 := Lib.hid P3'.out
        clear P3'
        clear KL
        have DR4 := Lib.hid (show Blk w4 w.heap.size [.int .i64 0, .string ⟨#[]⟩, .string ⟨#[]⟩, .slice none 0 0, .slice none 0 0] 41 from Blk.kp (Blk.setsO DR3.out (b' := g) (by omega) 3 [.slice y3 y3l y3c]) hk4 (fun e => by omega))
        have DD4 := Lib.hid (show Blk w4 g [.int .i64 a0, .string a1, .string a2, .slice y3 y3l y3c, .slice none 0 0] 41 from Blk.kp (Blk.sets DD3.out 3 [.slice y3 y3l y3c]) hk4 (fun e => by omega))
        clear cR zR cD zD cbx
        have BX4 := Lib.hid (show w4.cell? ⟨bx, 0, none⟩ = some (.pointer (some ⟨q, 0, none⟩)) from Kp.keeps K4.out BX.out hbx)
        have P4 := Lib.hid (SlT.lo (carry_Ty m) (L' := g + 1) hv4 (by (try simp only [size_sets, size_alloc]); omega))
        obtain ⟨y4, y4l, y4c, rfl⟩ := SlT.slice hv4
        clear hv4
        clear hrd4 hk4 hx4 hr4
        have cR := DR4.out.cell
        have zR := DR4.out.frozen
        have cD := DD4.out.cell
        have zD := DD4.out.frozen
        have FIN := Lib.hid (show Rp B W q r k (OkTy (m + 1)) encTy (VT (fun T w => TyT T w (m + 1))) w (.returned (.agg #[.int .i64 a0, .string a1, .string a2, .slice y3 y3l y3c, .slice y4 y4l y4c])) (lays (lays w4 (g) 4 [.slice y4 y4l y4c]) (w.heap.size) 0 [.int .i64 a0, .string a1, .string a2, .slice y3 y3l y3c, .slice y4 y4l y4c]) by
          have KL := (Kp.sets (Kp.sets (Kp.refl (fun b => b < g + 1) w4) (b := g) (fun _ => by omega) 4 [.slice y4 y4l y4c]) (b := w.heap.size) (fun _ => by omega) 0 [.int .i64 a0, .string a1, .string a2, .slice y3 y3l y3c, .slice y4 y4l y4c])
          have P3' := SlT.lo (carry_Ty m) (L' := w.heap.size) (SlT.next (carry_Ty m) P3.out KL) (by omega)
          have P4' := SlT.lo (carry_Ty m) (L' := w.heap.size) (SlT.next (carry_Ty m) P4.out KL) (by omega)
          refine .inl ⟨⟨a0, a1, a2, a3, a4⟩, r4, _, rfl, ⟨X0.out, X1.out, X2.out, X3.out, X4.out⟩, ?_, ⟨[.int .i64 a0, .string a1, .string a2, .slice y3 y3l y3c, .slice y4 y4l y4c], rfl, ?_⟩, (RdAt.sets (RdAt.sets R4.out (b := g) (by omega) 4 [.slice y4 y4l y4c]) (b := w.heap.size) (by omega) 0 [.int .i64 a0, .string a1, .string a2, .slice y3 y3l y3c, .slice y4 y4l y4c]), (Kp.sets (Kp.sets K4.out (b := g) (fun _ => by omega) 4 [.slice y4 y4l y4c]) (b := w.heap.size) (fun _ => by omega) 0 [.int .i64 a0, .string a1, .string a2, .slice y3 y3l y3c, .slice y4 y4l y4c])⟩
          · rw [HR0.out, HR1.out, HR2.out, HR3.out, HR4.out, encTy_mk]; simp only [List.append_assoc]
          · exact ⟨_, _, rfl, X0.out, X1.out, X2.out, P3', P4'⟩
          )
        clear P3
        clear P4
        have fR0 := cR 0
        have fR1 := cR 1
        have fR2 := cR 2
        have fR3 := cR 3
        have fR4 := cR 4
        simp only [List.getElem?_cons_zero, List.getElem?_cons_succ] at fR0 fR1 fR2 fR3 fR4
        go_wp2_with fail
        try simp only [Exit.inBlock, Exit.then]
        refine bodyPost_ret (v := .agg #[.int .i64 a0, .string a1, .string a2, .slice y3 y3l y3c, .slice y4 y4l y4c]) (by simp [results, Try.results91, go_sem, fR0, fR1, fR2, fR3, fR4]) rfl FIN.out
theorem rtyp_any : ∀ (m : Nat) {B : Nat} {W w : World} {q : Nat} {r : List UInt8} {k : Int}, k + m = 101 → 0 ≤ k → RdAt B W w q r k →
    Calls Try.prog 66 #[.pointer (some ⟨q, 0, none⟩)] w (Rp B W q r k (OkTy m) encTy (VT (fun T w => TyT T w m)) w)
  | 0, B, W, w, q, r, k, hk, h0, h => rtyp_of (m := 0) (fun bx wz hbx hb hz => within_deep_Ty (by omega) hz) h
  | m + 1, B, W, w, q, r, k, hk, h0, h => rtyp_of (m := m + 1) (fun bx wz hbx hb hz => within_Ty h0 (by omega) hbx (fun wy hy hc => rtyp_in (fun wz r hz => rtyp_any m (by omega) (by omega) hz) hbx hc hy) hb hz) h
end Go.Proofs.Ytpopgnengimieaa
