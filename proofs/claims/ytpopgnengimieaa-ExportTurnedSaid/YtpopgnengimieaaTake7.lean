/- Reading a unit's bytes: expressions, statements. -/
import Derived.Test.YtpopgnengimieaaTake6
namespace Go.Proofs.Ytpopgnengimieaa
open Go.RowKit
set_option linter.unusedSimpArgs false
set_option linter.unusedVariables false
set_option maxRecDepth 100000 in
set_option maxHeartbeats 2000000 in
theorem rexpr_in {B : Nat} {W w : World} {q : Nat} {r : List UInt8} {k : Int} {m : Nat} (one : ∀ (w : World) (r : List UInt8), RdAt B W w q r k → Calls Try.prog 96 #[.pointer (some ⟨q, 0, none⟩)] w (Rp B W q r k (OkEx m) encEx (VT (fun T w => ExT T w m)) w)) {bx : Nat} (hbx : bx ≠ q) (hb : w.cell? ⟨bx, 0, none⟩ = some (.pointer (some ⟨q, 0, none⟩))) (h : RdAt B W w q r k) :
    Calls Try.prog 107 #[.pointer (some ⟨bx, 0, none⟩)] w (Rp B W q r k (OkEx (m + 1)) encEx (VT (fun T w => ExT T w (m + 1))) w) := by
  have hq := h.lt
  have hB := h.2.1
  have G := Lib.hid h
  have K := Lib.hid (Kp.refl (fun b => b = q) w)
  have hbl : bx < w.heap.size := World.block_lt_of_cell? w _ hb
  have BX := Lib.hid hb
  clear hb
  have ONE := Lib.hid one
  clear one
  clear h
  go_enter Try.func107, Try.ntmps107
  have C0 := Lib.hid (fun (wz : World) (hz : RdAt B W wz q r k) => rnum hz)
  have cbx : (w.alloc (.cells #[.int .i64 0, .int .i64 0, .string ⟨#[]⟩, .slice none 0 0] 132)).cell? ⟨bx, 0, none⟩ = some (.pointer (some ⟨q, 0, none⟩)) := ((Nw.new w (.cells #[.int .i64 0, .int .i64 0, .string ⟨#[]⟩, .slice none 0 0] 132)).keeps BX.out)
  go_wp2_with fail
  refine (C0.out _ (RdAt.alloc G.out _)).mono ?_
  rintro e0 w0 (⟨a0, r0, _, rfl, hx0, hr0, rfl, hrd0, hk0⟩ | ⟨rfl, hno, hk0⟩)
  rotate_left
  · have NO := Lib.hid (show No (OkEx (m + 1)) encEx r by
      intro z s hz e
      obtain ⟨c0, c1, c2, c3⟩ := z
      obtain ⟨g0, g1, g2, g3⟩ := hz
      simp only [encEx_mk, List.append_assoc] at e
      exact hno _ _ g0 e
      )
    have KF := Lib.hid (Kp.thn (Kp.alloc K.out _) hk0)
    clear hno hk0 C0
    unfold PAN
    go_wp2_with fail
    exact ⟨rfl, .inr ⟨rfl, NO.out, KF.out⟩⟩
  · clear C0
    have R0 := Lib.hid hrd0
    have K0 := Lib.hid (Kp.thn (Kp.alloc K.out _) hk0)
    have X0 := Lib.hid hx0
    have HR0 := Lib.hid hr0
    have s0 : w.heap.size + 1 ≤ w0.heap.size := by
      have := hk0.size
      try simp only [size_sets, size_alloc] at this
      omega
    have DR0 := Lib.hid (show Blk w0 w.heap.size [.int .i64 0, .int .i64 0, .string ⟨#[]⟩, .slice none 0 0] 132 from Blk.kp (Blk.new w [.int .i64 0, .int .i64 0, .string ⟨#[]⟩, .slice none 0 0] 132) hk0 (fun e => by omega))
    clear cbx
    have BX0 := Lib.hid (show w0.cell? ⟨bx, 0, none⟩ = some (.pointer (some ⟨q, 0, none⟩)) from Kp.keeps K0.out BX.out hbx)
    clear hrd0 hk0 hx0 hr0
    have cR := DR0.out.cell
    have zR := DR0.out.frozen
    have C1 := Lib.hid (fun (wz : World) (hz : RdAt B W wz q r0 k) => rnum hz)
    have cbx : (w0.alloc (.cells #[.int .i64 a0, .int .i64 0, .string ⟨#[]⟩, .slice none 0 0] 132)).cell? ⟨bx, 0, none⟩ = some (.pointer (some ⟨q, 0, none⟩)) := ((Nw.new w0 (.cells #[.int .i64 a0, .int .i64 0, .string ⟨#[]⟩, .slice none 0 0] 132)).keeps BX0.out)
    go_wp2_with fail
    refine (C1.out _ (RdAt.alloc R0.out _)).mono ?_
    rintro e1 w1 (⟨a1, r1, _, rfl, hx1, hr1, rfl, hrd1, hk1⟩ | ⟨rfl, hno, hk1⟩)
    rotate_left
    · have NO := Lib.hid (show No (OkEx (m + 1)) encEx r by
        intro z s hz e
        obtain ⟨c0, c1, c2, c3⟩ := z
        obtain ⟨g0, g1, g2, g3⟩ := hz
        simp only [encEx_mk, List.append_assoc] at e
        rw [HR0.out] at e
        try simp only [List.append_assoc] at e
        obtain ⟨_, e⟩ := le8_pi X0.out g0 e
        exact hno _ _ g1 e
        )
      have KF := Lib.hid (Kp.thn (Kp.alloc K0.out _) hk1)
      clear hno hk1 C1
      unfold PAN
      go_wp2_with fail
      exact ⟨rfl, .inr ⟨rfl, NO.out, KF.out⟩⟩
    · clear C1
      have R1 := Lib.hid hrd1
      have K1 := Lib.hid (Kp.thn (Kp.alloc K0.out _) hk1)
      have X1 := Lib.hid hx1
      have HR1 := Lib.hid hr1
      have s1 : w0.heap.size + 1 ≤ w1.heap.size := by
        have := hk1.size
        try simp only [size_sets, size_alloc] at this
        omega
      have DR1 := Lib.hid (show Blk w1 w.heap.size [.int .i64 0, .int .i64 0, .string ⟨#[]⟩, .slice none 0 0] 132 from Blk.kp (Blk.alloc DR0.out _) hk1 (fun e => by omega))
      have DD1 := Lib.hid (show Blk w1 w0.heap.size [.int .i64 a0, .int .i64 0, .string ⟨#[]⟩, .slice none 0 0] 132 from Blk.kp (Blk.new w0 [.int .i64 a0, .int .i64 0, .string ⟨#[]⟩, .slice none 0 0] 132) hk1 (fun e => by omega))
      clear cR zR cbx
      have BX1 := Lib.hid (show w1.cell? ⟨bx, 0, none⟩ = some (.pointer (some ⟨q, 0, none⟩)) from Kp.keeps K1.out BX.out hbx)
      clear hrd1 hk1 hx1 hr1
      have cR := DR1.out.cell
      have zR := DR1.out.frozen
      have cD := DD1.out.cell
      have zD := DD1.out.frozen
      have C2 := Lib.hid (fun (wz : World) (hz : RdAt B W wz q r1 k) => rtext hz)
      have cbx : (w1.setCell ⟨w0.heap.size, 1, none⟩ (.int .i64 a1)).cell? ⟨bx, 0, none⟩ = some (.pointer (some ⟨q, 0, none⟩)) := ((World.cell?_setCell_far w1 ⟨w0.heap.size, 1, none⟩ ⟨bx, 0, none⟩ (.int .i64 a1) (by simp only; omega)).trans BX1.out)
      go_wp2_with fail
      refine (C2.out _ (RdAt.sets R1.out (b := w0.heap.size) (by omega) 1 [.int .i64 a1])).mono ?_
      rintro e2 w2 (⟨a2, r2, _, rfl, hx2, hr2, rfl, hrd2, hk2⟩ | ⟨rfl, hno, hk2⟩)
      rotate_left
      · have NO := Lib.hid (show No (OkEx (m + 1)) encEx r by
          intro z s hz e
          obtain ⟨c0, c1, c2, c3⟩ := z
          obtain ⟨g0, g1, g2, g3⟩ := hz
          simp only [encEx_mk, List.append_assoc] at e
          rw [HR0.out] at e
          rw [HR1.out] at e
          try simp only [List.append_assoc] at e
          obtain ⟨_, e⟩ := le8_pi X0.out g0 e
          obtain ⟨_, e⟩ := le8_pi X1.out g1 e
          exact hno _ _ g2 e
          )
        have KF := Lib.hid (Kp.thn (Kp.sets K1.out (b := w0.heap.size) (fun _ => by omega) 1 [.int .i64 a1]) hk2)
        clear hno hk2 C2
        unfold PAN
        go_wp2_with fail
        exact ⟨rfl, .inr ⟨rfl, NO.out, KF.out⟩⟩
      · clear C2
        have R2 := Lib.hid hrd2
        have K2 := Lib.hid (Kp.thn (Kp.sets K1.out (b := w0.heap.size) (fun _ => by omega) 1 [.int .i64 a1]) hk2)
        have X2 := Lib.hid hx2
        have HR2 := Lib.hid hr2
        have s2 : w0.heap.size + 1 ≤ w2.heap.size := by
          have := hk2.size
          try simp only [size_sets, size_alloc] at this
          omega
        have DR2 := Lib.hid (show Blk w2 w.heap.size [.int .i64 0, .int .i64 0, .string ⟨#[]⟩, .slice none 0 0] 132 from Blk.kp (Blk.setsO DR1.out (b' := w0.heap.size) (by omega) 1 [.int .i64 a1]) hk2 (fun e => by omega))
        have DD2 := Lib.hid (show Blk w2 w0.heap.size [.int .i64 a0, .int .i64 a1, .string ⟨#[]⟩, .slice none 0 0] 132 from Blk.kp (Blk.sets DD1.out 1 [.int .i64 a1]) hk2 (fun e => by omega))
        clear cR zR cD zD cbx
        have BX2 := Lib.hid (show w2.cell? ⟨bx, 0, none⟩ = some (.pointer (some ⟨q, 0, none⟩)) from Kp.keeps K2.out BX.out hbx)
        clear hrd2 hk2 hx2 hr2
        have cR := DR2.out.cell
        have zR := DR2.out.frozen
        have cD := DD2.out.cell
        have zD := DD2.out.frozen
        have C3 := Lib.hid (fun (wz : World) (hz : RdAt B W wz q r2 k) => takes_Ex ONE.out wz r2 hz)
        have cbx : (w2.setCell ⟨w0.heap.size, 2, none⟩ (.string a2)).cell? ⟨bx, 0, none⟩ = some (.pointer (some ⟨q, 0, none⟩)) := ((World.cell?_setCell_far w2 ⟨w0.heap.size, 2, none⟩ ⟨bx, 0, none⟩ (.string a2) (by simp only; omega)).trans BX2.out)
        go_wp2_with fail
        refine (C3.out _ (RdAt.sets R2.out (b := w0.heap.size) (by omega) 2 [.string a2])).mono ?_
        rintro e3 w3 (⟨a3, r3, v3, rfl, hx3, hr3, hv3, hrd3, hk3⟩ | ⟨rfl, hno, hk3⟩)
        rotate_left
        · have NO := Lib.hid (show No (OkEx (m + 1)) encEx r by
            intro z s hz e
            obtain ⟨c0, c1, c2, c3⟩ := z
            obtain ⟨g0, g1, g2, g3⟩ := hz
            simp only [encEx_mk, List.append_assoc] at e
            rw [HR0.out] at e
            rw [HR1.out] at e
            rw [HR2.out] at e
            try simp only [List.append_assoc] at e
            obtain ⟨_, e⟩ := le8_pi X0.out g0 e
            obtain ⟨_, e⟩ := le8_pi X1.out g1 e
            obtain ⟨_, e⟩ := encS_pi X2.out g2 e
            exact hno _ _ g3 e
            )
          have KF := Lib.hid (Kp.thn (Kp.sets K2.out (b := w0.heap.size) (fun _ => by omega) 2 [.string a2]) hk3)
          clear hno hk3 C3
          unfold PAN
          go_wp2_with fail
          exact ⟨rfl, .inr ⟨rfl, NO.out, KF.out⟩⟩
        · clear C3
          have R3 := Lib.hid hrd3
          have K3 := Lib.hid (Kp.thn (Kp.sets K2.out (b := w0.heap.size) (fun _ => by omega) 2 [.string a2]) hk3)
          have X3 := Lib.hid hx3
          have HR3 := Lib.hid hr3
          have s3 : w0.heap.size + 1 ≤ w3.heap.size := by
            have := hk3.size
            try simp only [size_sets, size_alloc] at this
            omega
          have DR3 := Lib.hid (show Blk w3 w.heap.size [.int .i64 0, .int .i64 0, .string ⟨#[]⟩, .slice none 0 0] 132 from Blk.kp (Blk.setsO DR2.out (b' := w0.heap.size) (by omega) 2 [.string a2]) hk3 (fun e => by omega))
          have DD3 := Lib.hid (show Blk w3 w0.heap.size [.int .i64 a0, .int .i64 a1, .string a2, .slice none 0 0] 132 from Blk.kp (Blk.sets DD2.out 2 [.string a2]) hk3 (fun e => by omega))
          clear cR zR cD zD cbx
          have BX3 := Lib.hid (show w3.cell? ⟨bx, 0, none⟩ = some (.pointer (some ⟨q, 0, none⟩)) from Kp.keeps K3.out BX.out hbx)
          have P3 := Lib.hid (SlT.lo (carry_Ex m) (L' := w0.heap.size + 1) hv3 (by (try simp only [size_sets, size_alloc]); omega))
          obtain ⟨y3, y3l, y3c, rfl⟩ := SlT.slice hv3
          clear hv3
          clear hrd3 hk3 hx3 hr3
          have cR := DR3.out.cell
          have zR := DR3.out.frozen
          have cD := DD3.out.cell
          have zD := DD3.out.frozen
          have FIN := Lib.hid (show Rp B W q r k (OkEx (m + 1)) encEx (VT (fun T w => ExT T w (m + 1))) w (.returned (.agg #[.int .i64 a0, .int .i64 a1, .string a2, .slice y3 y3l y3c])) (lays (lays w3 (w0.heap.size) 3 [.slice y3 y3l y3c]) (w.heap.size) 0 [.int .i64 a0, .int .i64 a1, .string a2, .slice y3 y3l y3c]) by
            have KL := (Kp.sets (Kp.sets (Kp.refl (fun b => b < w0.heap.size + 1) w3) (b := w0.heap.size) (fun _ => by omega) 3 [.slice y3 y3l y3c]) (b := w.heap.size) (fun _ => by omega) 0 [.int .i64 a0, .int .i64 a1, .string a2, .slice y3 y3l y3c])
            have P3' := SlT.lo (carry_Ex m) (L' := w.heap.size) (SlT.next (carry_Ex m) P3.out KL) (by omega)
            refine .inl ⟨⟨a0, a1, a2, a3⟩, r3, _, rfl, ⟨X0.out, X1.out, X2.out, X3.out⟩, ?_, ⟨[.int .i64 a0, .int .i64 a1, .string a2, .slice y3 y3l y3c], rfl, ?_⟩, (RdAt.sets (RdAt.sets R3.out (b := w0.heap.size) (by omega) 3 [.slice y3 y3l y3c]) (b := w.heap.size) (by omega) 0 [.int .i64 a0, .int .i64 a1, .string a2, .slice y3 y3l y3c]), (Kp.sets (Kp.sets K3.out (b := w0.heap.size) (fun _ => by omega) 3 [.slice y3 y3l y3c]) (b := w.heap.size) (fun _ => by omega) 0 [.int .i64 a0, .int .i64 a1, .string a2, .slice y3 y3l y3c])⟩
            · rw [HR0.out, HR1.out, HR2.out, HR3.out, encEx_mk]; simp only [List.append_assoc]
            · exact ⟨_, rfl, X0.out, X1.out, X2.out, P3'⟩
            )
          clear P3
          have fR0 := cR 0
          have fR1 := cR 1
          have fR2 := cR 2
          have fR3 := cR 3
          simp only [List.getElem?_cons_zero, List.getElem?_cons_succ] at fR0 fR1 fR2 fR3
          go_wp2_with fail
          try simp only [Exit.inBlock, Exit.then]
          refine bodyPost_ret (v := .agg #[.int .i64 a0, .int .i64 a1, .string a2, .slice y3 y3l y3c]) (by simp [results, Try.results107, go_sem, fR0, fR1, fR2, fR3]) rfl FIN.out
theorem rexpr_any : ∀ (m : Nat) {B : Nat} {W w : World} {q : Nat} {r : List UInt8} {k : Int}, k + m = 101 → 0 ≤ k → RdAt B W w q r k →
    Calls Try.prog 96 #[.pointer (some ⟨q, 0, none⟩)] w (Rp B W q r k (OkEx m) encEx (VT (fun T w => ExT T w m)) w)
  | 0, B, W, w, q, r, k, hk, h0, h => rexpr_of (m := 0) (fun bx wz hbx hb hz => within_deep_Ex (by omega) hz) h
  | m + 1, B, W, w, q, r, k, hk, h0, h => rexpr_of (m := m + 1) (fun bx wz hbx hb hz => within_Ex h0 (by omega) hbx (fun wy hy hc => rexpr_in (fun wz r hz => rexpr_any m (by omega) (by omega) hz) hbx hc hy) hb hz) h
set_option maxRecDepth 100000 in
set_option maxHeartbeats 2000000 in
theorem rstat_in {B : Nat} {W w : World} {q : Nat} {r : List UInt8} {k : Int} {m : Nat} (onex : ∀ (w : World) (r : List UInt8), RdAt B W w q r k → Calls Try.prog 96 #[.pointer (some ⟨q, 0, none⟩)] w (Rp B W q r k (OkEx m) encEx (VT (fun T w => ExT T w m)) w)) (one : ∀ (w : World) (r : List UInt8), RdAt B W w q r k → Calls Try.prog 71 #[.pointer (some ⟨q, 0, none⟩)] w (Rp B W q r k (OkSt m) encSt (VT (fun T w => StT T w m)) w)) {bx : Nat} (hbx : bx ≠ q) (hb : w.cell? ⟨bx, 0, none⟩ = some (.pointer (some ⟨q, 0, none⟩))) (h : RdAt B W w q r k) :
    Calls Try.prog 94 #[.pointer (some ⟨bx, 0, none⟩)] w (Rp B W q r k (OkSt (m + 1)) encSt (VT (fun T w => StT T w (m + 1))) w) := by
  have hq := h.lt
  have hB := h.2.1
  have G := Lib.hid h
  have K := Lib.hid (Kp.refl (fun b => b = q) w)
  have hbl : bx < w.heap.size := World.block_lt_of_cell? w _ hb
  have BX := Lib.hid hb
  clear hb
  have ONEX := Lib.hid onex
  clear onex
  have ONE := Lib.hid one
  clear one
  clear h
  go_enter Try.func94, Try.ntmps94
  have C0 := Lib.hid (fun (wz : World) (hz : RdAt B W wz q r k) => rnum hz)
  have cbx : (w.alloc (.cells #[.int .i64 0, .int .i64 0, .slice none 0 0, .slice none 0 0, .slice none 0 0] 101)).cell? ⟨bx, 0, none⟩ = some (.pointer (some ⟨q, 0, none⟩)) := ((Nw.new w (.cells #[.int .i64 0, .int .i64 0, .slice none 0 0, .slice none 0 0, .slice none 0 0] 101)).keeps BX.out)
  go_wp2_with fail
  refine (C0.out _ (RdAt.alloc G.out _)).mono ?_
  rintro e0 w0 (⟨a0, r0, _, rfl, hx0, hr0, rfl, hrd0, hk0⟩ | ⟨rfl, hno, hk0⟩)
  rotate_left
  · have NO := Lib.hid (show No (OkSt (m + 1)) encSt r by
      intro z s hz e
      obtain ⟨c0, c1, c2, c3, c4⟩ := z
      obtain ⟨g0, g1, g2, g3, g4⟩ := hz
      simp only [encSt_mk, List.append_assoc] at e
      exact hno _ _ g0 e
      )
    have KF := Lib.hid (Kp.thn (Kp.alloc K.out _) hk0)
    clear hno hk0 C0
    unfold PAN
    go_wp2_with fail
    exact ⟨rfl, .inr ⟨rfl, NO.out, KF.out⟩⟩
  · clear C0
    have R0 := Lib.hid hrd0
    have K0 := Lib.hid (Kp.thn (Kp.alloc K.out _) hk0)
    have X0 := Lib.hid hx0
    have HR0 := Lib.hid hr0
    have s0 : w.heap.size + 1 ≤ w0.heap.size := by
      have := hk0.size
      try simp only [size_sets, size_alloc] at this
      omega
    have DR0 := Lib.hid (show Blk w0 w.heap.size [.int .i64 0, .int .i64 0, .slice none 0 0, .slice none 0 0, .slice none 0 0] 101 from Blk.kp (Blk.new w [.int .i64 0, .int .i64 0, .slice none 0 0, .slice none 0 0, .slice none 0 0] 101) hk0 (fun e => by omega))
    clear cbx
    have BX0 := Lib.hid (show w0.cell? ⟨bx, 0, none⟩ = some (.pointer (some ⟨q, 0, none⟩)) from Kp.keeps K0.out BX.out hbx)
    clear hrd0 hk0 hx0 hr0
    have cR := DR0.out.cell
    have zR := DR0.out.frozen
    have C1 := Lib.hid (fun (wz : World) (hz : RdAt B W wz q r0 k) => rnum hz)
    have cbx : (w0.alloc (.cells #[.int .i64 a0, .int .i64 0, .slice none 0 0, .slice none 0 0, .slice none 0 0] 101)).cell? ⟨bx, 0, none⟩ = some (.pointer (some ⟨q, 0, none⟩)) := ((Nw.new w0 (.cells #[.int .i64 a0, .int .i64 0, .slice none 0 0, .slice none 0 0, .slice none 0 0] 101)).keeps BX0.out)
    go_wp2_with fail
    refine (C1.out _ (RdAt.alloc R0.out _)).mono ?_
    rintro e1 w1 (⟨a1, r1, _, rfl, hx1, hr1, rfl, hrd1, hk1⟩ | ⟨rfl, hno, hk1⟩)
    rotate_left
    · have NO := Lib.hid (show No (OkSt (m + 1)) encSt r by
        intro z s hz e
        obtain ⟨c0, c1, c2, c3, c4⟩ := z
        obtain ⟨g0, g1, g2, g3, g4⟩ := hz
        simp only [encSt_mk, List.append_assoc] at e
        rw [HR0.out] at e
        try simp only [List.append_assoc] at e
        obtain ⟨_, e⟩ := le8_pi X0.out g0 e
        exact hno _ _ g1 e
        )
      have KF := Lib.hid (Kp.thn (Kp.alloc K0.out _) hk1)
      clear hno hk1 C1
      unfold PAN
      go_wp2_with fail
      exact ⟨rfl, .inr ⟨rfl, NO.out, KF.out⟩⟩
    · clear C1
      have R1 := Lib.hid hrd1
      have K1 := Lib.hid (Kp.thn (Kp.alloc K0.out _) hk1)
      have X1 := Lib.hid hx1
      have HR1 := Lib.hid hr1
      have s1 : w0.heap.size + 1 ≤ w1.heap.size := by
        have := hk1.size
        try simp only [size_sets, size_alloc] at this
        omega
      have DR1 := Lib.hid (show Blk w1 w.heap.size [.int .i64 0, .int .i64 0, .slice none 0 0, .slice none 0 0, .slice none 0 0] 101 from Blk.kp (Blk.alloc DR0.out _) hk1 (fun e => by omega))
      have DD1 := Lib.hid (show Blk w1 w0.heap.size [.int .i64 a0, .int .i64 0, .slice none 0 0, .slice none 0 0, .slice none 0 0] 101 from Blk.kp (Blk.new w0 [.int .i64 a0, .int .i64 0, .slice none 0 0, .slice none 0 0, .slice none 0 0] 101) hk1 (fun e => by omega))
      clear cR zR cbx
      have BX1 := Lib.hid (show w1.cell? ⟨bx, 0, none⟩ = some (.pointer (some ⟨q, 0, none⟩)) from Kp.keeps K1.out BX.out hbx)
      clear hrd1 hk1 hx1 hr1
      have cR := DR1.out.cell
      have zR := DR1.out.frozen
      have cD := DD1.out.cell
      have zD := DD1.out.frozen
      have C2 := Lib.hid (fun (wz : World) (hz : RdAt B W wz q r1 k) => takes_Ex ONEX.out wz r1 hz)
      have cbx : (w1.setCell ⟨w0.heap.size, 1, none⟩ (.int .i64 a1)).cell? ⟨bx, 0, none⟩ = some (.pointer (some ⟨q, 0, none⟩)) := ((World.cell?_setCell_far w1 ⟨w0.heap.size, 1, none⟩ ⟨bx, 0, none⟩ (.int .i64 a1) (by simp only; omega)).trans BX1.out)
      go_wp2_with fail
      refine (C2.out _ (RdAt.sets R1.out (b := w0.heap.size) (by omega) 1 [.int .i64 a1])).mono ?_
      rintro e2 w2 (⟨a2, r2, v2, rfl, hx2, hr2, hv2, hrd2, hk2⟩ | ⟨rfl, hno, hk2⟩)
      rotate_left
      · have NO := Lib.hid (show No (OkSt (m + 1)) encSt r by
          intro z s hz e
          obtain ⟨c0, c1, c2, c3, c4⟩ := z
          obtain ⟨g0, g1, g2, g3, g4⟩ := hz
          simp only [encSt_mk, List.append_assoc] at e
          rw [HR0.out] at e
          rw [HR1.out] at e
          try simp only [List.append_assoc] at e
          obtain ⟨_, e⟩ := le8_pi X0.out g0 e
          obtain ⟨_, e⟩ := le8_pi X1.out g1 e
          exact hno _ _ g2 e
          )
        have KF := Lib.hid (Kp.thn (Kp.sets K1.out (b := w0.heap.size) (fun _ => by omega) 1 [.int .i64 a1]) hk2)
        clear hno hk2 C2
        unfold PAN
        go_wp2_with fail
        exact ⟨rfl, .inr ⟨rfl, NO.out, KF.out⟩⟩
      · clear C2
        have R2 := Lib.hid hrd2
        have K2 := Lib.hid (Kp.thn (Kp.sets K1.out (b := w0.heap.size) (fun _ => by omega) 1 [.int .i64 a1]) hk2)
        have X2 := Lib.hid hx2
        have HR2 := Lib.hid hr2
        have s2 : w0.heap.size + 1 ≤ w2.heap.size := by
          have := hk2.size
          try simp only [size_sets, size_alloc] at this
          omega
        have DR2 := Lib.hid (show Blk w2 w.heap.size [.int .i64 0, .int .i64 0, .slice none 0 0, .slice none 0 0, .slice none 0 0] 101 from Blk.kp (Blk.setsO DR1.out (b' := w0.heap.size) (by omega) 1 [.int .i64 a1]) hk2 (fun e => by omega))
        have DD2 := Lib.hid (show Blk w2 w0.heap.size [.int .i64 a0, .int .i64 a1, .slice none 0 0, .slice none 0 0, .slice none 0 0] 101 from Blk.kp (Blk.sets DD1.out 1 [.int .i64 a1]) hk2 (fun e => by omega))
        clear cR zR cD zD cbx
        have BX2 := Lib.hid (show w2.cell? ⟨bx, 0, none⟩ = some (.pointer (some ⟨q, 0, none⟩)) from Kp.keeps K2.out BX.out hbx)
        have P2 := Lib.hid (SlT.lo (carry_Ex m) (L' := w0.heap.size + 1) hv2 (by (try simp only [size_sets, size_alloc]); omega))
        obtain ⟨y2, y2l, y2c, rfl⟩ := SlT.slice hv2
        clear hv2
        clear hrd2 hk2 hx2 hr2
        have cR := DR2.out.cell
        have zR := DR2.out.frozen
        have cD := DD2.out.cell
        have zD := DD2.out.frozen
        have C3 := Lib.hid (fun (wz : World) (hz : RdAt B W wz q r2 k) => takes_St ONE.out wz r2 hz)
        have cbx : (w2.setCell ⟨w0.heap.size, 2, none⟩ (.slice y2 y2l y2c)).cell? ⟨bx, 0, none⟩ = some (.pointer (some ⟨q, 0, none⟩)) := ((World.cell?_setCell_far w2 ⟨w0.heap.size, 2, none⟩ ⟨bx, 0, none⟩ (.slice y2 y2l y2c) (by simp only; omega)).trans BX2.out)
        go_wp2_with fail
        refine (C3.out _ (RdAt.sets R2.out (b := w0.heap.size) (by omega) 2 [.slice y2 y2l y2c])).mono ?_
        rintro e3 w3 (⟨a3, r3, v3, rfl, hx3, hr3, hv3, hrd3, hk3⟩ | ⟨rfl, hno, hk3⟩)
        rotate_left
        · have NO := Lib.hid (show No (OkSt (m + 1)) encSt r by
            intro z s hz e
            obtain ⟨c0, c1, c2, c3, c4⟩ := z
            obtain ⟨g0, g1, g2, g3, g4⟩ := hz
            simp only [encSt_mk, List.append_assoc] at e
            rw [HR0.out] at e
            rw [HR1.out] at e
            rw [HR2.out] at e
            try simp only [List.append_assoc] at e
            obtain ⟨_, e⟩ := le8_pi X0.out g0 e
            obtain ⟨_, e⟩ := le8_pi X1.out g1 e
            obtain ⟨_, e⟩ := list_pi (pi_OkEx m) _ _ X2.out g2 _ _ e
            exact hno _ _ g3 e
            )
          have KF := Lib.hid (Kp.thn (Kp.sets K2.out (b := w0.heap.size) (fun _ => by omega) 2 [.slice y2 y2l y2c]) hk3)
          clear hno hk3 C3
          unfold PAN
          go_wp2_with fail
          exact ⟨rfl, .inr ⟨rfl, NO.out, KF.out⟩⟩
        · clear C3
          have R3 := Lib.hid hrd3
          have K3 := Lib.hid (Kp.thn (Kp.sets K2.out (b := w0.heap.size) (fun _ => by omega) 2 [.slice y2 y2l y2c]) hk3)
          have X3 := Lib.hid hx3
          have HR3 := Lib.hid hr3
          have s3 : w0.heap.size + 1 ≤ w3.heap.size := by
            have := hk3.size
            try simp only [size_sets, size_alloc] at this
            omega
          have KL := (Kp.trans (Kp.sets (Kp.refl (fun b => b < w0.heap.size + 1) w2) (b := w0.heap.size) (fun _ => by omega) 2 [.slice y2 y2l y2c]) hk3 (fun x _ e => by omega))
          have P2' := Lib.hid (SlT.next (carry_Ex m) P2.out KL)
          clear P2
          have P2 := Lib.hid P2'.out
          clear P2'
          clear KL
          have DR3 := Lib.hid (show Blk w3 w.heap.size [.int .i64 0, .int .i64 0, .slice none 0 0, .slice none 0 0, .slice none 0 0] 101 from Blk.kp (Blk.setsO DR2.out (b' := w0.heap.size) (by omega) 2 [.slice y2 y2l y2c]) hk3 (fun e => by omega))
          have DD3 := Lib.hid (show Blk w3 w0.heap.size [.int .i64 a0, .int .i64 a1, .slice y2 y2l y2c, .slice none 0 0, .slice none 0 0] 101 from Blk.kp (Blk.sets DD2.out 2 [.slice y2 y2l y2c]) hk3 (fun e => by omega))
          clear cR zR cD zD cbx
          have BX3 := Lib.hid (show w3.cell? ⟨bx, 0, none⟩ = some (.pointer (some ⟨q, 0, none⟩)) from Kp.keeps K3.out BX.out hbx)
          have P3 := Lib.hid (SlT.lo (carry_St m) (L' := w0.heap.size + 1) hv3 (by (try simp only [size_sets, size_alloc]); omega))
          obtain ⟨y3, y3l, y3c, rfl⟩ := SlT.slice hv3
          clear hv3
          clear hrd3 hk3 hx3 hr3
          have cR := DR3.out.cell
          have zR := DR3.out.frozen
          have cD := DD3.out.cell
          have zD := DD3.out.frozen
          have C4 := Lib.hid (fun (wz : World) (hz : RdAt B W wz q r3 k) => takes_St ONE.out wz r3 hz)
          have cbx : (w3.setCell ⟨w0.heap.size, 3, none⟩ (.slice y3 y3l y3c)).cell? ⟨bx, 0, none⟩ = some (.pointer (some ⟨q, 0, none⟩)) := ((World.cell?_setCell_far w3 ⟨w0.heap.size, 3, none⟩ ⟨bx, 0, none⟩ (.slice y3 y3l y3c) (by simp only; omega)).trans BX3.out)
          go_wp2_with fail
          refine (C4.out _ (RdAt.sets R3.out (b := w0.heap.size) (by omega) 3 [.slice y3 y3l y3c])).mono ?_
          rintro e4 w4 (⟨a4, r4, v4, rfl, hx4, hr4, hv4, hrd4, hk4⟩ | ⟨rfl, hno, hk4⟩)
          rotate_left
          · have NO := Lib.hid (show No (OkSt (m + 1)) encSt r by
              intro z s hz e
              obtain ⟨c0, c1, c2, c3, c4⟩ := z
              obtain ⟨g0, g1, g2, g3, g4⟩ := hz
              simp only [encSt_mk, List.append_assoc] at e
              rw [HR0.out] at e
              rw [HR1.out] at e
              rw [HR2.out] at e
              rw [HR3.out] at e
              try simp only [List.append_assoc] at e
              obtain ⟨_, e⟩ := le8_pi X0.out g0 e
              obtain ⟨_, e⟩ := le8_pi X1.out g1 e
              obtain ⟨_, e⟩ := list_pi (pi_OkEx m) _ _ X2.out g2 _ _ e
              obtain ⟨_, e⟩ := list_pi (pi_OkSt m) _ _ X3.out g3 _ _ e
              exact hno _ _ g4 e
              )
            have KF := Lib.hid (Kp.thn (Kp.sets K3.out (b := w0.heap.size) (fun _ => by omega) 3 [.slice y3 y3l y3c]) hk4)
            clear hno hk4 C4
            unfold PAN
            go_wp2_with fail
            exact ⟨rfl, .inr ⟨rfl, NO.out, KF.out⟩⟩
          · clear C4
            have R4 := Lib.hid hrd4
            have K4 := Lib.hid (Kp.thn (Kp.sets K3.out (b := w0.heap.size) (fun _ => by omega) 3 [.slice y3 y3l y3c]) hk4)
            have X4 := Lib.hid hx4
            have HR4 := Lib.hid hr4
            have s4 : w0.heap.size + 1 ≤ w4.heap.size := by
              have := hk4.size
              try simp only [size_sets, size_alloc] at this
              omega
            have KL := (Kp.trans (Kp.sets (Kp.refl (fun b => b < w0.heap.size + 1) w3) (b := w0.heap.size) (fun _ => by omega) 3 [.slice y3 y3l y3c]) hk4 (fun x _ e => by omega))
            have P2' := Lib.hid (SlT.next (carry_Ex m) P2.out KL)
            clear P2
            have P2 := Lib.hid P2'.out
            clear P2'
            have P3' := Lib.hid (SlT.next (carry_St m) P3.out KL)
            clear P3
            have P3 := Lib.hid P3'.out
            clear P3'
            clear KL
            have DR4 := Lib.hid (show Blk w4 w.heap.size [.int .i64 0, .int .i64 0, .slice none 0 0, .slice none 0 0, .slice none 0 0] 101 from Blk.kp (Blk.setsO DR3.out (b' := w0.heap.size) (by omega) 3 [.slice y3 y3l y3c]) hk4 (fun e => by omega))
            have DD4 := Lib.hid (show Blk w4 w0.heap.size [.int .i64 a0, .int .i64 a1, .slice y2 y2l y2c, .slice y3 y3l y3c, .slice none 0 0] 101 from Blk.kp (Blk.sets DD3.out 3 [.slice y3 y3l y3c]) hk4 (fun e => by omega))
            clear cR zR cD zD cbx
            have BX4 := Lib.hid (show w4.cell? ⟨bx, 0, none⟩ = some (.pointer (some ⟨q, 0, none⟩)) from Kp.keeps K4.out BX.out hbx)
            have P4 := Lib.hid (SlT.lo (carry_St m) (L' := w0.heap.size + 1) hv4 (by (try simp only [size_sets, size_alloc]); omega))
            obtain ⟨y4, y4l, y4c, rfl⟩ := SlT.slice hv4
            clear hv4
            clear hrd4 hk4 hx4 hr4
            have cR := DR4.out.cell
            have zR := DR4.out.frozen
            have cD := DD4.out.cell
            have zD := DD4.out.frozen
            have FIN := Lib.hid (show Rp B W q r k (OkSt (m + 1)) encSt (VT (fun T w => StT T w (m + 1))) w (.returned (.agg #[.int .i64 a0, .int .i64 a1, .slice y2 y2l y2c, .slice y3 y3l y3c, .slice y4 y4l y4c])) (lays (lays w4 (w0.heap.size) 4 [.slice y4 y4l y4c]) (w.heap.size) 0 [.int .i64 a0, .int .i64 a1, .slice y2 y2l y2c, .slice y3 y3l y3c, .slice y4 y4l y4c]) by
              have KL := (Kp.sets (Kp.sets (Kp.refl (fun b => b < w0.heap.size + 1) w4) (b := w0.heap.size) (fun _ => by omega) 4 [.slice y4 y4l y4c]) (b := w.heap.size) (fun _ => by omega) 0 [.int .i64 a0, .int .i64 a1, .slice y2 y2l y2c, .slice y3 y3l y3c, .slice y4 y4l y4c])
              have P2' := SlT.lo (carry_Ex m) (L' := w.heap.size) (SlT.next (carry_Ex m) P2.out KL) (by omega)
              have P3' := SlT.lo (carry_St m) (L' := w.heap.size) (SlT.next (carry_St m) P3.out KL) (by omega)
              have P4' := SlT.lo (carry_St m) (L' := w.heap.size) (SlT.next (carry_St m) P4.out KL) (by omega)
              refine .inl ⟨⟨a0, a1, a2, a3, a4⟩, r4, _, rfl, ⟨X0.out, X1.out, X2.out, X3.out, X4.out⟩, ?_, ⟨[.int .i64 a0, .int .i64 a1, .slice y2 y2l y2c, .slice y3 y3l y3c, .slice y4 y4l y4c], rfl, ?_⟩, (RdAt.sets (RdAt.sets R4.out (b := w0.heap.size) (by omega) 4 [.slice y4 y4l y4c]) (b := w.heap.size) (by omega) 0 [.int .i64 a0, .int .i64 a1, .slice y2 y2l y2c, .slice y3 y3l y3c, .slice y4 y4l y4c]), (Kp.sets (Kp.sets K4.out (b := w0.heap.size) (fun _ => by omega) 4 [.slice y4 y4l y4c]) (b := w.heap.size) (fun _ => by omega) 0 [.int .i64 a0, .int .i64 a1, .slice y2 y2l y2c, .slice y3 y3l y3c, .slice y4 y4l y4c])⟩
              · rw [HR0.out, HR1.out, HR2.out, HR3.out, HR4.out, encSt_mk]; simp only [List.append_assoc]
              · exact ⟨_, _, _, rfl, X0.out, X1.out, P2', P3', P4'⟩
              )
            clear P2
            clear P3
            clear P4
            have fR0 := cR 0
            have fR1 := cR 1
            have fR2 := cR 2
            have fR3 := cR 3
            have fR4 := cR 4
            simp only [List.getElem?_cons_zero, List.getElem?_cons_succ] at fR0 fR1 fR2 fR3 fR4
            go_wp2_with fail
            try simp only [Exit.inBlock, Exit.then]
            refine bodyPost_ret (v := .agg #[.int .i64 a0, .int .i64 a1, .slice y2 y2l y2c, .slice y3 y3l y3c, .slice y4 y4l y4c]) (by simp [results, Try.results94, go_sem, fR0, fR1, fR2, fR3, fR4]) rfl FIN.out
theorem rstat_any : ∀ (m : Nat) {B : Nat} {W w : World} {q : Nat} {r : List UInt8} {k : Int}, k + m = 101 → 0 ≤ k → RdAt B W w q r k →
    Calls Try.prog 71 #[.pointer (some ⟨q, 0, none⟩)] w (Rp B W q r k (OkSt m) encSt (VT (fun T w => StT T w m)) w)
  | 0, B, W, w, q, r, k, hk, h0, h => rstat_of (m := 0) (fun bx wz hbx hb hz => within_deep_St (by omega) hz) h
  | m + 1, B, W, w, q, r, k, hk, h0, h => rstat_of (m := m + 1) (fun bx wz hbx hb hz => within_St h0 (by omega) hbx (fun wy hy hc => rstat_in (fun wz r hz => rexpr_any m (by omega) (by omega) hz) (fun wz r hz => rstat_any m (by omega) (by omega) hz) hbx hc hy) hb hz) h
end Go.Proofs.Ytpopgnengimieaa
