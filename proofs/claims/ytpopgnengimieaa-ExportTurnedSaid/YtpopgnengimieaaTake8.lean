/- Reading a unit's bytes: imports, fields, declarations, functions. -/
import Derived.Test.YtpopgnengimieaaTake7
namespace Go.Proofs.Ytpopgnengimieaa
open Go.RowKit
set_option linter.unusedSimpArgs false
set_option linter.unusedVariables false
set_option maxRecDepth 100000 in
set_option maxHeartbeats 2000000 in
theorem timported {B : Nat} {W w : World} {q : Nat} {r : List UInt8} {k : Int} (h : RdAt B W w q r k) :
    Calls Try.prog 36 #[.pointer (some ⟨q, 0, none⟩)] w (Rp B W q r k OkIm encIm (VT ImT) w) := by
  have hq := h.lt
  have hB := h.2.1
  have G := Lib.hid h
  have K := Lib.hid (Kp.refl (fun b => b = q) w)
  clear h
  go_enter Try.func36, Try.ntmps36
  have C0 := Lib.hid (fun (wz : World) (hz : RdAt B W wz q r k) => rtext hz)
  go_wp2_with fail
  refine (C0.out _ (RdAt.alloc G.out _)).mono ?_
  rintro e0 w0 (⟨a0, r0, _, rfl, hx0, hr0, rfl, hrd0, hk0⟩ | ⟨rfl, hno, hk0⟩)
  rotate_left
  · have NO := Lib.hid (show No OkIm encIm r by
      intro z s hz e
      obtain ⟨c0, c1⟩ := z
      obtain ⟨g0, g1⟩ := hz
      simp only [encIm_mk, List.append_assoc] at e
      exact hno _ _ g0 e
      )
    have KF := Lib.hid (Kp.thn (Kp.alloc K.out _) hk0)
    clear hno hk0 C0
    unfold PAN
    go_wp2_with fail
    exact ⟨rfl, .inr ⟨rfl, NO.out, KF.out⟩⟩
  · clear C0
    have R0 := Lib.hid hrd0
    have K0 := Lib.hid (Kp.thn (Kp.alloc K.out _) hk0)
    have X0 := Lib.hid hx0
    have HR0 := Lib.hid hr0
    have s0 : w.heap.size + 1 ≤ w0.heap.size := by
      have := hk0.size
      try simp only [size_sets, size_alloc] at this
      omega
    have DR0 := Lib.hid (show Blk w0 w.heap.size [.string ⟨#[]⟩, .int .i64 0] 58 from Blk.kp (Blk.new w [.string ⟨#[]⟩, .int .i64 0] 58) hk0 (fun e => by omega))
    clear hrd0 hk0 hx0 hr0
    have cR := DR0.out.cell
    have zR := DR0.out.frozen
    have C1 := Lib.hid (fun (wz : World) (hz : RdAt B W wz q r0 k) => rnum hz)
    go_wp2_with fail
    refine (C1.out _ R0.out).mono ?_
    rintro e1 w1 (⟨a1, r1, _, rfl, hx1, hr1, rfl, hrd1, hk1⟩ | ⟨rfl, hno, hk1⟩)
    rotate_left
    · have NO := Lib.hid (show No OkIm encIm r by
        intro z s hz e
        obtain ⟨c0, c1⟩ := z
        obtain ⟨g0, g1⟩ := hz
        simp only [encIm_mk, List.append_assoc] at e
        rw [HR0.out] at e
        try simp only [List.append_assoc] at e
        obtain ⟨_, e⟩ := encS_pi X0.out g0 e
        exact hno _ _ g1 e
        )
      have KF := Lib.hid (Kp.thn K0.out hk1)
      clear hno hk1 C1
      unfold PAN
      go_wp2_with fail
      exact ⟨rfl, .inr ⟨rfl, NO.out, KF.out⟩⟩
    · clear C1
      have R1 := Lib.hid hrd1
      have K1 := Lib.hid (Kp.thn K0.out hk1)
      have X1 := Lib.hid hx1
      have HR1 := Lib.hid hr1
      have s1 : w.heap.size + 1 ≤ w1.heap.size := by
        have := hk1.size
        try simp only [size_sets, size_alloc] at this
        omega
      have DR1 := Lib.hid (show Blk w1 w.heap.size [.string ⟨#[]⟩, .int .i64 0] 58 from Blk.kp DR0.out hk1 (fun e => by omega))
      clear cR zR
      clear hrd1 hk1 hx1 hr1
      have cR := DR1.out.cell
      have zR := DR1.out.frozen
      have FIN := Lib.hid (show Rp B W q r k OkIm encIm (VT ImT) w (.returned (.agg #[.string a0, .int .i64 a1])) (lays w1 (w.heap.size) 0 [.string a0, .int .i64 a1]) by
        refine .inl ⟨⟨a0, a1⟩, r1, _, rfl, ⟨X0.out, X1.out⟩, ?_, ⟨[.string a0, .int .i64 a1], rfl, ?_⟩, (RdAt.sets R1.out (b := w.heap.size) (by omega) 0 [.string a0, .int .i64 a1]), (Kp.sets K1.out (b := w.heap.size) (fun _ => by omega) 0 [.string a0, .int .i64 a1])⟩
        · rw [HR0.out, HR1.out, encIm_mk]; simp only [List.append_assoc]
        · exact ⟨rfl, X0.out, X1.out⟩
        )
      have fR0 := cR 0
      have fR1 := cR 1
      simp only [List.getElem?_cons_zero, List.getElem?_cons_succ] at fR0 fR1
      go_wp2_with fail
      try simp only [Exit.inBlock, Exit.then]
      refine bodyPost_ret (v := .agg #[.string a0, .int .i64 a1]) (by simp [results, Try.results36, go_sem, fR0, fR1]) rfl FIN.out
set_option maxRecDepth 100000 in
set_option maxHeartbeats 2000000 in
theorem tfield {B : Nat} {W w : World} {q : Nat} {r : List UInt8} (h : RdAt B W w q r 0) :
    Calls Try.prog 68 #[.pointer (some ⟨q, 0, none⟩)] w (Rp B W q r 0 OkFd encFd (VT FdT) w) := by
  have hq := h.lt
  have hB := h.2.1
  have G := Lib.hid h
  have K := Lib.hid (Kp.refl (fun b => b = q) w)
  clear h
  go_enter Try.func68, Try.ntmps68
  have C0 := Lib.hid (fun (wz : World) (hz : RdAt B W wz q r 0) => rtext hz)
  go_wp2_with fail
  refine (C0.out _ (RdAt.alloc G.out _)).mono ?_
  rintro e0 w0 (⟨a0, r0, _, rfl, hx0, hr0, rfl, hrd0, hk0⟩ | ⟨rfl, hno, hk0⟩)
  rotate_left
  · have NO := Lib.hid (show No OkFd encFd r by
      intro z s hz e
      obtain ⟨c0, c1⟩ := z
      obtain ⟨g0, g1⟩ := hz
      simp only [encFd_mk, List.append_assoc] at e
      exact hno _ _ g0 e
      )
    have KF := Lib.hid (Kp.thn (Kp.alloc K.out _) hk0)
    clear hno hk0 C0
    unfold PAN
    go_wp2_with fail
    exact ⟨rfl, .inr ⟨rfl, NO.out, KF.out⟩⟩
  · clear C0
    have R0 := Lib.hid hrd0
    have K0 := Lib.hid (Kp.thn (Kp.alloc K.out _) hk0)
    have X0 := Lib.hid hx0
    have HR0 := Lib.hid hr0
    have s0 : w.heap.size + 1 ≤ w0.heap.size := by
      have := hk0.size
      try simp only [size_sets, size_alloc] at this
      omega
    have DR0 := Lib.hid (show Blk w0 w.heap.size [.string ⟨#[]⟩, .int .i64 0, .string ⟨#[]⟩, .string ⟨#[]⟩, .slice none 0 0, .slice none 0 0] 93 from Blk.kp (Blk.new w [.string ⟨#[]⟩, .int .i64 0, .string ⟨#[]⟩, .string ⟨#[]⟩, .slice none 0 0, .slice none 0 0] 93) hk0 (fun e => by omega))
    clear hrd0 hk0 hx0 hr0
    have cR := DR0.out.cell
    have zR := DR0.out.frozen
    have C1 := Lib.hid (fun (wz : World) (hz : RdAt B W wz q r0 0) => rtyp_any 101 (by omega) (by omega) hz)
    go_wp2_with fail
    refine (C1.out _ R0.out).mono ?_
    rintro e1 w1 (⟨a1, r1, _, rfl, hx1, hr1, ⟨cs1, rfl, hv1⟩, hrd1, hk1⟩ | ⟨rfl, hno, hk1⟩)
    rotate_left
    · have NO := Lib.hid (show No OkFd encFd r by
        intro z s hz e
        obtain ⟨c0, c1⟩ := z
        obtain ⟨g0, g1⟩ := hz
        simp only [encFd_mk, List.append_assoc] at e
        rw [HR0.out] at e
        try simp only [List.append_assoc] at e
        obtain ⟨_, e⟩ := encS_pi X0.out g0 e
        exact hno _ _ g1 e
        )
      have KF := Lib.hid (Kp.thn K0.out hk1)
      clear hno hk1 C1
      unfold PAN
      go_wp2_with fail
      exact ⟨rfl, .inr ⟨rfl, NO.out, KF.out⟩⟩
    · clear C1
      have R1 := Lib.hid hrd1
      have K1 := Lib.hid (Kp.thn K0.out hk1)
      have X1 := Lib.hid hx1
      have HR1 := Lib.hid hr1
      have s1 : w.heap.size + 1 ≤ w1.heap.size := by
        have := hk1.size
        try simp only [size_sets, size_alloc] at this
        omega
      have DR1 := Lib.hid (show Blk w1 w.heap.size [.string ⟨#[]⟩, .int .i64 0, .string ⟨#[]⟩, .string ⟨#[]⟩, .slice none 0 0, .slice none 0 0] 93 from Blk.kp DR0.out hk1 (fun e => by omega))
      clear cR zR
      have P1 := Lib.hid (Carry.lo (carry_Ty 101) (L' := w.heap.size + 1) hv1 (by (try simp only [size_sets, size_alloc]); omega))
      obtain ⟨b0, b1, b2, b3, b3l, b3c, b4, b4l, b4c, rfl⟩ := shapeT_Ty hv1
      clear hv1
      clear hrd1 hk1 hx1 hr1
      have cR := DR1.out.cell
      have zR := DR1.out.frozen
      have FIN := Lib.hid (show Rp B W q r 0 OkFd encFd (VT FdT) w (.returned (.agg #[.string a0, .int .i64 b0, .string b1, .string b2, .slice b3 b3l b3c, .slice b4 b4l b4c])) (lays w1 (w.heap.size) 0 [.string a0, .int .i64 b0, .string b1, .string b2, .slice b3 b3l b3c, .slice b4 b4l b4c]) by
        have KL := (Kp.sets (Kp.refl (fun b => b < w.heap.size + 1) w1) (b := w.heap.size) (fun _ => by omega) 0 [.string a0, .int .i64 b0, .string b1, .string b2, .slice b3 b3l b3c, .slice b4 b4l b4c])
        have P1' := Carry.lo (carry_Ty 101) (L' := w.heap.size) (Carry.next (carry_Ty 101) P1.out KL) (by omega)
        refine .inl ⟨⟨a0, a1⟩, r1, _, rfl, ⟨X0.out, X1.out⟩, ?_, ⟨[.string a0, .int .i64 b0, .string b1, .string b2, .slice b3 b3l b3c, .slice b4 b4l b4c], rfl, ?_⟩, (RdAt.sets R1.out (b := w.heap.size) (by omega) 0 [.string a0, .int .i64 b0, .string b1, .string b2, .slice b3 b3l b3c, .slice b4 b4l b4c]), (Kp.sets K1.out (b := w.heap.size) (fun _ => by omega) 0 [.string a0, .int .i64 b0, .string b1, .string b2, .slice b3 b3l b3c, .slice b4 b4l b4c])⟩
        · rw [HR0.out, HR1.out, encFd_mk]; simp only [List.append_assoc]
        · exact ⟨_, rfl, rfl, X0.out, P1'⟩
        )
      clear P1
      have fR0 := cR 0
      have fR1 := cR 1
      have fR2 := cR 2
      have fR3 := cR 3
      have fR4 := cR 4
      have fR5 := cR 5
      simp only [List.getElem?_cons_zero, List.getElem?_cons_succ] at fR0 fR1 fR2 fR3 fR4 fR5
      go_wp2_with fail
      try simp only [Exit.inBlock, Exit.then]
      refine bodyPost_ret (v := .agg #[.string a0, .int .i64 b0, .string b1, .string b2, .slice b3 b3l b3c, .slice b4 b4l b4c]) (by simp [results, Try.results68, go_sem, fR0, fR1, fR2, fR3, fR4, fR5]) rfl FIN.out
set_option maxRecDepth 100000 in
set_option maxHeartbeats 2000000 in
theorem tdecl {B : Nat} {W w : World} {q : Nat} {r : List UInt8} (h : RdAt B W w q r 0) :
    Calls Try.prog 38 #[.pointer (some ⟨q, 0, none⟩)] w (Rp B W q r 0 OkDe encDe (VT DeT) w) := by
  have hq := h.lt
  have hB := h.2.1
  have G := Lib.hid h
  have K := Lib.hid (Kp.refl (fun b => b = q) w)
  clear h
  go_enter Try.func38, Try.ntmps38
  have C0 := Lib.hid (fun (wz : World) (hz : RdAt B W wz q r 0) => rnum hz)
  go_wp2_with fail
  refine (C0.out _ (RdAt.alloc G.out _)).mono ?_
  rintro e0 w0 (⟨a0, r0, _, rfl, hx0, hr0, rfl, hrd0, hk0⟩ | ⟨rfl, hno, hk0⟩)
  rotate_left
  · have NO := Lib.hid (show No OkDe encDe r by
      intro z s hz e
      obtain ⟨c0, c1, c2, c3, c4, c5⟩ := z
      obtain ⟨g0, g1, g2, g3, g4, g5⟩ := hz
      simp only [encDe_mk, List.append_assoc] at e
      exact hno _ _ g0 e
      )
    have KF := Lib.hid (Kp.thn (Kp.alloc K.out _) hk0)
    clear hno hk0 C0
    unfold PAN
    go_wp2_with fail
    exact ⟨rfl, .inr ⟨rfl, NO.out, KF.out⟩⟩
  · clear C0
    have R0 := Lib.hid hrd0
    have K0 := Lib.hid (Kp.thn (Kp.alloc K.out _) hk0)
    have X0 := Lib.hid hx0
    have HR0 := Lib.hid hr0
    have s0 : w.heap.size + 1 ≤ w0.heap.size := by
      have := hk0.size
      try simp only [size_sets, size_alloc] at this
      omega
    have DR0 := Lib.hid (show Blk w0 w.heap.size [.int .i64 0, .string ⟨#[]⟩, .string ⟨#[]⟩, .int .i64 0, .int .i64 0, .string ⟨#[]⟩, .string ⟨#[]⟩, .slice none 0 0, .slice none 0 0, .slice none 0 0] 44 from Blk.kp (Blk.new w [.int .i64 0, .string ⟨#[]⟩, .string ⟨#[]⟩, .int .i64 0, .int .i64 0, .string ⟨#[]⟩, .string ⟨#[]⟩, .slice none 0 0, .slice none 0 0, .slice none 0 0] 44) hk0 (fun e => by omega))
    clear hrd0 hk0 hx0 hr0
    have cR := DR0.out.cell
    have zR := DR0.out.frozen
    have C1 := Lib.hid (fun (wz : World) (hz : RdAt B W wz q r0 0) => rtext hz)
    go_wp2_with fail
    refine (C1.out _ (RdAt.alloc R0.out _)).mono ?_
    rintro e1 w1 (⟨a1, r1, _, rfl, hx1, hr1, rfl, hrd1, hk1⟩ | ⟨rfl, hno, hk1⟩)
    rotate_left
    · have NO := Lib.hid (show No OkDe encDe r by
        intro z s hz e
        obtain ⟨c0, c1, c2, c3, c4, c5⟩ := z
        obtain ⟨g0, g1, g2, g3, g4, g5⟩ := hz
        simp only [encDe_mk, List.append_assoc] at e
        rw [HR0.out] at e
        try simp only [List.append_assoc] at e
        obtain ⟨_, e⟩ := le8_pi X0.out g0 e
        exact hno _ _ g1 e
        )
      have KF := Lib.hid (Kp.thn (Kp.alloc K0.out _) hk1)
      clear hno hk1 C1
      unfold PAN
      go_wp2_with fail
      exact ⟨rfl, .inr ⟨rfl, NO.out, KF.out⟩⟩
    · clear C1
      have R1 := Lib.hid hrd1
      have K1 := Lib.hid (Kp.thn (Kp.alloc K0.out _) hk1)
      have X1 := Lib.hid hx1
      have HR1 := Lib.hid hr1
      have s1 : w0.heap.size + 1 ≤ w1.heap.size := by
        have := hk1.size
        try simp only [size_sets, size_alloc] at this
        omega
      have DR1 := Lib.hid (show Blk w1 w.heap.size [.int .i64 0, .string ⟨#[]⟩, .string ⟨#[]⟩, .int .i64 0, .int .i64 0, .string ⟨#[]⟩, .string ⟨#[]⟩, .slice none 0 0, .slice none 0 0, .slice none 0 0] 44 from Blk.kp (Blk.alloc DR0.out _) hk1 (fun e => by omega))
      have DD1 := Lib.hid (show Blk w1 w0.heap.size [.int .i64 a0, .string ⟨#[]⟩, .string ⟨#[]⟩, .int .i64 0, .int .i64 0, .string ⟨#[]⟩, .string ⟨#[]⟩, .slice none 0 0, .slice none 0 0, .slice none 0 0] 44 from Blk.kp (Blk.new w0 [.int .i64 a0, .string ⟨#[]⟩, .string ⟨#[]⟩, .int .i64 0, .int .i64 0, .string ⟨#[]⟩, .string ⟨#[]⟩, .slice none 0 0, .slice none 0 0, .slice none 0 0] 44) hk1 (fun e => by omega))
      clear cR zR
      clear hrd1 hk1 hx1 hr1
      have cR := DR1.out.cell
      have zR := DR1.out.frozen
      have cD := DD1.out.cell
      have zD := DD1.out.frozen
      have C2 := Lib.hid (fun (wz : World) (hz : RdAt B W wz q r1 0) => rtext hz)
      go_wp2_with fail
      refine (C2.out _ (RdAt.sets R1.out (b := w0.heap.size) (by omega) 1 [.string a1])).mono ?_
      rintro e2 w2 (⟨a2, r2, _, rfl, hx2, hr2, rfl, hrd2, hk2⟩ | ⟨rfl, hno, hk2⟩)
      rotate_left
      · have NO := Lib.hid (show No OkDe encDe r by
          intro z s hz e
          obtain ⟨c0, c1, c2, c3, c4, c5⟩ := z
          obtain ⟨g0, g1, g2, g3, g4, g5⟩ := hz
          simp only [encDe_mk, List.append_assoc] at e
          rw [HR0.out] at e
          rw [HR1.out] at e
          try simp only [List.append_assoc] at e
          obtain ⟨_, e⟩ := le8_pi X0.out g0 e
          obtain ⟨_, e⟩ := encS_pi X1.out g1 e
          exact hno _ _ g2 e
          )
        have KF := Lib.hid (Kp.thn (Kp.sets K1.out (b := w0.heap.size) (fun _ => by omega) 1 [.string a1]) hk2)
        clear hno hk2 C2
        unfold PAN
        go_wp2_with fail
        exact ⟨rfl, .inr ⟨rfl, NO.out, KF.out⟩⟩
      · clear C2
        have R2 := Lib.hid hrd2
        have K2 := Lib.hid (Kp.thn (Kp.sets K1.out (b := w0.heap.size) (fun _ => by omega) 1 [.string a1]) hk2)
        have X2 := Lib.hid hx2
        have HR2 := Lib.hid hr2
        have s2 : w0.heap.size + 1 ≤ w2.heap.size := by
          have := hk2.size
          try simp only [size_sets, size_alloc] at this
          omega
        have DR2 := Lib.hid (show Blk w2 w.heap.size [.int .i64 0, .string ⟨#[]⟩, .string ⟨#[]⟩, .int .i64 0, .int .i64 0, .string ⟨#[]⟩, .string ⟨#[]⟩, .slice none 0 0, .slice none 0 0, .slice none 0 0] 44 from Blk.kp (Blk.setsO DR1.out (b' := w0.heap.size) (by omega) 1 [.string a1]) hk2 (fun e => by omega))
        have DD2 := Lib.hid (show Blk w2 w0.heap.size [.int .i64 a0, .string a1, .string ⟨#[]⟩, .int .i64 0, .int .i64 0, .string ⟨#[]⟩, .string ⟨#[]⟩, .slice none 0 0, .slice none 0 0, .slice none 0 0] 44 from Blk.kp (Blk.sets DD1.out 1 [.string a1]) hk2 (fun e => by omega))
        clear cR zR cD zD
        clear hrd2 hk2 hx2 hr2
        have cR := DR2.out.cell
        have zR := DR2.out.frozen
        have cD := DD2.out.cell
        have zD := DD2.out.frozen
        have C3 := Lib.hid (fun (wz : World) (hz : RdAt B W wz q r2 0) => rnum hz)
        go_wp2_with fail
        refine (C3.out _ (RdAt.sets R2.out (b := w0.heap.size) (by omega) 2 [.string a2])).mono ?_
        rintro e3 w3 (⟨a3, r3, _, rfl, hx3, hr3, rfl, hrd3, hk3⟩ | ⟨rfl, hno, hk3⟩)
        rotate_left
        · have NO := Lib.hid (show No OkDe encDe r by
            intro z s hz e
            obtain ⟨c0, c1, c2, c3, c4, c5⟩ := z
            obtain ⟨g0, g1, g2, g3, g4, g5⟩ := hz
            simp only [encDe_mk, List.append_assoc] at e
            rw [HR0.out] at e
            rw [HR1.out] at e
            rw [HR2.out] at e
            try simp only [List.append_assoc] at e
            obtain ⟨_, e⟩ := le8_pi X0.out g0 e
            obtain ⟨_, e⟩ := encS_pi X1.out g1 e
            obtain ⟨_, e⟩ := encS_pi X2.out g2 e
            exact hno _ _ g3 e
            )
          have KF := Lib.hid (Kp.thn (Kp.sets K2.out (b := w0.heap.size) (fun _ => by omega) 2 [.string a2]) hk3)
          clear hno hk3 C3
          unfold PAN
          go_wp2_with fail
          exact ⟨rfl, .inr ⟨rfl, NO.out, KF.out⟩⟩
        · clear C3
          have R3 := Lib.hid hrd3
          have K3 := Lib.hid (Kp.thn (Kp.sets K2.out (b := w0.heap.size) (fun _ => by omega) 2 [.string a2]) hk3)
          have X3 := Lib.hid hx3
          have HR3 := Lib.hid hr3
          have s3 : w0.heap.size + 1 ≤ w3.heap.size := by
            have := hk3.size
            try simp only [size_sets, size_alloc] at this
            omega
          have DR3 := Lib.hid (show Blk w3 w.heap.size [.int .i64 0, .string ⟨#[]⟩, .string ⟨#[]⟩, .int .i64 0, .int .i64 0, .string ⟨#[]⟩, .string ⟨#[]⟩, .slice none 0 0, .slice none 0 0, .slice none 0 0] 44 from Blk.kp (Blk.setsO DR2.out (b' := w0.heap.size) (by omega) 2 [.string a2]) hk3 (fun e => by omega))
          have DD3 := Lib.hid (show Blk w3 w0.heap.size [.int .i64 a0, .string a1, .string a2, .int .i64 0, .int .i64 0, .string ⟨#[]⟩, .string ⟨#[]⟩, .slice none 0 0, .slice none 0 0, .slice none 0 0] 44 from Blk.kp (Blk.sets DD2.out 2 [.string a2]) hk3 (fun e => by omega))
          clear cR zR cD zD
          clear hrd3 hk3 hx3 hr3
          have cR := DR3.out.cell
          have zR := DR3.out.frozen
          have cD := DD3.out.cell
          have zD := DD3.out.frozen
          have C4 := Lib.hid (fun (wz : World) (hz : RdAt B W wz q r3 0) => rtyp_any 101 (by omega) (by omega) hz)
          go_wp2_with fail
          refine (C4.out _ (RdAt.sets R3.out (b := w0.heap.size) (by omega) 3 [.int .i64 a3])).mono ?_
          rintro e4 w4 (⟨a4, r4, _, rfl, hx4, hr4, ⟨cs4, rfl, hv4⟩, hrd4, hk4⟩ | ⟨rfl, hno, hk4⟩)
          rotate_left
          · have NO := Lib.hid (show No OkDe encDe r by
              intro z s hz e
              obtain ⟨c0, c1, c2, c3, c4, c5⟩ := z
              obtain ⟨g0, g1, g2, g3, g4, g5⟩ := hz
              simp only [encDe_mk, List.append_assoc] at e
              rw [HR0.out] at e
              rw [HR1.out] at e
              rw [HR2.out] at e
              rw [HR3.out] at e
              try simp only [List.append_assoc] at e
              obtain ⟨_, e⟩ := le8_pi X0.out g0 e
              obtain ⟨_, e⟩ := encS_pi X1.out g1 e
              obtain ⟨_, e⟩ := encS_pi X2.out g2 e
              obtain ⟨_, e⟩ := le8_pi X3.out g3 e
              exact hno _ _ g4 e
              )
            have KF := Lib.hid (Kp.thn (Kp.sets K3.out (b := w0.heap.size) (fun _ => by omega) 3 [.int .i64 a3]) hk4)
            clear hno hk4 C4
            unfold PAN
            go_wp2_with fail
            exact ⟨rfl, .inr ⟨rfl, NO.out, KF.out⟩⟩
          · clear C4
            have R4 := Lib.hid hrd4
            have K4 := Lib.hid (Kp.thn (Kp.sets K3.out (b := w0.heap.size) (fun _ => by omega) 3 [.int .i64 a3]) hk4)
            have X4 := Lib.hid hx4
            have HR4 := Lib.hid hr4
            have s4 : w0.heap.size + 1 ≤ w4.heap.size := by
              have := hk4.size
              try simp only [size_sets, size_alloc] at this
              omega
            have DR4 := Lib.hid (show Blk w4 w.heap.size [.int .i64 0, .string ⟨#[]⟩, .string ⟨#[]⟩, .int .i64 0, .int .i64 0, .string ⟨#[]⟩, .string ⟨#[]⟩, .slice none 0 0, .slice none 0 0, .slice none 0 0] 44 from Blk.kp (Blk.setsO DR3.out (b' := w0.heap.size) (by omega) 3 [.int .i64 a3]) hk4 (fun e => by omega))
            have DD4 := Lib.hid (show Blk w4 w0.heap.size [.int .i64 a0, .string a1, .string a2, .int .i64 a3, .int .i64 0, .string ⟨#[]⟩, .string ⟨#[]⟩, .slice none 0 0, .slice none 0 0, .slice none 0 0] 44 from Blk.kp (Blk.sets DD3.out 3 [.int .i64 a3]) hk4 (fun e => by omega))
            clear cR zR cD zD
            have P4 := Lib.hid (Carry.lo (carry_Ty 101) (L' := w0.heap.size + 1) hv4 (by (try simp only [size_sets, size_alloc]); omega))
            obtain ⟨b0, b1, b2, b3, b3l, b3c, b4, b4l, b4c, rfl⟩ := shapeT_Ty hv4
            clear hv4
            clear hrd4 hk4 hx4 hr4
            have cR := DR4.out.cell
            have zR := DR4.out.frozen
            have cD := DD4.out.cell
            have zD := DD4.out.frozen
            have C5 := Lib.hid (fun (wz : World) (hz : RdAt B W wz q r4 0) => takes_Fd (fun wz r hz => tfield hz) wz r4 hz)
            go_wp2_with fail
            refine (C5.out _ (RdAt.sets R4.out (b := w0.heap.size) (by omega) 4 [.int .i64 b0, .string b1, .string b2, .slice b3 b3l b3c, .slice b4 b4l b4c])).mono ?_
            rintro e5 w5 (⟨a5, r5, v5, rfl, hx5, hr5, hv5, hrd5, hk5⟩ | ⟨rfl, hno, hk5⟩)
            rotate_left
            · have NO := Lib.hid (show No OkDe encDe r by
                intro z s hz e
                obtain ⟨c0, c1, c2, c3, c4, c5⟩ := z
                obtain ⟨g0, g1, g2, g3, g4, g5⟩ := hz
                simp only [encDe_mk, List.append_assoc] at e
                rw [HR0.out] at e
                rw [HR1.out] at e
                rw [HR2.out] at e
                rw [HR3.out] at e
                rw [HR4.out] at e
                try simp only [List.append_assoc] at e
                obtain ⟨_, e⟩ := le8_pi X0.out g0 e
                obtain ⟨_, e⟩ := encS_pi X1.out g1 e
                obtain ⟨_, e⟩ := encS_pi X2.out g2 e
                obtain ⟨_, e⟩ := le8_pi X3.out g3 e
                obtain ⟨_, e⟩ := pi_OkTy 101 _ _ X4.out g4 _ _ e
                exact hno _ _ g5 e
                )
              have KF := Lib.hid (Kp.thn (Kp.sets K4.out (b := w0.heap.size) (fun _ => by omega) 4 [.int .i64 b0, .string b1, .string b2, .slice b3 b3l b3c, .slice b4 b4l b4c]) hk5)
              clear hno hk5 C5
              unfold PAN
              go_wp2_with fail
              exact ⟨rfl, .inr ⟨rfl, NO.out, KF.out⟩⟩
            · clear C5
              have R5 := Lib.hid hrd5
              have K5 := Lib.hid (Kp.thn (Kp.sets K4.out (b := w0.heap.size) (fun _ => by omega) 4 [.int .i64 b0, .string b1, .string b2, .slice b3 b3l b3c, .slice b4 b4l b4c]) hk5)
              have X5 := Lib.hid hx5
              have HR5 := Lib.hid hr5
              have s5 : w0.heap.size + 1 ≤ w5.heap.size := by
                have := hk5.size
                try simp only [size_sets, size_alloc] at this
                omega
              have KL := (Kp.trans (Kp.sets (Kp.refl (fun b => b < w0.heap.size + 1) w4) (b := w0.heap.size) (fun _ => by omega) 4 [.int .i64 b0, .string b1, .string b2, .slice b3 b3l b3c, .slice b4 b4l b4c]) hk5 (fun x _ e => by omega))
              have P4' := Lib.hid (Carry.next (carry_Ty 101) P4.out KL)
              clear P4
              have P4 := Lib.hid P4'.out
              clear P4'
              clear KL
              have DR5 := Lib.hid (show Blk w5 w.heap.size [.int .i64 0, .string ⟨#[]⟩, .string ⟨#[]⟩, .int .i64 0, .int .i64 0, .string ⟨#[]⟩, .string ⟨#[]⟩, .slice none 0 0, .slice none 0 0, .slice none 0 0] 44 from Blk.kp (Blk.setsO DR4.out (b' := w0.heap.size) (by omega) 4 [.int .i64 b0, .string b1, .string b2, .slice b3 b3l b3c, .slice b4 b4l b4c]) hk5 (fun e => by omega))
              have DD5 := Lib.hid (show Blk w5 w0.heap.size [.int .i64 a0, .string a1, .string a2, .int .i64 a3, .int .i64 b0, .string b1, .string b2, .slice b3 b3l b3c, .slice b4 b4l b4c, .slice none 0 0] 44 from Blk.kp (Blk.sets DD4.out 4 [.int .i64 b0, .string b1, .string b2, .slice b3 b3l b3c, .slice b4 b4l b4c]) hk5 (fun e => by omega))
              clear cR zR cD zD
              have P5 := Lib.hid (SlT.lo carry_Fd (L' := w0.heap.size + 1) hv5 (by (try simp only [size_sets, size_alloc]); omega))
              obtain ⟨y5, y5l, y5c, rfl⟩ := SlT.slice hv5
              clear hv5
              clear hrd5 hk5 hx5 hr5
              have cR := DR5.out.cell
              have zR := DR5.out.frozen
              have cD := DD5.out.cell
              have zD := DD5.out.frozen
              have FIN := Lib.hid (show Rp B W q r 0 OkDe encDe (VT DeT) w (.returned (.agg #[.int .i64 a0, .string a1, .string a2, .int .i64 a3, .int .i64 b0, .string b1, .string b2, .slice b3 b3l b3c, .slice b4 b4l b4c, .slice y5 y5l y5c])) (lays (lays w5 (w0.heap.size) 9 [.slice y5 y5l y5c]) (w.heap.size) 0 [.int .i64 a0, .string a1, .string a2, .int .i64 a3, .int .i64 b0, .string b1, .string b2, .slice b3 b3l b3c, .slice b4 b4l b4c, .slice y5 y5l y5c]) by
                have KL := (Kp.sets (Kp.sets (Kp.refl (fun b => b < w0.heap.size + 1) w5) (b := w0.heap.size) (fun _ => by omega) 9 [.slice y5 y5l y5c]) (b := w.heap.size) (fun _ => by omega) 0 [.int .i64 a0, .string a1, .string a2, .int .i64 a3, .int .i64 b0, .string b1, .string b2, .slice b3 b3l b3c, .slice b4 b4l b4c, .slice y5 y5l y5c])
                have P4' := Carry.lo (carry_Ty 101) (L' := w.heap.size) (Carry.next (carry_Ty 101) P4.out KL) (by omega)
                have P5' := SlT.lo carry_Fd (L' := w.heap.size) (SlT.next carry_Fd P5.out KL) (by omega)
                refine .inl ⟨⟨a0, a1, a2, a3, a4, a5⟩, r5, _, rfl, ⟨X0.out, X1.out, X2.out, X3.out, X4.out, X5.out⟩, ?_, ⟨[.int .i64 a0, .string a1, .string a2, .int .i64 a3, .int .i64 b0, .string b1, .string b2, .slice b3 b3l b3c, .slice b4 b4l b4c, .slice y5 y5l y5c], rfl, ?_⟩, (RdAt.sets (RdAt.sets R5.out (b := w0.heap.size) (by omega) 9 [.slice y5 y5l y5c]) (b := w.heap.size) (by omega) 0 [.int .i64 a0, .string a1, .string a2, .int .i64 a3, .int .i64 b0, .string b1, .string b2, .slice b3 b3l b3c, .slice b4 b4l b4c, .slice y5 y5l y5c]), (Kp.sets (Kp.sets K5.out (b := w0.heap.size) (fun _ => by omega) 9 [.slice y5 y5l y5c]) (b := w.heap.size) (fun _ => by omega) 0 [.int .i64 a0, .string a1, .string a2, .int .i64 a3, .int .i64 b0, .string b1, .string b2, .slice b3 b3l b3c, .slice b4 b4l b4c, .slice y5 y5l y5c])⟩
                · rw [HR0.out, HR1.out, HR2.out, HR3.out, HR4.out, HR5.out, encDe_mk]; simp only [List.append_assoc]
                · exact ⟨[.int .i64 b0, .string b1, .string b2, .slice b3 b3l b3c, .slice b4 b4l b4c], _, rfl, rfl, X0.out, X1.out, X2.out, X3.out, P4', P5'⟩
                )
              clear P4
              clear P5
              have fR0 := cR 0
              have fR1 := cR 1
              have fR2 := cR 2
              have fR3 := cR 3
              have fR4 := cR 4
              have fR5 := cR 5
              have fR6 := cR 6
              have fR7 := cR 7
              have fR8 := cR 8
              have fR9 := cR 9
              simp only [List.getElem?_cons_zero, List.getElem?_cons_succ] at fR0 fR1 fR2 fR3 fR4 fR5 fR6 fR7 fR8 fR9
              go_wp2_with fail
              try simp only [Exit.inBlock, Exit.then]
              refine bodyPost_ret (v := .agg #[.int .i64 a0, .string a1, .string a2, .int .i64 a3, .int .i64 b0, .string b1, .string b2, .slice b3 b3l b3c, .slice b4 b4l b4c, .slice y5 y5l y5c]) (by simp [results, Try.results38, go_sem, fR0, fR1, fR2, fR3, fR4, fR5, fR6, fR7, fR8, fR9]) rfl FIN.out
set_option maxRecDepth 100000 in
set_option maxHeartbeats 2000000 in
theorem tfunction {B : Nat} {W w : World} {q : Nat} {r : List UInt8} (h : RdAt B W w q r 0) :
    Calls Try.prog 40 #[.pointer (some ⟨q, 0, none⟩)] w (Rp B W q r 0 OkFn encFn (VT FnT) w) := by
  have hq := h.lt
  have hB := h.2.1
  have G := Lib.hid h
  have K := Lib.hid (Kp.refl (fun b => b = q) w)
  clear h
  go_enter Try.func40, Try.ntmps40
  have C0 := Lib.hid (fun (wz : World) (hz : RdAt B W wz q r 0) => rtext hz)
  go_wp2_with fail
  refine (C0.out _ (RdAt.alloc G.out _)).mono ?_
  rintro e0 w0 (⟨a0, r0, _, rfl, hx0, hr0, rfl, hrd0, hk0⟩ | ⟨rfl, hno, hk0⟩)
  rotate_left
  · have NO := Lib.hid (show No OkFn encFn r by
      intro z s hz e
      obtain ⟨c0, c1, c2, c3, c4⟩ := z
      obtain ⟨g0, g2, g3, g4⟩ := hz
      simp only [encFn_mk, List.append_assoc] at e
      exact hno _ _ g0 e
      )
    have KF := Lib.hid (Kp.thn (Kp.alloc K.out _) hk0)
    clear hno hk0 C0
    unfold PAN
    go_wp2_with fail
    exact ⟨rfl, .inr ⟨rfl, NO.out, KF.out⟩⟩
  · clear C0
    have R0 := Lib.hid hrd0
    have K0 := Lib.hid (Kp.thn (Kp.alloc K.out _) hk0)
    have X0 := Lib.hid hx0
    have HR0 := Lib.hid hr0
    have s0 : w.heap.size + 1 ≤ w0.heap.size := by
      have := hk0.size
      try simp only [size_sets, size_alloc] at this
      omega
    have DR0 := Lib.hid (show Blk w0 w.heap.size [.string ⟨#[]⟩, .bool false, .int .i64 0, .int .i64 0, .slice none 0 0] 67 from Blk.kp (Blk.new w [.string ⟨#[]⟩, .bool false, .int .i64 0, .int .i64 0, .slice none 0 0] 67) hk0 (fun e => by omega))
    clear hrd0 hk0 hx0 hr0
    have cR := DR0.out.cell
    have zR := DR0.out.frozen
    have C1 := Lib.hid (fun (wz : World) (hz : RdAt B W wz q r0 0) => rtruth hz)
    go_wp2_with fail
    refine (C1.out _ (RdAt.alloc R0.out _)).mono ?_
    rintro e1 w1 (⟨a1, r1, _, rfl, hx1, hr1, rfl, hrd1, hk1⟩ | ⟨rfl, hno, hk1⟩)
    rotate_left
    · have NO := Lib.hid (show No OkFn encFn r by
        intro z s hz e
        obtain ⟨c0, c1, c2, c3, c4⟩ := z
        obtain ⟨g0, g2, g3, g4⟩ := hz
        simp only [encFn_mk, List.append_assoc] at e
        rw [HR0.out] at e
        try simp only [List.append_assoc] at e
        obtain ⟨_, e⟩ := encS_pi X0.out g0 e
        exact hno _ _ trivial e
        )
      have KF := Lib.hid (Kp.thn (Kp.alloc K0.out _) hk1)
      clear hno hk1 C1
      unfold PAN
      go_wp2_with fail
      exact ⟨rfl, .inr ⟨rfl, NO.out, KF.out⟩⟩
    · clear C1
      have R1 := Lib.hid hrd1
      have K1 := Lib.hid (Kp.thn (Kp.alloc K0.out _) hk1)
      have X1 := Lib.hid hx1
      have HR1 := Lib.hid hr1
      have s1 : w0.heap.size + 1 ≤ w1.heap.size := by
        have := hk1.size
        try simp only [size_sets, size_alloc] at this
        omega
      have DR1 := Lib.hid (show Blk w1 w.heap.size [.string ⟨#[]⟩, .bool false, .int .i64 0, .int .i64 0, .slice none 0 0] 67 from Blk.kp (Blk.alloc DR0.out _) hk1 (fun e => by omega))
      have DD1 := Lib.hid (show Blk w1 w0.heap.size [.string a0, .bool false, .int .i64 0, .int .i64 0, .slice none 0 0] 67 from Blk.kp (Blk.new w0 [.string a0, .bool false, .int .i64 0, .int .i64 0, .slice none 0 0] 67) hk1 (fun e => by omega))
      clear cR zR
      clear hrd1 hk1 hx1 hr1
      have cR := DR1.out.cell
      have zR := DR1.out.frozen
      have cD := DD1.out.cell
      have zD := DD1.out.frozen
      have C2 := Lib.hid (fun (wz : World) (hz : RdAt B W wz q r1 0) => rnum hz)
      go_wp2_with fail
      refine (C2.out _ (RdAt.sets R1.out (b := w0.heap.size) (by omega) 1 [.bool a1])).mono ?_
      rintro e2 w2 (⟨a2, r2, _, rfl, hx2, hr2, rfl, hrd2, hk2⟩ | ⟨rfl, hno, hk2⟩)
      rotate_left
      · have NO := Lib.hid (show No OkFn encFn r by
          intro z s hz e
          obtain ⟨c0, c1, c2, c3, c4⟩ := z
          obtain ⟨g0, g2, g3, g4⟩ := hz
          simp only [encFn_mk, List.append_assoc] at e
          rw [HR0.out] at e
          rw [HR1.out] at e
          try simp only [List.append_assoc] at e
          obtain ⟨_, e⟩ := encS_pi X0.out g0 e
          obtain ⟨_, e⟩ := encT_pi e
          exact hno _ _ g2 e
          )
        have KF := Lib.hid (Kp.thn (Kp.sets K1.out (b := w0.heap.size) (fun _ => by omega) 1 [.bool a1]) hk2)
        clear hno hk2 C2
        unfold PAN
        go_wp2_with fail
        exact ⟨rfl, .inr ⟨rfl, NO.out, KF.out⟩⟩
      · clear C2
        have R2 := Lib.hid hrd2
        have K2 := Lib.hid (Kp.thn (Kp.sets K1.out (b := w0.heap.size) (fun _ => by omega) 1 [.bool a1]) hk2)
        have X2 := Lib.hid hx2
        have HR2 := Lib.hid hr2
        have s2 : w0.heap.size + 1 ≤ w2.heap.size := by
          have := hk2.size
          try simp only [size_sets, size_alloc] at this
          omega
        have DR2 := Lib.hid (show Blk w2 w.heap.size [.string ⟨#[]⟩, .bool false, .int .i64 0, .int .i64 0, .slice none 0 0] 67 from Blk.kp (Blk.setsO DR1.out (b' := w0.heap.size) (by omega) 1 [.bool a1]) hk2 (fun e => by omega))
        have DD2 := Lib.hid (show Blk w2 w0.heap.size [.string a0, .bool a1, .int .i64 0, .int .i64 0, .slice none 0 0] 67 from Blk.kp (Blk.sets DD1.out 1 [.bool a1]) hk2 (fun e => by omega))
        clear cR zR cD zD
        clear hrd2 hk2 hx2 hr2
        have cR := DR2.out.cell
        have zR := DR2.out.frozen
        have cD := DD2.out.cell
        have zD := DD2.out.frozen
        have C3 := Lib.hid (fun (wz : World) (hz : RdAt B W wz q r2 0) => rnum hz)
        go_wp2_with fail
        refine (C3.out _ (RdAt.sets R2.out (b := w0.heap.size) (by omega) 2 [.int .i64 a2])).mono ?_
        rintro e3 w3 (⟨a3, r3, _, rfl, hx3, hr3, rfl, hrd3, hk3⟩ | ⟨rfl, hno, hk3⟩)
        rotate_left
        · have NO := Lib.hid (show No OkFn encFn r by
            intro z s hz e
            obtain ⟨c0, c1, c2, c3, c4⟩ := z
            obtain ⟨g0, g2, g3, g4⟩ := hz
            simp only [encFn_mk, List.append_assoc] at e
            rw [HR0.out] at e
            rw [HR1.out] at e
            rw [HR2.out] at e
            try simp only [List.append_assoc] at e
            obtain ⟨_, e⟩ := encS_pi X0.out g0 e
            obtain ⟨_, e⟩ := encT_pi e
            obtain ⟨_, e⟩ := le8_pi X2.out g2 e
            exact hno _ _ g3 e
            )
          have KF := Lib.hid (Kp.thn (Kp.sets K2.out (b := w0.heap.size) (fun _ => by omega) 2 [.int .i64 a2]) hk3)
          clear hno hk3 C3
          unfold PAN
          go_wp2_with fail
          exact ⟨rfl, .inr ⟨rfl, NO.out, KF.out⟩⟩
        · clear C3
          have R3 := Lib.hid hrd3
          have K3 := Lib.hid (Kp.thn (Kp.sets K2.out (b := w0.heap.size) (fun _ => by omega) 2 [.int .i64 a2]) hk3)
          have X3 := Lib.hid hx3
          have HR3 := Lib.hid hr3
          have s3 : w0.heap.size + 1 ≤ w3.heap.size := by
            have := hk3.size
            try simp only [size_sets, size_alloc] at this
            omega
          have DR3 := Lib.hid (show Blk w3 w.heap.size [.string ⟨#[]⟩, .bool false, .int .i64 0, .int .i64 0, .slice none 0 0] 67 from Blk.kp (Blk.setsO DR2.out (b' := w0.heap.size) (by omega) 2 [.int .i64 a2]) hk3 (fun e => by omega))
          have DD3 := Lib.hid (show Blk w3 w0.heap.size [.string a0, .bool a1, .int .i64 a2, .int .i64 0, .slice none 0 0] 67 from Blk.kp (Blk.sets DD2.out 2 [.int .i64 a2]) hk3 (fun e => by omega))
          clear cR zR cD zD
          clear hrd3 hk3 hx3 hr3
          have cR := DR3.out.cell
          have zR := DR3.out.frozen
          have cD := DD3.out.cell
          have zD := DD3.out.frozen
          have C4 := Lib.hid (fun (wz : World) (hz : RdAt B W wz q r3 0) => takes_St (fun wz r hz => rstat_any 101 (by omega) (by omega) hz) wz r3 hz)
          go_wp2_with fail
          refine (C4.out _ (RdAt.sets R3.out (b := w0.heap.size) (by omega) 3 [.int .i64 a3])).mono ?_
          rintro e4 w4 (⟨a4, r4, v4, rfl, hx4, hr4, hv4, hrd4, hk4⟩ | ⟨rfl, hno, hk4⟩)
          rotate_left
          · have NO := Lib.hid (show No OkFn encFn r by
              intro z s hz e
              obtain ⟨c0, c1, c2, c3, c4⟩ := z
              obtain ⟨g0, g2, g3, g4⟩ := hz
              simp only [encFn_mk, List.append_assoc] at e
              rw [HR0.out] at e
              rw [HR1.out] at e
              rw [HR2.out] at e
              rw [HR3.out] at e
              try simp only [List.append_assoc] at e
              obtain ⟨_, e⟩ := encS_pi X0.out g0 e
              obtain ⟨_, e⟩ := encT_pi e
              obtain ⟨_, e⟩ := le8_pi X2.out g2 e
              obtain ⟨_, e⟩ := le8_pi X3.out g3 e
              exact hno _ _ g4 e
              )
            have KF := Lib.hid (Kp.thn (Kp.sets K3.out (b := w0.heap.size) (fun _ => by omega) 3 [.int .i64 a3]) hk4)
            clear hno hk4 C4
            unfold PAN
            go_wp2_with fail
            exact ⟨rfl, .inr ⟨rfl, NO.out, KF.out⟩⟩
          · clear C4
            have R4 := Lib.hid hrd4
            have K4 := Lib.hid (Kp.thn (Kp.sets K3.out (b := w0.heap.size) (fun _ => by omega) 3 [.int .i64 a3]) hk4)
            have X4 := Lib.hid hx4
            have HR4 := Lib.hid hr4
            have s4 : w0.heap.size + 1 ≤ w4.heap.size := by
              have := hk4.size
              try simp only [size_sets, size_alloc] at this
              omega
            have DR4 := Lib.hid (show Blk w4 w.heap.size [.string ⟨#[]⟩, .bool false, .int .i64 0, .int .i64 0, .slice none 0 0] 67 from Blk.kp (Blk.setsO DR3.out (b' := w0.heap.size) (by omega) 3 [.int .i64 a3]) hk4 (fun e => by omega))
            have DD4 := Lib.hid (show Blk w4 w0.heap.size [.string a0, .bool a1, .int .i64 a2, .int .i64 a3, .slice none 0 0] 67 from Blk.kp (Blk.sets DD3.out 3 [.int .i64 a3]) hk4 (fun e => by omega))
            clear cR zR cD zD
            have P4 := Lib.hid (SlT.lo (carry_St 101) (L' := w0.heap.size + 1) hv4 (by (try simp only [size_sets, size_alloc]); omega))
            obtain ⟨y4, y4l, y4c, rfl⟩ := SlT.slice hv4
            clear hv4
            clear hrd4 hk4 hx4 hr4
            have cR := DR4.out.cell
            have zR := DR4.out.frozen
            have cD := DD4.out.cell
            have zD := DD4.out.frozen
            have FIN := Lib.hid (show Rp B W q r 0 OkFn encFn (VT FnT) w (.returned (.agg #[.string a0, .bool a1, .int .i64 a2, .int .i64 a3, .slice y4 y4l y4c])) (lays (lays w4 (w0.heap.size) 4 [.slice y4 y4l y4c]) (w.heap.size) 0 [.string a0, .bool a1, .int .i64 a2, .int .i64 a3, .slice y4 y4l y4c]) by
              have KL := (Kp.sets (Kp.sets (Kp.refl (fun b => b < w0.heap.size + 1) w4) (b := w0.heap.size) (fun _ => by omega) 4 [.slice y4 y4l y4c]) (b := w.heap.size) (fun _ => by omega) 0 [.string a0, .bool a1, .int .i64 a2, .int .i64 a3, .slice y4 y4l y4c])
              have P4' := SlT.lo (carry_St 101) (L' := w.heap.size) (SlT.next (carry_St 101) P4.out KL) (by omega)
              refine .inl ⟨⟨a0, a1, a2, a3, a4⟩, r4, _, rfl, ⟨X0.out, X2.out, X3.out, X4.out⟩, ?_, ⟨[.string a0, .bool a1, .int .i64 a2, .int .i64 a3, .slice y4 y4l y4c], rfl, ?_⟩, (RdAt.sets (RdAt.sets R4.out (b := w0.heap.size) (by omega) 4 [.slice y4 y4l y4c]) (b := w.heap.size) (by omega) 0 [.string a0, .bool a1, .int .i64 a2, .int .i64 a3, .slice y4 y4l y4c]), (Kp.sets (Kp.sets K4.out (b := w0.heap.size) (fun _ => by omega) 4 [.slice y4 y4l y4c]) (b := w.heap.size) (fun _ => by omega) 0 [.string a0, .bool a1, .int .i64 a2, .int .i64 a3, .slice y4 y4l y4c])⟩
              · rw [HR0.out, HR1.out, HR2.out, HR3.out, HR4.out, encFn_mk]; simp only [List.append_assoc]
              · exact ⟨_, rfl, X0.out, X2.out, X3.out, P4'⟩
              )
            clear P4
            have fR0 := cR 0
            have fR1 := cR 1
            have fR2 := cR 2
            have fR3 := cR 3
            have fR4 := cR 4
            simp only [List.getElem?_cons_zero, List.getElem?_cons_succ] at fR0 fR1 fR2 fR3 fR4
            go_wp2_with fail
            try simp only [Exit.inBlock, Exit.then]
            refine bodyPost_ret (v := .agg #[.string a0, .bool a1, .int .i64 a2, .int .i64 a3, .slice y4 y4l y4c]) (by simp [results, Try.results40, go_sem, fR0, fR1, fR2, fR3, fR4]) rfl FIN.out
end Go.Proofs.Ytpopgnengimieaa
