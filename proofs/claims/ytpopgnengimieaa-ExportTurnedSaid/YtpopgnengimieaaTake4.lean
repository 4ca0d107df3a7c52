/- Reading a unit's bytes: the lists. -/
import Derived.Test.YtpopgnengimieaaTake3
namespace Go.Proofs.Ytpopgnengimieaa
open Go.RowKit
set_option linter.unusedSimpArgs false
set_option linter.unusedVariables false
theorem shapeT_Ty {T : Nat → Prop} {W : World} {m : Nat} {x : Ty} {cs : List Value} (h : TyT T W m x cs) : ∃ (q0 : Int) (q1 : ByteArray) (q2 : ByteArray) (q3 : Option Addr) (q3l q3c : Nat) (q4 : Option Addr) (q4l q4c : Nat), cs = [.int .i64 q0, .string q1, .string q2, .slice q3 q3l q3c, .slice q4 q4l q4c] := by
  cases m with
  | zero => exact h.elim
  | succ m =>
    obtain ⟨k, p, n, la, lr⟩ := x
    obtain ⟨va, vr, rfl, _, _, _, h4, h5⟩ := h
    obtain ⟨a, b, c, rfl⟩ := h4.slice
    obtain ⟨a', b', c', rfl⟩ := h5.slice
    exact ⟨_, _, _, _, _, _, _, _, _, rfl⟩
theorem shapeT_Ex {T : Nat → Prop} {W : World} {m : Nat} {x : Ex} {cs : List Value} (h : ExT T W m x cs) : ∃ (q0 : Int) (q1 : Int) (q2 : ByteArray) (q3 : Option Addr) (q3l q3c : Nat), cs = [.int .i64 q0, .int .i64 q1, .string q2, .slice q3 q3l q3c] := by
  cases m with
  | zero => exact h.elim
  | succ m =>
    obtain ⟨k, p, n, la⟩ := x
    obtain ⟨va, rfl, _, _, _, h4⟩ := h
    obtain ⟨a, b, c, rfl⟩ := h4.slice
    exact ⟨_, _, _, _, _, _, rfl⟩
theorem shapeT_St {T : Nat → Prop} {W : World} {m : Nat} {x : St} {cs : List Value} (h : StT T W m x cs) : ∃ (q0 : Int) (q1 : Int) (q2 : Option Addr) (q2l q2c : Nat) (q3 : Option Addr) (q3l q3c : Nat) (q4 : Option Addr) (q4l q4c : Nat), cs = [.int .i64 q0, .int .i64 q1, .slice q2 q2l q2c, .slice q3 q3l q3c, .slice q4 q4l q4c] := by
  cases m with
  | zero => exact h.elim
  | succ m =>
    obtain ⟨k, p, n, la, lr⟩ := x
    obtain ⟨va, vr, vl, rfl, _, _, h3, h4, h5⟩ := h
    obtain ⟨a, b, c, rfl⟩ := h3.slice
    obtain ⟨a', b', c', rfl⟩ := h4.slice
    obtain ⟨a'', b'', c'', rfl⟩ := h5.slice
    exact ⟨_, _, _, _, _, _, _, _, _, _, _, rfl⟩
theorem shapeT_Fd {T : Nat → Prop} {W : World} {x : Fd} {cs : List Value} (h : FdT T W x cs) : ∃ (q0 : ByteArray) (q1 : Int) (q2 : ByteArray) (q3 : ByteArray) (q4 : Option Addr) (q4l q4c : Nat) (q5 : Option Addr) (q5l q5c : Nat), cs = [.string q0, .int .i64 q1, .string q2, .string q3, .slice q4 q4l q4c, .slice q5 q5l q5c] := by
  obtain ⟨ct, rfl, _, _, h⟩ := h
  obtain ⟨_, _, _, _, _, _, _, _, _, rfl⟩ := shapeT_Ty h
  exact ⟨_, _, _, _, _, _, _, _, _, _, rfl⟩
theorem shapeT_Im {T : Nat → Prop} {W : World} {x : Im} {cs : List Value} (h : ImT T W x cs) : ∃ (q0 : ByteArray) (q1 : Int), cs = [.string q0, .int .i64 q1] := by
  exact ⟨_, _, h.1⟩
theorem shapeT_De {T : Nat → Prop} {W : World} {x : De} {cs : List Value} (h : DeT T W x cs) : ∃ (q0 : Int) (q1 : ByteArray) (q2 : ByteArray) (q3 : Int) (q4 : Int) (q5 : ByteArray) (q6 : ByteArray) (q7 : Option Addr) (q7l q7c : Nat) (q8 : Option Addr) (q8l q8c : Nat) (q9 : Option Addr) (q9l q9c : Nat), cs = [.int .i64 q0, .string q1, .string q2, .int .i64 q3, .int .i64 q4, .string q5, .string q6, .slice q7 q7l q7c, .slice q8 q8l q8c, .slice q9 q9l q9c] := by
  obtain ⟨ct, vf, rfl, _, _, _, _, _, h, h5⟩ := h
  obtain ⟨_, _, _, _, _, _, _, _, _, rfl⟩ := shapeT_Ty h
  obtain ⟨a, b, c, rfl⟩ := h5.slice
  exact ⟨_, _, _, _, _, _, _, _, _, _, _, _, _, _, _, _, rfl⟩
theorem shapeT_Fn {T : Nat → Prop} {W : World} {x : Fn1} {cs : List Value} (h : FnT T W x cs) : ∃ (q0 : ByteArray) (q1 : Bool) (q2 : Int) (q3 : Int) (q4 : Option Addr) (q4l q4c : Nat), cs = [.string q0, .bool q1, .int .i64 q2, .int .i64 q3, .slice q4 q4l q4c] := by
  obtain ⟨vb, rfl, _, _, _, h5⟩ := h
  obtain ⟨a, b, c, rfl⟩ := h5.slice
  exact ⟨_, _, _, _, _, _, _, rfl⟩
theorem info_Im : (Try.prog.info? 58).map (fun i => (i.zero, i.size, i.bytes)) = some (some (.agg #[.string ⟨#[]⟩, .int .i64 0]), 2, 24) := by kernel_rfl
theorem pos_Im (x : Im) (h : OkIm x) : 1 ≤ (encIm x).length := by
  unfold encIm; rw [List.length_append, le8_length]; omega
set_option maxRecDepth 100000 in
set_option maxHeartbeats 1000000 in
theorem takes_Im {B : Nat} {W : World} {q : Nat} {k : Int} 
    (one : ∀ (w : World) (r : List UInt8), RdAt B W w q r k → Calls Try.prog 36 #[.pointer (some ⟨q, 0, none⟩)] w (Rp B W q r k OkIm encIm (VT ImT) w))
    (w : World) (r : List UInt8) (h : RdAt B W w q r k) :
    Calls Try.prog 35 #[.pointer (some ⟨q, 0, none⟩), .func (.func 36) #[] #[]] w (Rp B W q r k (OkL OkIm) (encL encIm) (VL 2 ImT) w) := by
  have HC := Lib.hid (rcount h)
  have ONE := Lib.hid one
  have hq := Lib.hid h.lt
  have hB := Lib.hid h.2.1
  obtain ⟨i0, hi, hz0, hz1, hz2⟩ := info_parts info_Im
  clear h one
  go_enter Try.func35, Try.ntmps35
  go_wp2_with fail
  refine (HC.out).mono ?_
  rintro e1 w1 (⟨n, r1, rfl, hr, hn, hrd, hk⟩ | ⟨rfl, hno, hk⟩)
  rotate_left
  · unfold PAN
    go_wp2_with fail
    exact ⟨rfl, .inr ⟨rfl, hno.no (E := OkIm) pos_Im, hk⟩⟩
  · have I0 := Lib.hid (Tk.start (ok := OkIm) (enc := encIm) (nn := 2) (ty := 58) (E := ImT) hn hr hrd hk)
    clear HC hn hr hrd hk
    go_wp2_with fail
    go_loopw [5, 6] (fun v i wr => ∃ m0 : Nat, m0 ≤ n ∧ i = .int .i64 m0 ∧ Tk B W q r k OkIm encIm 2 58 ImT w n v m0 wr) (fun _ i _ => (intOf i).toNat)
    case atStart => exact ⟨n, Nat.le_refl _, rfl, I0.out⟩
    case round =>
      obtain ⟨m0, hm0, rfl, hI⟩ := hrel
      by_cases hlt : 0 < m0
      · obtain ⟨m1, rfl⟩ : ∃ m1, m0 = m1 + 1 := ⟨m0 - 1, by omega⟩
        obtain ⟨l, rc, xs, hl, hn, ⟨x, c, rfl⟩, hr, hx, hrd, hk, how, hrow⟩ := hI
        obtain ⟨ll, hll⟩ : ∃ ll, ll = l.length := ⟨_, rfl⟩
        have HL := Lib.hid hl
        have HN := Lib.hid hn
        have HR := Lib.hid hr
        have HX := Lib.hid hx
        have HK := Lib.hid hk
        have HOW := Lib.hid how
        have HROW := Lib.hid hrow
        have HRD := Lib.hid hrd
        have LL := Lib.hid hll
        rw [← hll]
        clear hl hr hx hk how hrow hrd hll I0
        have hm1 : (m1 : Int) ≤ 262144 := by omega
        have hw0 : IntKind.i64.wrap ((m1 : Int) + 1 - 1) = m1 := by rw [IntWalk.i64_in _ (by omega)]; omega
        have hw1 : (0 : Int) < (m1 : Int) + 1 := by omega
        go_wp2_with fail
        refine (ONE.out _ _ HRD.out).mono ?_
        rintro e2 w2 (⟨y, rc', _, rfl, hy, hre, ⟨cs, rfl, hcs⟩, hrd2, hk2⟩ | ⟨rfl, hno, hk2⟩)
        · obtain ⟨t0, t1, rfl⟩ := shapeT_Im hcs
          have ST := Lib.hid (fun (x' : Option Addr) (c' : Nat) (w3 : World) (ho : w3.ownsRow w.heap.size 58 2 (.slice x' (l.length + 1) c') (l.length + 1) (xs ++ [.string t0, .int .i64 t1])) (hg : (w2.alloc (.cells #[.string t0, .int .i64 t1] 58)).grownBy w3 (Value.slice x l.length c).ownBlock) hloc =>
            Tk.step carry_Im (ob := .cells #[.string t0, .int .i64 t1] 58) hq.out hB.out HL.out HN.out HR.out HX.out HK.out HOW.out HROW.out hy hre hcs rfl hrd2 hk2 ho hg hloc)
          have HO2 := Lib.hid ((own_kp HOW.out hk2 (fun g hg e => by have := own_lt HOW.out hg; have := hq.out; omega)).alloc (.cells #[.string t0, .int .i64 t1] 58))
          have HN1 := Lib.hid (cells_new w2 [.string t0, .int .i64 t1] 58)
          have HN2 := Lib.hid (show ∀ u ∈ [(.string t0 : Value), .int .i64 t1], u.oneCell' = true from by
            intro u hu
            simp only [List.mem_cons, List.not_mem_nil, or_false] at hu
            rcases hu with rfl | rfl <;> rfl)
          have H63 := Lib.hid (show l.length + 1 ≤ maxLen by have := HL.out; have := HN.out; unfold maxLen; omega)
          have HBY := Lib.hid (show (l.length + 1) * 24 ≤ 140737488355328 by have := HL.out; have := HN.out; omega)
          have HBS := Lib.hid (show w.heap.size ≤ (w2.alloc (.cells #[.string t0, .int .i64 t1] 58)).heap.size by have := HK.out.size; have := hk2.size; simp; omega)
          clear hy hre hcs hrd2 hk2
          rw [← LL.out] at ST HO2 H63 HBY
          go_wp2_with (at_builtin; refine wpList_app _ rfl (.tmp 13) (.tmp 17) 26 rfl w.heap.size 58 i0 (.agg #[.string ⟨#[]⟩, .int .i64 0]) 2 24 Try.underlying26 hi hz0 hz1 hz2 rfl (by decide) _ _ _ rfl HO2.out ⟨w2.heap.size, 0, none⟩ 1 1 [.string t0, .int .i64 t1] rfl rfl HN1.out HN2.out H63.out HBY.out HBS.out ?_; intro x' c' w3 ho hg hl'; have S3 := Lib.hid (ST.out x' c' w3 ho hg hl'); clear ho hg hl')
          go_wp2_with fail
          go_roundw
          case rel => exact ⟨m1, by omega, by first | rfl | go_num, S3.out⟩
          case measure => simp [intOf] <;> omega
        · have FAIL := Lib.hid (Tk.fails (B := B) (W := W) (k := k) (nn := 2) (E := ImT) pi_OkIm HL.out HN.out HR.out HX.out HK.out hno hk2)
          clear hno hk2
          unfold PAN
          go_wp2_with fail
          exact ⟨rfl, FAIL.out⟩
      · obtain rfl : m0 = 0 := by omega
        have FIN := Lib.hid (Tk.done carry_Im hI)
        clear hI I0
        go_wp2_with fail
        go_returns
        exact FIN.out
theorem info_Fd : (Try.prog.info? 93).map (fun i => (i.zero, i.size, i.bytes)) = some (some (.agg #[.string ⟨#[]⟩, .int .i64 0, .string ⟨#[]⟩, .string ⟨#[]⟩, .slice none 0 0, .slice none 0 0]), 6, 104) := by kernel_rfl
theorem pos_Fd (x : Fd) (h : OkFd x) : 1 ≤ (encFd x).length := by
  unfold encFd encS; simp only [List.length_append, le8_length]; omega
set_option maxRecDepth 100000 in
set_option maxHeartbeats 1000000 in
theorem takes_Fd {B : Nat} {W : World} {q : Nat} {k : Int} 
    (one : ∀ (w : World) (r : List UInt8), RdAt B W w q r k → Calls Try.prog 68 #[.pointer (some ⟨q, 0, none⟩)] w (Rp B W q r k OkFd encFd (VT FdT) w))
    (w : World) (r : List UInt8) (h : RdAt B W w q r k) :
    Calls Try.prog 67 #[.pointer (some ⟨q, 0, none⟩), .func (.func 68) #[] #[]] w (Rp B W q r k (OkL OkFd) (encL encFd) (VL 6 FdT) w) := by
  have HC := Lib.hid (rcount h)
  have ONE := Lib.hid one
  have hq := Lib.hid h.lt
  have hB := Lib.hid h.2.1
  obtain ⟨i0, hi, hz0, hz1, hz2⟩ := info_parts info_Fd
  clear h one
  go_enter Try.func67, Try.ntmps67
  go_wp2_with fail
  refine (HC.out).mono ?_
  rintro e1 w1 (⟨n, r1, rfl, hr, hn, hrd, hk⟩ | ⟨rfl, hno, hk⟩)
  rotate_left
  · unfold PAN
    go_wp2_with fail
    exact ⟨rfl, .inr ⟨rfl, hno.no (E := OkFd) pos_Fd, hk⟩⟩
  · have I0 := Lib.hid (Tk.start (ok := OkFd) (enc := encFd) (nn := 6) (ty := 93) (E := FdT) hn hr hrd hk)
    clear HC hn hr hrd hk
    go_wp2_with fail
    go_loopw [5, 6] (fun v i wr => ∃ m0 : Nat, m0 ≤ n ∧ i = .int .i64 m0 ∧ Tk B W q r k OkFd encFd 6 93 FdT w n v m0 wr) (fun _ i _ => (intOf i).toNat)
    case atStart => exact ⟨n, Nat.le_refl _, rfl, I0.out⟩
    case round =>
      obtain ⟨m0, hm0, rfl, hI⟩ := hrel
      by_cases hlt : 0 < m0
      · obtain ⟨m1, rfl⟩ : ∃ m1, m0 = m1 + 1 := ⟨m0 - 1, by omega⟩
        obtain ⟨l, rc, xs, hl, hn, ⟨x, c, rfl⟩, hr, hx, hrd, hk, how, hrow⟩ := hI
        obtain ⟨ll, hll⟩ : ∃ ll, ll = l.length := ⟨_, rfl⟩
        have HL := Lib.hid hl
        have HN := Lib.hid hn
        have HR := Lib.hid hr
        have HX := Lib.hid hx
        have HK := Lib.hid hk
        have HOW := Lib.hid how
        have HROW := Lib.hid hrow
        have HRD := Lib.hid hrd
        have LL := Lib.hid hll
        rw [← hll]
        clear hl hr hx hk how hrow hrd hll I0
        have hm1 : (m1 : Int) ≤ 262144 := by omega
        have hw0 : IntKind.i64.wrap ((m1 : Int) + 1 - 1) = m1 := by rw [IntWalk.i64_in _ (by omega)]; omega
        have hw1 : (0 : Int) < (m1 : Int) + 1 := by omega
        go_wp2_with fail
        refine (ONE.out _ _ HRD.out).mono ?_
        rintro e2 w2 (⟨y, rc', _, rfl, hy, hre, ⟨cs, rfl, hcs⟩, hrd2, hk2⟩ | ⟨rfl, hno, hk2⟩)
        · obtain ⟨t0, t1, t2, t3, t4, t4l, t4c, t5, t5l, t5c, rfl⟩ := shapeT_Fd hcs
          have ST := Lib.hid (fun (x' : Option Addr) (c' : Nat) (w3 : World) (ho : w3.ownsRow w.heap.size 93 6 (.slice x' (l.length + 1) c') (l.length + 1) (xs ++ [.string t0, .int .i64 t1, .string t2, .string t3, .slice t4 t4l t4c, .slice t5 t5l t5c])) (hg : (w2.alloc (.cells #[.string t0, .int .i64 t1, .string t2, .string t3, .slice t4 t4l t4c, .slice t5 t5l t5c] 93)).grownBy w3 (Value.slice x l.length c).ownBlock) hloc =>
            Tk.step carry_Fd (ob := .cells #[.string t0, .int .i64 t1, .string t2, .string t3, .slice t4 t4l t4c, .slice t5 t5l t5c] 93) hq.out hB.out HL.out HN.out HR.out HX.out HK.out HOW.out HROW.out hy hre hcs rfl hrd2 hk2 ho hg hloc)
          have HO2 := Lib.hid ((own_kp HOW.out hk2 (fun g hg e => by have := own_lt HOW.out hg; have := hq.out; omega)).alloc (.cells #[.string t0, .int .i64 t1, .string t2, .string t3, .slice t4 t4l t4c, .slice t5 t5l t5c] 93))
          have HN1 := Lib.hid (cells_new w2 [.string t0, .int .i64 t1, .string t2, .string t3, .slice t4 t4l t4c, .slice t5 t5l t5c] 93)
          have HN2 := Lib.hid (show ∀ u ∈ [(.string t0 : Value), .int .i64 t1, .string t2, .string t3, .slice t4 t4l t4c, .slice t5 t5l t5c], u.oneCell' = true from by
            intro u hu
            simp only [List.mem_cons, List.not_mem_nil, or_false] at hu
            rcases hu with rfl | rfl | rfl | rfl | rfl | rfl <;> rfl)
          have H63 := Lib.hid (show l.length + 1 ≤ maxLen by have := HL.out; have := HN.out; unfold maxLen; omega)
          have HBY := Lib.hid (show (l.length + 1) * 104 ≤ 140737488355328 by have := HL.out; have := HN.out; omega)
          have HBS := Lib.hid (show w.heap.size ≤ (w2.alloc (.cells #[.string t0, .int .i64 t1, .string t2, .string t3, .slice t4 t4l t4c, .slice t5 t5l t5c] 93)).heap.size by have := HK.out.size; have := hk2.size; simp; omega)
          clear hy hre hcs hrd2 hk2
          rw [← LL.out] at ST HO2 H63 HBY
          go_wp2_with (at_builtin; refine wpList_app _ rfl (.tmp 13) (.tmp 17) 42 rfl w.heap.size 93 i0 (.agg #[.string ⟨#[]⟩, .int .i64 0, .string ⟨#[]⟩, .string ⟨#[]⟩, .slice none 0 0, .slice none 0 0]) 6 104 Try.underlying42 hi hz0 hz1 hz2 rfl (by decide) _ _ _ rfl HO2.out ⟨w2.heap.size, 0, none⟩ 1 1 [.string t0, .int .i64 t1, .string t2, .string t3, .slice t4 t4l t4c, .slice t5 t5l t5c] rfl rfl HN1.out HN2.out H63.out HBY.out HBS.out ?_; intro x' c' w3 ho hg hl'; have S3 := Lib.hid (ST.out x' c' w3 ho hg hl'); clear ho hg hl')
          go_wp2_with fail
          go_roundw
          case rel => exact ⟨m1, by omega, by first | rfl | go_num, S3.out⟩
          case measure => simp [intOf] <;> omega
        · have FAIL := Lib.hid (Tk.fails (B := B) (W := W) (k := k) (nn := 6) (E := FdT) pi_OkFd HL.out HN.out HR.out HX.out HK.out hno hk2)
          clear hno hk2
          unfold PAN
          go_wp2_with fail
          exact ⟨rfl, FAIL.out⟩
      · obtain rfl : m0 = 0 := by omega
        have FIN := Lib.hid (Tk.done carry_Fd hI)
        clear hI I0
        go_wp2_with fail
        go_returns
        exact FIN.out
theorem info_De : (Try.prog.info? 44).map (fun i => (i.zero, i.size, i.bytes)) = some (some (.agg #[.int .i64 0, .string ⟨#[]⟩, .string ⟨#[]⟩, .int .i64 0, .int .i64 0, .string ⟨#[]⟩, .string ⟨#[]⟩, .slice none 0 0, .slice none 0 0, .slice none 0 0]), 10, 160) := by kernel_rfl
theorem pos_De (x : De) (h : OkDe x) : 1 ≤ (encDe x).length := by
  unfold encDe; simp only [List.length_append, le8_length]; omega
set_option maxRecDepth 100000 in
set_option maxHeartbeats 1000000 in
theorem takes_De {B : Nat} {W : World} {q : Nat} {k : Int} 
    (one : ∀ (w : World) (r : List UInt8), RdAt B W w q r k → Calls Try.prog 38 #[.pointer (some ⟨q, 0, none⟩)] w (Rp B W q r k OkDe encDe (VT DeT) w))
    (w : World) (r : List UInt8) (h : RdAt B W w q r k) :
    Calls Try.prog 37 #[.pointer (some ⟨q, 0, none⟩), .func (.func 38) #[] #[]] w (Rp B W q r k (OkL OkDe) (encL encDe) (VL 10 DeT) w) := by
  have HC := Lib.hid (rcount h)
  have ONE := Lib.hid one
  have hq := Lib.hid h.lt
  have hB := Lib.hid h.2.1
  obtain ⟨i0, hi, hz0, hz1, hz2⟩ := info_parts info_De
  clear h one
  go_enter Try.func37, Try.ntmps37
  go_wp2_with fail
  refine (HC.out).mono ?_
  rintro e1 w1 (⟨n, r1, rfl, hr, hn, hrd, hk⟩ | ⟨rfl, hno, hk⟩)
  rotate_left
  · unfold PAN
    go_wp2_with fail
    exact ⟨rfl, .inr ⟨rfl, hno.no (E := OkDe) pos_De, hk⟩⟩
  · have I0 := Lib.hid (Tk.start (ok := OkDe) (enc := encDe) (nn := 10) (ty := 44) (E := DeT) hn hr hrd hk)
    clear HC hn hr hrd hk
    go_wp2_with fail
    go_loopw [5, 6] (fun v i wr => ∃ m0 : Nat, m0 ≤ n ∧ i = .int .i64 m0 ∧ Tk B W q r k OkDe encDe 10 44 DeT w n v m0 wr) (fun _ i _ => (intOf i).toNat)
    case atStart => exact ⟨n, Nat.le_refl _, rfl, I0.out⟩
    case round =>
      obtain ⟨m0, hm0, rfl, hI⟩ := hrel
      by_cases hlt : 0 < m0
      · obtain ⟨m1, rfl⟩ : ∃ m1, m0 = m1 + 1 := ⟨m0 - 1, by omega⟩
        obtain ⟨l, rc, xs, hl, hn, ⟨x, c, rfl⟩, hr, hx, hrd, hk, how, hrow⟩ := hI
        obtain ⟨ll, hll⟩ : ∃ ll, ll = l.length := ⟨_, rfl⟩
        have HL := Lib.hid hl
        have HN := Lib.hid hn
        have HR := Lib.hid hr
        have HX := Lib.hid hx
        have HK := Lib.hid hk
        have HOW := Lib.hid how
        have HROW := Lib.hid hrow
        have HRD := Lib.hid hrd
        have LL := Lib.hid hll
        rw [← hll]
        clear hl hr hx hk how hrow hrd hll I0
        have hm1 : (m1 : Int) ≤ 262144 := by omega
        have hw0 : IntKind.i64.wrap ((m1 : Int) + 1 - 1) = m1 := by rw [IntWalk.i64_in _ (by omega)]; omega
        have hw1 : (0 : Int) < (m1 : Int) + 1 := by omega
        go_wp2_with fail
        refine (ONE.out _ _ HRD.out).mono ?_
        rintro e2 w2 (⟨y, rc', _, rfl, hy, hre, ⟨cs, rfl, hcs⟩, hrd2, hk2⟩ | ⟨rfl, hno, hk2⟩)
        · obtain ⟨t0, t1, t2, t3, t4, t5, t6, t7, t7l, t7c, t8, t8l, t8c, t9, t9l, t9c, rfl⟩ := shapeT_De hcs
          have ST := Lib.hid (fun (x' : Option Addr) (c' : Nat) (w3 : World) (ho : w3.ownsRow w.heap.size 44 10 (.slice x' (l.length + 1) c') (l.length + 1) (xs ++ [.int .i64 t0, .string t1, .string t2, .int .i64 t3, .int .i64 t4, .string t5, .string t6, .slice t7 t7l t7c, .slice t8 t8l t8c, .slice t9 t9l t9c])) (hg : (w2.alloc (.cells #[.int .i64 t0, .string t1, .string t2, .int .i64 t3, .int .i64 t4, .string t5, .string t6, .slice t7 t7l t7c, .slice t8 t8l t8c, .slice t9 t9l t9c] 44)).grownBy w3 (Value.slice x l.length c).ownBlock) hloc =>
            Tk.step carry_De (ob := .cells #[.int .i64 t0, .string t1, .string t2, .int .i64 t3, .int .i64 t4, .string t5, .string t6, .slice t7 t7l t7c, .slice t8 t8l t8c, .slice t9 t9l t9c] 44) hq.out hB.out HL.out HN.out HR.out HX.out HK.out HOW.out HROW.out hy hre hcs rfl hrd2 hk2 ho hg hloc)
          have HO2 := Lib.hid ((own_kp HOW.out hk2 (fun g hg e => by have := own_lt HOW.out hg; have := hq.out; omega)).alloc (.cells #[.int .i64 t0, .string t1, .string t2, .int .i64 t3, .int .i64 t4, .string t5, .string t6, .slice t7 t7l t7c, .slice t8 t8l t8c, .slice t9 t9l t9c] 44))
          have HN1 := Lib.hid (cells_new w2 [.int .i64 t0, .string t1, .string t2, .int .i64 t3, .int .i64 t4, .string t5, .string t6, .slice t7 t7l t7c, .slice t8 t8l t8c, .slice t9 t9l t9c] 44)
          have HN2 := Lib.hid (show ∀ u ∈ [(.int .i64 t0 : Value), .string t1, .string t2, .int .i64 t3, .int .i64 t4, .string t5, .string t6, .slice t7 t7l t7c, .slice t8 t8l t8c, .slice t9 t9l t9c], u.oneCell' = true from by
            intro u hu
            simp only [List.mem_cons, List.not_mem_nil, or_false] at hu
            rcases hu with rfl | rfl | rfl | rfl | rfl | rfl | rfl | rfl | rfl | rfl <;> rfl)
          have H63 := Lib.hid (show l.length + 1 ≤ maxLen by have := HL.out; have := HN.out; unfold maxLen; omega)
          have HBY := Lib.hid (show (l.length + 1) * 160 ≤ 140737488355328 by have := HL.out; have := HN.out; omega)
          have HBS := Lib.hid (show w.heap.size ≤ (w2.alloc (.cells #[.int .i64 t0, .string t1, .string t2, .int .i64 t3, .int .i64 t4, .string t5, .string t6, .slice t7 t7l t7c, .slice t8 t8l t8c, .slice t9 t9l t9c] 44)).heap.size by have := HK.out.size; have := hk2.size; simp; omega)
          clear hy hre hcs hrd2 hk2
          rw [← LL.out] at ST HO2 H63 HBY
          go_wp2_with (at_builtin; refine wpList_app _ rfl (.tmp 13) (.tmp 17) 27 rfl w.heap.size 44 i0 (.agg #[.int .i64 0, .string ⟨#[]⟩, .string ⟨#[]⟩, .int .i64 0, .int .i64 0, .string ⟨#[]⟩, .string ⟨#[]⟩, .slice none 0 0, .slice none 0 0, .slice none 0 0]) 10 160 Try.underlying27 hi hz0 hz1 hz2 rfl (by decide) _ _ _ rfl HO2.out ⟨w2.heap.size, 0, none⟩ 1 1 [.int .i64 t0, .string t1, .string t2, .int .i64 t3, .int .i64 t4, .string t5, .string t6, .slice t7 t7l t7c, .slice t8 t8l t8c, .slice t9 t9l t9c] rfl rfl HN1.out HN2.out H63.out HBY.out HBS.out ?_; intro x' c' w3 ho hg hl'; have S3 := Lib.hid (ST.out x' c' w3 ho hg hl'); clear ho hg hl')
          go_wp2_with fail
          go_roundw
          case rel => exact ⟨m1, by omega, by first | rfl | go_num, S3.out⟩
          case measure => simp [intOf] <;> omega
        · have FAIL := Lib.hid (Tk.fails (B := B) (W := W) (k := k) (nn := 10) (E := DeT) pi_OkDe HL.out HN.out HR.out HX.out HK.out hno hk2)
          clear hno hk2
          unfold PAN
          go_wp2_with fail
          exact ⟨rfl, FAIL.out⟩
      · obtain rfl : m0 = 0 := by omega
        have FIN := Lib.hid (Tk.done carry_De hI)
        clear hI I0
        go_wp2_with fail
        go_returns
        exact FIN.out
theorem info_Fn : (Try.prog.info? 67).map (fun i => (i.zero, i.size, i.bytes)) = some (some (.agg #[.string ⟨#[]⟩, .bool false, .int .i64 0, .int .i64 0, .slice none 0 0]), 5, 64) := by kernel_rfl
theorem pos_Fn (x : Fn1) (h : OkFn x) : 1 ≤ (encFn x).length := by
  unfold encFn; simp only [List.length_append, le8_length]; omega
set_option maxRecDepth 100000 in
set_option maxHeartbeats 1000000 in
theorem takes_Fn {B : Nat} {W : World} {q : Nat} {k : Int} 
    (one : ∀ (w : World) (r : List UInt8), RdAt B W w q r k → Calls Try.prog 40 #[.pointer (some ⟨q, 0, none⟩)] w (Rp B W q r k OkFn encFn (VT FnT) w))
    (w : World) (r : List UInt8) (h : RdAt B W w q r k) :
    Calls Try.prog 39 #[.pointer (some ⟨q, 0, none⟩), .func (.func 40) #[] #[]] w (Rp B W q r k (OkL OkFn) (encL encFn) (VL 5 FnT) w) := by
  have HC := Lib.hid (rcount h)
  have ONE := Lib.hid one
  have hq := Lib.hid h.lt
  have hB := Lib.hid h.2.1
  obtain ⟨i0, hi, hz0, hz1, hz2⟩ := info_parts info_Fn
  clear h one
  go_enter Try.func39, Try.ntmps39
  go_wp2_with fail
  refine (HC.out).mono ?_
  rintro e1 w1 (⟨n, r1, rfl, hr, hn, hrd, hk⟩ | ⟨rfl, hno, hk⟩)
  rotate_left
  · unfold PAN
    go_wp2_with fail
    exact ⟨rfl, .inr ⟨rfl, hno.no (E := OkFn) pos_Fn, hk⟩⟩
  · have I0 := Lib.hid (Tk.start (ok := OkFn) (enc := encFn) (nn := 5) (ty := 67) (E := FnT) hn hr hrd hk)
    clear HC hn hr hrd hk
    go_wp2_with fail
    go_loopw [5, 6] (fun v i wr => ∃ m0 : Nat, m0 ≤ n ∧ i = .int .i64 m0 ∧ Tk B W q r k OkFn encFn 5 67 FnT w n v m0 wr) (fun _ i _ => (intOf i).toNat)
    case atStart => exact ⟨n, Nat.le_refl _, rfl, I0.out⟩
    case round =>
      obtain ⟨m0, hm0, rfl, hI⟩ := hrel
      by_cases hlt : 0 < m0
      · obtain ⟨m1, rfl⟩ : ∃ m1, m0 = m1 + 1 := ⟨m0 - 1, by omega⟩
        obtain ⟨l, rc, xs, hl, hn, ⟨x, c, rfl⟩, hr, hx, hrd, hk, how, hrow⟩ := hI
        obtain ⟨ll, hll⟩ : ∃ ll, ll = l.length := ⟨_, rfl⟩
        have HL := Lib.hid hl
        have HN := Lib.hid hn
        have HR := Lib.hid hr
        have HX := Lib.hid hx
        have HK := Lib.hid hk
        have HOW := Lib.hid how
        have HROW := Lib.hid hrow
        have HRD := Lib.hid hrd
        have LL := Lib.hid hll
        rw [← hll]
        clear hl hr hx hk how hrow hrd hll I0
        have hm1 : (m1 : Int) ≤ 262144 := by omega
        have hw0 : IntKind.i64.wrap ((m1 : Int) + 1 - 1) = m1 := by rw [IntWalk.i64_in _ (by omega)]; omega
        have hw1 : (0 : Int) < (m1 : Int) + 1 := by omega
        go_wp2_with fail
        refine (ONE.out _ _ HRD.out).mono ?_
        rintro e2 w2 (⟨y, rc', _, rfl, hy, hre, ⟨cs, rfl, hcs⟩, hrd2, hk2⟩ | ⟨rfl, hno, hk2⟩)
        · obtain ⟨t0, t1, t2, t3, t4, t4l, t4c, rfl⟩ := shapeT_Fn hcs
          have ST := Lib.hid (fun (x' : Option Addr) (c' : Nat) (w3 : World) (ho : w3.ownsRow w.heap.size 67 5 (.slice x' (l.length + 1) c') (l.length + 1) (xs ++ [.string t0, .bool t1, .int .i64 t2, .int .i64 t3, .slice t4 t4l t4c])) (hg : (w2.alloc (.cells #[.string t0, .bool t1, .int .i64 t2, .int .i64 t3, .slice t4 t4l t4c] 67)).grownBy w3 (Value.slice x l.length c).ownBlock) hloc =>
            Tk.step carry_Fn (ob := .cells #[.string t0, .bool t1, .int .i64 t2, .int .i64 t3, .slice t4 t4l t4c] 67) hq.out hB.out HL.out HN.out HR.out HX.out HK.out HOW.out HROW.out hy hre hcs rfl hrd2 hk2 ho hg hloc)
          have HO2 := Lib.hid ((own_kp HOW.out hk2 (fun g hg e => by have := own_lt HOW.out hg; have := hq.out; omega)).alloc (.cells #[.string t0, .bool t1, .int .i64 t2, .int .i64 t3, .slice t4 t4l t4c] 67))
          have HN1 := Lib.hid (cells_new w2 [.string t0, .bool t1, .int .i64 t2, .int .i64 t3, .slice t4 t4l t4c] 67)
          have HN2 := Lib.hid (show ∀ u ∈ [(.string t0 : Value), .bool t1, .int .i64 t2, .int .i64 t3, .slice t4 t4l t4c], u.oneCell' = true from by
            intro u hu
            simp only [List.mem_cons, List.not_mem_nil, or_false] at hu
            rcases hu with rfl | rfl | rfl | rfl | rfl <;> rfl)
          have H63 := Lib.hid (show l.length + 1 ≤ maxLen by have := HL.out; have := HN.out; unfold maxLen; omega)
          have HBY := Lib.hid (show (l.length + 1) * 64 ≤ 140737488355328 by have := HL.out; have := HN.out; omega)
          have HBS := Lib.hid (show w.heap.size ≤ (w2.alloc (.cells #[.string t0, .bool t1, .int .i64 t2, .int .i64 t3, .slice t4 t4l t4c] 67)).heap.size by have := HK.out.size; have := hk2.size; simp; omega)
          clear hy hre hcs hrd2 hk2
          rw [← LL.out] at ST HO2 H63 HBY
          go_wp2_with (at_builtin; refine wpList_app _ rfl (.tmp 13) (.tmp 17) 28 rfl w.heap.size 67 i0 (.agg #[.string ⟨#[]⟩, .bool false, .int .i64 0, .int .i64 0, .slice none 0 0]) 5 64 Try.underlying28 hi hz0 hz1 hz2 rfl (by decide) _ _ _ rfl HO2.out ⟨w2.heap.size, 0, none⟩ 1 1 [.string t0, .bool t1, .int .i64 t2, .int .i64 t3, .slice t4 t4l t4c] rfl rfl HN1.out HN2.out H63.out HBY.out HBS.out ?_; intro x' c' w3 ho hg hl'; have S3 := Lib.hid (ST.out x' c' w3 ho hg hl'); clear ho hg hl')
          go_wp2_with fail
          go_roundw
          case rel => exact ⟨m1, by omega, by first | rfl | go_num, S3.out⟩
          case measure => simp [intOf] <;> omega
        · have FAIL := Lib.hid (Tk.fails (B := B) (W := W) (k := k) (nn := 5) (E := FnT) pi_OkFn HL.out HN.out HR.out HX.out HK.out hno hk2)
          clear hno hk2
          unfold PAN
          go_wp2_with fail
          exact ⟨rfl, FAIL.out⟩
      · obtain rfl : m0 = 0 := by omega
        have FIN := Lib.hid (Tk.done carry_Fn hI)
        clear hI I0
        go_wp2_with fail
        go_returns
        exact FIN.out
theorem info_Ty : (Try.prog.info? 41).map (fun i => (i.zero, i.size, i.bytes)) = some (some (.agg #[.int .i64 0, .string ⟨#[]⟩, .string ⟨#[]⟩, .slice none 0 0, .slice none 0 0]), 5, 88) := by kernel_rfl
theorem pos_Ty {m : Nat} (x : Ty) (h : (OkTy m) x) : 1 ≤ (encTy x).length := by
  obtain ⟨k, p, n, la, lr⟩ := x
  rw [encTy_mk]; simp only [List.length_append, le8_length]; omega
set_option maxRecDepth 100000 in
set_option maxHeartbeats 1000000 in
theorem takes_Ty {B : Nat} {W : World} {q : Nat} {k : Int} {m : Nat} 
    (one : ∀ (w : World) (r : List UInt8), RdAt B W w q r k → Calls Try.prog 66 #[.pointer (some ⟨q, 0, none⟩)] w (Rp B W q r k (OkTy m) encTy (VT (fun T w => TyT T w m)) w))
    (w : World) (r : List UInt8) (h : RdAt B W w q r k) :
    Calls Try.prog 92 #[.pointer (some ⟨q, 0, none⟩), .func (.func 66) #[] #[]] w (Rp B W q r k (OkL (OkTy m)) (encL encTy) (VL 5 (fun T w => TyT T w m)) w) := by
  have HC := Lib.hid (rcount h)
  have ONE := Lib.hid one
  have hq := Lib.hid h.lt
  have hB := Lib.hid h.2.1
  obtain ⟨i0, hi, hz0, hz1, hz2⟩ := info_parts info_Ty
  clear h one
  go_enter Try.func92, Try.ntmps92
  go_wp2_with fail
  refine (HC.out).mono ?_
  rintro e1 w1 (⟨n, r1, rfl, hr, hn, hrd, hk⟩ | ⟨rfl, hno, hk⟩)
  rotate_left
  · unfold PAN
    go_wp2_with fail
    exact ⟨rfl, .inr ⟨rfl, hno.no (E := (OkTy m)) pos_Ty, hk⟩⟩
  · have I0 := Lib.hid (Tk.start (ok := (OkTy m)) (enc := encTy) (nn := 5) (ty := 41) (E := (fun T w => TyT T w m)) hn hr hrd hk)
    clear HC hn hr hrd hk
    go_wp2_with fail
    go_loopw [5, 6] (fun v i wr => ∃ m0 : Nat, m0 ≤ n ∧ i = .int .i64 m0 ∧ Tk B W q r k (OkTy m) encTy 5 41 (fun T w => TyT T w m) w n v m0 wr) (fun _ i _ => (intOf i).toNat)
    case atStart => exact ⟨n, Nat.le_refl _, rfl, I0.out⟩
    case round =>
      obtain ⟨m0, hm0, rfl, hI⟩ := hrel
      by_cases hlt : 0 < m0
      · obtain ⟨m1, rfl⟩ : ∃ m1, m0 = m1 + 1 := ⟨m0 - 1, by omega⟩
        obtain ⟨l, rc, xs, hl, hn, ⟨x, c, rfl⟩, hr, hx, hrd, hk, how, hrow⟩ := hI
        obtain ⟨ll, hll⟩ : ∃ ll, ll = l.length := ⟨_, rfl⟩
        have HL := Lib.hid hl
        have HN := Lib.hid hn
        have HR := Lib.hid hr
        have HX := Lib.hid hx
        have HK := Lib.hid hk
        have HOW := Lib.hid how
        have HROW := Lib.hid hrow
        have HRD := Lib.hid hrd
        have LL := Lib.hid hll
        rw [← hll]
        clear hl hr hx hk how hrow hrd hll I0
        have hm1 : (m1 : Int) ≤ 262144 := by omega
        have hw0 : IntKind.i64.wrap ((m1 : Int) + 1 - 1) = m1 := by rw [IntWalk.i64_in _ (by omega)]; omega
        have hw1 : (0 : Int) < (m1 : Int) + 1 := by omega
        go_wp2_with fail
        refine (ONE.out _ _ HRD.out).mono ?_
        rintro e2 w2 (⟨y, rc', _, rfl, hy, hre, ⟨cs, rfl, hcs⟩, hrd2, hk2⟩ | ⟨rfl, hno, hk2⟩)
        · obtain ⟨t0, t1, t2, t3, t3l, t3c, t4, t4l, t4c, rfl⟩ := shapeT_Ty hcs
          have ST := Lib.hid (fun (x' : Option Addr) (c' : Nat) (w3 : World) (ho : w3.ownsRow w.heap.size 41 5 (.slice x' (l.length + 1) c') (l.length + 1) (xs ++ [.int .i64 t0, .string t1, .string t2, .slice t3 t3l t3c, .slice t4 t4l t4c])) (hg : (w2.alloc (.cells #[.int .i64 t0, .string t1, .string t2, .slice t3 t3l t3c, .slice t4 t4l t4c] 41)).grownBy w3 (Value.slice x l.length c).ownBlock) hloc =>
            Tk.step (carry_Ty m) (ob := .cells #[.int .i64 t0, .string t1, .string t2, .slice t3 t3l t3c, .slice t4 t4l t4c] 41) hq.out hB.out HL.out HN.out HR.out HX.out HK.out HOW.out HROW.out hy hre hcs rfl hrd2 hk2 ho hg hloc)
          have HO2 := Lib.hid ((own_kp HOW.out hk2 (fun g hg e => by have := own_lt HOW.out hg; have := hq.out; omega)).alloc (.cells #[.int .i64 t0, .string t1, .string t2, .slice t3 t3l t3c, .slice t4 t4l t4c] 41))
          have HN1 := Lib.hid (cells_new w2 [.int .i64 t0, .string t1, .string t2, .slice t3 t3l t3c, .slice t4 t4l t4c] 41)
          have HN2 := Lib.hid (show ∀ u ∈ [(.int .i64 t0 : Value), .string t1, .string t2, .slice t3 t3l t3c, .slice t4 t4l t4c], u.oneCell' = true from by
            intro u hu
            simp only [List.mem_cons, List.not_mem_nil, or_false] at hu
            rcases hu with rfl | rfl | rfl | rfl | rfl <;> rfl)
          have H63 := Lib.hid (show l.length + 1 ≤ maxLen by have := HL.out; have := HN.out; unfold maxLen; omega)
          have HBY := Lib.hid (show (l.length + 1) * 88 ≤ 140737488355328 by have := HL.out; have := HN.out; omega)
          have HBS := Lib.hid (show w.heap.size ≤ (w2.alloc (.cells #[.int .i64 t0, .string t1, .string t2, .slice t3 t3l t3c, .slice t4 t4l t4c] 41)).heap.size by have := HK.out.size; have := hk2.size; simp; omega)
          clear hy hre hcs hrd2 hk2
          rw [← LL.out] at ST HO2 H63 HBY
          go_wp2_with (at_builtin; refine wpList_app _ rfl (.tmp 13) (.tmp 17) 39 rfl w.heap.size 41 i0 (.agg #[.int .i64 0, .string ⟨#[]⟩, .string ⟨#[]⟩, .slice none 0 0, .slice none 0 0]) 5 88 Try.underlying39 hi hz0 hz1 hz2 rfl (by decide) _ _ _ rfl HO2.out ⟨w2.heap.size, 0, none⟩ 1 1 [.int .i64 t0, .string t1, .string t2, .slice t3 t3l t3c, .slice t4 t4l t4c] rfl rfl HN1.out HN2.out H63.out HBY.out HBS.out ?_; intro x' c' w3 ho hg hl'; have S3 := Lib.hid (ST.out x' c' w3 ho hg hl'); clear ho hg hl')
          go_wp2_with fail
          go_roundw
          case rel => exact ⟨m1, by omega, by first | rfl | go_num, S3.out⟩
          case measure => simp [intOf] <;> omega
        · have FAIL := Lib.hid (Tk.fails (B := B) (W := W) (k := k) (nn := 5) (E := (fun T w => TyT T w m)) (pi_OkTy m) HL.out HN.out HR.out HX.out HK.out hno hk2)
          clear hno hk2
          unfold PAN
          go_wp2_with fail
          exact ⟨rfl, FAIL.out⟩
      · obtain rfl : m0 = 0 := by omega
        have FIN := Lib.hid (Tk.done (carry_Ty m) hI)
        clear hI I0
        go_wp2_with fail
        go_returns
        exact FIN.out
theorem info_Ex : (Try.prog.info? 132).map (fun i => (i.zero, i.size, i.bytes)) = some (some (.agg #[.int .i64 0, .int .i64 0, .string ⟨#[]⟩, .slice none 0 0]), 4, 56) := by kernel_rfl
theorem pos_Ex {m : Nat} (x : Ex) (h : (OkEx m) x) : 1 ≤ (encEx x).length := by
  obtain ⟨k, p, n, la⟩ := x
  rw [encEx_mk]; simp only [List.length_append, le8_length]; omega
set_option maxRecDepth 100000 in
set_option maxHeartbeats 1000000 in
theorem takes_Ex {B : Nat} {W : World} {q : Nat} {k : Int} {m : Nat} 
    (one : ∀ (w : World) (r : List UInt8), RdAt B W w q r k → Calls Try.prog 96 #[.pointer (some ⟨q, 0, none⟩)] w (Rp B W q r k (OkEx m) encEx (VT (fun T w => ExT T w m)) w))
    (w : World) (r : List UInt8) (h : RdAt B W w q r k) :
    Calls Try.prog 95 #[.pointer (some ⟨q, 0, none⟩), .func (.func 96) #[] #[]] w (Rp B W q r k (OkL (OkEx m)) (encL encEx) (VL 4 (fun T w => ExT T w m)) w) := by
  have HC := Lib.hid (rcount h)
  have ONE := Lib.hid one
  have hq := Lib.hid h.lt
  have hB := Lib.hid h.2.1
  obtain ⟨i0, hi, hz0, hz1, hz2⟩ := info_parts info_Ex
  clear h one
  go_enter Try.func95, Try.ntmps95
  go_wp2_with fail
  refine (HC.out).mono ?_
  rintro e1 w1 (⟨n, r1, rfl, hr, hn, hrd, hk⟩ | ⟨rfl, hno, hk⟩)
  rotate_left
  · unfold PAN
    go_wp2_with fail
    exact ⟨rfl, .inr ⟨rfl, hno.no (E := (OkEx m)) pos_Ex, hk⟩⟩
  · have I0 := Lib.hid (Tk.start (ok := (OkEx m)) (enc := encEx) (nn := 4) (ty := 132) (E := (fun T w => ExT T w m)) hn hr hrd hk)
    clear HC hn hr hrd hk
    go_wp2_with fail
    go_loopw [5, 6] (fun v i wr => ∃ m0 : Nat, m0 ≤ n ∧ i = .int .i64 m0 ∧ Tk B W q r k (OkEx m) encEx 4 132 (fun T w => ExT T w m) w n v m0 wr) (fun _ i _ => (intOf i).toNat)
    case atStart => exact ⟨n, Nat.le_refl _, rfl, I0.out⟩
    case round =>
      obtain ⟨m0, hm0, rfl, hI⟩ := hrel
      by_cases hlt : 0 < m0
      · obtain ⟨m1, rfl⟩ : ∃ m1, m0 = m1 + 1 := ⟨m0 - 1, by omega⟩
        obtain ⟨l, rc, xs, hl, hn, ⟨x, c, rfl⟩, hr, hx, hrd, hk, how, hrow⟩ := hI
        obtain ⟨ll, hll⟩ : ∃ ll, ll = l.length := ⟨_, rfl⟩
        have HL := Lib.hid hl
        have HN := Lib.hid hn
        have HR := Lib.hid hr
        have HX := Lib.hid hx
        have HK := Lib.hid hk
        have HOW := Lib.hid how
        have HROW := Lib.hid hrow
        have HRD := Lib.hid hrd
        have LL := Lib.hid hll
        rw [← hll]
        clear hl hr hx hk how hrow hrd hll I0
        have hm1 : (m1 : Int) ≤ 262144 := by omega
        have hw0 : IntKind.i64.wrap ((m1 : Int) + 1 - 1) = m1 := by rw [IntWalk.i64_in _ (by omega)]; omega
        have hw1 : (0 : Int) < (m1 : Int) + 1 := by omega
        go_wp2_with fail
        refine (ONE.out _ _ HRD.out).mono ?_
        rintro e2 w2 (⟨y, rc', _, rfl, hy, hre, ⟨cs, rfl, hcs⟩, hrd2, hk2⟩ | ⟨rfl, hno, hk2⟩)
        · obtain ⟨t0, t1, t2, t3, t3l, t3c, rfl⟩ := shapeT_Ex hcs
          have ST := Lib.hid (fun (x' : Option Addr) (c' : Nat) (w3 : World) (ho : w3.ownsRow w.heap.size 132 4 (.slice x' (l.length + 1) c') (l.length + 1) (xs ++ [.int .i64 t0, .int .i64 t1, .string t2, .slice t3 t3l t3c])) (hg : (w2.alloc (.cells #[.int .i64 t0, .int .i64 t1, .string t2, .slice t3 t3l t3c] 132)).grownBy w3 (Value.slice x l.length c).ownBlock) hloc =>
            Tk.step (carry_Ex m) (ob := .cells #[.int .i64 t0, .int .i64 t1, .string t2, .slice t3 t3l t3c] 132) hq.out hB.out HL.out HN.out HR.out HX.out HK.out HOW.out HROW.out hy hre hcs rfl hrd2 hk2 ho hg hloc)
          have HO2 := Lib.hid ((own_kp HOW.out hk2 (fun g hg e => by have := own_lt HOW.out hg; have := hq.out; omega)).alloc (.cells #[.int .i64 t0, .int .i64 t1, .string t2, .slice t3 t3l t3c] 132))
          have HN1 := Lib.hid (cells_new w2 [.int .i64 t0, .int .i64 t1, .string t2, .slice t3 t3l t3c] 132)
          have HN2 := Lib.hid (show ∀ u ∈ [(.int .i64 t0 : Value), .int .i64 t1, .string t2, .slice t3 t3l t3c], u.oneCell' = true from by
            intro u hu
            simp only [List.mem_cons, List.not_mem_nil, or_false] at hu
            rcases hu with rfl | rfl | rfl | rfl <;> rfl)
          have H63 := Lib.hid (show l.length + 1 ≤ maxLen by have := HL.out; have := HN.out; unfold maxLen; omega)
          have HBY := Lib.hid (show (l.length + 1) * 56 ≤ 140737488355328 by have := HL.out; have := HN.out; omega)
          have HBS := Lib.hid (show w.heap.size ≤ (w2.alloc (.cells #[.int .i64 t0, .int .i64 t1, .string t2, .slice t3 t3l t3c] 132)).heap.size by have := HK.out.size; have := hk2.size; simp; omega)
          clear hy hre hcs hrd2 hk2
          rw [← LL.out] at ST HO2 H63 HBY
          go_wp2_with (at_builtin; refine wpList_app _ rfl (.tmp 13) (.tmp 17) 99 rfl w.heap.size 132 i0 (.agg #[.int .i64 0, .int .i64 0, .string ⟨#[]⟩, .slice none 0 0]) 4 56 Try.underlying99 hi hz0 hz1 hz2 rfl (by decide) _ _ _ rfl HO2.out ⟨w2.heap.size, 0, none⟩ 1 1 [.int .i64 t0, .int .i64 t1, .string t2, .slice t3 t3l t3c] rfl rfl HN1.out HN2.out H63.out HBY.out HBS.out ?_; intro x' c' w3 ho hg hl'; have S3 := Lib.hid (ST.out x' c' w3 ho hg hl'); clear ho hg hl')
          go_wp2_with fail
          go_roundw
          case rel => exact ⟨m1, by omega, by first | rfl | go_num, S3.out⟩
          case measure => simp [intOf] <;> omega
        · have FAIL := Lib.hid (Tk.fails (B := B) (W := W) (k := k) (nn := 4) (E := (fun T w => ExT T w m)) (pi_OkEx m) HL.out HN.out HR.out HX.out HK.out hno hk2)
          clear hno hk2
          unfold PAN
          go_wp2_with fail
          exact ⟨rfl, FAIL.out⟩
      · obtain rfl : m0 = 0 := by omega
        have FIN := Lib.hid (Tk.done (carry_Ex m) hI)
        clear hI I0
        go_wp2_with fail
        go_returns
        exact FIN.out
theorem info_St : (Try.prog.info? 101).map (fun i => (i.zero, i.size, i.bytes)) = some (some (.agg #[.int .i64 0, .int .i64 0, .slice none 0 0, .slice none 0 0, .slice none 0 0]), 5, 88) := by kernel_rfl
theorem pos_St {m : Nat} (x : St) (h : (OkSt m) x) : 1 ≤ (encSt x).length := by
  obtain ⟨k, p, n, la, lr⟩ := x
  rw [encSt_mk]; simp only [List.length_append, le8_length]; omega
set_option maxRecDepth 100000 in
set_option maxHeartbeats 1000000 in
theorem takes_St {B : Nat} {W : World} {q : Nat} {k : Int} {m : Nat} 
    (one : ∀ (w : World) (r : List UInt8), RdAt B W w q r k → Calls Try.prog 71 #[.pointer (some ⟨q, 0, none⟩)] w (Rp B W q r k (OkSt m) encSt (VT (fun T w => StT T w m)) w))
    (w : World) (r : List UInt8) (h : RdAt B W w q r k) :
    Calls Try.prog 70 #[.pointer (some ⟨q, 0, none⟩), .func (.func 71) #[] #[]] w (Rp B W q r k (OkL (OkSt m)) (encL encSt) (VL 5 (fun T w => StT T w m)) w) := by
  have HC := Lib.hid (rcount h)
  have ONE := Lib.hid one
  have hq := Lib.hid h.lt
  have hB := Lib.hid h.2.1
  obtain ⟨i0, hi, hz0, hz1, hz2⟩ := info_parts info_St
  clear h one
  go_enter Try.func70, Try.ntmps70
  go_wp2_with fail
  refine (HC.out).mono ?_
  rintro e1 w1 (⟨n, r1, rfl, hr, hn, hrd, hk⟩ | ⟨rfl, hno, hk⟩)
  rotate_left
  · unfold PAN
    go_wp2_with fail
    exact ⟨rfl, .inr ⟨rfl, hno.no (E := (OkSt m)) pos_St, hk⟩⟩
  · have I0 := Lib.hid (Tk.start (ok := (OkSt m)) (enc := encSt) (nn := 5) (ty := 101) (E := (fun T w => StT T w m)) hn hr hrd hk)
    clear HC hn hr hrd hk
    go_wp2_with fail
    go_loopw [5, 6] (fun v i wr => ∃ m0 : Nat, m0 ≤ n ∧ i = .int .i64 m0 ∧ Tk B W q r k (OkSt m) encSt 5 101 (fun T w => StT T w m) w n v m0 wr) (fun _ i _ => (intOf i).toNat)
    case atStart => exact ⟨n, Nat.le_refl _, rfl, I0.out⟩
    case round =>
      obtain ⟨m0, hm0, rfl, hI⟩ := hrel
      by_cases hlt : 0 < m0
      · obtain ⟨m1, rfl⟩ : ∃ m1, m0 = m1 + 1 := ⟨m0 - 1, by omega⟩
        obtain ⟨l, rc, xs, hl, hn, ⟨x, c, rfl⟩, hr, hx, hrd, hk, how, hrow⟩ := hI
        obtain ⟨ll, hll⟩ : ∃ ll, ll = l.length := ⟨_, rfl⟩
        have HL := Lib.hid hl
        have HN := Lib.hid hn
        have HR := Lib.hid hr
        have HX := Lib.hid hx
        have HK := Lib.hid hk
        have HOW := Lib.hid how
        have HROW := Lib.hid hrow
        have HRD := Lib.hid hrd
        have LL := Lib.hid hll
        rw [← hll]
        clear hl hr hx hk how hrow hrd hll I0
        have hm1 : (m1 : Int) ≤ 262144 := by omega
        have hw0 : IntKind.i64.wrap ((m1 : Int) + 1 - 1) = m1 := by rw [IntWalk.i64_in _ (by omega)]; omega
        have hw1 : (0 : Int) < (m1 : Int) + 1 := by omega
        go_wp2_with fail
        refine (ONE.out _ _ HRD.out).mono ?_
        rintro e2 w2 (⟨y, rc', _, rfl, hy, hre, ⟨cs, rfl, hcs⟩, hrd2, hk2⟩ | ⟨rfl, hno, hk2⟩)
        · obtain ⟨t0, t1, t2, t2l, t2c, t3, t3l, t3c, t4, t4l, t4c, rfl⟩ := shapeT_St hcs
          have ST := Lib.hid (fun (x' : Option Addr) (c' : Nat) (w3 : World) (ho : w3.ownsRow w.heap.size 101 5 (.slice x' (l.length + 1) c') (l.length + 1) (xs ++ [.int .i64 t0, .int .i64 t1, .slice t2 t2l t2c, .slice t3 t3l t3c, .slice t4 t4l t4c])) (hg : (w2.alloc (.cells #[.int .i64 t0, .int .i64 t1, .slice t2 t2l t2c, .slice t3 t3l t3c, .slice t4 t4l t4c] 101)).grownBy w3 (Value.slice x l.length c).ownBlock) hloc =>
            Tk.step (carry_St m) (ob := .cells #[.int .i64 t0, .int .i64 t1, .slice t2 t2l t2c, .slice t3 t3l t3c, .slice t4 t4l t4c] 101) hq.out hB.out HL.out HN.out HR.out HX.out HK.out HOW.out HROW.out hy hre hcs rfl hrd2 hk2 ho hg hloc)
          have HO2 := Lib.hid ((own_kp HOW.out hk2 (fun g hg e => by have := own_lt HOW.out hg; have := hq.out; omega)).alloc (.cells #[.int .i64 t0, .int .i64 t1, .slice t2 t2l t2c, .slice t3 t3l t3c, .slice t4 t4l t4c] 101))
          have HN1 := Lib.hid (cells_new w2 [.int .i64 t0, .int .i64 t1, .slice t2 t2l t2c, .slice t3 t3l t3c, .slice t4 t4l t4c] 101)
          have HN2 := Lib.hid (show ∀ u ∈ [(.int .i64 t0 : Value), .int .i64 t1, .slice t2 t2l t2c, .slice t3 t3l t3c, .slice t4 t4l t4c], u.oneCell' = true from by
            intro u hu
            simp only [List.mem_cons, List.not_mem_nil, or_false] at hu
            rcases hu with rfl | rfl | rfl | rfl | rfl <;> rfl)
          have H63 := Lib.hid (show l.length + 1 ≤ maxLen by have := HL.out; have := HN.out; unfold maxLen; omega)
          have HBY := Lib.hid (show (l.length + 1) * 88 ≤ 140737488355328 by have := HL.out; have := HN.out; omega)
          have HBS := Lib.hid (show w.heap.size ≤ (w2.alloc (.cells #[.int .i64 t0, .int .i64 t1, .slice t2 t2l t2c, .slice t3 t3l t3c, .slice t4 t4l t4c] 101)).heap.size by have := HK.out.size; have := hk2.size; simp; omega)
          clear hy hre hcs hrd2 hk2
          rw [← LL.out] at ST HO2 H63 HBY
          go_wp2_with (at_builtin; refine wpList_app _ rfl (.tmp 13) (.tmp 17) 65 rfl w.heap.size 101 i0 (.agg #[.int .i64 0, .int .i64 0, .slice none 0 0, .slice none 0 0, .slice none 0 0]) 5 88 Try.underlying65 hi hz0 hz1 hz2 rfl (by decide) _ _ _ rfl HO2.out ⟨w2.heap.size, 0, none⟩ 1 1 [.int .i64 t0, .int .i64 t1, .slice t2 t2l t2c, .slice t3 t3l t3c, .slice t4 t4l t4c] rfl rfl HN1.out HN2.out H63.out HBY.out HBS.out ?_; intro x' c' w3 ho hg hl'; have S3 := Lib.hid (ST.out x' c' w3 ho hg hl'); clear ho hg hl')
          go_wp2_with fail
          go_roundw
          case rel => exact ⟨m1, by omega, by first | rfl | go_num, S3.out⟩
          case measure => simp [intOf] <;> omega
        · have FAIL := Lib.hid (Tk.fails (B := B) (W := W) (k := k) (nn := 5) (E := (fun T w => StT T w m)) (pi_OkSt m) HL.out HN.out HR.out HX.out HK.out hno hk2)
          clear hno hk2
          unfold PAN
          go_wp2_with fail
          exact ⟨rfl, FAIL.out⟩
      · obtain rfl : m0 = 0 := by omega
        have FIN := Lib.hid (Tk.done (carry_St m) hI)
        clear hI I0
        go_wp2_with fail
        go_returns
        exact FIN.out
end Go.Proofs.Ytpopgnengimieaa
