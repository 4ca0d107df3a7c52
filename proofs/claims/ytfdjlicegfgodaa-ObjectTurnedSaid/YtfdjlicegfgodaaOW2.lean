/- The writer of objects: a number's eight bytes. -/
import Derived.Test.YtfdjlicegfgodaaOW1
import Derived.Test.YtfdjlicegfgodaaRW
namespace Go.Proofs.Ytfdjlicegfgodaa
open Go.RowKit
set_option linter.unusedSimpArgs false
set_option linter.unusedVariables false

theorem shr_byte (n : Int) (j : Nat) (hj : j < 8) : IntKind.u8.wrap (IntKind.u64.wrap n / 2 ^ (8 * (j : Int)).toNat) = (((UInt8.ofNat (un n / 256 ^ j)).toNat : Nat) : Int) := by
  rw [un_byte, un_wrap, show ∀ x : Int, IntKind.u8.wrap x = x % 256 from fun x => rfl]
  have h : (8 * (j : Int)).toNat = 8 * j := by omega
  have e : (2 : Int) ^ (8 * j) = ((256 ^ j : Nat) : Int) := by
    rw [show (256 : Nat) = 2 ^ 8 from rfl, ← Nat.pow_mul, Int.natCast_pow]
    rfl
  rw [h, e, ← Int.natCast_ediv]
set_option maxRecDepth 100000 in
set_option maxHeartbeats 1000000 in
theorem onum_in {B : Nat} {W w : World} {p : Nat} {ob : Option Nat} {bs : List UInt8} {R : Nat} (n : Int) (h : OwIn B W w p ob bs (8 + R)) :
    Calls Try.prog 35 #[.pointer (some ⟨p, 0, none⟩), .int .i64 n] w (OOut B W w p ob (bs ++ le8 n) R) := by
  obtain ⟨i0, hi, hz0, hz1, hz2⟩ := info_parts u8info
  have H := Lib.hid h
  have HROOM := Lib.hid h.room
  clear h
  go_enter Try.func35, Try.ntmps35
  go_wp2_with fail
  go_loopw [5] (fun i wr => ∃ j : Nat, j ≤ 8 ∧ i = .int .i64 j ∧ ∃ obj, OwRaw wr p obj (bs ++ (le8 n).take j) ∧ Kp (fun b => b = p ∨ some b = ob) w wr ∧ ∀ k, obj = some k → ob = some k ∨ w.heap.size ≤ k) (fun i _ => 8 - (intOf i).toNat)
  case atStart => exact ⟨0, by decide, rfl, ob, by simpa using H.out.raw, Kp.refl _ _, fun k hk => .inl hk⟩
  case round =>
    obtain ⟨j, hj, rfl, obj, hr, hk, ho⟩ := hrel
    by_cases hlt : j < 8
    · have HT := Lib.hid (le8_take n j hlt)
      have SB := Lib.hid (shr_byte n j hlt)
      obtain ⟨v, hv⟩ : ∃ v : Int, v = (((UInt8.ofNat (un n / 256 ^ j)).toNat : Nat) : Int) := ⟨_, rfl⟩
      rw [← hv] at SB
      have HB := Lib.hid (show byteV [UInt8.ofNat (un n / 256 ^ j)] = [Value.int .u8 v] by rw [byteV, List.map_cons, List.map_nil, hv])
      clear hv
      have HR := Lib.hid hr
      have HK := Lib.hid (hk.alloc (.cells #[.int .u8 v] 5))
      have HO := Lib.hid ho
      have hlen : (bs ++ (le8 n).take j).length + 1 ≤ 140737488355328 := by
        have := HROOM.out
        rw [List.length_append, List.length_take, le8_length]; omega
      obtain ⟨bj, hbj⟩ : ∃ bj, bj = bs ++ (le8 n).take j := ⟨_, rfl⟩
      rw [← hbj] at HR hlen
      have HBJ := Lib.hid hbj
      clear hr hk ho hbj
      obtain ⟨x, c, hblk, how, hv, hne⟩ := HR.out
      have c0 := hblk.cell 0
      simp only [List.getElem?_cons_zero] at c0
      have hq0 : (0 : Int) ≤ 8 * (j : Int) := by omega
      have hq1 : 8 * (j : Int) ≤ 64 := by omega
      go_upto_region 3 with fail
      have hwr : IntKind.i64.wrap (8 * (j : Int)) = 8 * (j : Int) := by rw [IntKind.wrap_i64]; omega
      have hsb := SB.out
      have HBLK := Lib.hid (hblk.alloc (.cells #[.int .u8 v] 5))
      have HOW := Lib.hid (show (wr.alloc (.cells #[.int .u8 v] 5)).drew.ownsRow 0 5 1 (.slice x bj.length c) bj.length (byteV bj) from how.alloc (.cells #[.int .u8 v] 5))
      have HV := Lib.hid hv
      have HNE := Lib.hid hne
      have HN1 := Lib.hid (show ∀ (i : Nat) u, [Value.int .u8 v][i]? = some u → (wr.alloc (.cells #[.int .u8 v] 5)).drew.cell? ((⟨wr.heap.size, 0, none⟩ : Addr).add i) = some u from cell_one_new _ _ _)
      have HN2 := Lib.hid (show ∀ u ∈ [Value.int .u8 v], u.oneCell' = true from by intro u hu; simp at hu; subst hu; rfl)
      have H63 := Lib.hid (show bj.length + 1 ≤ maxLen by unfold maxLen; omega)
      have HBY := Lib.hid (show (bj.length + 1) * 1 ≤ 140737488355328 by omega)
      have FIN := Lib.hid (fun (x' : Option Addr) (c' : Nat) (w' : World) (ho : w'.ownsRow 0 5 1 (.slice x' (bj.length + 1) c') (bj.length + 1) (byteV bj ++ byteV [UInt8.ofNat (un n / 256 ^ j)]))
        (hg : (wr.alloc (.cells #[.int .u8 v] 5)).drew.grownBy w' (Value.slice x bj.length c).ownBlock) hl => OwRaw.grow (ys := [UInt8.ofNat (un n / 256 ^ j)]) rfl (show Blk (wr.alloc (.cells #[.int .u8 v] 5)).drew _ _ _ from HBLK.out) HV.out HNE.out ho hg hl)
      have c1 := HBLK.out.cell 0
      simp only [List.getElem?_cons_zero] at c1
      clear hblk how hv hne
      generalize hnn : bj.length = nn at *
      clear hnn hlen
      go_region_law (refine step_app _ rfl (.tmp 13) (.tmp 20) 34 rfl 0 5 i0 (.int .u8 0) 1 1 Try.underlying34 hi hz0 hz1 hz2 rfl (by decide) _ _ _ rfl HOW.out ⟨wr.heap.size, 0, none⟩ 1 1 _ (by simp [Act.eval, Act.put, SB.out]) rfl HN1.out HN2.out H63.out HBY.out (Nat.zero_le _) ?_; intro x' c' w' ho' hg' hl'; obtain ⟨y0, y1, y2⟩ := FIN.out x' c' w' (by rw [HB.out]; exact ho') hg' hl'; have Y2 := Lib.hid y2; clear y2 ho' hg' hl')
      all_goals
        obtain ⟨ob2, r2, k2, o2⟩ := Y2.out
        have R2 := Lib.hid r2
        have C2 := Lib.hid (chain HK.out HO.out (show Kp _ (wr.alloc (.cells #[.int .u8 v] 5)) _ from ⟨k2.os, k2.tape, k2.output, k2.size, k2.block⟩) (by intro g hg; rcases o2 g hg with h | h; exact .inl h; exact .inr h))
        clear r2 k2 o2
        go_wp2_with fail
        go_roundw
        case rel => exact ⟨j + 1, by omega, by go_num, ob2, by rw [HT.out, ← List.append_assoc, ← HBJ.out]; exact R2.out, C2.out.1, C2.out.2⟩
        case measure => simp [intOf]; omega
    · obtain rfl : j = 8 := by omega
      have HF := Lib.hid (show OwRaw wr p obj (bs ++ le8 n) by rw [List.take_of_length_le (by rw [le8_length]; decide)] at hr; exact hr)
      have FF := Lib.hid (OOut.mk (R' := R) H.out HF.out (by rw [List.length_append, le8_length]; omega) hk ho)
      clear hr hk ho
      go_wp2_with fail
      go_returns
      exact FF.out
end Go.Proofs.Ytfdjlicegfgodaa
