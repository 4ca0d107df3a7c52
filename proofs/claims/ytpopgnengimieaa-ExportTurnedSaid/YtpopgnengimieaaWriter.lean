/- The program's writer of bytes: what each of its methods leaves in memory. -/
import Derived.Test.YtpopgnengimieaaCore
import Derived.Lib.AppendStr
namespace Go.Proofs.Ytpopgnengimieaa
open Go.RowKit

/-- bytes as cells -/
def byteV (l : List UInt8) : List Value := l.map fun b => Value.int .u8 b.toNat
theorem byteV_length (l : List UInt8) : (byteV l).length = l.length := by simp [byteV]
theorem byteV_append (l m : List UInt8) : byteV (l ++ m) = byteV l ++ byteV m := by simp [byteV]
theorem strCells_eq (s : ByteArray) : Lib.strCells s = byteV s.data.toList := rfl
theorem size_eq (s : ByteArray) : s.size = s.data.toList.length := by rw [Array.length_toList]; rfl

theorem own_kp {S : Nat → Prop} {w w' : World} {base e size n : Nat} {v : Value} {xs : List Value} (h : w.ownsRow base e size v n xs) (k : Kp S w w') (hs : ∀ g, v.ownBlock = some g → ¬ S g) :
    w'.ownsRow base e size v n xs := by
  refine ⟨h.1, ?_⟩
  rcases h.2 with h2 | ⟨g, cap, cur, hv, hb, hg, r⟩
  · exact .inl h2
  · exact .inr ⟨g, cap, cur, hv, hb, (k.block g (Array.getElem?_eq_some_iff.1 hg).1 (hs g (by rw [hv]; rfl))).trans hg, r⟩

/-- a row of bytes that the call owns reads as those bytes -/
theorem own_bytesAt {w : World} {base e : Nat} {v : Value} {l : List UInt8} (h : w.ownsRow base e 1 v l.length (byteV l)) : BytesAt w v l := by
  rcases h.2 with ⟨h1, h2⟩ | ⟨g, cap, cur, hv, hb, hg, hn, hm, hc, ht⟩
  · have hl := List.eq_nil_of_length_eq_zero h2
    subst hl
    rw [h1]; exact BytesAt.nil w
  · refine ⟨_, cap, hv, hn, hm, fun _ => ⟨g, 0, rfl, fun i hi => ?_⟩⟩
    have h3 := h.cells (g := g) (by rw [hv]; rfl) i (.int .u8 (l[i].toNat : Int)) (by simp [byteV, hi])
    have e : (⟨g, 0, none⟩ : Addr).add i = ⟨g, 0 + i, none⟩ := by unfold Addr.add; split <;> simp_all
    rw [← e]; exact h3

/-- what is written so far: none: more than may be -/
def wput (st : Option (List UInt8)) (s : List UInt8) : Option (List UInt8) :=
  match st with
  | none => none
  | some bs => if bs.length + s.length ≤ 262144 then some (bs ++ s) else none
theorem wput_none (s : List UInt8) : wput none s = none := rfl
theorem wput_wput (st : Option (List UInt8)) (a b : List UInt8) : wput (wput st a) b = wput st (a ++ b) := by
  cases st with
  | none => rfl
  | some bs =>
    simp only [wput]
    by_cases h : bs.length + a.length ≤ 262144
    · simp only [if_pos h, List.length_append, Nat.add_assoc, List.append_assoc]
    · rw [if_neg h, if_neg (by simp only [List.length_append]; omega)]

/-- the writer at block p; ob: the block in which its bytes lie -/
def WrAt (w : World) (p : Nat) (ob : Option Nat) (st : Option (List UInt8)) : Prop :=
  ∃ a c bs, Blk w p [.slice a bs.length c, .bool st.isNone] 54 ∧ w.ownsRow 0 5 1 (.slice a bs.length c) bs.length (byteV bs) ∧ (Value.slice a bs.length c).ownBlock = ob ∧ ob ≠ some p ∧ bs.length ≤ 262144 ∧ ∀ x, st = some x → bs = x

/-- what a method of the writer leaves: the writer at p has been told to write up to st' -/
def WPost (w : World) (p : Nat) (ob : Option Nat) (st' : Option (List UInt8)) (e : Ending) (w' : World) : Prop :=
  e = .returned (.tuple #[]) ∧ ∃ ob', WrAt w' p ob' st' ∧ Kp (fun b => b = p ∨ some b = ob) w w' ∧ ∀ k, ob' = some k → ob = some k ∨ w.heap.size ≤ k

theorem WrAt.ob_lt {w : World} {p : Nat} {ob : Option Nat} {st : Option (List UInt8)} (h : WrAt w p ob st) : ∀ k, ob = some k → k < w.heap.size := by
  obtain ⟨a, c, bs, _, ho, hv, _⟩ := h
  intro k hk
  exact (ho.lt k (by rw [hv, hk])).2
theorem WrAt.p_lt {w : World} {p : Nat} {ob : Option Nat} {st : Option (List UInt8)} (h : WrAt w p ob st) : p < w.heap.size := by
  obtain ⟨a, c, bs, hb, _⟩ := h
  exact hb.lt
theorem WrAt.kp {S : Nat → Prop} {w w' : World} {p : Nat} {ob : Option Nat} {st : Option (List UInt8)} (h : WrAt w p ob st) (k : Kp S w w') (hp : ¬ S p) (ho : ∀ g, ob = some g → ¬ S g) : WrAt w' p ob st := by
  obtain ⟨a, c, bs, hb, how, hv, hne, hl, hx⟩ := h
  exact ⟨a, c, bs, hb.kp k hp, own_kp how k (fun g hg => ho g (by rw [← hv]; exact hg)), hv, hne, hl, hx⟩
theorem WrAt.alloc {w : World} {p : Nat} {ob : Option Nat} {st : Option (List UInt8)} (h : WrAt w p ob st) (o : Obj) : WrAt (w.alloc o) p ob st :=
  h.kp ((Kp.refl (fun _ => False) w).alloc o) (fun x => x) (fun _ _ x => x)
theorem WrAt.drew {w : World} {p : Nat} {ob : Option Nat} {st : Option (List UInt8)} (h : WrAt w p ob st) : WrAt w.drew p ob st := h
theorem WPost.kp {w w' : World} {p : Nat} {ob : Option Nat} {st : Option (List UInt8)} {e : Ending} (h : WPost w p ob st e w') : Kp (fun b => b = p ∨ some b = ob) w w' := by
  obtain ⟨_, _, _, k, _⟩ := h; exact k
/-- one behind the other -/
theorem WPost.trans {w w1 w2 : World} {p : Nat} {ob ob1 : Option Nat} {st2 : Option (List UInt8)} {e : Ending}
    (k1 : Kp (fun b => b = p ∨ some b = ob) w w1) (o1 : ∀ k, ob1 = some k → ob = some k ∨ w.heap.size ≤ k) (h : WPost w1 p ob1 st2 e w2) : WPost w p ob st2 e w2 := by
  obtain ⟨he, ob2, h2, k2, o2⟩ := h
  refine ⟨he, ob2, h2, k1.trans k2 ?_, ?_⟩
  · intro x hx hs
    rcases hs with hs | hs
    · exact .inl hs
    · rcases o1 x hs.symm with h3 | h3
      · exact .inr h3.symm
      · omega
  · intro k hk
    rcases o2 k hk with h3 | h3
    · exact o1 k h3
    · have := k1.size; exact .inr (by omega)
/-- a new block ahead of it -/
theorem WPost.ofAlloc {w w2 : World} {p : Nat} {ob : Option Nat} {st2 : Option (List UInt8)} {e : Ending} {o : Obj} (h : WPost (w.alloc o) p ob st2 e w2) : WPost w p ob st2 e w2 :=
  WPost.trans ((Kp.refl _ w).alloc o) (fun _ hk => .inl hk) h

theorem u8info : (Try.prog.info? 5).map (fun i => (i.zero, i.size, i.bytes)) = some (some (.int .u8 0), 1, 1) := by kernel_rfl

theorem wbytes_long (w : World) (p : Nat) (ob : Option Nat) (s : ByteArray) (h : WrAt w p ob none) :
    Calls Try.prog 22 #[.pointer (some ⟨p, 0, none⟩), .string s] w (WPost w p ob none) := by
  obtain ⟨a, c, bs, hb, ho, hv, hne, hl, hx⟩ := h
  have c1 : w.cell? ⟨p, 1, none⟩ = some (.bool true) := by rw [hb.cell]; rfl
  have f1 := hb.frozen 1
  have fin : WPost w p ob none (.returned (.tuple #[])) (w.setCell ⟨p, 1, none⟩ (.bool true)) := by
    have k : Kp (fun b => b = p ∨ some b = ob) w (w.setCell ⟨p, 1, none⟩ (.bool true)) := (Kp.refl _ w).setCell (fun _ => .inl rfl) _
    have k2 : Kp (fun b => b = p) w (w.setCell ⟨p, 1, none⟩ (.bool true)) := (Kp.refl (fun b => b = p) w).setCell (p := ⟨p, 1, none⟩) (fun _ => rfl) _
    refine ⟨rfl, ob, ⟨a, c, bs, hb.set 1 _, own_kp ho k2 ?_, hv, hne, hl, hx⟩, k, fun k hk => .inl hk⟩
    intro g hg e
    subst e
    exact hne (by rw [← hv, hg])
  have Fin := Lib.hid fin
  clear fin hb ho hv hne hl hx
  go_enter Try.func22, Try.ntmps22
  go_wp2
  go_returns
  exact Fin.out

set_option maxRecDepth 100000 in
set_option maxHeartbeats 400000 in
theorem wbytes_full (w : World) (p : Nat) (ob : Option Nat) (s : ByteArray) (x : List UInt8) (h : WrAt w p ob (some x)) (hs : s.size ≤ 140737488355328) (hf : 262144 < x.length + s.data.toList.length) :
    Calls Try.prog 22 #[.pointer (some ⟨p, 0, none⟩), .string s] w (WPost w p ob none) := by
  obtain ⟨a, c, bs, hb, ho, hv, hne, hl, hx⟩ := h
  obtain rfl := hx x rfl
  have c1 : w.cell? ⟨p, 1, none⟩ = some (.bool false) := by rw [hb.cell]; rfl
  have c0 : w.cell? ⟨p, 0, none⟩ = some (.slice a bs.length c) := by rw [hb.cell]; rfl
  have f1 := hb.frozen 1
  have fin : WPost w p ob none (.returned (.tuple #[])) (w.setCell ⟨p, 1, none⟩ (.bool true)) := by
    have k : Kp (fun b => b = p ∨ some b = ob) w (w.setCell ⟨p, 1, none⟩ (.bool true)) := (Kp.refl _ w).setCell (fun _ => .inl rfl) _
    have k2 : Kp (fun b => b = p) w (w.setCell ⟨p, 1, none⟩ (.bool true)) := (Kp.refl (fun b => b = p) w).setCell (p := ⟨p, 1, none⟩) (fun _ => rfl) _
    refine ⟨rfl, ob, ⟨a, c, bs, hb.set 1 _, own_kp ho k2 ?_, hv, hne, hl, fun x hx => by cases hx⟩, k, fun k hk => .inl hk⟩
    intro g hg e
    subst e
    exact hne (by rw [← hv, hg])
  have Fin := Lib.hid fin
  rw [← size_eq] at hf
  obtain ⟨n, hn⟩ : ∃ n, n = bs.length := ⟨_, rfl⟩
  rw [← hn] at hl hf c0
  clear fin hb ho hv hne hx hn
  go_enter Try.func22, Try.ntmps22
  go_wp2
  go_returns
  exact Fin.out

set_option maxRecDepth 100000 in
set_option maxHeartbeats 400000 in
theorem wbytes_fits (w : World) (p : Nat) (ob : Option Nat) (s : ByteArray) (x : List UInt8) (h : WrAt w p ob (some x)) (hf : x.length + s.data.toList.length ≤ 262144) :
    Calls Try.prog 22 #[.pointer (some ⟨p, 0, none⟩), .string s] w (WPost w p ob (some (x ++ s.data.toList))) := by
  obtain ⟨a, c, bs, hb, ho, hv, hne, hl, hx⟩ := h
  obtain rfl := hx x rfl
  obtain ⟨i0, hi, hz0, hz1, hz2⟩ := info_parts u8info
  have c1 : w.cell? ⟨p, 1, none⟩ = some (.bool false) := by rw [hb.cell]; rfl
  have c0 : w.cell? ⟨p, 0, none⟩ = some (.slice a bs.length c) := by rw [hb.cell]; rfl
  have f0 := hb.frozen 0
  have fin : ∀ (a' : Option Addr) (c' : Nat) (w' : World), w'.ownsRow 0 5 1 (.slice a' (bs.length + s.size) c') (bs.length + s.size) (byteV bs ++ Lib.strCells s) → w.grownBy w' (Value.slice a bs.length c).ownBlock →
      ((Value.slice a' (bs.length + s.size) c').ownBlock = (Value.slice a bs.length c).ownBlock ∨ (Value.slice a' (bs.length + s.size) c').ownBlock = some w.heap.size) →
      w'.cell? ⟨p, 0, none⟩ = some (.slice a bs.length c) ∧ w'.frozen? ⟨p, 0, none⟩ = false ∧ WPost w p ob (some (bs ++ s.data.toList)) (.returned (.tuple #[])) (w'.setCell ⟨p, 0, none⟩ (.slice a' (bs.length + s.size) c')) := by
    intro a' c' w' ho' hg hloc
    have kp : Kp (fun b => some b = ob) w w' := (Kp.refl _ w).grown hg (fun k hk _ => by rw [← hk, hv])
    have hb' : Blk w' p [.slice a bs.length c, .bool (some bs).isNone] 54 := hb.kp kp (fun e => hne e.symm)
    have hne' : (Value.slice a' (bs.length + s.size) c').ownBlock ≠ some p := by
      rcases hloc with h1 | h1
      · rw [h1, hv]; exact hne
      · rw [h1]; intro e; injection e with e; have := hb.lt; omega
    have how : (w'.setCell ⟨p, 0, none⟩ (.slice a' (bs.length + s.size) c')).ownsRow 0 5 1 (.slice a' (bs.length + s.size) c') (bs.length + s.size) (byteV bs ++ Lib.strCells s) := by
      refine own_kp ho' ((Kp.refl (fun b => b = p) w').setCell (p := ⟨p, 0, none⟩) (fun _ => rfl) _) ?_
      rintro g hg2 rfl
      exact hne' hg2
    have e1 : (bs ++ s.data.toList).length = bs.length + s.size := by rw [List.length_append, size_eq]
    refine ⟨by rw [hb'.cell]; rfl, hb'.frozen 0, rfl, (Value.slice a' (bs.length + s.size) c').ownBlock, ⟨a', c', bs ++ s.data.toList, ?_, ?_, by rw [e1], hne', by rw [List.length_append]; exact hf, fun x hx => by cases hx; rfl⟩, ?_, ?_⟩
    · rw [e1]; exact hb'.set 0 _
    · rw [byteV_append, e1, ← strCells_eq]; exact how
    · exact (kp.mono (fun x _ hs => .inr hs)).setCell (fun _ => .inl rfl) _
    · intro k hk
      rcases hloc with h1 | h1
      · left; rw [← hv, ← h1, hk]
      · right; rw [h1] at hk; injection hk with hk; omega
  have hsz : bs.length + s.size ≤ 262144 := by rw [size_eq]; exact hf
  obtain ⟨n, hn⟩ : ∃ n, n = bs.length := ⟨_, rfl⟩
  rw [← hn] at hsz fin ho c0
  have Fin := Lib.hid fin
  have Ho := Lib.hid ho
  have H63 := Lib.hid (show n + s.size ≤ maxLen by unfold maxLen; omega)
  have Hby := Lib.hid (show n + s.size ≤ 140737488355328 by omega)
  clear fin ho hb hv hne hx hn hl hf
  go_enter Try.func22, Try.ntmps22
  go_wp2_with (at_builtin; refine wpList_app_string _ rfl (.tmp 26) (.tmp 27) 22 9 rfl 0 5 i0 Try.underlying22 Try.underlying9 hi hz0 hz1 hz2 _ _ _ rfl Ho.out s rfl H63.out Hby.out (Nat.zero_le _) ?_; intro a' c' w' ho' hg hl'; obtain ⟨x0, x1, x2⟩ := Fin.out a' c' w' ho' hg hl'; have X2 := Lib.hid x2; clear x2 ho' hg hl')
  go_wp2
  go_returns
  exact X2.out

theorem wbytes_any (w : World) (p : Nat) (ob : Option Nat) (s : ByteArray) (st : Option (List UInt8)) (h : WrAt w p ob st) (hs : s.size ≤ 140737488355328) :
    Calls Try.prog 22 #[.pointer (some ⟨p, 0, none⟩), .string s] w (WPost w p ob (wput st s.data.toList)) := by
  cases st with
  | none => exact wbytes_long w p ob s h
  | some x =>
    by_cases hf : x.length + s.data.toList.length ≤ 262144
    · rw [wput, if_pos hf]; exact wbytes_fits w p ob s x h hf
    · rw [wput, if_neg hf]; exact wbytes_full w p ob s x h hs (by omega)

/-- the eight bytes of a number, the lowest first -/
def leN (n : Int) : List Int := [IntKind.u64.wrap n % 256, IntKind.u64.wrap n / 256 % 256, IntKind.u64.wrap n / 65536 % 256, IntKind.u64.wrap n / 16777216 % 256, IntKind.u64.wrap n / 4294967296 % 256, IntKind.u64.wrap n / 1099511627776 % 256, IntKind.u64.wrap n / 281474976710656 % 256, IntKind.u64.wrap n / 72057594037927936 % 256]
def num8 (n : Int) : ByteArray := strOfNums (leN n)
def le8 (n : Int) : List UInt8 := (leN n).map fun k => UInt8.ofNat k.toNat
theorem num8_data (n : Int) : (num8 n).data.toList = le8 n := rfl
theorem le8_length (n : Int) : (le8 n).length = 8 := rfl
theorem num8_size (n : Int) : (num8 n).size = 8 := by rw [num8, strOfNums_size]; rfl

set_option maxRecDepth 100000 in
set_option maxHeartbeats 1000000 in
theorem wnum_any (w : World) (p : Nat) (ob : Option Nat) (n : Int) (st : Option (List UInt8)) (h : WrAt w p ob st) :
    Calls Try.prog 30 #[.pointer (some ⟨p, 0, none⟩), .int .i64 n] w (WPost w p ob (wput st (le8 n))) := by
  have hconv : (convert 22 9 (.slice (some ⟨w.heap.size, 0, none⟩) 8 8)).run Try.prog (w.alloc (.cells #[.int .u8 (IntKind.u64.wrap n % 256), .int .u8 (IntKind.u64.wrap n / 256 % 256), .int .u8 (IntKind.u64.wrap n / 65536 % 256), .int .u8 (IntKind.u64.wrap n / 16777216 % 256), .int .u8 (IntKind.u64.wrap n / 4294967296 % 256), .int .u8 (IntKind.u64.wrap n / 1099511627776 % 256), .int .u8 (IntKind.u64.wrap n / 281474976710656 % 256), .int .u8 (IntKind.u64.wrap n / 72057594037927936 % 256)] 112)) =
      .ok (.string (num8 n)) (w.alloc (.cells #[.int .u8 (IntKind.u64.wrap n % 256), .int .u8 (IntKind.u64.wrap n / 256 % 256), .int .u8 (IntKind.u64.wrap n / 65536 % 256), .int .u8 (IntKind.u64.wrap n / 16777216 % 256), .int .u8 (IntKind.u64.wrap n / 4294967296 % 256), .int .u8 (IntKind.u64.wrap n / 1099511627776 % 256), .int .u8 (IntKind.u64.wrap n / 281474976710656 % 256), .int .u8 (IntKind.u64.wrap n / 72057594037927936 % 256)] 112)) := by
    refine run_convert_bytes_arg _ 22 5 Try.underlying22 Try.underlying5 w.heap.size 0 8 8 (leN n) rfl ?_ 9 Try.underlying9
    intro i hi
    have hb : Blk (w.alloc (.cells #[.int .u8 (IntKind.u64.wrap n % 256), .int .u8 (IntKind.u64.wrap n / 256 % 256), .int .u8 (IntKind.u64.wrap n / 65536 % 256), .int .u8 (IntKind.u64.wrap n / 16777216 % 256), .int .u8 (IntKind.u64.wrap n / 4294967296 % 256), .int .u8 (IntKind.u64.wrap n / 1099511627776 % 256), .int .u8 (IntKind.u64.wrap n / 281474976710656 % 256), .int .u8 (IntKind.u64.wrap n / 72057594037927936 % 256)] 112)) w.heap.size ((leN n).map (.int .u8)) 112 := Blk.new w ((leN n).map (.int .u8)) _
    rw [hb.cell, Nat.zero_add, List.getElem?_map, List.getElem?_eq_getElem (by exact hi), List.getD_eq_getElem?_getD, List.getElem?_eq_getElem (by exact hi)]
    rfl
  have hn8 : (num8 n).size ≤ 140737488355328 := by rw [num8_size]; decide
  have C := fun o => wbytes_any (w.alloc o) p ob (num8 n) st (h.alloc o) hn8
  have HC := Lib.hid C
  clear C h hn8
  go_enter Try.func30, Try.ntmps30
  go_wp2
  refine wp_loop_rounds 9 ?_
  repeat any_goals (rw [rounds_succ]; go_wp2_with (go_at_call 22; refine (HC.out _).mono ?_; rintro e w' hw'; have X := Lib.hid hw'.ofAlloc; have Xe := hw'.1; clear hw'; subst Xe))
  go_returns
  exact X.out
end Go.Proofs.Ytpopgnengimieaa
