/- slices.Clone of words and of bytes; what the machine tells: Outcome, Pc, Reg, Mem. -/
import Derived.Test.YthlcoocboidnlaaMach8
import Derived.Lib.SliceRun
namespace Go.Proofs.Ythlcoocboidnlaa
open Go.RowKit
set_option linter.unusedSimpArgs false
set_option linter.unusedVariables false

/-- a copy in a new row -/
def CloneP (t : TypeId) (ls : List Value) (w : World) (e : Ending) (w' : World) : Prop :=
  ∃ v, e = .returned v ∧ w'.ownsRow w.heap.size t 1 v ls.length ls ∧ Nw w w'
theorem grown_nw {w w1 w' : World} {row : Option Nat} (h : Nw w w1) (hg : w1.grownBy w' row) (hr : ∀ k, row = some k → w.heap.size ≤ k) : Nw w w' :=
  Kp.grown (S := fun _ => False) h hg (fun k hk hlt => absurd hlt (Nat.not_lt_of_le (hr k hk)))
theorem own_weaken {w : World} {base base' e size n : Nat} {v : Value} {xs : List Value} (h : w.ownsRow base e size v n xs) (hb : base' ≤ base) : w.ownsRow base' e size v n xs := by
  refine ⟨h.1, ?_⟩
  rcases h.2 with h2 | ⟨g, cap, cur, hv, hg, r⟩
  · exact .inl h2
  · exact .inr ⟨g, cap, cur, hv, Nat.le_trans hb hg, r⟩
theorem own_block {w : World} {base e size n : Nat} {v : Value} {xs : List Value} (h : w.ownsRow base e size v n xs) : ∀ g, v.ownBlock = some g → base ≤ g := by
  intro g hg
  exact (h.lt g hg).1
theorem own_empty (w : World) (t : TypeId) : (w.alloc (.cells #[] t)).ownsRow w.heap.size t 1 (.slice (some ⟨w.heap.size, 0, none⟩) 0 0) 0 [] :=
  ⟨rfl, .inr ⟨w.heap.size, 0, #[], rfl, Nat.le_refl _, heap_alloc_new w _, Nat.le_refl _, Nat.zero_le _, rfl, rfl⟩⟩
theorem i64info : (Try.prog.info? 2).map (fun i => (i.zero, i.size, i.bytes)) = some (some (.int .i64 0), 1, 8) := by kernel_rfl
set_option maxRecDepth 100000 in
set_option maxHeartbeats 1000000 in
theorem wclone_nil (w : World) (n c : Nat) : Calls Try.prog 31 #[.slice none n c] w (CloneP 2 [] w) := by
  have FIN := Lib.hid (show CloneP 2 [] w (.returned (.slice none 0 0)) w from ⟨_, rfl, ⟨rfl, .inl ⟨rfl, rfl⟩⟩, Nw.refl _⟩)
  have qn : ∀ (w : World) (a : Option Addr) (n c n' c' : Nat), (binOp .eql 22 (.slice a n c) (.slice none n' c')).run Try.prog w = .ok (.bool a.isNone) w := fun w a n c n' c' => Lib.run_eql_slice_nil w _ _ a n c n' c' Try.underlying22
  go_enter Try.func31, Try.ntmps31
  go_wp2_with fail
  go_returns
  exact FIN.out
set_option maxRecDepth 100000 in
set_option maxHeartbeats 1000000 in
theorem wclone_some (w : World) (ad : Addr) (n c : Nat) (ls : List Value) (hl : ls.length = n) (hn : n ≤ 262144) (hc : ∀ (j : Nat) u, ls[j]? = some u → w.cell? (ad.add j) = some u) (h1 : ∀ u ∈ ls, u.oneCell' = true) :
    Calls Try.prog 31 #[.slice (some ad) n c] w (CloneP 2 ls w) := by
  obtain ⟨i0, hi, hz0, hz1, hz2⟩ := info_parts i64info
  have N0 := Lib.hid (Nw.new w (.cells #[] 2))
  have OE := Lib.hid (own_empty w 2)
  have HC := Lib.hid (fun (j : Nat) u (h : ls[j]? = some u) => N0.out.keeps (hc j u h))
  have HL := Lib.hid (show ls.length = n * 1 by omega)
  have H1 := Lib.hid h1
  have H63 := Lib.hid (show 0 + n ≤ maxLen by unfold maxLen; omega)
  have HBY := Lib.hid (show (0 + n) * 8 ≤ 140737488355328 by omega)
  have HB := Lib.hid N0.out.size
  have FIN := Lib.hid (fun (x' : Option Addr) (c' : Nat) (w' : World) (ho : w'.ownsRow w.heap.size 2 1 (.slice x' (0 + n) c') (0 + n) ([] ++ ls)) (hg : (w.alloc (.cells #[] 2)).grownBy w' (Value.slice (some ⟨w.heap.size, 0, none⟩) 0 0).ownBlock) =>
    (show CloneP 2 ls w (.returned (.slice x' n c')) w' from ⟨_, rfl, by rw [hl]; simpa using ho, grown_nw N0.out hg (fun k hk => by have : some w.heap.size = some k := hk; injection this with this; omega)⟩))
  clear hc h1 hl
  have qn : ∀ (w : World) (a : Option Addr) (n c n' c' : Nat), (binOp .eql 22 (.slice a n c) (.slice none n' c')).run Try.prog w = .ok (.bool a.isNone) w := fun w a n c n' c' => Lib.run_eql_slice_nil w _ _ a n c n' c' Try.underlying22
  go_enter Try.func31, Try.ntmps31
  go_wp2_with (at_builtin; refine wpList_app _ rfl (.tmp 5) (.tmp 6) 22 rfl w.heap.size 2 i0 (.int .i64 0) 1 8 Try.underlying22 hi hz0 hz1 hz2 rfl (by decide) _ 0 [] rfl OE.out ad n c ls rfl HL.out HC.out H1.out H63.out HBY.out HB.out ?_; intro x' c' w' ho' hg' hl'; have F1 := Lib.hid (FIN.out x' c' w' ho' hg'); clear ho' hg' hl')
  go_returns
  have F2 := F1.out
  first | exact F2 | simpa using F2
set_option maxRecDepth 100000 in
set_option maxHeartbeats 1000000 in
theorem bclone_nil (w : World) (n c : Nat) : Calls Try.prog 32 #[.slice none n c] w (CloneP 5 [] w) := by
  have FIN := Lib.hid (show CloneP 5 [] w (.returned (.slice none 0 0)) w from ⟨_, rfl, ⟨rfl, .inl ⟨rfl, rfl⟩⟩, Nw.refl _⟩)
  have qn : ∀ (w : World) (a : Option Addr) (n c n' c' : Nat), (binOp .eql 35 (.slice a n c) (.slice none n' c')).run Try.prog w = .ok (.bool a.isNone) w := fun w a n c n' c' => Lib.run_eql_slice_nil w _ _ a n c n' c' Try.underlying35
  go_enter Try.func32, Try.ntmps32
  go_wp2_with fail
  go_returns
  exact FIN.out
set_option maxRecDepth 100000 in
set_option maxHeartbeats 1000000 in
theorem bclone_some (w : World) (ad : Addr) (n c : Nat) (ls : List Value) (hl : ls.length = n) (hn : n ≤ 262144) (hc : ∀ (j : Nat) u, ls[j]? = some u → w.cell? (ad.add j) = some u) (h1 : ∀ u ∈ ls, u.oneCell' = true) :
    Calls Try.prog 32 #[.slice (some ad) n c] w (CloneP 5 ls w) := by
  obtain ⟨i0, hi, hz0, hz1, hz2⟩ := info_parts u8info
  have N0 := Lib.hid (Nw.new w (.cells #[] 5))
  have OE := Lib.hid (own_empty w 5)
  have HC := Lib.hid (fun (j : Nat) u (h : ls[j]? = some u) => N0.out.keeps (hc j u h))
  have HL := Lib.hid (show ls.length = n * 1 by omega)
  have H1 := Lib.hid h1
  have H63 := Lib.hid (show 0 + n ≤ maxLen by unfold maxLen; omega)
  have HBY := Lib.hid (show (0 + n) * 1 ≤ 140737488355328 by omega)
  have HB := Lib.hid N0.out.size
  have FIN := Lib.hid (fun (x' : Option Addr) (c' : Nat) (w' : World) (ho : w'.ownsRow w.heap.size 5 1 (.slice x' (0 + n) c') (0 + n) ([] ++ ls)) (hg : (w.alloc (.cells #[] 5)).grownBy w' (Value.slice (some ⟨w.heap.size, 0, none⟩) 0 0).ownBlock) =>
    (show CloneP 5 ls w (.returned (.slice x' n c')) w' from ⟨_, rfl, by rw [hl]; simpa using ho, grown_nw N0.out hg (fun k hk => by have : some w.heap.size = some k := hk; injection this with this; omega)⟩))
  clear hc h1 hl
  have qn : ∀ (w : World) (a : Option Addr) (n c n' c' : Nat), (binOp .eql 35 (.slice a n c) (.slice none n' c')).run Try.prog w = .ok (.bool a.isNone) w := fun w a n c n' c' => Lib.run_eql_slice_nil w _ _ a n c n' c' Try.underlying35
  go_enter Try.func32, Try.ntmps32
  go_wp2_with (at_builtin; refine wpList_app _ rfl (.tmp 5) (.tmp 6) 35 rfl w.heap.size 5 i0 (.int .u8 0) 1 1 Try.underlying35 hi hz0 hz1 hz2 rfl (by decide) _ 0 [] rfl OE.out ad n c ls rfl HL.out HC.out H1.out H63.out HBY.out HB.out ?_; intro x' c' w' ho' hg' hl'; have F1 := Lib.hid (FIN.out x' c' w' ho' hg'); clear ho' hg' hl')
  go_returns
  have F2 := F1.out
  first | exact F2 | simpa using F2
/-- how far a machine is: its output in a new row -/
def OutP (w : World) (s : Ms) (e : Ending) (w' : World) : Prop :=
  ∃ v, e = .returned (.agg #[.int .i64 s.kind, .int .i64 s.panics, v, .int .i64 s.steps]) ∧ w'.ownsRow w.heap.size 5 1 v s.out.length (byteV s.out) ∧ Nw w w'
theorem bclone_own {B : Nat} {w : World} {v : Value} {l : List UInt8} (h : w.ownsRow B 5 1 v l.length (byteV l)) (hl : l.length ≤ 262144) :
    Calls Try.prog 32 #[v] w fun e w' => ∃ x c, e = .returned (.slice x l.length c) ∧ w'.ownsRow w.heap.size 5 1 (.slice x l.length c) l.length (byteV l) ∧ Nw w w' := by
  suffices key : Calls Try.prog 32 #[v] w (CloneP 5 (byteV l) w) by
    refine key.mono ?_
    rintro e w' ⟨v', rfl, ho, hk⟩
    rw [byteV_length] at ho
    obtain ⟨x, c, rfl⟩ := own_slice ho
    exact ⟨x, c, rfl, ho, hk⟩
  rcases h.2 with ⟨h1, h2⟩ | ⟨g, cap, cur, hv, hb, hg, hn, hm, hc, ht⟩
  · have hl := List.eq_nil_of_length_eq_zero h2
    subst hl
    rw [h1]; exact bclone_nil w 0 0
  · have hc := h.cells (g := g) (by rw [hv]; rfl)
    rw [hv]
    refine bclone_some w ⟨g, 0, none⟩ l.length cap (byteV l) (byteV_length l) hl hc ?_
    intro u hu
    simp only [byteV, List.mem_map] at hu
    obtain ⟨b, _, rfl⟩ := hu
    rfl
theorem out_res {tmps : Array Value} {w : World} {q : Nat} {a b c d : Value} (h2 : tmps[2]?.getD undef = .pointer (some ⟨q, 0, none⟩)) (hb : Blk w q [a, b, c, d] 37) :
    (results Try.f22 tmps).run Try.prog w = .ok (.agg #[a, b, c, d]) w := by
  have f0 := hb.cell 0
  have f1 := hb.cell 1
  have f2 := hb.cell 2
  have f3 := hb.cell 3
  simp only [List.getElem?_cons_zero, List.getElem?_cons_succ] at f0 f1 f2 f3
  simp [results, Try.results22, go_sem, h2, f0, f1, f2, f3]
set_option maxRecDepth 100000 in
set_option maxHeartbeats 1000000 in
theorem outcome_nil (w : World) : Calls Try.prog 22 #[.pointer none] w fun e w' => e = .returned (.agg #[.int .i64 0, .int .i64 0, .slice none 0 0, .int .i64 0]) ∧ Nw w w' := by
  have N0 := Lib.hid (Nw.new w (.cells #[.int .i64 0, .int .i64 0, .slice none 0 0, .int .i64 0] 37))
  have B0 := Lib.hid (Blk.new w [.int .i64 0, .int .i64 0, .slice none 0 0, .int .i64 0] 37)
  have hq : w.heap.size < (w.alloc (.cells #[.int .i64 0, .int .i64 0, .slice none 0 0, .int .i64 0] 37)).heap.size := by simp
  go_enter Try.func22, Try.ntmps22
  go_upto_region 1 with fail
  generalize w.alloc (.cells #[.int .i64 0, .int .i64 0, .slice none 0 0, .int .i64 0] 37) = w0 at *
  have FIN := Lib.hid (Kp.sets (S := fun _ => False) (b := w.heap.size) N0.out (fun h => absurd h (Nat.lt_irrefl _)) 0 [.int .i64 0, .int .i64 0, .slice none 0 0, .int .i64 0])
  have FB := Lib.hid (Blk.sets B0.out 0 [.int .i64 0, .int .i64 0, .slice none 0 0, .int .i64 0])
  have cR := B0.out.cell
  have zR := B0.out.frozen
  generalize w.heap.size = q at *
  go_wp2_with fail
  refine bodyPost_ret (v := .agg #[.int .i64 0, .int .i64 0, .slice none 0 0, .int .i64 0]) (out_res rfl FB.out) rfl ⟨rfl, FIN.out⟩
set_option maxRecDepth 100000 in
set_option maxHeartbeats 1000000 in
theorem outcome_any {B : Nat} {R : Nat → Prop} {w : World} {p : Nat} {L : Lc} {s : Ms} (h : MAtL B R w p L s) : Calls Try.prog 22 #[.pointer (some ⟨p, 0, none⟩)] w (OutP w s) := by
  have N0 := Lib.hid (Nw.new w (.cells #[.int .i64 0, .int .i64 0, .slice none 0 0, .int .i64 0] 37))
  have M0 := Lib.hid (h.nw N0.out)
  have B0 := Lib.hid (Blk.new w [.int .i64 0, .int .i64 0, .slice none 0 0, .int .i64 0] 37)
  have hlt := h.mc.lt
  have hq : w.heap.size < (w.alloc (.cells #[.int .i64 0, .int .i64 0, .slice none 0 0, .int .i64 0] 37)).heap.size := by simp
  clear h
  go_enter Try.func22, Try.ntmps22
  go_upto_region 1 with fail
  generalize w.alloc (.cells #[.int .i64 0, .int .i64 0, .slice none 0 0, .int .i64 0] 37) = w0 at *
  obtain ⟨q, hqq⟩ : ∃ q, q = w.heap.size := ⟨_, rfl⟩
  rw [← hqq] at B0 hlt hq ⊢
  have HQ := Lib.hid hqq
  clear hqq
  have g21 : w0.cell? ⟨p, 21, none⟩ = some (.int .i64 s.kind) := M0.out.mc.c21
  have g22 : w0.cell? ⟨p, 22, none⟩ = some (.int .i64 s.panics) := M0.out.mc.c22
  have g20 : w0.cell? ⟨p, 20, none⟩ = some L.vo := M0.out.mc.c20
  have g23 : w0.cell? ⟨p, 23, none⟩ = some (.int .i64 s.steps) := M0.out.mc.c23
  have hol := M0.out.ho
  have CL := Lib.hid (fun (wz : World) (hz : Nw w0 wz) => bclone_own (M0.out.nw hz).own (by omega))
  have FC := Lib.hid (fun (wz : World) (hz : Nw w0 wz) => (⟨hz.keeps g21, hz.keeps g22, hz.keeps g20, hz.keeps g23⟩ : _ ∧ _ ∧ _ ∧ _))
  have NP := Lib.hid (show p ≠ q by omega)
  clear hol hq
  go_wp2_with fail
  go_region_held3 (fun wz => wz.cell? ⟨p, 21, none⟩ = some (.int .i64 s.kind) ∧ wz.cell? ⟨p, 22, none⟩ = some (.int .i64 s.panics) ∧ wz.cell? ⟨p, 20, none⟩ = some L.vo ∧ wz.cell? ⟨p, 23, none⟩ = some (.int .i64 s.steps))
    (first | with_reducible exact FC.out _ (Nw.refl _) | with_reducible exact FC.out _ (Nw.refl _).drew | with_reducible exact FC.out _ kk | exact SF.out)
    (first
      | (go_at_call 32; (with_reducible refine (CL.out w0.drew ((Nw.refl _).drew)).mono ?_); rintro e1 w1 ⟨xr, cr, rfl, ho1, k1⟩; have kk : Nw w0 w1 := ((Nw.refl _).drew).trans k1; have OW := Lib.hid ho1; clear ho1 k1; have B1 := Lib.hid (B0.out.nw kk); have cR := B1.out.cell; have zR := B1.out.frozen;
         have SF := Lib.hid (show _ ∧ _ ∧ _ ∧ _ from ⟨Kp.keeps ((Kp.refl (fun x => x = q) w1).sets (fun _ => rfl) 0 [.int .i64 s.kind, .int .i64 s.panics, .slice xr s.out.length cr, .int .i64 s.steps]) (kk.keeps g21) NP.out, Kp.keeps ((Kp.refl (fun x => x = q) w1).sets (fun _ => rfl) 0 [.int .i64 s.kind, .int .i64 s.panics, .slice xr s.out.length cr, .int .i64 s.steps]) (kk.keeps g22) NP.out, Kp.keeps ((Kp.refl (fun x => x = q) w1).sets (fun _ => rfl) 0 [.int .i64 s.kind, .int .i64 s.panics, .slice xr s.out.length cr, .int .i64 s.steps]) (kk.keeps g20) NP.out, Kp.keeps ((Kp.refl (fun x => x = q) w1).sets (fun _ => rfl) 0 [.int .i64 s.kind, .int .i64 s.panics, .slice xr s.out.length cr, .int .i64 s.steps]) (kk.keeps g23) NP.out⟩)))
  all_goals
    have NK := Lib.hid (N0.out.trans kk)
    have FIN := Lib.hid (show OutP w s (.returned (.agg #[.int .i64 s.kind, .int .i64 s.panics, .slice xr s.out.length cr, .int .i64 s.steps])) (lays w1 q 0 [.int .i64 s.kind, .int .i64 s.panics, .slice xr s.out.length cr, .int .i64 s.steps]) from
      ⟨_, rfl, own_weaken (own_kp OW.out ((Kp.refl (fun x => x = q) w1).sets (fun _ => rfl) 0 [.int .i64 s.kind, .int .i64 s.panics, .slice xr s.out.length cr, .int .i64 s.steps]) (fun g hg e => by have h1 : w0.heap.size ≤ g := own_block OW.out g hg; have h2 := B0.out.lt; have e : g = q := e; omega)) (by have := N0.out.size; exact this),
       Kp.sets (S := fun _ => False) (b := q) NK.out (fun hh => by have := HQ.out; omega) 0 [.int .i64 s.kind, .int .i64 s.panics, .slice xr s.out.length cr, .int .i64 s.steps]⟩)
    have FB := Lib.hid (Blk.sets B1.out 0 [.int .i64 s.kind, .int .i64 s.panics, .slice xr s.out.length cr, .int .i64 s.steps])
    go_wp2_with fail
    refine bodyPost_ret (v := .agg #[.int .i64 s.kind, .int .i64 s.panics, .slice xr s.out.length cr, .int .i64 s.steps]) (out_res rfl FB.out) rfl FIN.out

end Go.Proofs.Ythlcoocboidnlaa
