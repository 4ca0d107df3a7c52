/- mach.Run: a whole run. -/
import Derived.Test.YthlcoocboidnlaaMach12
namespace Go.Proofs.Ythlcoocboidnlaa
open Go.RowKit
set_option linter.unusedSimpArgs false
set_option linter.unusedVariables false

/-- how far a run is -/
structure Oc where
  kind : Int
  panics : Int
  out : List UInt8
  steps : Int
def Ms.oc (s : Ms) : Oc := ⟨s.kind, s.panics, s.out, s.steps⟩
def Oc.val (q : Oc) (x : Option Addr) (c : Nat) : Value := .agg #[.int .i64 q.kind, .int .i64 q.panics, .slice x q.out.length c, .int .i64 q.steps]
/-- an outcome is handed back: its output in a new row -/
def OcP (q : Oc) (w : World) (e : Ending) (w' : World) : Prop :=
  ∃ x c, e = .returned (q.val x c) ∧ w'.ownsRow w.heap.size 5 1 (.slice x q.out.length c) q.out.length (byteV q.out) ∧ Nw w w'
/-- an image, a memory's size, an input: what comes in -/
structure Img where
  code : List Int
  data : List Int
  entry : Int
structure ImgAt (R : Nat → Prop) (w : World) (xc xd : Option Addr) (nc cc nd cd : Nat) (entry : Int) (m : Img) : Prop where
  code : WordsR R w (.slice xc nc cc) m.code
  data : WordsR R w (.slice xd nd cd) m.data
  hr : ∀ b, R b → b < w.heap.size
  ci : ∀ v ∈ m.code, -9223372036854775808 ≤ v ∧ v ≤ 9223372036854775807
  en : entry = m.entry
  lc : m.code.length ≤ 140737488355328
  ld : m.data.length ≤ 140737488355328
theorem ImgAt.nw {R : Nat → Prop} {w w' : World} {xc xd : Option Addr} {nc cc nd cd : Nat} {entry : Int} {m : Img} (h : ImgAt R w xc xd nc cc nd cd entry m) (k : Nw w w') : ImgAt R w' xc xd nc cc nd cd entry m :=
  ⟨h.code.kp k (fun _ _ x => x), h.data.kp k (fun _ _ x => x), fun b hb => Nat.lt_of_lt_of_le (h.hr b hb) k.size, h.ci, h.en, h.lc, h.ld⟩
def Img.err (m : Img) (mem : Int) (inp : List UInt8) : Int := newErr m.code m.data m.entry mem inp
def Img.ms (m : Img) (mem : Int) (inp : List UInt8) : Ms := Ms.new m.code m.data m.entry mem inp
/-- a whole run -/
def Img.run (m : Img) (mem : Int) (inp : List UInt8) (fuel : Int) : Oc :=
  if m.err mem inp = 0 then ((m.ms mem inp).runN (min fuel 4194304).toNat).oc else ⟨5, 0, [], 0⟩
theorem WordsR.len {R : Nat → Prop} {w : World} {x : Option Addr} {n c : Nat} {l : List Int} (h : WordsR R w (.slice x n c) l) : n = l.length := by
  obtain ⟨_, _, e, _⟩ := h; injection e
theorem BytesR.len {R : Nat → Prop} {w : World} {x : Option Addr} {n c : Nat} {l : List UInt8} (h : BytesR R w (.slice x n c) l) : n = l.length := by
  obtain ⟨_, _, e, _⟩ := h; injection e
/-- New, whatever comes in -/
def NewP (m : Img) (mem : Int) (inp : List UInt8) (w : World) (e : Ending) (w' : World) : Prop :=
  (m.err mem inp = 0 ∧ ∃ p R' L, e = .returned (.tuple #[.pointer (some ⟨p, 0, none⟩), .int .i64 0]) ∧ MAtL w.heap.size R' w' p L (m.ms mem inp) ∧ Nw w w') ∨
  (¬ m.err mem inp = 0 ∧ e = .returned (.tuple #[.pointer none, .int .i64 (m.err mem inp)]) ∧ Nw w w')
theorem new_any {R R' : Nat → Prop} {w : World} {xc xd xi : Option Addr} {nc cc nd cd ni ci : Nat} {entry : Int} {m : Img} {inp : List UInt8} (h : ImgAt R w xc xd nc cc nd cd entry m) (hi : BytesR R' w (.slice xi ni ci) inp) (hr : ∀ b, R' b → b < w.heap.size) (hli : inp.length ≤ 9223372036854775807) (mem : Int) :
    Calls Try.prog 13 #[.agg #[.slice xc nc cc, .slice xd nd cd, .int .i64 entry], .int .i64 mem, .slice xi ni ci] w (NewP m mem inp w) := by
  have h1 := h.code.len
  have h2 := h.data.len
  have h3 := hi.len
  have h4 := h.lc
  have h5 := h.ld
  have h6 := h.en
  by_cases c1 : nc < 1 ∨ 65536 < nc ∨ 16384 < nd ∨ entry < 0 ∨ (nc : Int) ≤ entry
  · have e : m.err mem inp = 4 := if_pos (by rw [← h1, ← h2, ← h6]; exact c1)
    refine (new_bad w xc xd xi nc cc nd cd ni ci entry mem 4 (by omega) (by omega) (by omega) (.inl ⟨c1, rfl⟩)).mono fun e' w' q => .inr ⟨by rw [e]; decide, by rw [e]; exact q.1, q.2⟩
  · have e0 : m.err mem inp = if mem < (m.data.length : Int) ∨ 262144 < mem ∨ 4096 < inp.length then 1 else 0 := if_neg (by rw [← h1, ← h2, ← h6]; exact c1)
    by_cases c2 : mem < (nd : Int) ∨ 262144 < mem ∨ 4096 < ni
    · have e : m.err mem inp = 1 := by rw [e0, if_pos (by rw [← h2, ← h3]; exact c2)]
      refine (new_bad w xc xd xi nc cc nd cd ni ci entry mem 1 (by omega) (by omega) (by omega) (.inr ⟨c1, c2, rfl⟩)).mono fun e' w' q => .inr ⟨by rw [e]; decide, by rw [e]; exact q.1, q.2⟩
    · have e : m.err mem inp = 0 := by rw [e0, if_neg (by rw [← h2, ← h3]; exact c2)]
      have hi2 : BytesR (fun b => R b ∨ R' b) w (.slice xi ni ci) inp := by
        obtain ⟨x, c, e1, e2, e3, e4⟩ := hi
        exact ⟨x, c, e1, e2, e3, fun hne => by obtain ⟨b, o, q1, q2, q3⟩ := e4 hne; exact ⟨b, o, q1, .inr q2, q3⟩⟩
      have hw : ∀ v l, WordsR R w v l → WordsR (fun b => R b ∨ R' b) w v l := fun v l hh => by
        obtain ⟨x, c, e1, e2, e3, e4⟩ := hh
        exact ⟨x, c, e1, e2, e3, fun hne => by obtain ⟨b, o, q1, q2, q3⟩ := e4 hne; exact ⟨b, o, q1, .inl q2, q3⟩⟩
      refine (new_ok w (fun b => R b ∨ R' b) xc xd nc cc nd cd entry mem (.slice xi ni ci) m.code m.data inp (hw _ _ h.code) (hw _ _ h.data) hi2 (fun b hb => hb.elim (h.hr b) (hr b)) h.ci (by omega) (by omega) (by omega) (by omega) (by omega) (by omega) (by omega) (by omega)).mono ?_
      rintro e' w' ⟨p, R2, L, q1, q2, q3⟩
      exact .inl ⟨e, p, R2, L, q1, by unfold Img.ms; rw [← h6]; exact q2, q3⟩
theorem ft_new {R : Nat → Prop} {w w1 w' : World} {p : Nat} {L : Lc} {s : Ms} (h : MAtL w.heap.size R w1 p L s) (n : Nw w w1) (k : Kp (Ft p L) w1 w') : Nw w w' :=
  Kp.trans n k (fun x hx e => by
    rcases e with e | e | e
    · have := h.bp; omega
    · have := h.bb; omega
    · have := (h.own.lt x e).1; omega)
theorem fnrun_res {tmps : Array Value} {w : World} {q : Nat} {a b c d : Value} (h2 : tmps[8]?.getD undef = .pointer (some ⟨q, 0, none⟩)) (hb : Blk w q [a, b, c, d] 37) :
    (results Try.f19 tmps).run Try.prog w = .ok (.agg #[a, b, c, d]) w := by
  have f0 := hb.cell 0
  have f1 := hb.cell 1
  have f2 := hb.cell 2
  have f3 := hb.cell 3
  simp only [List.getElem?_cons_zero, List.getElem?_cons_succ] at f0 f1 f2 f3
  simp [results, Try.results19, go_sem, h2, f0, f1, f2, f3]
set_option maxRecDepth 100000 in
set_option maxHeartbeats 2000000 in
theorem fnrun_any {R R' : Nat → Prop} {w : World} {xc xd xi : Option Addr} {nc cc nd cd ni ci : Nat} {entry : Int} {m : Img} {inp : List UInt8} (h : ImgAt R w xc xd nc cc nd cd entry m) (hi : BytesR R' w (.slice xi ni ci) inp) (hr : ∀ b, R' b → b < w.heap.size) (hli : inp.length ≤ 9223372036854775807) (mem fuel : Int)
    (hf : -9223372036854775808 ≤ fuel ∧ fuel ≤ 9223372036854775807) :
    Calls Try.prog 19 #[.agg #[.slice xc nc cc, .slice xd nd cd, .int .i64 entry], .int .i64 mem, .slice xi ni ci, .int .i64 fuel] w (OcP (m.run mem inp fuel) w) := by
  have N0 := Lib.hid (((Nw.refl w).alloc (.cells #[.slice xc nc cc, .slice xd nd cd, .int .i64 entry] 29)).alloc (.cells #[.int .i64 0, .int .i64 0, .slice none 0 0, .int .i64 0] 37))
  have BI := Lib.hid ((Blk.new w [.slice xc nc cc, .slice xd nd cd, .int .i64 entry] 29).alloc (.cells #[.int .i64 0, .int .i64 0, .slice none 0 0, .int .i64 0] 37))
  have BR := Lib.hid (show Blk ((w.alloc (.cells #[.slice xc nc cc, .slice xd nd cd, .int .i64 entry] 29)).alloc (.cells #[.int .i64 0, .int .i64 0, .slice none 0 0, .int .i64 0] 37)) (w.heap.size + 1) [.int .i64 0, .int .i64 0, .slice none 0 0, .int .i64 0] 37 by
    have := Blk.new (w.alloc (.cells #[.slice xc nc cc, .slice xd nd cd, .int .i64 entry] 29)) [.int .i64 0, .int .i64 0, .slice none 0 0, .int .i64 0] 37
    rw [size_alloc] at this; exact this)
  have NEW := Lib.hid (fun (wz : World) (k : Nw w wz) => new_any (h.nw k) (hi.nw k) (fun b hb => Nat.lt_of_lt_of_le (hr b hb) k.size) hli mem)
  clear h hi hr
  go_enter Try.func19, Try.ntmps19
  go_upto_region 1 with fail
  generalize (w.alloc (.cells #[.slice xc nc cc, .slice xd nd cd, .int .i64 entry] 29)).alloc (.cells #[.int .i64 0, .int .i64 0, .slice none 0 0, .int .i64 0] 37) = w0 at *
  obtain ⟨q, hq⟩ : ∃ q, q = w.heap.size + 1 := ⟨_, rfl⟩
  rw [← hq] at BR ⊢
  have HQ := Lib.hid hq
  clear hq
  generalize hbi : w.heap.size = bi at *
  have HBI := Lib.hid hbi
  clear hbi
  have i0 := BI.out.cell 0
  have i1 := BI.out.cell 1
  have i2 := BI.out.cell 2
  simp only [List.getElem?_cons_zero, List.getElem?_cons_succ] at i0 i1 i2
  have ND := Lib.hid (NEW.out w0 N0.out)
  clear NEW
  go_wp2_with fail
  refine ND.out.mono ?_
  rintro e1 w1 (⟨he, p, R2, L, rfl, hm, hk⟩ | ⟨he, rfl, hk⟩)
  · have RU := Lib.hid (show m.run mem inp fuel = ((m.ms mem inp).runN (min fuel 4194304).toNat).oc from if_pos he)
    have BR1 := Lib.hid (BR.out.nw hk)
    have N1 := Lib.hid (N0.out.trans hk)
    have hqp : q < p := Nat.lt_of_lt_of_le BR.out.lt hm.bp
    have QF := Lib.hid (show ¬ Ft p L q from fun e => by
      rcases e with e | e | e
      · omega
      · have := hm.bb; have := BR.out.lt; omega
      · have := (hm.own.lt q e).1; have := BR.out.lt; omega)
    have hmin1 : (if fuel ≤ 4194304 then fuel else 4194304) = min fuel 4194304 := by rw [Int.min_def]
    have hmr : -9223372036854775808 ≤ min fuel 4194304 ∧ min fuel 4194304 ≤ 9223372036854775807 := by rw [Int.min_def]; split <;> omega
    have MR := Lib.hid (mrun_any hm (min fuel 4194304) hmr)
    have FK := Lib.hid (fun (wz : World) (k : Kp (Ft p L) w1 wz) => (Kp.trans hk k (fun x hx e => by
      rcases e with e | e | e
      · have := hm.bp; omega
      · have := hm.bb; omega
      · have := (hm.own.lt x e).1; omega) : Nw w0 wz))
    obtain ⟨sf, hsf⟩ : ∃ sf, sf = (m.ms mem inp).runN (min fuel 4194304).toNat := ⟨_, rfl⟩
    rw [← hsf] at MR RU
    clear he hk hm hqp hsf
    by_cases hle : fuel ≤ 4194304
    · have e1 : min fuel 4194304 = fuel := Int.min_eq_left hle
      rw [e1] at MR
      clear e1 hmin1 hmr
      go_wp2_with fail
      refine MR.out.mono ?_
      rintro e2 w2 ⟨v, rfl, ho, L2, hm2, hk2, _, _, hne⟩
      obtain ⟨xr, cr, rfl⟩ := own_slice ho
      have N2 := Lib.hid (N1.out.trans (show Nw w1 w1 from Nw.refl _))
      have BR2 := Lib.hid (BR1.out.kp hk2 QF.out)
      have NF := Lib.hid (N0.out.trans (FK.out w2 hk2))
      have FIN := Lib.hid (show OcP (m.run mem inp fuel) w (.returned (.agg #[.int .i64 sf.kind, .int .i64 sf.panics, .slice xr sf.out.length cr, .int .i64 sf.steps])) (lays w2 q 0 [.int .i64 sf.kind, .int .i64 sf.panics, .slice xr sf.out.length cr, .int .i64 sf.steps]) by
        rw [RU.out]
        refine ⟨xr, cr, rfl, own_weaken (own_kp ho ((Kp.refl (fun x => x = q) w2).sets (fun _ => rfl) 0 [.int .i64 sf.kind, .int .i64 sf.panics, .slice xr sf.out.length cr, .int .i64 sf.steps]) (fun g hg e => ?_)) N1.out.size, Kp.sets (S := fun _ => False) (b := q) NF.out (fun hh => by have := HQ.out; have := HBI.out; omega) 0 _⟩
        have h1 := own_block ho g hg
        have h2 := BR1.out.lt
        have e : g = q := e
        omega)
      have FB := Lib.hid (Blk.sets BR2.out 0 [.int .i64 sf.kind, .int .i64 sf.panics, .slice xr sf.out.length cr, .int .i64 sf.steps])
      have cR := BR2.out.cell
      have zR := BR2.out.frozen
      clear ho hm2 hk2 hne RU
      generalize m.run mem inp fuel = oc at *
      go_wp2_with fail
      refine bodyPost_ret (v := .agg #[.int .i64 sf.kind, .int .i64 sf.panics, .slice xr sf.out.length cr, .int .i64 sf.steps]) (fnrun_res rfl FB.out) rfl FIN.out
    · have e1 : min fuel 4194304 = 4194304 := Int.min_eq_right (by omega)
      rw [e1] at MR
      have hgt : (4194304 : Int) < fuel := by omega
      clear e1 hmin1 hmr
      go_wp2_with fail
      refine MR.out.mono ?_
      rintro e2 w2 ⟨v, rfl, ho, L2, hm2, hk2, _, _, hne⟩
      obtain ⟨xr, cr, rfl⟩ := own_slice ho
      have N2 := Lib.hid (N1.out.trans (show Nw w1 w1 from Nw.refl _))
      have BR2 := Lib.hid (BR1.out.kp hk2 QF.out)
      have NF := Lib.hid (N0.out.trans (FK.out w2 hk2))
      have FIN := Lib.hid (show OcP (m.run mem inp fuel) w (.returned (.agg #[.int .i64 sf.kind, .int .i64 sf.panics, .slice xr sf.out.length cr, .int .i64 sf.steps])) (lays w2 q 0 [.int .i64 sf.kind, .int .i64 sf.panics, .slice xr sf.out.length cr, .int .i64 sf.steps]) by
        rw [RU.out]
        refine ⟨xr, cr, rfl, own_weaken (own_kp ho ((Kp.refl (fun x => x = q) w2).sets (fun _ => rfl) 0 [.int .i64 sf.kind, .int .i64 sf.panics, .slice xr sf.out.length cr, .int .i64 sf.steps]) (fun g hg e => ?_)) N1.out.size, Kp.sets (S := fun _ => False) (b := q) NF.out (fun hh => by have := HQ.out; have := HBI.out; omega) 0 _⟩
        have h1 := own_block ho g hg
        have h2 := BR1.out.lt
        have e : g = q := e
        omega)
      have FB := Lib.hid (Blk.sets BR2.out 0 [.int .i64 sf.kind, .int .i64 sf.panics, .slice xr sf.out.length cr, .int .i64 sf.steps])
      have cR := BR2.out.cell
      have zR := BR2.out.frozen
      clear ho hm2 hk2 hne RU
      generalize m.run mem inp fuel = oc at *
      go_wp2_with fail
      refine bodyPost_ret (v := .agg #[.int .i64 sf.kind, .int .i64 sf.panics, .slice xr sf.out.length cr, .int .i64 sf.steps]) (fnrun_res rfl FB.out) rfl FIN.out
  · have RU := Lib.hid (show m.run mem inp fuel = ⟨5, 0, [], 0⟩ from if_neg he)
    have e4 : m.err mem inp = 4 ∨ m.err mem inp = 1 := by
      unfold Img.err newErr at he ⊢
      split
      · exact .inl rfl
      · split
        · exact .inr rfl
        · rename_i c1 c2; exact absurd (by rw [if_neg c1, if_neg c2]) he
    have N1 := Lib.hid (N0.out.trans hk)
    have BR1 := Lib.hid (BR.out.nw hk)
    have FIN := Lib.hid (show OcP (m.run mem inp fuel) w (.returned (.agg #[.int .i64 5, .int .i64 0, .slice none 0 0, .int .i64 0])) (lays w1 q 0 [.int .i64 5, .int .i64 0, .slice none 0 0, .int .i64 0]) by
      rw [RU.out]
      exact ⟨none, 0, rfl, ⟨rfl, .inl ⟨rfl, rfl⟩⟩, Kp.sets (S := fun _ => False) (b := q) N1.out (fun hh => by have := HQ.out; have := HBI.out; omega) 0 _⟩)
    have FB := Lib.hid (Blk.sets BR1.out 0 [.int .i64 5, .int .i64 0, .slice none 0 0, .int .i64 0])
    have cR := BR1.out.cell
    have zR := BR1.out.frozen
    have en : ¬ m.err mem inp = 0 := he
    generalize m.err mem inp = er at *
    clear RU he hk
    obtain ⟨ne1, ne2, ne3, ne4⟩ := int_ne en
    generalize m.run mem inp fuel = oc at *
    go_wp2_with fail
    refine bodyPost_ret (v := .agg #[.int .i64 5, .int .i64 0, .slice none 0 0, .int .i64 0]) (fnrun_res rfl FB.out) rfl FIN.out
end Go.Proofs.Ythlcoocboidnlaa
