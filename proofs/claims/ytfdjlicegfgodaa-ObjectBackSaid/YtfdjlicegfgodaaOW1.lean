/- The writer of objects: what each of its methods leaves in memory. -/
import Derived.Test.YtfdjlicegfgodaaBytes
import Derived.Deep.RegionLaw
import Derived.Deep.AppendLies
namespace Go.Proofs.Ytfdjlicegfgodaa
open Go.RowKit
set_option linter.unusedSimpArgs false
set_option linter.unusedVariables false

section
variable {P : Program} (w : World)
/-- append of a slice's elements in a region that draws its order -/
theorem step_app {ops : Array Oper} {o : Oper} {a : Act} {K : Act → World → Prop} {Q : Exit → Act → World → Prop} {E : Prop} (hgd : o.guard = none) (s x : Operand) (t : TypeId)
    (ho : o.op = .call { callee := .builtin .append, args := #[s, x], argTypes := #[t, t] })
    (base : Nat) (e : TypeId) (i : TypeInfo) (z : Value) (size bytes : Nat) (ht : P.underlying t = some (.slice e)) (hi : P.info? e = some i) (hz : i.zero = some z)
    (hsize : i.size = size) (hby : i.bytes = bytes) (hzs : z.cells.size = size) (hsz : 0 < size)
    (v : Value) (n : Nat) (xs : List Value) (hs : a.eval s = v) (hown : w.ownsRow base e size v n xs)
    (ad : Addr) (m c : Nat) (news : List Value) (hx : a.eval x = .slice (some ad) m c) (hl : news.length = m * size) (hnews : ∀ j u, news[j]? = some u → w.cell? (ad.add j) = some u) (h1 : ∀ u ∈ news, u.oneCell' = true)
    (h63 : n + m ≤ maxLen) (hbytes : (n + m) * bytes ≤ 140737488355328) (hbase : base ≤ w.heap.size)
    (h : ∀ x' c' w', w'.ownsRow base e size (.slice x' (n + m) c') (n + m) (xs ++ news) → w.grownBy w' v.ownBlock → ((Value.slice x' (n + m) c').ownBlock = v.ownBlock ∨ (Value.slice x' (n + m) c').ownBlock = some w.heap.size) → K (a.put o.dst (.slice x' (n + m) c')) w') :
    if Region.wanted o (yielded ops a.tmps) = true then Oper.wp P o a w K Q else E := by
  have hw : Region.wanted o (yielded ops a.tmps) = true := by simp [Region.wanted, hgd]
  rw [if_pos hw]
  obtain ⟨v', w', hr, h2, h3, _⟩ := run_append_own (P := P) w base t o.type e i z size bytes ht hi hz hsize hby hzs hsz v n xs hown ad m c news hl hnews h1 h63 hbytes hbase
  have h4 := app_loc (P := P) w base t o.type e i z size bytes ht hi hz hsize hby v n xs hown ad m c news hl hnews h1 h63 hbytes hr
  unfold Oper.wp execOp
  simp only [ho, resolve, invoke, builtin, Sem.run_bind, Sem.run_pure, Result.andThen_ok, List.map_toArray, List.map_cons, List.map_nil, hs, hx, hr]
  obtain ⟨x', c', rfl⟩ := own_slice h2
  exact h _ _ _ h2 h3 h4
end
/-- the writer of objects at block p: its bytes -/
def OwRaw (w : World) (p : Nat) (ob : Option Nat) (bs : List UInt8) : Prop :=
  ∃ a c, Blk w p [.slice a bs.length c] 74 ∧ w.ownsRow 0 5 1 (.slice a bs.length c) bs.length (byteV bs) ∧ (Value.slice a bs.length c).ownBlock = ob ∧ ob ≠ some p
/-- as OwRaw; R bytes more may come -/
structure OwIn (B : Nat) (W w : World) (p : Nat) (ob : Option Nat) (bs : List UInt8) (R : Nat) : Prop where
  raw : OwRaw w p ob bs
  bel : Below B W w
  hp : B ≤ p
  ho : ∀ k, ob = some k → B ≤ k
  room : bs.length + R ≤ 140737488355328
def OOut (B : Nat) (W w : World) (p : Nat) (ob : Option Nat) (bs : List UInt8) (R : Nat) (e : Ending) (w' : World) : Prop :=
  e = .returned (.tuple #[]) ∧ ∃ ob', OwIn B W w' p ob' bs R ∧ Kp (fun b => b = p ∨ some b = ob) w w' ∧ ∀ k, ob' = some k → ob = some k ∨ w.heap.size ≤ k
theorem OwRaw.p_lt {w : World} {p : Nat} {ob : Option Nat} {bs : List UInt8} (h : OwRaw w p ob bs) : p < w.heap.size := by
  obtain ⟨_, _, h, _⟩ := h; exact h.lt
theorem OwRaw.ob_lt {w : World} {p : Nat} {ob : Option Nat} {bs : List UInt8} (h : OwRaw w p ob bs) : ∀ k, ob = some k → k < w.heap.size := by
  obtain ⟨x, c, _, ho, hv, _⟩ := h
  intro k hk
  exact (ho.lt k (by rw [hv, hk])).2
theorem OwRaw.kp {S : Nat → Prop} {w w' : World} {p : Nat} {ob : Option Nat} {bs : List UInt8} (h : OwRaw w p ob bs) (k : Kp S w w') (hp : ¬ S p) (ho : ∀ g, ob = some g → ¬ S g) : OwRaw w' p ob bs := by
  obtain ⟨x, c, hb, how, hv, hne⟩ := h
  exact ⟨x, c, hb.kp k hp, own_kp how k (fun g hg => ho g (by rw [← hv]; exact hg)), hv, hne⟩
theorem OwIn.nw {B : Nat} {W w w' : World} {p : Nat} {ob : Option Nat} {bs : List UInt8} {R : Nat} (h : OwIn B W w p ob bs R) (k : Nw w w') : OwIn B W w' p ob bs R :=
  ⟨h.raw.kp k (fun x => x) (fun _ _ x => x), h.bel.trans (Kp.below k (Nat.le_of_lt (Nat.lt_of_le_of_lt h.hp h.raw.p_lt)) (fun _ _ x => x)), h.hp, h.ho, h.room⟩
theorem OwIn.alloc {B : Nat} {W w : World} {p : Nat} {ob : Option Nat} {bs : List UInt8} {R : Nat} (h : OwIn B W w p ob bs R) (o : Obj) : OwIn B W (w.alloc o) p ob bs R := h.nw (Nw.new w o)
theorem OwIn.in {B : Nat} {W w : World} {p : Nat} {ob : Option Nat} {bs : List UInt8} {R : Nat} (h : OwIn B W w p ob bs R) : In B W w := ⟨h.bel, Nat.le_of_lt (Nat.lt_of_le_of_lt h.hp h.raw.p_lt)⟩
theorem OwIn.room_eq {B : Nat} {W w : World} {p : Nat} {ob : Option Nat} {bs bs' : List UInt8} {R R' : Nat} (h : OwIn B W w p ob bs R) (e : bs = bs') (hr : R' ≤ R) : OwIn B W w p ob bs' R' := by
  subst e
  exact ⟨h.raw, h.bel, h.hp, h.ho, Nat.le_trans (Nat.add_le_add_left hr _) h.room⟩
theorem OwIn.mk' {B : Nat} {W w w' : World} {p : Nat} {ob ob' : Option Nat} {bs bs' : List UInt8} {R R' : Nat} (h : OwIn B W w p ob bs R) (hr : OwRaw w' p ob' bs') (hb : bs'.length + R' ≤ bs.length + R)
    (k : Kp (fun b => b = p ∨ some b = ob) w w') (h2 : ∀ k, ob' = some k → ob = some k ∨ w.heap.size ≤ k) : OwIn B W w' p ob' bs' R' := by
  have hlt := h.raw.p_lt
  refine ⟨hr, h.bel.trans (k.below ?_ ?_), h.hp, ?_, Nat.le_trans hb h.room⟩
  · exact Nat.le_of_lt (Nat.lt_of_le_of_lt h.hp hlt)
  · rintro x hx (e | e)
    · have := h.hp; omega
    · have := h.ho x e.symm; omega
  · intro x hx
    rcases h2 x hx with h3 | h3
    · exact h.ho x h3
    · exact Nat.le_trans (Nat.le_of_lt (Nat.lt_of_le_of_lt h.hp hlt)) h3
theorem OOut.mk {B : Nat} {W w w' : World} {p : Nat} {ob ob' : Option Nat} {bs bs' : List UInt8} {R R' : Nat} (h : OwIn B W w p ob bs R) (hr : OwRaw w' p ob' bs') (hb : bs'.length + R' ≤ bs.length + R)
    (k : Kp (fun b => b = p ∨ some b = ob) w w') (h2 : ∀ k, ob' = some k → ob = some k ∨ w.heap.size ≤ k) : OOut B W w p ob bs' R' (.returned (.tuple #[])) w' := ⟨rfl, ob', h.mk' hr hb k h2, k, h2⟩
theorem OOut.trans {B : Nat} {W w w1 w2 : World} {p : Nat} {ob ob1 : Option Nat} {bs : List UInt8} {R : Nat} {e : Ending}
    (k1 : Kp (fun b => b = p ∨ some b = ob) w w1) (o1 : ∀ k, ob1 = some k → ob = some k ∨ w.heap.size ≤ k) (h : OOut B W w1 p ob1 bs R e w2) : OOut B W w p ob bs R e w2 := by
  obtain ⟨he, ob2, h2, k2, o2⟩ := h
  obtain ⟨k3, o3⟩ := chain k1 o1 k2 o2
  exact ⟨he, ob2, h2, k3, o3⟩
theorem OOut.eq {B : Nat} {W w w2 : World} {p : Nat} {ob : Option Nat} {bs bs' : List UInt8} {R R' : Nat} {e : Ending} (h : OOut B W w p ob bs R e w2) (hb : bs = bs') (hr : R' ≤ R) : OOut B W w p ob bs' R' e w2 := by
  obtain ⟨he, ob2, h2, k2, o2⟩ := h
  exact ⟨he, ob2, h2.room_eq hb hr, k2, o2⟩
/-- an append's value laid back into the writer -/
theorem OwRaw.grow {w w' : World} {p : Nat} {ob : Option Nat} {bs ys : List UInt8} {x x' : Option Addr} {c c' n : Nat} (hn : n = bs.length + ys.length)
    (hb : Blk w p [.slice x bs.length c] 74) (hv : (Value.slice x bs.length c).ownBlock = ob) (hne : ob ≠ some p)
    (ho : w'.ownsRow 0 5 1 (.slice x' n c') n (byteV bs ++ byteV ys)) (hg : w.grownBy w' (Value.slice x bs.length c).ownBlock)
    (hl : (Value.slice x' n c').ownBlock = (Value.slice x bs.length c).ownBlock ∨ (Value.slice x' n c').ownBlock = some w.heap.size) :
    w'.cell? ⟨p, 0, none⟩ = some (.slice x bs.length c) ∧ w'.frozen? ⟨p, 0, none⟩ = false ∧
    ∃ ob', OwRaw (w'.setCell ⟨p, 0, none⟩ (.slice x' n c')) p ob' (bs ++ ys) ∧ Kp (fun b => b = p ∨ some b = ob) w (w'.setCell ⟨p, 0, none⟩ (.slice x' n c')) ∧ ∀ k, ob' = some k → ob = some k ∨ w.heap.size ≤ k := by
  subst hn
  have kp : Kp (fun b => some b = ob) w w' := (Kp.refl _ w).grown hg (fun k hk _ => by rw [← hk, hv])
  have hb' : Blk w' p [.slice x bs.length c] 74 := hb.kp kp (fun e => hne e.symm)
  have hne' : (Value.slice x' (bs.length + ys.length) c').ownBlock ≠ some p := by
    rcases hl with h1 | h1
    · rw [h1, hv]; exact hne
    · rw [h1]; intro e; injection e with e; have := hb.lt; omega
  have how : (w'.setCell ⟨p, 0, none⟩ (.slice x' (bs.length + ys.length) c')).ownsRow 0 5 1 (.slice x' (bs.length + ys.length) c') (bs.length + ys.length) (byteV bs ++ byteV ys) := by
    refine own_kp ho ((Kp.refl (fun b => b = p) w').setCell (p := ⟨p, 0, none⟩) (fun _ => rfl) _) ?_
    rintro g hg2 rfl
    exact hne' hg2
  refine ⟨by rw [hb'.cell]; rfl, hb'.frozen 0, (Value.slice x' (bs.length + ys.length) c').ownBlock, ⟨x', c', ?_, ?_, ?_, hne'⟩, ?_, ?_⟩
  · rw [List.length_append]; exact hb'.set 0 _
  · rw [byteV_append, List.length_append]; exact how
  · rw [List.length_append]
  · exact (kp.mono (fun x _ hs => .inr hs)).setCell (fun _ => .inl rfl) _
  · intro k hk
    rcases hl with h1 | h1
    · left; rw [← hv, ← h1, hk]
    · right; rw [h1] at hk; injection hk with hk; omega

set_option maxRecDepth 100000 in
set_option maxHeartbeats 400000 in
theorem oraw_in {B : Nat} {W w : World} {p : Nat} {ob : Option Nat} {bs : List UInt8} {R : Nat} (s : ByteArray) (h : OwIn B W w p ob bs (s.data.toList.length + R)) :
    Calls Try.prog 33 #[.pointer (some ⟨p, 0, none⟩), .string s] w (OOut B W w p ob (bs ++ s.data.toList) R) := by
  obtain ⟨i0, hi, hz0, hz1, hz2⟩ := info_parts u8info
  obtain ⟨a, c, hb, ho, hv, hne⟩ := h.raw
  have hroom := h.room
  have c0 : w.cell? ⟨p, 0, none⟩ = some (.slice a bs.length c) := by rw [hb.cell]; rfl
  have f0 := hb.frozen 0
  have FIN := Lib.hid (fun (x' : Option Addr) (c' : Nat) (w' : World) (ho : w'.ownsRow 0 5 1 (.slice x' (bs.length + s.size) c') (bs.length + s.size) (byteV bs ++ byteV s.data.toList))
    (hg : w.grownBy w' (Value.slice a bs.length c).ownBlock) hl => OwRaw.grow (ys := s.data.toList) (by rw [size_eq]) hb hv hne ho hg hl)
  have G := Lib.hid h
  have hsz : bs.length + s.size ≤ 140737488355328 := by rw [size_eq]; omega
  have HL := Lib.hid (show (bs ++ s.data.toList).length + R ≤ bs.length + (s.data.toList.length + R) by rw [List.length_append]; omega)
  obtain ⟨n, hn⟩ : ∃ n, n = bs.length := ⟨_, rfl⟩
  rw [← hn] at hsz FIN ho c0
  have Ho := Lib.hid ho
  have H63 := Lib.hid (show n + s.size ≤ maxLen by unfold maxLen; omega)
  have Hby := Lib.hid (show n + s.size ≤ 140737488355328 by omega)
  clear ho hb hv hne h hroom hn
  go_enter Try.func33, Try.ntmps33
  go_wp2_with (at_builtin; refine wpList_app_string _ rfl (.tmp 8) (.tmp 9) 34 9 rfl 0 5 i0 Try.underlying34 Try.underlying9 hi hz0 hz1 hz2 _ _ _ rfl Ho.out s rfl H63.out Hby.out (Nat.zero_le _) ?_; intro a' c' w' ho' hg' hl'; obtain ⟨x0, x1, x2⟩ := FIN.out a' c' w' ho' hg' hl'; have X2 := Lib.hid x2; clear x2 ho' hg' hl')
  obtain ⟨ob2, r2, k2, o2⟩ := X2.out
  have FF := Lib.hid (OOut.mk G.out r2 HL.out k2 o2)
  clear r2 k2 o2
  go_wp2_with fail
  go_returns
  exact FF.out
end Go.Proofs.Ytfdjlicegfgodaa
