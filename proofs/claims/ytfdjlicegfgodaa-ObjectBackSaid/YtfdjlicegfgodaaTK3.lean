/- Reading an object's bytes: what is read lies in new blocks; a list that is read, its memory. -/
import Derived.Test.YtfdjlicegfgodaaTK2
namespace Go.Proofs.Ytfdjlicegfgodaa
open Go.RowKit
set_option linter.unusedSimpArgs false
set_option linter.unusedVariables false

/-- the slice v reads in w as the list l, in blocks of T alone -/
def SlT {α : Type} (T : Nat → Prop) (w : World) (n : Nat) (E : α → List Value → Prop) (l : List α) (v : Value) : Prop :=
  ∃ x cap, v = .slice x l.length cap ∧ l.length ≤ 140737488355328 ∧ (l ≠ [] → ∃ b o, x = some ⟨b, o, none⟩ ∧ T b ∧ (∀ j, w.frozen? ⟨b, j, none⟩ = false) ∧ ∀ i (h : i < l.length), ∃ cs, cs.length = n ∧ Cells w b (o + i * n) cs ∧ E l[i] cs)
theorem Cells.of_block {w w' : World} {b o : Nat} {cs : List Value} (h : Cells w b o cs) (e : w'.heap[b]? = w.heap[b]?) : Cells w' b o cs := fun j hj => (World.cell?_of_block (a := ⟨b, o + j, none⟩) e).trans (h j hj)
theorem SlT.mono {α : Type} {T T' : Nat → Prop} {W W' : World} {n : Nat} {E E' : α → List Value → Prop} {l : List α} {v : Value} (h : SlT T W n E l v) (hB : ∀ b, T b → T' b)
    (hw : ∀ b, T b → W'.heap[b]? = W.heap[b]?) (hE : ∀ x ∈ l, ∀ cs, E x cs → E' x cs) : SlT T' W' n E' l v := by
  obtain ⟨x, cap, hv, hl, hc⟩ := h
  refine ⟨x, cap, hv, hl, fun hne => ?_⟩
  obtain ⟨b, o, hx, hb, hf, he⟩ := hc hne
  refine ⟨b, o, hx, hB b hb, fun j => (World.frozen?_of_block (a := ⟨b, j, none⟩) (hw b hb)).trans (hf j), fun i hi => ?_⟩
  obtain ⟨cs, h1, h2, h3⟩ := he i hi
  exact ⟨cs, h1, h2.of_block (hw b hb), hE _ (List.getElem_mem hi) _ h3⟩
theorem SlT.at {α : Type} {T : Nat → Prop} {W : World} {B n : Nat} {E E' : α → List Value → Prop} {l : List α} {v : Value} (h : SlT T W n E l v) (hB : ∀ b, T b → b < B)
    (hE : ∀ x ∈ l, ∀ cs, E x cs → E' x cs) : SlB B W n E' l v := by
  obtain ⟨x, cap, hv, hl, hc⟩ := h
  refine ⟨x, cap, hv, hl, fun hne => ?_⟩
  obtain ⟨b, o, hx, hb, _, he⟩ := hc hne
  refine ⟨b, o, hx, hB b hb, fun i hi => ?_⟩
  obtain ⟨cs, h1, h2, h3⟩ := he i hi
  exact ⟨cs, h1, h2, hE _ (List.getElem_mem hi) _ h3⟩
theorem SlT.slice {α : Type} {T : Nat → Prop} {W : World} {n : Nat} {E : α → List Value → Prop} {l : List α} {v : Value} (h : SlT T W n E l v) : ∃ x m c, v = .slice x m c := by
  obtain ⟨x, c, hv, _⟩ := h; exact ⟨x, _, c, hv⟩
theorem SlT.nil {α : Type} (T : Nat → Prop) (W : World) (n : Nat) (E : α → List Value → Prop) : SlT T W n E [] (.slice none 0 0) := ⟨none, 0, rfl, by simp, fun h => absurd rfl h⟩

def ImT (T : Nat → Prop) (W : World) (i : Im) (cs : List Value) : Prop := ImAt i cs
def SyT (T : Nat → Prop) (W : World) (i : Sy) (cs : List Value) : Prop := SyAt i cs
def ReT (T : Nat → Prop) (W : World) (i : Re) (cs : List Value) : Prop := ReAt i cs
def WdT (T : Nat → Prop) (W : World) (i : Int) (cs : List Value) : Prop := WdAt i cs
def ObT (T : Nat → Prop) (W : World) (o : Ob) (cs : List Value) : Prop := ∃ vi vs vr vc vd, cs = [.string o.pkg, .int .i64 o.hash, vi, vs, vr, vc, vd] ∧ Fits o.pkg ∧ I64 o.hash ∧
  SlT T W 2 (ImT T W) o.imports vi ∧ SlT T W 6 (SyT T W) o.syms vs ∧ SlT T W 3 (ReT T W) o.relocs vr ∧ SlT T W 1 (WdT T W) o.code vc ∧ SlT T W 1 (WdT T W) o.data vd

/-- what E tells is carried where the cells of T's blocks are -/
def Carry {α : Type} (E : (Nat → Prop) → World → α → List Value → Prop) : Prop := ∀ (T T' : Nat → Prop) (W W' : World) (x : α) (cs : List Value), (∀ b, T b → T' b) → (∀ b, T b → W'.heap[b]? = W.heap[b]?) → E T W x cs → E T' W' x cs
theorem carry_Im : Carry ImT := fun _ _ _ _ _ _ _ _ h => h
theorem carry_Sy : Carry SyT := fun _ _ _ _ _ _ _ _ h => h
theorem carry_Re : Carry ReT := fun _ _ _ _ _ _ _ _ h => h
theorem carry_Wd : Carry WdT := fun _ _ _ _ _ _ _ _ h => h
theorem SlT.carry {α : Type} {E : (Nat → Prop) → World → α → List Value → Prop} (hE : Carry E) {T T' : Nat → Prop} {W W' : World} {n : Nat} {l : List α} {v : Value} (h : SlT T W n (E T W) l v) (hT : ∀ b, T b → T' b)
    (hW : ∀ b, T b → W'.heap[b]? = W.heap[b]?) : SlT T' W' n (E T' W') l v := h.mono hT hW fun x _ cs => hE T T' W W' x cs hT hW

theorem at_Ob {T : Nat → Prop} {W : World} {B : Nat} (hB : ∀ b, T b → b < B) {o : Ob} {cs : List Value} (h : ObT T W o cs) : ObAt B W o cs := by
  obtain ⟨vi, vs, vr, vc, vd, h0, h1, h2, h3, h4, h5, h6, h7⟩ := h
  exact ⟨vi, vs, vr, vc, vd, h0, h1, h2, h3.at hB fun x _ cs h => h, h4.at hB fun x _ cs h => h, h5.at hB fun x _ cs h => h, h6.at hB fun x _ cs h => h, h7.at hB fun x _ cs h => h⟩

/-- a struct that is handed back -/
def VT {α : Type} (E : (Nat → Prop) → World → α → List Value → Prop) (T : Nat → Prop) (w : World) (x : α) (v : Value) : Prop := ∃ cs, v = .agg cs.toArray ∧ E T w x cs
/-- a list that is handed back -/
def VL {α : Type} (n : Nat) (E : (Nat → Prop) → World → α → List Value → Prop) (T : Nat → Prop) (w : World) (l : List α) (v : Value) : Prop := SlT T w n (E T w) l v

/-- the elements' cells one behind the other -/
def Row {α : Type} (n : Nat) (E : α → List Value → Prop) (l : List α) (xs : List Value) : Prop := xs.length = l.length * n ∧ ∀ i (h : i < l.length), E l[i] ((xs.drop (i * n)).take n)
theorem Row.snoc {α : Type} {n : Nat} {E : α → List Value → Prop} {l : List α} {xs : List Value} (h : Row n E l xs) {x : α} {cs : List Value} (hc : cs.length = n) (he : E x cs) : Row n E (l ++ [x]) (xs ++ cs) := by
  obtain ⟨h1, h2⟩ := h
  refine ⟨by rw [List.length_append, List.length_append, h1, hc, List.length_singleton, Nat.add_mul, Nat.one_mul], fun i hi => ?_⟩
  rw [List.length_append, List.length_singleton] at hi
  by_cases hl : i < l.length
  · have h3 : i * n + n ≤ xs.length := by rw [h1, ← Nat.succ_mul]; exact Nat.mul_le_mul_right _ hl
    rw [List.getElem_append_left hl, List.drop_append_of_le_length (by omega), List.take_append_of_le_length (by rw [List.length_drop]; omega)]
    exact h2 i hl
  · obtain rfl : i = l.length := by omega
    rw [List.getElem_append_right (Nat.le_refl _)]
    have e1 : (xs ++ cs).drop (l.length * n) = cs := by rw [← h1]; exact List.drop_left
    have e2 : cs.take n = cs := List.take_of_length_le (by omega)
    rw [e1, e2]
    simpa using he
theorem Row.imp {α : Type} {n : Nat} {E E' : α → List Value → Prop} {l : List α} {xs : List Value} (h : Row n E l xs) (k : ∀ x ∈ l, ∀ cs, E x cs → E' x cs) : Row n E' l xs := ⟨h.1, fun i hi => k _ (List.getElem_mem hi) _ (h.2 i hi)⟩

/-- a list half read -/
def Tk {α : Type} (B : Nat) (W : World) (q : Nat) (r : List UInt8) (k : Int) (ok : α → Prop) (enc : α → List UInt8) (nn : Nat) (ty : TypeId) (E : (Nat → Prop) → World → α → List Value → Prop) (w : World) (n : Nat) (v : Value) (m : Nat) (wr : World) : Prop :=
  ∃ (l : List α) (rc : List UInt8) (xs : List Value), l.length + m = n ∧ n ≤ 262144 ∧ (∃ x c, v = .slice x l.length c) ∧ r = le8 n ++ (l.flatMap enc ++ rc) ∧ (∀ x ∈ l, ok x) ∧ RdAt B W wr q rc k ∧ Kp (fun b => b = q) w wr ∧
    wr.ownsRow w.heap.size ty nn v l.length xs ∧ Row nn (E (fun b => w.heap.size ≤ b ∧ b < wr.heap.size ∧ some b ≠ v.ownBlock) wr) l xs
section
variable {α : Type} {B : Nat} {W : World} {q : Nat} {r : List UInt8} {k : Int} {ok : α → Prop} {enc : α → List UInt8} {nn : Nat} {ty : TypeId} {E : (Nat → Prop) → World → α → List Value → Prop} {w : World} {n : Nat}
theorem RdAt.lt {B : Nat} {W w : World} {q : Nat} {r : List UInt8} {k : Int} (h : RdAt B W w q r k) : q < w.heap.size := by
  obtain ⟨_, _, _, _, _, h, _⟩ := h
  exact h.lt
theorem Tk.start {r1 : List UInt8} {w1 : World} (hn : n ≤ r1.length) (hr : r = le8 n ++ r1) (hrd : RdAt B W w1 q r1 k) (hk : Kp (fun b => b = q) w w1) : Tk B W q r k ok enc nn ty E w n (.slice none 0 0) n w1 :=
  ⟨[], r1, [], by simp, by have := hrd.len; omega, ⟨none, 0, rfl⟩, by simpa using hr, (fun x hx => by cases hx), hrd, hk, ⟨by simp, .inl ⟨rfl, rfl⟩⟩, by simp, fun i hi => by simp at hi⟩
theorem own_lt {w : World} {base e size n : Nat} {v : Value} {xs : List Value} (h : w.ownsRow base e size v n xs) {g : Nat} (hg : v.ownBlock = some g) : base ≤ g ∧ g < w.heap.size := by
  rcases h.2 with ⟨h1, _⟩ | ⟨g', cap, cur, h1, h2, h3, _⟩
  · rw [h1] at hg; simp [Value.ownBlock] at hg
  · rw [h1] at hg
    simp only [Value.ownBlock, Option.some.injEq] at hg
    subst hg
    exact ⟨h2, (Array.getElem?_eq_some_iff.1 h3).1⟩
theorem Tk.step (hE : Carry E) {x : Option Addr} {c m : Nat} {l : List α} {rc rc' : List UInt8} {xs cs : List Value} {wr w2 w3 : World} {y : α} {x' : Option Addr} {c' : Nat} {ob : Obj}
    (hq : q < w.heap.size) (hBq : B ≤ q) (hl : l.length + (m + 1) = n) (hn : n ≤ 262144) (hr : r = le8 n ++ (l.flatMap enc ++ rc)) (hx : ∀ x ∈ l, ok x) (hk : Kp (fun b => b = q) w wr)
    (how : wr.ownsRow w.heap.size ty nn (.slice x l.length c) l.length xs) (hrow : Row nn (E (fun b => w.heap.size ≤ b ∧ b < wr.heap.size ∧ some b ≠ (Value.slice x l.length c).ownBlock) wr) l xs)
    (hy : ok y) (hre : rc = enc y ++ rc') (hcs : E (fun b => wr.heap.size ≤ b ∧ b < w2.heap.size) w2 y cs) (hcl : cs.length = nn) (hrd : RdAt B W w2 q rc' k) (hk2 : Kp (fun b => b = q) wr w2)
    (ho : w3.ownsRow w.heap.size ty nn (.slice x' (l.length + 1) c') (l.length + 1) (xs ++ cs)) (hg : (w2.alloc ob).grownBy w3 (Value.slice x l.length c).ownBlock)
    (hloc : (Value.slice x' (l.length + 1) c').ownBlock = (Value.slice x l.length c).ownBlock ∨ (Value.slice x' (l.length + 1) c').ownBlock = some (w2.alloc ob).heap.size) :
    Tk B W q r k ok enc nn ty E w n (.slice x' (l.length + 1) c') m w3 := by
  have hs1 := hk.size
  have hs2 := hk2.size
  have hs3 := hg.size
  have ha : (w2.alloc ob).heap.size = w2.heap.size + 1 := by simp
  have keep : ∀ b, b < w2.heap.size → some b ≠ (Value.slice x l.length c).ownBlock → w3.heap[b]? = w2.heap[b]? := fun b hb hne =>
    (hg.block b (by omega) hne).trans (Below.heap_alloc w2 ob b hb)
  have hnq : ∀ g, (Value.slice x l.length c).ownBlock = some g → w.heap.size ≤ g ∧ g < wr.heap.size := fun g h => own_lt how h
  have k3 : Kp (fun b => some b = (Value.slice x l.length c).ownBlock) w2 w3 := ⟨hg.os, hg.tape, hg.output, by omega, fun b hb hne => keep b hb hne⟩
  refine ⟨l ++ [y], rc', xs ++ cs, by rw [List.length_append, List.length_singleton]; omega, hn, ⟨x', c', by rw [List.length_append, List.length_singleton]⟩, ?_, ?_, ?_, ?_, by rw [List.length_append, List.length_singleton]; exact ho, ?_⟩
  · rw [hr, hre, List.flatMap_append]; simp
  · intro z hz
    rcases List.mem_append.1 hz with hz | hz
    · exact hx z hz
    · rw [List.mem_singleton.1 hz]; exact hy
  · refine hrd.kp k3 (fun b hb e => ?_) (fun e => ?_)
    · have := hnq b e.symm; omega
    · have := hnq q e.symm; omega
  · exact Kp.trans (Kp.trans hk hk2 (fun _ _ x => x)) k3 (fun b hb e => by have := hnq b e.symm; omega)
  · have hown : ∀ b, b < w2.heap.size → some b ≠ (Value.slice x l.length c).ownBlock → some b ≠ (Value.slice x' (l.length + 1) c').ownBlock := by
      intro b hb hne
      rcases hloc with h | h
      · rw [h]; exact hne
      · rw [h]; intro e; injection e with e; omega
    refine Row.snoc (hrow.imp fun z _ zs hz => hE _ _ _ _ _ _ ?_ ?_ hz) hcl (hE _ _ _ _ _ _ ?_ ?_ hcs)
    · rintro b ⟨h1, h2, h3⟩
      exact ⟨h1, by omega, hown b (by omega) h3⟩
    · rintro b ⟨h1, h2, h3⟩
      exact (keep b (by omega) h3).trans (hk2.block b h2 (fun e => by omega))
    · rintro b ⟨h1, h2⟩
      exact ⟨by omega, by omega, hown b h2 fun e => by have := hnq b e.symm; omega⟩
    · rintro b ⟨h1, h2⟩
      exact keep b h2 fun e => by have := hnq b e.symm; omega
theorem Tk.done (hE : Carry E) {v : Value} {wr : World} (h : Tk B W q r k ok enc nn ty E w n v 0 wr) : Rp B W q r k (OkL ok) (encL enc) (VL nn E) w (.returned v) wr := by
  obtain ⟨l, rc, xs, hl, hn, ⟨x, c, rfl⟩, hr, hx, hrd, hk, how, hrow⟩ := h
  refine .inl ⟨l, rc, _, rfl, ⟨by omega, hx⟩, yes_list l hr (by omega), ⟨x, c, rfl, by omega, fun hne => ?_⟩, hrd, hk⟩
  rcases how.2 with ⟨h1, h2⟩ | ⟨g, cap, cur, h1, h2, h3, _⟩
  · exact absurd (List.eq_nil_of_length_eq_zero h2) hne
  · injection h1 with h4 h5 h6
    subst h4
    subst h6
    have hlt := (Array.getElem?_eq_some_iff.1 h3).1
    refine ⟨g, 0, rfl, ⟨h2, hlt⟩, fun j => by simp [World.frozen?, h3], fun i hi => ⟨(xs.drop (i * nn)).take nn, ?_, ?_, ?_⟩⟩
    · rw [List.length_take, List.length_drop, hrow.1]
      have := Nat.mul_le_mul_right nn (show i + 1 ≤ l.length from hi)
      rw [Nat.add_mul, Nat.one_mul] at this
      omega
    · intro j hj
      have h8 := List.getElem?_eq_getElem hj
      rw [h8]
      rw [List.getElem?_take_of_lt (by rw [List.length_take] at hj; omega), List.getElem?_drop] at h8
      have h9 := how.cells (g := g) rfl (i * nn + j) _ h8
      have e : (⟨g, 0, none⟩ : Addr).add (i * nn + j) = ⟨g, 0 + i * nn + j, none⟩ := by unfold Addr.add; split <;> simp_all
      rw [← e]; exact h9
    · exact hE _ _ _ _ _ _ (fun b hb => ⟨hb.1, hb.2.1⟩) (fun _ _ => rfl) (hrow.2 i hi)
theorem Tk.fails (hpi : PI ok ok enc) {m : Nat} {wr w2 : World} {l : List α} {rc : List UInt8} (hl : l.length + (m + 1) = n) (hn : n ≤ 262144) (hr : r = le8 n ++ (l.flatMap enc ++ rc)) (hx : ∀ x ∈ l, ok x)
    (hk : Kp (fun b => b = q) w wr) (hno : No ok enc rc) (hk2 : Kp (fun b => b = q) wr w2) : Rp B W q r k (OkL ok) (encL enc) (VL nn E) w PAN w2 :=
  .inr ⟨rfl, no_list hpi l (by omega) hr (by omega) hx hno, hk.thn hk2⟩
end
theorem cells_new (w : World) (cs : List Value) (t : TypeId) : ∀ j u, cs[j]? = some u → (w.alloc (.cells cs.toArray t)).cell? ((⟨w.heap.size, 0, none⟩ : Addr).add j) = some u := by
  intro j u h
  have e : (⟨w.heap.size, 0, none⟩ : Addr).add j = ⟨w.heap.size, 0 + j, none⟩ := by unfold Addr.add; split <;> simp_all
  rw [e, Nat.zero_add]
  exact ((Blk.new w cs t).cell j).trans h
end Go.Proofs.Ytfdjlicegfgodaa
