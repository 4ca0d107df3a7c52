/- The document's writer of bytes: what each of its methods leaves in memory. -/
import Derived.Test.YtfdjlicegfgodaaBytes
import Derived.Lib.AppendZerosOnto
namespace Go.Proofs.Ytfdjlicegfgodaa
open Go.RowKit

section
variable {P : Program} (w : World)
theorem zeroCells_list (k : Nat) : (Builtin.zeroCells #[Value.int .u8 0] k).toList = List.replicate k (Value.int .u8 0) := by
  apply List.ext_getElem
  · simp [Builtin.zeroCells]
  · intro i h1 h2
    simp [Builtin.zeroCells, Nat.mod_one]
theorem run_append_room_zeros (t tn ty e : TypeId) (i : TypeInfo) (kq kn : IntKind) (ht : P.underlying t = some (.slice e)) (htn : P.underlying tn = some (.int kn)) (hi : P.info? e = some i) (hz : i.zero = some (.int .u8 0))
    (hs1 : i.size = 1) (hby : i.bytes = 1) (g sLen sCap : Nat) (cur : Array Value) (hg : w.heap[g]? = some (.cells cur e (0, 0))) (k : Nat) (h0 : 0 < k) (hk : k ≤ 281474976710656)
    (hroom : sLen + k ≤ sCap) (hfit : sLen + k ≤ cur.size) :
    (Builtin.append_ #[t, tn] ty #[.slice (some ⟨g, 0, none⟩) sLen sCap, .int kq k]).run P w =
      .ok (.slice (some ⟨g, 0, none⟩) (sLen + k) sCap) (w.setRow g (cur.toList.take sLen ++ List.replicate k (Value.int .u8 0) ++ cur.toList.drop (sLen + k)).toArray) := by
  have hw : IntKind.i64.wrap (k : Int) = k := by rw [IntKind.wrap_i64]; omega
  have hneg : ¬ ((k : Int) < 0) := by omega
  have h48i : ¬ (281474976710656 < (k : Int)) := by omega
  have hns : ¬ (k = 0) := by omega
  have h1 : ∀ u ∈ List.replicate k (Value.int .u8 0), u.oneCell' = true := by intro u hu; rw [List.eq_of_mem_replicate hu]; rfl
  have hst := run_storeCells_at P g sLen e (List.replicate k (Value.int .u8 0)) 0 cur w hg (by simpa using hfit) h1
  simp only [Nat.add_zero, List.length_replicate] at hst
  have hzc : (Builtin.zeroCells (Value.int .u8 0).cells k).toList = List.replicate k (Value.int .u8 0) := zeroCells_list k
  simp [Builtin.append_, run_underlying ht, run_underlying htn, sizeOf, typeInfo, zeroValue, hi, hz, hs1, hby, asInt, asIntOf, hw, hneg, hns, h48i, hroom, Addr.add_lit]
  rw [hzc, hst]
  simp [List.append_assoc]
theorem run_app_zeros (t tn ty e : TypeId) (i : TypeInfo) (kq kn : IntKind) (ht : P.underlying t = some (.slice e)) (htn : P.underlying tn = some (.int kn)) (hi : P.info? e = some i) (hz : i.zero = some (.int .u8 0))
    (hs1 : i.size = 1) (hby : i.bytes = 1) (v : Value) (n : Nat) (xs : List Value) (hown : w.ownsRow 0 e 1 v n xs) (k : Nat) (h0 : 0 < k) (hsum : n + k ≤ 140737488355328) :
    ∃ x c w', (Builtin.append_ #[t, tn] ty #[v, .int kq k]).run P w = .ok (.slice x (n + k) c) w' ∧ w'.ownsRow 0 e 1 (.slice x (n + k) c) (n + k) (xs ++ List.replicate k (.int .u8 0)) ∧ w.grownBy w' v.ownBlock ∧
      ((Value.slice x (n + k) c).ownBlock = v.ownBlock ∨ (Value.slice x (n + k) c).ownBlock = some w.heap.size) := by
  have hxl : xs.length = n := by simpa using hown.1
  have hlen : (xs ++ List.replicate k (Value.int .u8 0)).length = (n + k) * 1 := by simp [hxl]
  have hm63 : n + k ≤ maxLen := by unfold maxLen; omega
  have grown : ∀ (old : Nat), old < n + k → ∀ (row : Option Nat),
      (w.drew.alloc (.cells (xs.toArray ++ Builtin.zeroCells (Value.int .u8 0).cells k ++ Builtin.zeroCells (Value.int .u8 0).cells (grownCap w (n + k) old e - (n + k))) e)).ownsRow 0 e 1
        (.slice (some ⟨w.heap.size, 0, none⟩) (n + k) (grownCap w (n + k) old e)) (n + k) (xs ++ List.replicate k (.int .u8 0)) ∧
      w.grownBy (w.drew.alloc (.cells (xs.toArray ++ Builtin.zeroCells (Value.int .u8 0).cells k ++ Builtin.zeroCells (Value.int .u8 0).cells (grownCap w (n + k) old e - (n + k))) e)) row := by
    intro old ho row
    have hge := grownCap_ge w (n + k) old e
    have hcm : grownCap w (n + k) old e ≤ maxLen := grownCap_le_maxLen w (n + k) old e hm63
    have hzc : (Builtin.zeroCells (Value.int .u8 0).cells k).toList = List.replicate k (Value.int .u8 0) := zeroCells_list k
    refine ⟨⟨hlen, .inr ⟨w.heap.size, _, _, rfl, Nat.zero_le _, heap_alloc_new w.drew _, hge, hcm, ?_, ?_⟩⟩, ⟨rfl, rfl, rfl, by simp, fun k' hk' _ => Below.heap_alloc w.drew _ k' hk'⟩⟩
    · have hz1 : (Value.int IntKind.u8 0).cells.size = 1 := rfl
      simp only [Array.size_append, List.size_toArray, size_zeroCells, hz1, hxl]
      omega
    · simp only [Array.toList_append, hzc]
      rw [← hlen]
      exact List.take_left
  rcases hown.2 with ⟨rfl, rfl⟩ | ⟨g, cap, cur, rfl, hbg, hg, hnc, hcm, hcs, htake⟩
  · have hx : xs = [] := List.eq_nil_of_length_eq_zero hxl
    subst hx
    have h2 := Lib.run_append_nil_zeros (P := P) w t tn ty e i (.int .u8 0) kq kn ht htn hi hz k h0 (by omega) (by omega) (by rw [hby]; omega)
    have hgr := grown 0 (by omega) (Value.ownBlock (.slice none 0 0))
    simp only [Nat.zero_add, List.nil_append, Array.empty_append] at hgr ⊢
    exact ⟨_, _, _, h2, hgr.1, hgr.2, .inr rfl⟩
  · by_cases hroom : n + k ≤ cap
    · have hcs' : cur.size = cap := by simpa using hcs
      have h2 := run_append_room_zeros (P := P) w t tn ty e i kq kn ht htn hi hz hs1 hby g n cap cur hg k h0 (by omega) hroom (by omega)
      refine ⟨_, _, _, h2, ⟨hlen, .inr ⟨g, cap, _, rfl, hbg, setRow_heap w g cur _ e _ hg, hroom, hcm, ?_, ?_⟩⟩, ⟨rfl, rfl, rfl, by simp, fun j _ hj => setRow_other w g j _ (fun e => hj (by simp [Value.ownBlock, e]))⟩, .inl rfl⟩
      · simp only [List.size_toArray, List.length_append, List.length_take, List.length_drop, Array.length_toList, List.length_replicate]
        omega
      · have ht' : cur.toList.take n = xs := by simpa using htake
        rw [ht', ← hlen]
        exact List.take_left
    · have holds : ∀ j u, xs[j]? = some u → w.cell? ((⟨g, 0, none⟩ : Addr).add j) = some u := hown.cells (g := g) rfl
      have hold : (Builtin.firstCells i.size n (.slice (some ⟨g, 0, none⟩) n cap)).run P w.drew = .ok xs.toArray w.drew :=
        run_firstCells_some (P := P) w.drew i.size n ⟨g, 0, none⟩ n cap xs (by rw [hs1]; simpa using hxl) (by simpa using holds)
      have h2 := Lib.run_append_grow_zeros (P := P) w t tn ty e i (.int .u8 0) kq kn ht htn hi hz (some ⟨g, 0, none⟩) n cap xs hold k h0 (by omega) (by omega) (by omega) (by rw [hby]; omega) (by rw [hby]; exact growslice_fits (by omega) (by omega))
      have hgr := grown cap (by omega) (Value.ownBlock (.slice (some ⟨g, 0, none⟩) n cap))
      exact ⟨_, _, _, h2, hgr.1, hgr.2, .inr rfl⟩
end

/-- the document's writer at block p: its bytes, whether something was too deep, how deep it is -/
def RwRaw (w : World) (p : Nat) (ob : Option Nat) (bs : List UInt8) (deep : Bool) (at_ : Int) : Prop :=
  ∃ a c, Blk w p [.slice a bs.length c, .bool deep, .int .i64 at_] 81 ∧ w.ownsRow 0 5 1 (.slice a bs.length c) bs.length (byteV bs) ∧ (Value.slice a bs.length c).ownBlock = ob ∧ ob ≠ some p
/-- what the bytes stand for: x none: something was too deep; some none: more than may be -/
def RwMeans (bs : List UInt8) (deep : Bool) (x : Option (Option (List UInt8))) (L : Nat) : Prop :=
  bs.length ≤ L ∧ (x = none → deep = true) ∧ ∀ s, x = some s → deep = false ∧ (s = none → 262144 < bs.length) ∧ ∀ l, s = some l → bs = l ∧ l.length ≤ 262144
structure RwIn (B : Nat) (W w : World) (p : Nat) (ob : Option Nat) (x : Option (Option (List UInt8))) (a : Int) (L : Nat) : Prop where
  raw : ∃ bs deep, RwRaw w p ob bs deep a ∧ RwMeans bs deep x L
  bel : Below B W w
  hp : B ≤ p
  ho : ∀ k, ob = some k → B ≤ k
def ROut (B : Nat) (W w : World) (p : Nat) (ob : Option Nat) (x : Option (Option (List UInt8))) (a : Int) (L : Nat) (e : Ending) (w' : World) : Prop :=
  e = .returned (.tuple #[]) ∧ ∃ ob', RwIn B W w' p ob' x a L ∧ Kp (fun b => b = p ∨ some b = ob) w w' ∧ ∀ k, ob' = some k → ob = some k ∨ w.heap.size ≤ k
def rput (x : Option (Option (List UInt8))) (s : List UInt8) : Option (Option (List UInt8)) := x.map fun st => wput st s
theorem rput_rput (x : Option (Option (List UInt8))) (a b : List UInt8) : rput (rput x a) b = rput x (a ++ b) := by
  cases x with
  | none => rfl
  | some st => simp only [rput, Option.map_some, wput_wput]
theorem RwRaw.p_lt {w : World} {p : Nat} {ob : Option Nat} {bs : List UInt8} {deep : Bool} {a : Int} (h : RwRaw w p ob bs deep a) : p < w.heap.size := by
  obtain ⟨_, _, h, _⟩ := h; exact h.lt
theorem RwRaw.ob_lt {w : World} {p : Nat} {ob : Option Nat} {bs : List UInt8} {deep : Bool} {a : Int} (h : RwRaw w p ob bs deep a) : ∀ k, ob = some k → k < w.heap.size := by
  obtain ⟨x, c, _, ho, hv, _⟩ := h
  intro k hk
  exact (ho.lt k (by rw [hv, hk])).2
theorem RwRaw.kp {S : Nat → Prop} {w w' : World} {p : Nat} {ob : Option Nat} {bs : List UInt8} {deep : Bool} {a : Int} (h : RwRaw w p ob bs deep a) (k : Kp S w w') (hp : ¬ S p) (ho : ∀ g, ob = some g → ¬ S g) : RwRaw w' p ob bs deep a := by
  obtain ⟨x, c, hb, how, hv, hne⟩ := h
  exact ⟨x, c, hb.kp k hp, own_kp how k (fun g hg => ho g (by rw [← hv]; exact hg)), hv, hne⟩
theorem RwRaw.alloc {w : World} {p : Nat} {ob : Option Nat} {bs : List UInt8} {deep : Bool} {a : Int} (h : RwRaw w p ob bs deep a) (o : Obj) : RwRaw (w.alloc o) p ob bs deep a :=
  h.kp ((Kp.refl (fun _ => False) w).alloc o) (fun x => x) (fun _ _ x => x)
/-- another depth, another mark -/
theorem RwRaw.setAt {w : World} {p : Nat} {ob : Option Nat} {bs : List UInt8} {deep : Bool} {a : Int} (h : RwRaw w p ob bs deep a) (b : Int) : RwRaw (w.setCell ⟨p, 2, none⟩ (.int .i64 b)) p ob bs deep b := by
  obtain ⟨x, c, hb, how, hv, hne⟩ := h
  exact ⟨x, c, hb.set 2 _, own_kp how ((Kp.refl (fun b => b = p) w).setCell (p := ⟨p, 2, none⟩) (fun _ => rfl) _) (fun g hg e => hne (by rw [← hv, hg, e])), hv, hne⟩
theorem RwRaw.setDeep {w : World} {p : Nat} {ob : Option Nat} {bs : List UInt8} {deep : Bool} {a : Int} (h : RwRaw w p ob bs deep a) : RwRaw (w.setCell ⟨p, 1, none⟩ (.bool true)) p ob bs true a := by
  obtain ⟨x, c, hb, how, hv, hne⟩ := h
  exact ⟨x, c, hb.set 1 _, own_kp how ((Kp.refl (fun b => b = p) w).setCell (p := ⟨p, 1, none⟩) (fun _ => rfl) _) (fun g hg e => hne (by rw [← hv, hg, e])), hv, hne⟩
/-- an append's value laid back into the writer -/
theorem RwRaw.grow {w w' : World} {p : Nat} {ob : Option Nat} {bs ys : List UInt8} {deep : Bool} {a : Int} {x x' : Option Addr} {c c' n : Nat} (hn : n = bs.length + ys.length)
    (hb : Blk w p [.slice x bs.length c, .bool deep, .int .i64 a] 81) (hv : (Value.slice x bs.length c).ownBlock = ob) (hne : ob ≠ some p)
    (ho : w'.ownsRow 0 5 1 (.slice x' n c') n (byteV bs ++ byteV ys)) (hg : w.grownBy w' (Value.slice x bs.length c).ownBlock)
    (hl : (Value.slice x' n c').ownBlock = (Value.slice x bs.length c).ownBlock ∨ (Value.slice x' n c').ownBlock = some w.heap.size) :
    w'.cell? ⟨p, 0, none⟩ = some (.slice x bs.length c) ∧ w'.frozen? ⟨p, 0, none⟩ = false ∧
    ∃ ob', RwRaw (w'.setCell ⟨p, 0, none⟩ (.slice x' n c')) p ob' (bs ++ ys) deep a ∧ Kp (fun b => b = p ∨ some b = ob) w (w'.setCell ⟨p, 0, none⟩ (.slice x' n c')) ∧ ∀ k, ob' = some k → ob = some k ∨ w.heap.size ≤ k := by
  subst hn
  have kp : Kp (fun b => some b = ob) w w' := (Kp.refl _ w).grown hg (fun k hk _ => by rw [← hk, hv])
  have hb' : Blk w' p [.slice x bs.length c, .bool deep, .int .i64 a] 81 := hb.kp kp (fun e => hne e.symm)
  have hne' : (Value.slice x' (bs.length + ys.length) c').ownBlock ≠ some p := by
    rcases hl with h1 | h1
    · rw [h1, hv]; exact hne
    · rw [h1]; intro e; injection e with e; have := hb.lt; omega
  have how : (w'.setCell ⟨p, 0, none⟩ (.slice x' (bs.length + ys.length) c')).ownsRow 0 5 1 (.slice x' (bs.length + ys.length) c') (bs.length + ys.length) (byteV bs ++ byteV ys) := by
    refine own_kp ho ((Kp.refl (fun b => b = p) w').setCell (p := ⟨p, 0, none⟩) (fun _ => rfl) _) ?_
    rintro g hg2 rfl
    exact hne' hg2
  refine ⟨by rw [hb'.cell]; rfl, hb'.frozen 0, (Value.slice x' (bs.length + ys.length) c').ownBlock, ⟨x', c', ?_, ?_, ?_, hne'⟩, ?_, ?_⟩
  · rw [List.length_append]; exact hb'.set 0 _
  · rw [byteV_append, List.length_append]; exact how
  · rw [List.length_append]
  · exact (kp.mono (fun x _ hs => .inr hs)).setCell (fun _ => .inl rfl) _
  · intro k hk
    rcases hl with h1 | h1
    · left; rw [← hv, ← h1, hk]
    · right; rw [h1] at hk; injection hk with hk; omega
theorem RwIn.p_lt {B : Nat} {W w : World} {p : Nat} {ob : Option Nat} {x : Option (Option (List UInt8))} {a : Int} {L : Nat} (h : RwIn B W w p ob x a L) : p < w.heap.size := by
  obtain ⟨⟨bs, deep, h, _⟩, _⟩ := h; exact h.p_lt
theorem RwIn.ob_lt {B : Nat} {W w : World} {p : Nat} {ob : Option Nat} {x : Option (Option (List UInt8))} {a : Int} {L : Nat} (h : RwIn B W w p ob x a L) : ∀ k, ob = some k → k < w.heap.size := by
  obtain ⟨⟨bs, deep, h, _⟩, _⟩ := h; exact h.ob_lt
theorem RwIn.alloc {B : Nat} {W w : World} {p : Nat} {ob : Option Nat} {x : Option (Option (List UInt8))} {a : Int} {L : Nat} (h : RwIn B W w p ob x a L) (o : Obj) : RwIn B W (w.alloc o) p ob x a L := by
  have hp := h.p_lt
  obtain ⟨⟨bs, deep, h1, h2⟩, h3, h4, h5⟩ := h
  exact ⟨⟨bs, deep, h1.alloc o, h2⟩, h3.alloc (by omega) o, h4, h5⟩
theorem RwIn.more {B : Nat} {W w : World} {p : Nat} {ob : Option Nat} {x : Option (Option (List UInt8))} {a : Int} {L L' : Nat} (h : RwIn B W w p ob x a L) (hL : L ≤ L') : RwIn B W w p ob x a L' := by
  obtain ⟨⟨bs, deep, h1, h2, h6⟩, h3, h4, h5⟩ := h
  exact ⟨⟨bs, deep, h1, Nat.le_trans h2 hL, h6⟩, h3, h4, h5⟩
theorem RwIn.mk' {B : Nat} {W w w' : World} {p : Nat} {ob ob' : Option Nat} {x x' : Option (Option (List UInt8))} {a a' : Int} {L L' : Nat} (h : RwIn B W w p ob x a L) {bs : List UInt8} {deep : Bool} (hr : RwRaw w' p ob' bs deep a') (hm : RwMeans bs deep x' L')
    (k : Kp (fun b => b = p ∨ some b = ob) w w') (ho : ∀ k, ob' = some k → ob = some k ∨ w.heap.size ≤ k) : RwIn B W w' p ob' x' a' L' := by
  have hp := h.p_lt
  have hp2 := h.hp
  refine ⟨⟨bs, deep, hr, hm⟩, h.bel.trans (k.below (by omega) ?_), h.hp, ?_⟩
  · rintro y hy (e | e)
    · omega
    · have := h.ho y e.symm; omega
  · intro y hy
    rcases ho y hy with h3 | h3
    · exact h.ho y h3
    · omega
theorem ROut.mk {B : Nat} {W w w' : World} {p : Nat} {ob ob' : Option Nat} {x x' : Option (Option (List UInt8))} {a a' : Int} {L L' : Nat} (h : RwIn B W w p ob x a L) {bs : List UInt8} {deep : Bool} (hr : RwRaw w' p ob' bs deep a') (hm : RwMeans bs deep x' L')
    (k : Kp (fun b => b = p ∨ some b = ob) w w') (ho : ∀ k, ob' = some k → ob = some k ∨ w.heap.size ≤ k) : ROut B W w p ob x' a' L' (.returned (.tuple #[])) w' :=
  ⟨rfl, ob', RwIn.mk' h hr hm k ho, k, ho⟩
theorem ROut.trans {B : Nat} {W w w1 w2 : World} {p : Nat} {ob ob1 : Option Nat} {x : Option (Option (List UInt8))} {a : Int} {L : Nat} {e : Ending}
    (k1 : Kp (fun b => b = p ∨ some b = ob) w w1) (o1 : ∀ k, ob1 = some k → ob = some k ∨ w.heap.size ≤ k) (h : ROut B W w1 p ob1 x a L e w2) : ROut B W w p ob x a L e w2 := by
  obtain ⟨he, ob2, h2, k2, o2⟩ := h
  have c := chain k1 o1 k2 o2
  exact ⟨he, ob2, h2, c.1, c.2⟩

theorem rfull_any (w : World) (p : Nat) (ob : Option Nat) (bs : List UInt8) (deep : Bool) (a : Int) (h : RwRaw w p ob bs deep a) :
    Calls Try.prog 43 #[.pointer (some ⟨p, 0, none⟩)] w fun e w' => e = .returned (.bool (decide (262144 < bs.length))) ∧ w = w' := by
  obtain ⟨x, c, hb, ho, hv, hne⟩ := h
  have c0 : w.cell? ⟨p, 0, none⟩ = some (.slice x bs.length c) := by rw [hb.cell]; rfl
  obtain ⟨n, hn⟩ : ∃ n, n = bs.length := ⟨_, rfl⟩
  rw [← hn] at c0 ⊢
  clear hb ho hv hne hn
  go_enter Try.func43, Try.ntmps43
  go_wp2
  go_ret
  refine ⟨?_, rfl⟩
  exact retB (by rw [Bool.eq_iff_iff]; simp; omega)

theorem RwMeans.put {bs s : List UInt8} {deep : Bool} {x : Option (Option (List UInt8))} {L : Nat} (h : RwMeans bs deep x L) (hl : bs.length ≤ 262144) : RwMeans (bs ++ s) deep (rput x s) (L + s.length) := by
  obtain ⟨h1, h2, h3⟩ := h
  refine ⟨by rw [List.length_append]; omega, fun e => ?_, fun st e => ?_⟩
  · cases x with
    | none => exact h2 rfl
    | some y => cases e
  · cases x with
    | none => cases e
    | some y =>
      obtain ⟨d, n1, n2⟩ := h3 y rfl
      simp only [rput, Option.map_some, Option.some.injEq] at e
      subst e
      cases y with
      | none => exact absurd (n1 rfl) (by omega)
      | some l =>
        obtain ⟨e2, hl2⟩ := n2 l rfl
        subst e2
        refine ⟨d, fun e => ?_, fun l e => ?_⟩
        · simp only [wput] at e
          split at e
          · cases e
          · rw [List.length_append]; omega
        · simp only [wput] at e
          split at e
          · cases e; exact ⟨rfl, by rw [List.length_append]; omega⟩
          · cases e
theorem RwMeans.full {bs s : List UInt8} {deep : Bool} {x : Option (Option (List UInt8))} {L : Nat} (h : RwMeans bs deep x L) (hl : 262144 < bs.length) : RwMeans bs deep (rput x s) L := by
  obtain ⟨h1, h2, h3⟩ := h
  refine ⟨h1, fun e => ?_, fun st e => ?_⟩
  · cases x with
    | none => exact h2 rfl
    | some y => cases e
  · cases x with
    | none => cases e
    | some y =>
      obtain ⟨d, n1, n2⟩ := h3 y rfl
      simp only [rput, Option.map_some, Option.some.injEq] at e
      subst e
      cases y with
      | none => exact ⟨d, fun _ => hl, fun l e => by cases e⟩
      | some l => have := (n2 l rfl).2; rw [(n2 l rfl).1] at hl; omega
theorem RwMeans.zeros {bs s z : List UInt8} {deep : Bool} {x : Option (Option (List UInt8))} {L : Nat} (h : RwMeans bs deep x L) (hs : 262144 < s.length) (hz : 262144 < z.length) : RwMeans (bs ++ z) deep (rput x s) (L + z.length) := by
  obtain ⟨h1, h2, h3⟩ := h
  refine ⟨by rw [List.length_append]; omega, fun e => ?_, fun st e => ?_⟩
  · cases x with
    | none => exact h2 rfl
    | some y => cases e
  · cases x with
    | none => cases e
    | some y =>
      obtain ⟨d, n1, n2⟩ := h3 y rfl
      simp only [rput, Option.map_some, Option.some.injEq] at e
      subst e
      refine ⟨d, fun _ => by rw [List.length_append]; omega, fun l e => ?_⟩
      cases y with
      | none => cases e
      | some l2 =>
        simp only [wput] at e
        rw [if_neg (by omega)] at e
        cases e

def un (n : Int) : Nat := (n % 18446744073709551616).toNat
theorem un_wrap (n : Int) : IntKind.u64.wrap n = (un n : Int) := by
  rw [IntKind.wrap_u64, un]
  have := Int.emod_nonneg n (show (18446744073709551616 : Int) ≠ 0 by decide)
  omega
theorem un_lt (n : Int) : un n < 18446744073709551616 := by
  have h1 := Int.emod_nonneg n (show (18446744073709551616 : Int) ≠ 0 by decide)
  have h2 := Int.emod_lt_of_pos n (show (0 : Int) < 18446744073709551616 by decide)
  unfold un; omega
theorem le8_un (n : Int) : le8 n = (List.range 8).map fun j => UInt8.ofNat (un n / 256 ^ j) := by
  have h : ∀ k : Nat, UInt8.ofNat (((un n : Int) / (k : Int) % 256).toNat) = UInt8.ofNat (un n / k) := by
    intro k
    have e : ((un n : Int) / (k : Int) % 256).toNat = un n / k % 256 := by
      rw [← Int.natCast_ediv]; omega
    rw [e]
    apply UInt8.toNat_inj.1
    simp
  have h0 : UInt8.ofNat (((un n : Int) % 256).toNat) = UInt8.ofNat (un n) := by
    have := h 1
    simpa using this
  simp only [le8, leN, un_wrap, List.map_cons, List.map_nil]
  rw [h0]
  have e1 : UInt8.ofNat (((un n : Int) / 256 % 256).toNat) = UInt8.ofNat (un n / 256) := h 256
  have e2 : UInt8.ofNat (((un n : Int) / 65536 % 256).toNat) = UInt8.ofNat (un n / 65536) := h 65536
  have e3 : UInt8.ofNat (((un n : Int) / 16777216 % 256).toNat) = UInt8.ofNat (un n / 16777216) := h 16777216
  have e4 : UInt8.ofNat (((un n : Int) / 4294967296 % 256).toNat) = UInt8.ofNat (un n / 4294967296) := h 4294967296
  have e5 : UInt8.ofNat (((un n : Int) / 1099511627776 % 256).toNat) = UInt8.ofNat (un n / 1099511627776) := h 1099511627776
  have e6 : UInt8.ofNat (((un n : Int) / 281474976710656 % 256).toNat) = UInt8.ofNat (un n / 281474976710656) := h 281474976710656
  have e7 : UInt8.ofNat (((un n : Int) / 72057594037927936 % 256).toNat) = UInt8.ofNat (un n / 72057594037927936) := h 72057594037927936
  rw [e1, e2, e3, e4, e5, e6, e7]
  simp [List.range, List.range.loop]
theorem le8_take (n : Int) (j : Nat) (hj : j < 8) : (le8 n).take (j + 1) = (le8 n).take j ++ [UInt8.ofNat (un n / 256 ^ j)] := by
  have hl : j < (le8 n).length := by rw [le8_length]; exact hj
  rw [List.take_succ_eq_append_getElem hl]
  congr 2
  simp only [le8_un, List.getElem_map, List.getElem_range]
theorem un_step (n : Int) (j : Nat) : ((un n / 256 ^ j : Nat) : Int) / 256 = ((un n / 256 ^ (j + 1) : Nat) : Int) := by
  rw [Nat.pow_succ, ← Nat.div_div_eq_div_mul]; omega
theorem un_byte (n : Int) (j : Nat) : (((UInt8.ofNat (un n / 256 ^ j)).toNat : Nat) : Int) = ((un n / 256 ^ j : Nat) : Int) % 256 := by
  rw [UInt8.toNat_ofNat']; omega
theorem un_small (n : Int) (j : Nat) : un n / 256 ^ j < 18446744073709551616 := Nat.lt_of_le_of_lt (Nat.div_le_self _ _) (un_lt n)

set_option maxRecDepth 100000 in
set_option maxHeartbeats 400000 in
theorem rnum_raw (w : World) (p : Nat) (ob : Option Nat) (bs : List UInt8) (deep : Bool) (a : Int) (n : Int) (h : RwRaw w p ob bs deep a) (hl : bs.length ≤ 262144) :
    Calls Try.prog 38 #[.pointer (some ⟨p, 0, none⟩), .int .i64 n] w
      (fun e w' => e = .returned (.tuple #[]) ∧ ∃ ob', RwRaw w' p ob' (bs ++ le8 n) deep a ∧ Kp (fun b => b = p ∨ some b = ob) w w' ∧ ∀ k, ob' = some k → ob = some k ∨ w.heap.size ≤ k) := by
  obtain ⟨i0, hi, hz0, hz1, hz2⟩ := info_parts u8info
  have FULL := Lib.hid (rfull_any w p ob bs deep a h)
  have H := Lib.hid h
  have HL := Lib.hid hl
  have hd : decide (262144 < bs.length) = false := by simp; omega
  have HD := Lib.hid hd
  have HU := Lib.hid (un_wrap n)
  clear h hl hd
  go_enter Try.func38, Try.ntmps38
  go_wp2_with fail
  refine FULL.out.mono ?_
  rintro e1 w1 ⟨rfl, rfl⟩
  rw [HD.out]
  go_wp2_with fail
  go_loopw [4, 5] (fun u i wr => ∃ j m : Nat, j ≤ 8 ∧ i = .int .i64 j ∧ m = un n / 256 ^ j ∧ u = .int .u64 (m : Int) ∧ ∃ obj, RwRaw wr p obj (bs ++ (le8 n).take j) deep a ∧ Kp (fun b => b = p ∨ some b = ob) w wr ∧ ∀ k, obj = some k → ob = some k ∨ w.heap.size ≤ k) (fun _ i _ => 8 - (intOf i).toNat)
  case atStart => exact ⟨0, un n, by decide, rfl, by simp, by rw [HU.out], ob, by simpa using H.out, Kp.refl _ _, fun k hk => .inl hk⟩
  case round =>
    obtain ⟨j, m, hj, rfl, hm, rfl, obj, hr, hk, ho⟩ := hrel
    by_cases hlt : j < 8
    · have HT := Lib.hid (le8_take n j hlt)
      have HS := Lib.hid (show m / 256 = un n / 256 ^ (j + 1) by rw [hm, Nat.pow_succ, ← Nat.div_div_eq_div_mul])
      have HB := Lib.hid (show byteV [UInt8.ofNat (un n / 256 ^ j)] = [Value.int .u8 ((m : Int) % 256)] by rw [byteV, List.map_cons, List.map_nil, un_byte, hm])
      have hsm : m < 18446744073709551616 := by rw [hm]; exact un_small n j
      clear hm
      have HR := Lib.hid hr
      have HK := Lib.hid (hk.alloc (.cells #[.int .u8 ((m : Int) % 256)] 5))
      have HO := Lib.hid ho
      have hlen : (bs ++ (le8 n).take j).length ≤ 262152 := by
        have := HL.out
        rw [List.length_append, List.length_take, le8_length]; omega
      obtain ⟨bj, hbj⟩ : ∃ bj, bj = bs ++ (le8 n).take j := ⟨_, rfl⟩
      rw [← hbj] at HR hlen
      have HBJ := Lib.hid hbj
      clear hr hk ho hbj
      obtain ⟨x, c, hblk, how, hv, hne⟩ := HR.out
      have c0 := hblk.cell 0
      simp only [List.getElem?_cons_zero] at c0
      have HBLK := Lib.hid (hblk.alloc (.cells #[.int .u8 ((m : Int) % 256)] 5))
      have HOW := Lib.hid (how.alloc (.cells #[.int .u8 ((m : Int) % 256)] 5))
      have HV := Lib.hid hv
      have HNE := Lib.hid hne
      have hwsz : (wr.alloc (.cells #[.int .u8 ((m : Int) % 256)] 5)).heap.size = wr.heap.size + 1 := by simp
      have HN1 := Lib.hid (show ∀ (i : Nat) u, [Value.int .u8 ((m : Int) % 256)][i]? = some u → (wr.alloc (.cells #[.int .u8 ((m : Int) % 256)] 5)).cell? ((⟨wr.heap.size, 0, none⟩ : Addr).add i) = some u from cell_one_new _ _ _)
      have HN2 := Lib.hid (show ∀ u ∈ [Value.int .u8 ((m : Int) % 256)], u.oneCell' = true from by intro u hu; simp at hu; subst hu; rfl)
      have H63 := Lib.hid (show bj.length + 1 ≤ maxLen by unfold maxLen; omega)
      have HBY := Lib.hid (show (bj.length + 1) * 1 ≤ 140737488355328 by omega)
      have FIN := Lib.hid (fun (x' : Option Addr) (c' : Nat) (w' : World) (ho : w'.ownsRow 0 5 1 (.slice x' (bj.length + 1) c') (bj.length + 1) (byteV bj ++ byteV [UInt8.ofNat (un n / 256 ^ j)]))
        (hg : (wr.alloc (.cells #[.int .u8 ((m : Int) % 256)] 5)).grownBy w' (Value.slice x bj.length c).ownBlock) hl => RwRaw.grow (ys := [UInt8.ofNat (un n / 256 ^ j)]) rfl HBLK.out HV.out HNE.out ho hg hl)
      clear hblk how hv hne hwsz
      generalize hnn : bj.length = nn at *
      clear hnn hlen
      go_wp2_with (at_builtin; refine wpList_app _ rfl (.tmp 18) (.tmp 21) 34 rfl 0 5 i0 (.int .u8 0) 1 1 Try.underlying34 hi hz0 hz1 hz2 rfl (by decide) _ _ _ rfl HOW.out ⟨wr.heap.size, 0, none⟩ 1 1 _ rfl rfl HN1.out HN2.out H63.out HBY.out (Nat.zero_le _) ?_; intro x' c' w' ho' hg' hl'; obtain ⟨y0, y1, y2⟩ := FIN.out x' c' w' (by rw [HB.out]; exact ho') hg' hl'; have Y2 := Lib.hid y2; clear y2 ho' hg' hl')
      obtain ⟨ob2, r2, k2, o2⟩ := Y2.out
      have R2 := Lib.hid r2
      have C2 := Lib.hid (chain HK.out HO.out k2 (by intro g hg; rcases o2 g hg with h | h; exact .inl h; exact .inr h))
      clear r2 k2 o2
      go_wp2_with fail
      go_roundw
      case rel => exact ⟨j + 1, m / 256, by omega, by go_num, HS.out, by go_num, ob2, by rw [HT.out, ← List.append_assoc, ← HBJ.out]; exact R2.out, C2.out.1, C2.out.2⟩
      case measure => simp [intOf]; omega
    · obtain rfl : j = 8 := by omega
      have HF := Lib.hid (show RwRaw wr p obj (bs ++ le8 n) deep a by rw [List.take_of_length_le (by rw [le8_length]; decide)] at hr; exact hr)
      have HK := Lib.hid hk
      have HO := Lib.hid ho
      clear hr hk ho
      go_wp2_with fail
      go_returns
      exact ⟨rfl, obj, HF.out, HK.out, HO.out⟩
end Go.Proofs.Ytfdjlicegfgodaa
