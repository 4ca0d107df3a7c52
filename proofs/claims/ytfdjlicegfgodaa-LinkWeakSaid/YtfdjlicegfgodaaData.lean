/- The data that come in, as Lean's own, and where they lie. -/
import Derived.Test.YtfdjlicegfgodaaCore
namespace Go.Proofs.Ytfdjlicegfgodaa
open Go.RowKit

/-- as long as a string or a slice of bytes may be -/
def Fits (s : ByteArray) : Prop := s.size ≤ 140737488355328
/-- a number of 64 bits -/
def I64 (n : Int) : Prop := -9223372036854775808 ≤ n ∧ n ≤ 9223372036854775807

/-- the slice v reads in W, in blocks below B, as the list l: each element has n cells, of which E tells -/
def SlB {α : Type} (B : Nat) (W : World) (n : Nat) (E : α → List Value → Prop) (l : List α) (v : Value) : Prop :=
  ∃ x cap, v = .slice x l.length cap ∧ l.length ≤ 140737488355328 ∧ (l ≠ [] → ∃ b o, x = some ⟨b, o, none⟩ ∧ b < B ∧ ∀ i (h : i < l.length), ∃ cs, cs.length = n ∧ Cells W b (o + i * n) cs ∧ E l[i] cs)
theorem SlB.mono {α : Type} {B B' : Nat} {W W' : World} {n : Nat} {E E' : α → List Value → Prop} {l : List α} {v : Value} (h : SlB B W n E l v) (hB : B ≤ B')
    (hw : ∀ b o cs, b < B → Cells W b o cs → Cells W' b o cs) (hE : ∀ x ∈ l, ∀ cs, E x cs → E' x cs) : SlB B' W' n E' l v := by
  obtain ⟨x, cap, hv, hl, hc⟩ := h
  refine ⟨x, cap, hv, hl, fun hne => ?_⟩
  obtain ⟨b, o, hx, hb, he⟩ := hc hne
  refine ⟨b, o, hx, Nat.lt_of_lt_of_le hb hB, fun i hi => ?_⟩
  obtain ⟨cs, h1, h2, h3⟩ := he i hi
  exact ⟨cs, h1, hw b _ cs hb h2, hE _ (List.getElem_mem hi) _ h3⟩

inductive Ty where
  | mk (kind : Int) (pkg name : ByteArray) (args res : List Ty)
inductive Ex where
  | mk (op n : Int) (name : ByteArray) (kids : List Ex)
inductive St where
  | mk (op n : Int) (exprs : List Ex) (body els : List St)
structure Fd where
  name : ByteArray
  type : Ty
structure Im where
  name : ByteArray
  hash : Int
structure De where
  kind : Int
  name : ByteArray
  of_ : ByteArray
  value : Int
  type : Ty
  fields : List Fd
structure Fn1 where
  name : ByteArray
  weak : Bool
  params : Int
  locals : Int
  body : List St
structure Un where
  pkg : ByteArray
  imports : List Im
  decls : List De
  bodies : List Fn1

def TyAt (B : Nat) (W : World) : Nat → Ty → List Value → Prop
  | 0, _, _ => False
  | d + 1, .mk k p n la lr, cs => ∃ va vr, cs = [.int .i64 k, .string p, .string n, va, vr] ∧ I64 k ∧ Fits p ∧ Fits n ∧ SlB B W 5 (TyAt B W d) la va ∧ SlB B W 5 (TyAt B W d) lr vr
def ExAt (B : Nat) (W : World) : Nat → Ex → List Value → Prop
  | 0, _, _ => False
  | d + 1, .mk op n s ks, cs => ∃ vk, cs = [.int .i64 op, .int .i64 n, .string s, vk] ∧ I64 op ∧ I64 n ∧ Fits s ∧ SlB B W 4 (ExAt B W d) ks vk
def StAt (B : Nat) (W : World) : Nat → St → List Value → Prop
  | 0, _, _ => False
  | d + 1, .mk op n es bs ls, cs => ∃ ve vb vl, cs = [.int .i64 op, .int .i64 n, ve, vb, vl] ∧ I64 op ∧ I64 n ∧ SlB B W 4 (ExAt B W d) es ve ∧ SlB B W 5 (StAt B W d) bs vb ∧ SlB B W 5 (StAt B W d) ls vl
def FdAt (B : Nat) (W : World) (d : Nat) (f : Fd) (cs : List Value) : Prop := ∃ ct, cs = .string f.name :: ct ∧ ct.length = 5 ∧ Fits f.name ∧ TyAt B W d f.type ct
def ImAt (i : Im) (cs : List Value) : Prop := cs = [.string i.name, .int .i64 i.hash] ∧ Fits i.name ∧ I64 i.hash
def DeAt (B : Nat) (W : World) (d : Nat) (x : De) (cs : List Value) : Prop := ∃ ct vf, cs = .int .i64 x.kind :: .string x.name :: .string x.of_ :: .int .i64 x.value :: (ct ++ [vf]) ∧ ct.length = 5 ∧
  I64 x.kind ∧ Fits x.name ∧ Fits x.of_ ∧ I64 x.value ∧ TyAt B W d x.type ct ∧ SlB B W 6 (FdAt B W d) x.fields vf
def FnAt (B : Nat) (W : World) (d : Nat) (f : Fn1) (cs : List Value) : Prop := ∃ vb, cs = [.string f.name, .bool f.weak, .int .i64 f.params, .int .i64 f.locals, vb] ∧ Fits f.name ∧ I64 f.params ∧ I64 f.locals ∧ SlB B W 5 (StAt B W d) f.body vb
def UnAt (B : Nat) (W : World) (d : Nat) (u : Un) (cs : List Value) : Prop := ∃ vi vd vb, cs = [.string u.pkg, vi, vd, vb] ∧ Fits u.pkg ∧ SlB B W 2 ImAt u.imports vi ∧ SlB B W 10 (DeAt B W d) u.decls vd ∧ SlB B W 5 (FnAt B W d) u.bodies vb
end Go.Proofs.Ytfdjlicegfgodaa
