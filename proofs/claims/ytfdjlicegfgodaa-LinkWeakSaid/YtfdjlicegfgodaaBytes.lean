/- Bytes and numbers as bytes: words of the writers (seats without chapter 8's writer). -/
import Derived.Test.YtfdjlicegfgodaaBase
import Derived.Test.YtfdjlicegfgodaaData
import Derived.Lib.AppendStr
namespace Go.Proofs.Ytfdjlicegfgodaa
open Go.RowKit
set_option linter.unusedVariables false

/-- bytes as cells -/
def byteV (l : List UInt8) : List Value := l.map fun b => Value.int .u8 b.toNat
theorem byteV_length (l : List UInt8) : (byteV l).length = l.length := by simp [byteV]
theorem byteV_append (l m : List UInt8) : byteV (l ++ m) = byteV l ++ byteV m := by simp [byteV]
theorem strCells_eq (s : ByteArray) : Lib.strCells s = byteV s.data.toList := rfl
theorem size_eq (s : ByteArray) : s.size = s.data.toList.length := by rw [Array.length_toList]; rfl

theorem own_kp {S : Nat → Prop} {w w' : World} {base e size n : Nat} {v : Value} {xs : List Value} (h : w.ownsRow base e size v n xs) (k : Kp S w w') (hs : ∀ g, v.ownBlock = some g → ¬ S g) :
    w'.ownsRow base e size v n xs := by
  refine ⟨h.1, ?_⟩
  rcases h.2 with h2 | ⟨g, cap, cur, hv, hb, hg, r⟩
  · exact .inl h2
  · exact .inr ⟨g, cap, cur, hv, hb, (k.block g (Array.getElem?_eq_some_iff.1 hg).1 (hs g (by rw [hv]; rfl))).trans hg, r⟩

/-- a row of bytes that the call owns reads as those bytes -/
theorem own_bytesAt {w : World} {base e : Nat} {v : Value} {l : List UInt8} (h : w.ownsRow base e 1 v l.length (byteV l)) : BytesAt w v l := by
  rcases h.2 with ⟨h1, h2⟩ | ⟨g, cap, cur, hv, hb, hg, hn, hm, hc, ht⟩
  · have hl := List.eq_nil_of_length_eq_zero h2
    subst hl
    rw [h1]; exact BytesAt.nil w
  · refine ⟨_, cap, hv, hn, hm, fun _ => ⟨g, 0, rfl, fun i hi => ?_⟩⟩
    have h3 := h.cells (g := g) (by rw [hv]; rfl) i (.int .u8 (l[i].toNat : Int)) (by simp [byteV, hi])
    have e : (⟨g, 0, none⟩ : Addr).add i = ⟨g, 0 + i, none⟩ := by unfold Addr.add; split <;> simp_all
    rw [← e]; exact h3

/-- what is written so far: none: more than may be -/
def wput (st : Option (List UInt8)) (s : List UInt8) : Option (List UInt8) :=
  match st with
  | none => none
  | some bs => if bs.length + s.length ≤ 262144 then some (bs ++ s) else none
theorem wput_none (s : List UInt8) : wput none s = none := rfl
theorem wput_wput (st : Option (List UInt8)) (a b : List UInt8) : wput (wput st a) b = wput st (a ++ b) := by
  cases st with
  | none => rfl
  | some bs =>
    simp only [wput]
    by_cases h : bs.length + a.length ≤ 262144
    · simp only [if_pos h, List.length_append, Nat.add_assoc, List.append_assoc]
    · rw [if_neg h, if_neg (by simp only [List.length_append]; omega)]


theorem u8info : (Try.prog.info? 5).map (fun i => (i.zero, i.size, i.bytes)) = some (some (.int .u8 0), 1, 1) := by kernel_rfl


/-- the eight bytes of a number, the lowest first -/
def leN (n : Int) : List Int := [IntKind.u64.wrap n % 256, IntKind.u64.wrap n / 256 % 256, IntKind.u64.wrap n / 65536 % 256, IntKind.u64.wrap n / 16777216 % 256, IntKind.u64.wrap n / 4294967296 % 256, IntKind.u64.wrap n / 1099511627776 % 256, IntKind.u64.wrap n / 281474976710656 % 256, IntKind.u64.wrap n / 72057594037927936 % 256]
def num8 (n : Int) : ByteArray := strOfNums (leN n)
def le8 (n : Int) : List UInt8 := (leN n).map fun k => UInt8.ofNat k.toNat
theorem num8_data (n : Int) : (num8 n).data.toList = le8 n := rfl
theorem le8_length (n : Int) : (le8 n).length = 8 := rfl
theorem num8_size (n : Int) : (num8 n).size = 8 := by rw [num8, strOfNums_size]; rfl


def encS (s : ByteArray) : List UInt8 := le8 s.size ++ s.data.toList
def encL {α : Type} (f : α → List UInt8) (l : List α) : List UInt8 := le8 l.length ++ l.flatMap f


theorem chain {w w1 w2 : World} {p : Nat} {ob ob1 ob2 : Option Nat} (k1 : Kp (fun b => b = p ∨ some b = ob) w w1) (o1 : ∀ k, ob1 = some k → ob = some k ∨ w.heap.size ≤ k)
    (k2 : Kp (fun b => b = p ∨ some b = ob1) w1 w2) (o2 : ∀ k, ob2 = some k → ob1 = some k ∨ w1.heap.size ≤ k) :
    Kp (fun b => b = p ∨ some b = ob) w w2 ∧ ∀ k, ob2 = some k → ob = some k ∨ w.heap.size ≤ k := by
  refine ⟨k1.trans k2 ?_, ?_⟩
  · rintro x hx (hs | hs)
    · exact .inl hs
    · rcases o1 x hs.symm with h3 | h3
      · exact .inr h3.symm
      · omega
  · intro k hk
    rcases o2 k hk with h3 | h3
    · exact o1 k h3
    · have := k1.size; exact .inr (by omega)
end Go.Proofs.Ytfdjlicegfgodaa
