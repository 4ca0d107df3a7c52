/- Unlike units have unlike bytes: the plain law. -/
import Derived.Test.YtpopgnengimieaaEncode
namespace Go.Proofs.Ytpopgnengimieaa
open Go.RowKit
set_option linter.unusedSimpArgs false
set_option linter.unusedVariables false

theorem u8_inj {x y : Int} (hx : 0 ≤ x ∧ x < 256) (hy : 0 ≤ y ∧ y < 256) (h : UInt8.ofNat x.toNat = UInt8.ofNat y.toNat) : x = y := by
  have := congrArg UInt8.toNat h
  rw [UInt8.toNat_ofNat', UInt8.toNat_ofNat'] at this
  omega
theorem digits_inj {a b : Int} (ha : 0 ≤ a ∧ a < 18446744073709551616) (hb : 0 ≤ b ∧ b < 18446744073709551616)
    (h0 : a % 256 = b % 256) (h1 : a / 256 % 256 = b / 256 % 256) (h2 : a / 65536 % 256 = b / 65536 % 256) (h3 : a / 16777216 % 256 = b / 16777216 % 256) (h4 : a / 4294967296 % 256 = b / 4294967296 % 256)
    (h5 : a / 1099511627776 % 256 = b / 1099511627776 % 256) (h6 : a / 281474976710656 % 256 = b / 281474976710656 % 256) (h7 : a / 72057594037927936 % 256 = b / 72057594037927936 % 256) : a = b := by omega
theorem u64_range (n : Int) : 0 ≤ IntKind.u64.wrap n ∧ IntKind.u64.wrap n < 18446744073709551616 := by
  simp only [IntKind.wrap, IntKind.bits, IntKind.signed]
  simp
  omega
theorem u64_inj {a b : Int} (ha : I64 a) (hb : I64 b) (h : IntKind.u64.wrap a = IntKind.u64.wrap b) : a = b := by
  simp only [IntKind.wrap, IntKind.bits, IntKind.signed] at h
  simp at h
  unfold I64 at ha hb
  omega
theorem le8_inj {a b : Int} (ha : I64 a) (hb : I64 b) (h : le8 a = le8 b) : a = b := by
  refine u64_inj ha hb ?_
  have ra := u64_range a
  have rb := u64_range b
  simp only [le8, leN, List.map_cons, List.map_nil, List.cons.injEq, and_true] at h
  generalize IntKind.u64.wrap a = x at *
  generalize IntKind.u64.wrap b = y at *
  obtain ⟨h0, h1, h2, h3, h4, h5, h6, h7⟩ := h
  exact digits_inj ra rb (u8_inj (by omega) (by omega) h0) (u8_inj (by omega) (by omega) h1) (u8_inj (by omega) (by omega) h2) (u8_inj (by omega) (by omega) h3) (u8_inj (by omega) (by omega) h4) (u8_inj (by omega) (by omega) h5) (u8_inj (by omega) (by omega) h6) (u8_inj (by omega) (by omega) h7)
/-- no code of one begins another's -/
def PI {α : Type} (E E' : α → Prop) (enc : α → List UInt8) : Prop := ∀ x y, E x → E' y → ∀ r r' : List UInt8, enc x ++ r = enc y ++ r' → x = y ∧ r = r'
theorem le8_pi {a b : Int} (ha : I64 a) (hb : I64 b) {r r' : List UInt8} (h : le8 a ++ r = le8 b ++ r') : a = b ∧ r = r' := by
  obtain ⟨h1, h2⟩ := List.append_inj h (by rw [le8_length, le8_length])
  exact ⟨le8_inj ha hb h1, h2⟩
theorem nat_pi {a b : Nat} (ha : a ≤ 140737488355328) (hb : b ≤ 140737488355328) {r r' : List UInt8} (h : le8 a ++ r = le8 b ++ r') : a = b ∧ r = r' := by
  obtain ⟨h1, h2⟩ := le8_pi (by unfold I64; omega) (by unfold I64; omega) h
  exact ⟨by omega, h2⟩
theorem encS_pi {s t : ByteArray} (hs : Fits s) (ht : Fits t) {r r' : List UInt8} (h : encS s ++ r = encS t ++ r') : s = t ∧ r = r' := by
  unfold encS at h
  rw [List.append_assoc, List.append_assoc] at h
  obtain ⟨h1, h2⟩ := nat_pi hs ht h
  obtain ⟨h3, h4⟩ := List.append_inj h2 (by rw [Array.length_toList, Array.length_toList]; exact h1)
  refine ⟨?_, h4⟩
  cases s; cases t
  simp at h3
  rw [h3]
theorem flat_pi {α : Type} {E E' : α → Prop} {enc : α → List UInt8} (h : PI E E' enc) : ∀ (l m : List α), l.length = m.length → (∀ x ∈ l, E x) → (∀ y ∈ m, E' y) → ∀ r r' : List UInt8, l.flatMap enc ++ r = m.flatMap enc ++ r' → l = m ∧ r = r'
  | [], [], _, _, _, r, r', e => ⟨rfl, by simpa using e⟩
  | x :: l, y :: m, hl, hx, hy, r, r', e => by
    simp only [List.flatMap_cons, List.append_assoc] at e
    obtain ⟨h1, h2⟩ := h x y (hx _ (List.mem_cons_self ..)) (hy _ (List.mem_cons_self ..)) _ _ e
    obtain ⟨h3, h4⟩ := flat_pi h l m (by simpa using hl) (fun z hz => hx z (List.mem_cons_of_mem _ hz)) (fun z hz => hy z (List.mem_cons_of_mem _ hz)) r r' h2
    exact ⟨by rw [h1, h3], h4⟩
  | [], _ :: _, hl, _, _, _, _, _ => by simp at hl
  | _ :: _, [], hl, _, _, _, _, _ => by simp at hl
theorem encL_pi {α : Type} {E E' : α → Prop} {enc : α → List UInt8} (h : PI E E' enc) (l m : List α) (hl : l.length ≤ 140737488355328) (hm : m.length ≤ 140737488355328) (hx : ∀ x ∈ l, E x) (hy : ∀ y ∈ m, E' y) {r r' : List UInt8}
    (e : encL enc l ++ r = encL enc m ++ r') : l = m ∧ r = r' := by
  unfold encL at e
  rw [List.append_assoc, List.append_assoc] at e
  obtain ⟨h1, h2⟩ := nat_pi hl hm e
  exact flat_pi h l m h1 hx hy r r' h2
theorem SlB.all {α : Type} {B : Nat} {W : World} {n : Nat} {E : α → List Value → Prop} {l : List α} {v : Value} (h : SlB B W n E l v) : l.length ≤ 140737488355328 ∧ ∀ x ∈ l, ∃ cs, E x cs := by
  obtain ⟨_, _, _, hl, hc⟩ := h
  refine ⟨hl, fun x hx => ?_⟩
  obtain ⟨b, o, _, _, he⟩ := hc (by intro e; rw [e] at hx; cases hx)
  obtain ⟨i, hi, rfl⟩ := List.getElem_of_mem hx
  obtain ⟨cs, _, _, h⟩ := he i hi
  exact ⟨cs, h⟩
section
variable {B B' : Nat} {W W' : World}
theorem pi_Ty : ∀ d d' : Nat, PI (fun x => ∃ cs, TyAt B W d x cs) (fun x => ∃ cs, TyAt B' W' d' x cs) encTy
  | 0, _ => fun _ _ ⟨_, h⟩ => h.elim
  | _ + 1, 0 => fun _ _ _ ⟨_, h⟩ => h.elim
  | d + 1, d' + 1 => by
    rintro ⟨k, p, n, la, lr⟩ ⟨k', p', n', la', lr'⟩ ⟨cs, va, vr, _, h1, h2, h3, h4, h5⟩ ⟨cs', va', vr', _, h1', h2', h3', h4', h5'⟩ r r' e
    rw [encTy_mk, encTy_mk] at e
    simp only [List.append_assoc] at e
    obtain ⟨e1, e⟩ := le8_pi h1 h1' e
    obtain ⟨e2, e⟩ := encS_pi h2 h2' e
    obtain ⟨e3, e⟩ := encS_pi h3 h3' e
    obtain ⟨e4, e⟩ := encL_pi (pi_Ty d d') _ _ h4.all.1 h4'.all.1 h4.all.2 h4'.all.2 e
    obtain ⟨e5, e⟩ := encL_pi (pi_Ty d d') _ _ h5.all.1 h5'.all.1 h5.all.2 h5'.all.2 e
    exact ⟨by rw [e1, e2, e3, e4, e5], e⟩
theorem pi_Ex : ∀ d d' : Nat, PI (fun x => ∃ cs, ExAt B W d x cs) (fun x => ∃ cs, ExAt B' W' d' x cs) encEx
  | 0, _ => fun _ _ ⟨_, h⟩ => h.elim
  | _ + 1, 0 => fun _ _ _ ⟨_, h⟩ => h.elim
  | d + 1, d' + 1 => by
    rintro ⟨k, n, s, ks⟩ ⟨k', n', s', ks'⟩ ⟨cs, va, _, h1, h2, h3, h4⟩ ⟨cs', va', _, h1', h2', h3', h4'⟩ r r' e
    rw [encEx_mk, encEx_mk] at e
    simp only [List.append_assoc] at e
    obtain ⟨e1, e⟩ := le8_pi h1 h1' e
    obtain ⟨e2, e⟩ := le8_pi h2 h2' e
    obtain ⟨e3, e⟩ := encS_pi h3 h3' e
    obtain ⟨e4, e⟩ := encL_pi (pi_Ex d d') _ _ h4.all.1 h4'.all.1 h4.all.2 h4'.all.2 e
    exact ⟨by rw [e1, e2, e3, e4], e⟩
theorem pi_St : ∀ d d' : Nat, PI (fun x => ∃ cs, StAt B W d x cs) (fun x => ∃ cs, StAt B' W' d' x cs) encSt
  | 0, _ => fun _ _ ⟨_, h⟩ => h.elim
  | _ + 1, 0 => fun _ _ _ ⟨_, h⟩ => h.elim
  | d + 1, d' + 1 => by
    rintro ⟨k, n, es, bs, ls⟩ ⟨k', n', es', bs', ls'⟩ ⟨cs, ve, vb, vl, _, h1, h2, h3, h4, h5⟩ ⟨cs', ve', vb', vl', _, h1', h2', h3', h4', h5'⟩ r r' e
    rw [encSt_mk, encSt_mk] at e
    simp only [List.append_assoc] at e
    obtain ⟨e1, e⟩ := le8_pi h1 h1' e
    obtain ⟨e2, e⟩ := le8_pi h2 h2' e
    obtain ⟨e3, e⟩ := encL_pi (pi_Ex d d') _ _ h3.all.1 h3'.all.1 h3.all.2 h3'.all.2 e
    obtain ⟨e4, e⟩ := encL_pi (pi_St d d') _ _ h4.all.1 h4'.all.1 h4.all.2 h4'.all.2 e
    obtain ⟨e5, e⟩ := encL_pi (pi_St d d') _ _ h5.all.1 h5'.all.1 h5.all.2 h5'.all.2 e
    exact ⟨by rw [e1, e2, e3, e4, e5], e⟩
theorem pi_Fd (d d' : Nat) : PI (fun x => ∃ cs, FdAt B W d x cs) (fun x => ∃ cs, FdAt B' W' d' x cs) encFd := by
  rintro ⟨n, t⟩ ⟨n', t'⟩ ⟨cs, ct, _, _, h1, h2⟩ ⟨cs', ct', _, _, h1', h2'⟩ r r' e
  simp only [encFd, List.append_assoc] at e
  obtain ⟨e1, e⟩ := encS_pi h1 h1' e
  obtain ⟨e2, e⟩ := pi_Ty d d' _ _ ⟨_, h2⟩ ⟨_, h2'⟩ _ _ e
  dsimp only at e1 e2
  exact ⟨by rw [e1, e2], e⟩
theorem pi_Im : PI (fun x => ∃ cs, ImAt x cs) (fun x => ∃ cs, ImAt x cs) encIm := by
  rintro ⟨n, t⟩ ⟨n', t'⟩ ⟨cs, _, h1, h2⟩ ⟨cs', _, h1', h2'⟩ r r' e
  simp only [encIm, List.append_assoc] at e
  obtain ⟨e1, e⟩ := encS_pi h1 h1' e
  obtain ⟨e2, e⟩ := le8_pi h2 h2' e
  dsimp only at e1 e2
  exact ⟨by rw [e1, e2], e⟩
theorem pi_De (d d' : Nat) : PI (fun x => ∃ cs, DeAt B W d x cs) (fun x => ∃ cs, DeAt B' W' d' x cs) encDe := by
  rintro ⟨k, n, o, v, t, fs⟩ ⟨k', n', o', v', t', fs'⟩ ⟨cs, ct, vf, _, _, h1, h2, h3, h4, h5, h6⟩ ⟨cs', ct', vf', _, _, h1', h2', h3', h4', h5', h6'⟩ r r' e
  simp only [encDe, List.append_assoc] at e
  obtain ⟨e1, e⟩ := le8_pi h1 h1' e
  obtain ⟨e2, e⟩ := encS_pi h2 h2' e
  obtain ⟨e3, e⟩ := encS_pi h3 h3' e
  obtain ⟨e4, e⟩ := le8_pi h4 h4' e
  obtain ⟨e5, e⟩ := pi_Ty d d' _ _ ⟨_, h5⟩ ⟨_, h5'⟩ _ _ e
  obtain ⟨e6, e⟩ := encL_pi (pi_Fd d d') _ _ h6.all.1 h6'.all.1 h6.all.2 h6'.all.2 e
  dsimp only at e1 e2 e3 e4 e5 e6
  exact ⟨by rw [e1, e2, e3, e4, e5, e6], e⟩
theorem pi_Fn (d d' : Nat) : PI (fun x => ∃ cs, FnAt B W d x cs) (fun x => ∃ cs, FnAt B' W' d' x cs) encFn := by
  rintro ⟨n, wk, pa, lo, bd⟩ ⟨n', wk', pa', lo', bd'⟩ ⟨cs, vb, _, h1, h2, h3, h4⟩ ⟨cs', vb', _, h1', h2', h3', h4'⟩ r r' e
  simp only [encFn, List.append_assoc] at e
  obtain ⟨e1, e⟩ := encS_pi h1 h1' e
  obtain ⟨e2, e⟩ := le8_pi (by split <;> (unfold I64; omega)) (by split <;> (unfold I64; omega)) e
  obtain ⟨e3, e⟩ := le8_pi h2 h2' e
  obtain ⟨e4, e⟩ := le8_pi h3 h3' e
  obtain ⟨e5, e⟩ := encL_pi (pi_St d d') _ _ h4.all.1 h4'.all.1 h4.all.2 h4'.all.2 e
  have e2' : wk = wk' := by cases wk <;> cases wk' <;> simp_all
  dsimp only at e1 e3 e4 e5
  exact ⟨by rw [e1, e2', e3, e4, e5], e⟩
/-- like bytes are of like units -/
theorem encB_inj {d d' : Nat} {u v : Un} {cs cs' : List Value} (h : UnAt B W d u cs) (h' : UnAt B' W' d' v cs') (e : encB u = encB v) : u = v := by
  obtain ⟨pk, is, ds, bs⟩ := u
  obtain ⟨pk', is', ds', bs'⟩ := v
  obtain ⟨_, _, _, _, h1, h2, h3, h4⟩ := h
  obtain ⟨_, _, _, _, h1', h2', h3', h4'⟩ := h'
  unfold encB at e
  generalize le8 (fnv (encUn _)) = r at e
  generalize le8 (fnv (encUn _)) = r' at e
  simp only [encUn, List.append_assoc] at e
  have e := List.append_cancel_left e
  obtain ⟨e1, e⟩ := encS_pi h1 h1' e
  obtain ⟨e2, e⟩ := encL_pi pi_Im _ _ h2.all.1 h2'.all.1 h2.all.2 h2'.all.2 e
  obtain ⟨e3, e⟩ := encL_pi (pi_De d d') _ _ h3.all.1 h3'.all.1 h3.all.2 h3'.all.2 e
  obtain ⟨e4, e⟩ := encL_pi (pi_Fn d d') _ _ h4.all.1 h4'.all.1 h4.all.2 h4'.all.2 e
  dsimp only at e1 e2 e3 e4
  rw [e1, e2, e3, e4]
end
end Go.Proofs.Ytpopgnengimieaa
