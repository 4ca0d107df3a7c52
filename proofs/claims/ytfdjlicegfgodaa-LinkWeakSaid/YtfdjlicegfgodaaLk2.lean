/- Linking: reading objects out of memory; the document's owner and object. -/
import Derived.Test.YtfdjlicegfgodaaLk1
namespace Go.Proofs.Ytfdjlicegfgodaa
open Go.RowKit
set_option linter.unusedSimpArgs false
set_option linter.unusedVariables false

def StrAt2 (s : ByteArray) (cs : List Value) : Prop := cs = [.string s] ∧ Fits s
/-- where a slice that is not empty begins -/
theorem SlB.addr {α : Type} {B : Nat} {W : World} {m : Nat} {E : α → List Value → Prop} {l : List α} {x : Option Addr} {n c : Nat} (h : SlB B W m E l (.slice x n c)) : n = l.length ∧ l.length ≤ 140737488355328 ∧ ∃ b o, l ≠ [] → x = some ⟨b, o, none⟩ := by
  obtain ⟨x', c', hv, hl, hc⟩ := h
  injection hv with h1 h2 h3
  subst h1
  refine ⟨h2, hl, ?_⟩
  by_cases hn : l = []
  · exact ⟨0, 0, fun hh => absurd hn hh⟩
  · obtain ⟨b, o, hx, _⟩ := hc hn
    exact ⟨b, o, fun _ => hx⟩
/-- an element's cells -/
theorem SlB.read {α : Type} {B : Nat} {W w : World} {m : Nat} {E : α → List Value → Prop} {l : List α} {b o n c : Nat} (h : SlB B W m E l (.slice (some ⟨b, o, none⟩) n c)) (hw : In B W w) {i : Nat} (hi : i < l.length) :
    ∃ cs, cs.length = m ∧ E l[i] cs ∧ ∀ j, j < m → w.cell? ⟨b, o + i * m + j, none⟩ = cs[j]? := by
  obtain ⟨x', c', hv, hl, hc⟩ := h
  obtain ⟨b', o', hx, hb, he⟩ := hc (by intro e; rw [e] at hi; simp at hi)
  injection hv with h1 h2 h3
  rw [← h1] at hx
  injection hx with hx
  injection hx with q1 q2
  subst q1; subst q2
  obtain ⟨cs, h4, h5, h6⟩ := he i hi
  exact ⟨cs, h4, h6, fun j hj => (hw.bel.cell (p := ⟨b, o + i * m + j, none⟩) hb).trans (h5 j (by rw [h4]; exact hj))⟩
theorem SlB.sl {α : Type} {B : Nat} {W : World} {m : Nat} {E : α → List Value → Prop} {l : List α} {v : Value} (h : SlB B W m E l v) : ∃ x c, v = .slice x l.length c ∧ SlB B W m E l (.slice x l.length c) ∧ l.length ≤ 140737488355328 := by
  obtain ⟨x, c, rfl, h2, h3⟩ := h
  exact ⟨x, c, rfl, ⟨x, c, rfl, h2, h3⟩, h2⟩
/-- an object's cells lie from o on in block b -/
structure ObR (B : Nat) (W w : World) (b o : Nat) (u : Ob) (xi : Option Addr) (ci : Nat) (xs : Option Addr) (cs : Nat) (xr : Option Addr) (cr : Nat) (xc : Option Addr) (cc : Nat) (xd : Option Addr) (cd : Nat) : Prop where
  f0 : w.cell? ⟨b, o, none⟩ = some (.string u.pkg)
  f1 : w.cell? ⟨b, o + 1, none⟩ = some (.int .i64 u.hash)
  f2 : w.cell? ⟨b, o + 2, none⟩ = some (.slice xi u.imports.length ci)
  f3 : w.cell? ⟨b, o + 3, none⟩ = some (.slice xs u.syms.length cs)
  f4 : w.cell? ⟨b, o + 4, none⟩ = some (.slice xr u.relocs.length cr)
  f5 : w.cell? ⟨b, o + 5, none⟩ = some (.slice xc u.code.length cc)
  f6 : w.cell? ⟨b, o + 6, none⟩ = some (.slice xd u.data.length cd)
  hp : Fits u.pkg
  hh : I64 u.hash
  hi : SlB B W 2 ImAt u.imports (.slice xi u.imports.length ci)
  hs : SlB B W 6 SyAt u.syms (.slice xs u.syms.length cs)
  hr : SlB B W 3 ReAt u.relocs (.slice xr u.relocs.length cr)
  hc : SlB B W 1 WdAt u.code (.slice xc u.code.length cc)
  hd : SlB B W 1 WdAt u.data (.slice xd u.data.length cd)
  li : u.imports.length ≤ 140737488355328
  ls : u.syms.length ≤ 140737488355328
  lr : u.relocs.length ≤ 140737488355328
  lc : u.code.length ≤ 140737488355328
  ld : u.data.length ≤ 140737488355328
  ob : ObAt B W u [.string u.pkg, .int .i64 u.hash, .slice xi u.imports.length ci, .slice xs u.syms.length cs, .slice xr u.relocs.length cr, .slice xc u.code.length cc, .slice xd u.data.length cd]
theorem ob_read {B : Nat} {W w : World} {os : List Ob} {b o n c : Nat} (h : SlB B W 7 (ObAt B W) os (.slice (some ⟨b, o, none⟩) n c)) (hw : In B W w) {i : Nat} {u : Ob} (hu : os[i]? = some u) :
    ∃ xi ci xs cs xr cr xc cc xd cd, ObR B W w b (o + i * 7) u xi ci xs cs xr cr xc cc xd cd := by
  obtain ⟨hi, rfl⟩ := List.getElem?_eq_some_iff.1 hu
  obtain ⟨l, hl, ho, hc⟩ := h.read hw hi
  have hob := ho
  obtain ⟨vi, vs, vr, vc, vd, rfl, hp, hh, h2, h3, h4, h5, h6⟩ := ho
  obtain ⟨xi, ci, rfl, h2, l2⟩ := h2.sl
  obtain ⟨xs, cs, rfl, h3, l3⟩ := h3.sl
  obtain ⟨xr, cr, rfl, h4, l4⟩ := h4.sl
  obtain ⟨xc, cc, rfl, h5, l5⟩ := h5.sl
  obtain ⟨xd, cd, rfl, h6, l6⟩ := h6.sl
  exact ⟨xi, ci, xs, cs, xr, cr, xc, cc, xd, cd, hc 0 (by omega), hc 1 (by omega), hc 2 (by omega), hc 3 (by omega), hc 4 (by omega), hc 5 (by omega), hc 6 (by omega), hp, hh, h2, h3, h4, h5, h6, l2, l3, l4, l5, l6, hob⟩
structure SyR (w : World) (b o : Nat) (s : Sy) : Prop where
  f0 : w.cell? ⟨b, o, none⟩ = some (.string s.name)
  f1 : w.cell? ⟨b, o + 1, none⟩ = some (.int .i64 s.kind)
  f2 : w.cell? ⟨b, o + 2, none⟩ = some (.bool s.weak)
  f3 : w.cell? ⟨b, o + 3, none⟩ = some (.int .i64 s.at_)
  f4 : w.cell? ⟨b, o + 4, none⟩ = some (.int .i64 s.size)
  f5 : w.cell? ⟨b, o + 5, none⟩ = some (.int .i64 s.frame)
  hn : Fits s.name
  hk : I64 s.kind
  ha : I64 s.at_
  hz : I64 s.size
  hf : I64 s.frame
theorem sy_read {B : Nat} {W w : World} {l : List Sy} {b o n c : Nat} (h : SlB B W 6 SyAt l (.slice (some ⟨b, o, none⟩) n c)) (hw : In B W w) {k : Nat} (hk : k < l.length) : SyR w b (o + k * 6) l[k] := by
  obtain ⟨cs, hl, ⟨rfl, h1, h2, h3, h4, h5⟩, hc⟩ := h.read hw hk
  exact ⟨hc 0 (by omega), hc 1 (by omega), hc 2 (by omega), hc 3 (by omega), hc 4 (by omega), hc 5 (by omega), h1, h2, h3, h4, h5⟩
structure ImR (w : World) (b o : Nat) (s : Im) : Prop where
  f0 : w.cell? ⟨b, o, none⟩ = some (.string s.name)
  f1 : w.cell? ⟨b, o + 1, none⟩ = some (.int .i64 s.hash)
  hn : Fits s.name
  hh : I64 s.hash
theorem im_read {B : Nat} {W w : World} {l : List Im} {b o n c : Nat} (h : SlB B W 2 ImAt l (.slice (some ⟨b, o, none⟩) n c)) (hw : In B W w) {k : Nat} (hk : k < l.length) : ImR w b (o + k * 2) l[k] := by
  obtain ⟨cs, hl, ⟨rfl, h1, h2⟩, hc⟩ := h.read hw hk
  exact ⟨hc 0 (by omega), hc 1 (by omega), h1, h2⟩
structure ReR (w : World) (b o : Nat) (s : Re) : Prop where
  f0 : w.cell? ⟨b, o, none⟩ = some (.bool s.data)
  f1 : w.cell? ⟨b, o + 1, none⟩ = some (.int .i64 s.at_)
  f2 : w.cell? ⟨b, o + 2, none⟩ = some (.string s.name)
  ha : I64 s.at_
  hn : Fits s.name
theorem re_read {B : Nat} {W w : World} {l : List Re} {b o n c : Nat} (h : SlB B W 3 ReAt l (.slice (some ⟨b, o, none⟩) n c)) (hw : In B W w) {k : Nat} (hk : k < l.length) : ReR w b (o + k * 3) l[k] := by
  obtain ⟨cs, hl, ⟨rfl, h1, h2⟩, hc⟩ := h.read hw hk
  exact ⟨hc 0 (by omega), hc 1 (by omega), hc 2 (by omega), h1, h2⟩
theorem wd_read {B : Nat} {W w : World} {l : List Int} {b o n c : Nat} (h : SlB B W 1 WdAt l (.slice (some ⟨b, o, none⟩) n c)) (hw : In B W w) {k : Nat} (hk : k < l.length) : w.cell? ⟨b, o + k, none⟩ = some (.int .i64 l[k]) ∧ I64 l[k] := by
  obtain ⟨cs, hl, ⟨rfl, h1⟩, hc⟩ := h.read hw hk
  have := hc 0 (by omega)
  rw [Nat.mul_one] at this
  exact ⟨this, h1⟩
theorem str_read {B : Nat} {W w : World} {l : List ByteArray} {b o n c : Nat} (h : SlB B W 1 StrAt2 l (.slice (some ⟨b, o, none⟩) n c)) (hw : In B W w) {k : Nat} (hk : k < l.length) : w.cell? ⟨b, o + k, none⟩ = some (.string l[k]) ∧ Fits l[k] := by
  obtain ⟨cs, hl, ⟨rfl, h1⟩, hc⟩ := h.read hw hk
  have := hc 0 (by omega)
  rw [Nat.mul_one] at this
  exact ⟨this, h1⟩
theorem ne_nil_of_lt {α : Type} {l : List α} {i : Nat} (h : i < l.length) : l ≠ [] := by intro e; rw [e] at h; simp at h

/-! the document's owner -/
def oA : Option Cn → Int | none => -1 | some c => c.obj
def oB : Option Cn → Int | none => -1 | some c => c.pos
def OwnP (w : World) (c : Option Cn) (e : Ending) (w' : World) : Prop := e = .returned (.tuple #[.int .i64 (oA c), .int .i64 (oB c)]) ∧ Nw w w'
theorem occP_mem {os : List Ob} {i k : Nat} {x : Occ} (h : x ∈ occP os i k) (hi : i < os.length) (hk : k ≤ os[i].syms.length) : x ∈ occs os := by
  have e : ∀ d k, k + d = os[i].syms.length → x ∈ occP os i k → x ∈ occP os i (os[i].syms.length) := by
    intro d
    induction d with
    | zero => intro k hk h; rw [← hk]; exact h
    | succ d ih =>
      intro k hk h
      refine ih (k + 1) (by omega) ?_
      rw [occP_step hi (by omega)]
      exact List.mem_append_left _ h
  have e2 : ∀ d i, i + d = os.length → x ∈ occP os i 0 → x ∈ occs os := by
    intro d
    induction d with
    | zero => intro i hi h; rw [occP_all (by omega)] at h; exact h
    | succ d ih =>
      intro i hi h
      refine ih (i + 1) (by omega) ?_
      rw [occP_next (i := i) (k := os[i].syms.length) (by omega) (Nat.le_refl _)]
      have : ∀ k, k ≤ os[i].syms.length → x ∈ occP os i k := by
        intro k
        induction k with
        | zero => intro _; exact h
        | succ k ih2 => intro hk; rw [occP_step (by omega) (by omega)]; exact List.mem_append_left _ (ih2 (by omega))
      exact this _ (Nat.le_refl _)
  refine e2 (os.length - (i + 1)) (i + 1) (by omega) ?_
  rw [occP_next hi (Nat.le_refl _)]
  exact e (os[i].syms.length - k) k (by omega) h
theorem cn_lies {os : List Ob} {i k : Nat} {n : ByteArray} {c : Cn} (h : cnF n (occP os i k) = some c) (hi : i < os.length) (hk : k ≤ os[i].syms.length) : ∃ (h1 : c.obj < os.length) (h2 : c.pos < os[c.obj].syms.length), os[c.obj].syms[c.pos] = c.sym := by
  have := occP_mem (cnF_ok h).mem hi hk
  obtain ⟨h1, h2, h3⟩ := mem_occ.1 this
  exact ⟨h1, h2, h3.symm⟩
theorem occ_step {os : List Ob} {i k : Nat} {u : Ob} (hu : os[i]? = some u) (hk : k < u.syms.length) : occP os i (k + 1) = occP os i k ++ [⟨i, k, u.syms[k]⟩] := by
  obtain ⟨hi, rfl⟩ := List.getElem?_eq_some_iff.1 hu
  exact occP_step hi hk
theorem occ_next {os : List Ob} {i k : Nat} {u : Ob} (hu : os[i]? = some u) (hk : u.syms.length ≤ k) : occP os (i + 1) 0 = occP os i k := by
  obtain ⟨hi, rfl⟩ := List.getElem?_eq_some_iff.1 hu
  exact occP_next hi hk
/-- what counts lies so in its object -/
theorem cn_at {os : List Ob} {i k : Nat} {n : ByteArray} {c : Cn} {u : Ob} (h : cnF n (occP os i k) = some c) (hu : os[i]? = some u) (hk : k ≤ u.syms.length) : ∃ v, os[c.obj]? = some v ∧ c.obj < os.length ∧ ∃ (h2 : c.pos < v.syms.length), v.syms[c.pos] = c.sym := by
  obtain ⟨hi, rfl⟩ := List.getElem?_eq_some_iff.1 hu
  obtain ⟨h1, h2, h3⟩ := cn_lies h hi hk
  exact ⟨_, List.getElem?_eq_getElem h1, h1, h2, h3⟩
theorem cn_at_all {os : List Ob} {n : ByteArray} {c : Cn} (h : cnF n (occs os) = some c) : ∃ v, os[c.obj]? = some v ∧ c.obj < os.length ∧ ∃ (h2 : c.pos < v.syms.length), v.syms[c.pos] = c.sym := by
  obtain ⟨h1, h2, h3⟩ := mem_occ.1 (cnF_ok h).mem
  exact ⟨_, List.getElem?_eq_getElem h1, h1, h2, h3.symm⟩
set_option maxRecDepth 100000 in
set_option maxHeartbeats 4000000 in
theorem owner_any {B : Nat} {W w : World} {os : List Ob} {v : Value} (ho : SlB B W 7 (ObAt B W) os v) (h : In B W w) (nm : ByteArray) :
    Calls Try.prog 78 #[v, .string nm] w (OwnP w (cnF nm (occs os))) := by
  obtain ⟨x, cp, rfl, ho, hl⟩ := ho.sl
  obtain ⟨_, _, b, o, hx⟩ := ho.addr
  have HO := Lib.hid ho
  have HX := Lib.hid hx
  have G := Lib.hid h
  have HL := Lib.hid hl
  obtain ⟨n, hn⟩ : ∃ n, n = os.length := ⟨_, rfl⟩
  rw [← hn] at hl HO ⊢
  have HN := Lib.hid hn
  clear ho hx h hn
  go_enter Try.func78, Try.ntmps78
  go_upto_region 3 with fail
  go_loopw [6, 7, 8] (fun va vb vi wr => ∃ i : Nat, i ≤ n ∧ vi = .int .i64 (i : Int) ∧ va = .int .i64 (oA (cnF nm (occP os i 0))) ∧ vb = .int .i64 (oB (cnF nm (occP os i 0))) ∧ Nw w wr) (fun _ _ vi _ => n - (intOf vi).toNat)
  case atStart => exact ⟨0, Nat.zero_le _, rfl, by rw [occP_zero]; rfl, by rw [occP_zero]; rfl, Nw.refl _⟩
  case round =>
    obtain ⟨i, hi, rfl, rfl, rfl, g⟩ := hrel
    have GR := Lib.hid g
    clear g
    rename World => wo
    by_cases hlt : i < n
    · have hio : i < os.length := by rw [← HN.out]; exact hlt
      obtain ⟨u, hu⟩ : ∃ u, os[i]? = some u := ⟨_, List.getElem?_eq_getElem hio⟩
      have HU := Lib.hid hu
      have hq0 : (0 : Int) ≤ (i : Int) := by omega
      have hq1 : (i : Int) < (n : Int) := by omega
      obtain rfl : x = _ := HX.out (ne_nil_of_lt hio)
      obtain ⟨xi, ci, xs, cs, xr, cr, xc, cc, xd, cd, ob⟩ := ob_read HO.out (G.out.nw GR.out) hu
      have HS := Lib.hid ob.hs
      obtain ⟨_, hsl, bs, os', hxs⟩ := ob.hs.addr
      have HXS := Lib.hid hxs
      obtain ⟨ms, hms⟩ : ∃ ms, ms = u.syms.length := ⟨_, rfl⟩
      have HMS := Lib.hid hms
      have q3 := ob.f3
      rw [← hms] at q3 hsl HS
      have Q3 := Lib.hid (fun (wz : World) (k : Nw wo wz) => k.keeps q3)
      clear ob hxs hms hio q3 hu
      go_upto_region 6 with fail
      go_loopw [6, 7, 9] (fun va vb vk wr => ∃ k : Nat, k ≤ ms ∧ vk = .int .i64 (k : Int) ∧ va = .int .i64 (oA (cnF nm (occP os i k))) ∧ vb = .int .i64 (oB (cnF nm (occP os i k))) ∧ Nw wo wr) (fun _ _ vk _ => ms - (intOf vk).toNat)
      case atStart => exact ⟨0, Nat.zero_le _, rfl, rfl, rfl, Nw.refl _⟩
      case round =>
        obtain ⟨k, hk, rfl, rfl, rfl, g⟩ := hrel
        have GZ := Lib.hid g
        have q3 := Q3.out _ g
        clear g
        by_cases hkt : k < ms
        · have hks : k < u.syms.length := by rw [← HMS.out]; exact hkt
          have hq2 : (0 : Int) ≤ (k : Int) := by omega
          have hq3 : (k : Int) < (ms : Int) := by omega
          obtain rfl : xs = _ := HXS.out (ne_nil_of_lt hks)
          have sy := sy_read HS.out ((G.out.nw GR.out).nw GZ.out) hks
          have s0 := sy.f0
          have s1 := sy.f1
          have s2 := sy.f2
          have s3 := sy.f3
          have s4 := sy.f4
          have s5 := sy.f5
          have ST := Lib.hid (occ_step HU.out hks)
          have CL := Lib.hid (fun c (hc : cnF nm (occP os i k) = some c) => cn_at hc HU.out (Nat.le_of_lt hks))
          clear sy
          generalize u.syms[k] = s at *
          obtain ⟨snm, sk, sw, sa, sz, sf⟩ := s
          dsimp only at s0 s1 s2 s3 s4 s5
          have NA := Lib.hid (Nw.new wr (.cells #[.string snm, .int .i64 sk, .bool sw, .int .i64 sa, .int .i64 sz, .int .i64 sf] 44))
          have BA := Lib.hid (Blk.new wr [.string snm, .int .i64 sk, .bool sw, .int .i64 sa, .int .i64 sz, .int .i64 sf] 44)
          have SN := Lib.hid (show cnF nm (occP os i (k + 1)) = stepC nm (cnF nm (occP os i k)) ⟨i, k, ⟨snm, sk, sw, sa, sz, sf⟩⟩ by rw [ST.out, cnF_snoc])
          clear ST
          by_cases hnm : snm = nm
          · subst hnm
            cases hc : cnF snm (occP os i k) with
            | none =>
              have RV := Lib.hid (show cnF snm (occP os i (k + 1)) = some ⟨i, k, ⟨snm, sk, sw, sa, sz, sf⟩, false⟩ by rw [SN.out, hc]; exact stepC_new rfl)
              clear SN CL hc
              simp only [oA, oB]
              go_wp2_with fail
              go_roundw
              case rel => exact ⟨k + 1, by omega, by go_num, by rw [RV.out], by rw [RV.out], GZ.out.trans NA.out⟩
              case measure => simp [intOf]; omega
            | some c0 =>
              obtain ⟨v, hv, h1, h2, h3⟩ := CL.out c0 hc
              have SN2 := Lib.hid ((SN.out.trans (by rw [hc])).trans (stepC_old (n := snm) (x := ⟨i, k, ⟨snm, sk, sw, sa, sz, sf⟩⟩) rfl c0))
              clear SN CL hc
              obtain ⟨ca, cb, csy, ct⟩ := c0
              dsimp only at hv h1 h2 h3 SN2
              simp only [oA, oB]
              have hz1 : ¬ ((ca : Nat) : Int) < 0 := by omega
              have hz2 : (0 : Int) ≤ (ca : Int) := by omega
              have hz3 : (ca : Int) < (n : Int) := by have := HN.out; omega
              have IN2 := Lib.hid ((((G.out.nw GR.out).nw GZ.out).nw NA.out))
              obtain ⟨yi, di, ys, ds, yr, dr, yc, dc', yd, dd, ob2⟩ := ob_read HO.out IN2.out hv
              obtain ⟨_, hsl2, b2, o2, hx2⟩ := ob2.hs.addr
              obtain rfl : ys = _ := hx2 (ne_nil_of_lt h2)
              have sy2 := sy_read ob2.hs IN2.out h2
              rw [h3] at sy2
              have t3 := ob2.f3
              have t2 := sy2.f2
              have hz4 : (0 : Int) ≤ (cb : Int) := by omega
              have hz5 : (cb : Int) < (v.syms.length : Int) := by omega
              clear ob2 sy2 hx2 h3 hv
              generalize v.syms.length = l2 at *
              have cA := BA.out.cell
              generalize hcw : csy.weak = cw at *
              clear hcw
              clear h2
              cases cw <;> cases sw
              all_goals
                go_wp2_with fail
                go_roundw
                case rel => exact ⟨k + 1, by omega, by go_num, by rw [SN2.out]; rfl, by rw [SN2.out]; rfl, GZ.out.trans NA.out⟩
                case measure => simp [intOf]; omega
          · obtain ⟨n1, n2, n3, n4⟩ := str_ne hnm
            have RA := Lib.hid (show oA (cnF nm (occP os i (k + 1))) = oA (cnF nm (occP os i k)) by rw [SN.out, stepC_other hnm])
            have RB := Lib.hid (show oB (cnF nm (occP os i (k + 1))) = oB (cnF nm (occP os i k)) by rw [SN.out, stepC_other hnm])
            clear SN CL
            generalize oA (cnF nm (occP os i k)) = va at *
            generalize oB (cnF nm (occP os i k)) = vb at *
            go_wp2_with fail
            go_roundw
            case rel => exact ⟨k + 1, by omega, by go_num, by rw [RA.out], by rw [RB.out], GZ.out.trans NA.out⟩
            case measure => simp [intOf]; omega
        · obtain rfl : k = ms := by omega
          have RV := Lib.hid (occ_next HU.out (Nat.le_of_eq HMS.out.symm))
          go_wp2_with fail
          go_roundw
          case rel => exact ⟨i + 1, by omega, by go_num, by rw [RV.out, HMS.out], by rw [RV.out, HMS.out], GR.out.trans GZ.out⟩
          case measure => simp [intOf]; omega
    · obtain rfl : i = n := by omega
      have RV := Lib.hid (occP_all (os := os) (i := i) (Nat.le_of_eq HN.out.symm) 0)
      rw [RV.out]
      go_wp2_with fail
      go_returns
      exact ⟨rfl, GR.out⟩
end Go.Proofs.Ytfdjlicegfgodaa
