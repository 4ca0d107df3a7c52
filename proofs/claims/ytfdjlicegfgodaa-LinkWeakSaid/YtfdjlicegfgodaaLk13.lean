/- Linking: image. -/
import Derived.Test.YtfdjlicegfgodaaLk12
import Derived.IntWalk
namespace Go.Proofs.Ytfdjlicegfgodaa
open Go.RowKit
set_option linter.unusedSimpArgs false
set_option linter.unusedVariables false

theorem Im2.start (w : World) : Im2 w.heap.size ((w.alloc (.cells #[.int .i64 0, .int .i64 0] 2)).alloc (.cells #[.slice none 0 0, .slice (some ⟨w.heap.size, 0, none⟩) 2 2, .int .i64 0] 53)) (w.heap.size + 1) [] [0, 0] none 0 (some ⟨w.heap.size, 0, none⟩) 2 := by
  have hb := Blk.new (w.alloc (.cells #[.int .i64 0, .int .i64 0] 2)) [.slice none 0 0, .slice (some ⟨w.heap.size, 0, none⟩) 2 2, .int .i64 0] 53
  rw [size_alloc] at hb
  have hd := (Blk.new w [.int .i64 0, .int .i64 0] 2).alloc (.cells #[.slice none 0 0, .slice (some ⟨w.heap.size, 0, none⟩) 2 2, .int .i64 0] 53)
  refine ⟨hb, ⟨rfl, .inl ⟨rfl, rfl⟩⟩, ⟨rfl, .inr ⟨w.heap.size, 2, #[.int .i64 0, .int .i64 0], rfl, Nat.le_refl _, hd, Nat.le_refl _, by unfold maxLen; omega, rfl, rfl⟩⟩, by simp [Value.ownBlock], ?_, by simp [Value.ownBlock], by omega⟩
  simp only [Value.ownBlock, ne_eq, Option.some.injEq]
  omega
theorem sumC_le {os : List Ob} {i : Nat} {u : Ob} (hu : os[i]? = some u) : sumC (os.take i) + u.code.length ≤ sumC os := by
  have h := sumC_snoc hu
  have e : sumC os = sumC (os.take (i + 1)) + sumC (os.drop (i + 1)) := by
    unfold sumC
    rw [← List.sum_append, ← List.map_append, List.take_append_drop]
  omega
theorem sumD_le {os : List Ob} {i : Nat} {u : Ob} (hu : os[i]? = some u) : sumD (os.take i) + u.data.length ≤ sumD os := by
  have h := sumD_snoc hu
  have e : sumD os = sumD (os.take (i + 1)) + sumD (os.drop (i + 1)) := by
    unfold sumD
    rw [← List.sum_append, ← List.map_append, List.take_append_drop]
  omega
theorem own_neBlk {w : World} {base e size n : Nat} {g c : Nat} {xs cs : List Value} {b : Nat} {t : TypeId} (h : w.ownsRow base e size (.slice (some ⟨g, 0, none⟩) n c) n xs) (hb : Blk w b cs t) (ht : t ≠ e) : g ≠ b := by
  rcases h.2 with ⟨h1, _⟩ | ⟨g', cap, cur, h1, _, h2, _⟩
  · cases h1
  · injection h1 with h3 h4 h5
    injection h3 with h3
    injection h3 with h3
    subst h3
    intro e2
    subst e2
    have := hb.symm.trans h2
    injection this with this
    injection this with h6 h7
    exact ht h7
theorem cn_stB {os : List Ob} {bg : List ByteArray} (h : symsOK os bg) {r : Re} (hr : r ∈ os.flatMap Ob.relocs) : ∃ c, cnF r.name (occs os) = some c := h.2.1 r hr
theorem cn_stC {os : List Ob} {bg : List ByteArray} (h : symsOK os bg) {b : ByteArray} (hb : b ∈ bg) : ∃ c, cnF b (occs os) = some c := by
  obtain ⟨c, h1, _⟩ := h.2.2 b hb
  exact ⟨c, h1⟩
set_option maxRecDepth 100000 in
set_option maxHeartbeats 16000000 in
theorem image_any {B : Nat} {W w : World} {os : List Ob} {bg : List ByteArray} {v vb : Value} {p mb base : Nat} {ptr : ByteArray → Option Nat} (ho : SlB B W 7 (ObAt B W) os v) (hb : SlB B W 1 StrAt2 bg vb) (h : In B W w) (hL : LkAt w p v vb mb bg.length) (hcl : Coll os bg.length base w mb ptr (occs os)) (hval : ∀ o ∈ os, codeV o = 0) (hok : symsOK os bg) (hlm : ¬ limP os bg.length) :
    Calls Try.prog 54 #[.pointer (some ⟨p, 0, none⟩)] w fun e w' => ∃ x c y d, e = .returned (.agg #[.slice x (imgC os bg).length c, .slice y (imgD os bg).length d, .int .i64 0]) ∧ w'.ownsRow w.heap.size 2 1 (.slice x (imgC os bg).length c) (imgC os bg).length (wdV (imgC os bg)) ∧ w'.ownsRow w.heap.size 2 1 (.slice y (imgD os bg).length d) (imgD os bg).length (wdV (imgD os bg)) ∧ Nw w w' := by
  obtain ⟨x, cp, rfl, ho, hl⟩ := ho.sl
  obtain ⟨_, _, b, o, hx⟩ := ho.addr
  obtain ⟨xb, cb, rfl, hb, hlb⟩ := hb.sl
  obtain ⟨_, _, bb, ob, hxb⟩ := hb.addr
  have HO := Lib.hid ho
  have HX := Lib.hid hx
  have HB := Lib.hid hb
  have HXB := Lib.hid hxb
  have G := Lib.hid h
  have CL := Lib.hid hcl
  have VAL := Lib.hid hval
  have HOK := Lib.hid hok
  have HLM := Lib.hid (show bg.length ≤ 1000 ∧ bg.length + 1 + sumC os ≤ 65536 ∧ 2 + sumD os ≤ 16384 by unfold limP at hlm; omega)
  obtain ⟨n, hn⟩ : ∃ n, n = os.length := ⟨_, rfl⟩
  rw [← hn] at hl HO hL
  obtain ⟨nb, hnb⟩ : ∃ n, n = bg.length := ⟨_, rfl⟩
  rw [← hnb] at hlb HB hL CL HLM
  have HN := Lib.hid hn
  have HNB := Lib.hid hnb
  have LK := Lib.hid (fun (wz : World) (k : Nw w wz) => hL.nw k)
  have hmf : ∀ (fn : Fn) (first cap : Array Value) (w : World), (Instr.makeFunc fn first cap).run Try.prog w = .ok (.func fn first cap) w := fun _ _ _ _ => rfl
  have hmk : ∀ (w : World), (Instr.makeSlice 25 (.int .i64 2) (.int .i64 2)).run Try.prog w = .ok (.slice (some ⟨w.heap.size, 0, none⟩) 2 2) (w.alloc (.cells #[.int .i64 0, .int .i64 0] 2)) := fun w => by kernel_rfl
  have hnb1 : (nb : Int) ≤ 1000 := by have := HLM.out.1; omega
  have NB0 := Lib.hid (Nw.new w (.cells #[.slice none 0 0, .slice none 0 0, .int .i64 0] 53))
  have BR0 := Lib.hid (Blk.new w [.slice none 0 0, .slice none 0 0, .int .i64 0] 53)
  clear ho hx h hn hb hxb hnb hcl hL hval hok hlm
  go_enter Try.func54, Try.ntmps54
  go_upto_region 1 with fail
  have hrl := BR0.out.lt
  generalize w.alloc (.cells #[.slice none 0 0, .slice none 0 0, .int .i64 0] 53) = wB at *
  obtain ⟨r, hr⟩ : ∃ r, r = w.heap.size := ⟨_, rfl⟩
  rw [← hr] at BR0 hrl ⊢
  have HR := Lib.hid hr
  clear hr
  have I0 := Lib.hid (Im2.start wB)
  have N1 := Lib.hid (((Nw.refl wB).alloc (.cells #[.int .i64 0, .int .i64 0] 2)).alloc (.cells #[.slice none 0 0, .slice (some ⟨wB.heap.size, 0, none⟩) 2 2, .int .i64 0] 53))
  have LKB := Lib.hid (fun (wz : World) (k : Nw wB wz) => LK.out wz (NB0.out.trans k))
  have GB := Lib.hid (G.out.nw NB0.out)
  have CLB := Lib.hid (CL.out.nw NB0.out)
  have c1 : wB.cell? ⟨p, 1, none⟩ = some (.slice xb nb cb) := (LKB.out _ (Nw.refl _)).cell 1
  have c1' := N1.out.keeps c1
  have HRL := Lib.hid hrl
  clear c1 hrl LK G CL
  go_upto_region 4 with fail
  generalize (wB.alloc (.cells #[.int .i64 0, .int .i64 0] 2)).alloc (.cells #[.slice none 0 0, .slice (some ⟨wB.heap.size, 0, none⟩) 2 2, .int .i64 0] 53) = w1 at *
  obtain ⟨q, hq⟩ : ∃ q, q = wB.heap.size + 1 := ⟨_, rfl⟩
  rw [← hq] at I0 ⊢
  obtain ⟨g0, hg0⟩ : ∃ g0, g0 = wB.heap.size := ⟨_, rfl⟩
  rw [← hg0] at I0 ⊢
  have I0' := Lib.hid (show Im2 wB.heap.size w1 q [] [0, 0] none 0 (some ⟨g0, 0, none⟩) 2 by have := I0.out; rw [hg0] at this; rw [hg0]; exact this)
  clear hq c1' hmk I0 hg0
  go_loopw [24] (fun vk wr => ∃ (k : Nat) (xc : Option Addr) (cc : Nat), k ≤ nb ∧ vk = .int .i64 (k : Int) ∧ Im2 wB.heap.size wr q ((bg.take k).map (fun b => encV 10 0 0 0 (placeN os nb b))) [0, 0] xc cc (some ⟨g0, 0, none⟩) 2 ∧ Nw wB wr) (fun vk _ => nb - (intOf vk).toNat)
  case atStart => exact ⟨0, none, 0, Nat.zero_le _, rfl, I0'.out, N1.out⟩
  case round =>
    clear I0' N1
    obtain ⟨k, xc, cc, hk, rfl, im, g⟩ := hrel
    have IM := Lib.hid im
    have GN := Lib.hid g
    clear im g
    rename World => wo
    by_cases hkt : k < nb
    · have hks : k < bg.length := by have := HNB.out; omega
      have hq2 : (0 : Int) ≤ (k : Int) := by omega
      have hq3 : (k : Int) < (nb : Int) := by omega
      obtain rfl : xb = _ := HXB.out (ne_nil_of_lt hks)
      obtain ⟨s0, hfit⟩ := str_read HB.out (GB.out.nw GN.out) hks
      have ST := Lib.hid (List.take_succ_eq_append_getElem hks)
      have MI := Lib.hid (List.getElem_mem hks)
      generalize bg[k] = bn at *
      have c2 : wo.cell? ⟨p, 2, none⟩ = some (.map (some mb)) := (LKB.out _ GN.out).cell 2
      obtain ⟨c, hc⟩ := cn_stC HOK.out MI.out
      obtain ⟨b1, hp, hbk⟩ := (CLB.out.nw GN.out).value hc
      have ELK := Lib.hid ((CLB.out.nw GN.out).look hfit hp)
      simp only [Option.map_some] at ELK
      have k3 : wo.cell? ⟨b1, 3, none⟩ = some (.int .i64 (placeC os nb c)) := hbk.cell 3
      have PN := Lib.hid (placeN_some (nb := nb) hc)
      generalize placeC os nb c = pl at *
      have PU := Lib.hid (put_any (w0 := wB) IM.out GN.out (by rw [List.length_map, List.length_take]; omega) 10 0 0 0 pl (by omega))
      clear hc MI hfit hbk hp
      go_wp2_with (at_lookup; refine wpList_look_run _ rfl _ _ _ rfl _ _ _ rfl rfl ELK.out ?_)
      refine PU.out.mono ?_
      rintro e1 w2 ⟨rfl, x', c', im2, g2⟩
      have IM2 := Lib.hid (show Im2 wB.heap.size w2 q ((bg.take (k + 1)).map (fun b => encV 10 0 0 0 (placeN os nb b))) [0, 0] x' c' (some ⟨g0, 0, none⟩) 2 by
        rw [ST.out, List.map_append]
        simp only [List.map_cons, List.map_nil]
        rw [PN.out]
        exact im2)
      have GN2 := Lib.hid g2
      clear im2 g2
      go_wp2_with fail
      go_roundw
      case rel => exact ⟨k + 1, x', c', by omega, by go_num, IM2.out, GN2.out⟩
      case measure => simp [intOf]; omega
    · have IM1 := Lib.hid (show Im2 wB.heap.size wo q (bg.map (fun b => encV 10 0 0 0 (placeN os nb b))) [0, 0] xc cc (some ⟨g0, 0, none⟩) 2 by
        have := IM.out
        rw [List.take_of_length_le (by have := HNB.out; omega)] at this
        exact this)
      have PU := Lib.hid (put_any (w0 := wB) IM1.out GN.out (by rw [List.length_map]; have := HNB.out; omega) 0 0 0 0 0 (by omega))
      clear IM
      go_wp2_with fail
      refine PU.out.mono ?_
      rintro e1 w2 ⟨rfl, x', c', im2, g2⟩
      have IM2 := Lib.hid (show Im2 wB.heap.size w2 q (codeH os nb bg ++ codeF os nb (os.take 0)) ([0, 0] ++ dataF os nb (os.take 0)) x' c' (some ⟨g0, 0, none⟩) 2 by
        have e1 : codeH os nb bg ++ codeF os nb (os.take 0) = bg.map (fun b => encV 10 0 0 0 (placeN os nb b)) ++ [encV 0 0 0 0 0] := by simp [codeH, codeF]
        have e2 : ([0, 0] : List Int) ++ dataF os nb (os.take 0) = [0, 0] := by simp [dataF]
        rw [e1, e2]
        exact im2)
      have GN2 := Lib.hid g2
      have c0 : w2.cell? ⟨p, 0, none⟩ = some (.slice x n cp) := (LKB.out _ g2).cell 0
      clear im2 g2 IM1 PU GN hmf
      go_upto_region 10 with fail
      clear c0
      go_loopw [50] (fun vi wr => ∃ (i : Nat) (xc : Option Addr) (cc : Nat) (xd : Option Addr) (cd : Nat), i ≤ n ∧ vi = .int .i64 (i : Int) ∧ Im2 wB.heap.size wr q (codeH os nb bg ++ codeF os nb (os.take i)) ([0, 0] ++ dataF os nb (os.take i)) xc cc xd cd ∧ Nw wB wr) (fun vi _ => n - (intOf vi).toNat)
      case atStart => exact ⟨0, x', c', _, 2, Nat.zero_le _, rfl, IM2.out, GN2.out⟩
      case round =>
        clear IM2 GN2
        obtain ⟨i, xc, cc, xd, cd, hi, rfl, im, g⟩ := hrel
        have IM := Lib.hid im
        have GN := Lib.hid g
        clear im g
        rename World => wo2
        by_cases hlt : i < n
        · have hio : i < os.length := by have := HN.out; omega
          obtain ⟨u, hu⟩ : ∃ u, os[i]? = some u := ⟨_, List.getElem?_eq_getElem hio⟩
          have HU := Lib.hid hu
          have hq0 : (0 : Int) ≤ (i : Int) := by omega
          have hq1 : (i : Int) < (n : Int) := by omega
          obtain rfl : x = _ := HX.out (ne_nil_of_lt hio)
          obtain ⟨xi, ci', xs, cs, xr, cr, xuc, cuc, xud, cud, ob1⟩ := ob_read HO.out (GB.out.nw GN.out) hu
          have q0 := ob1.f0
          have q1 := ob1.f1
          have q2 := ob1.f2
          have q3 := ob1.f3
          have q4 := ob1.f4
          have q5 := ob1.f5
          have q6 := ob1.f6
          have HVU := Lib.hid (VAL.out u (List.mem_of_getElem? hu))
          have HCD := Lib.hid ob1.hc
          have HDD := Lib.hid ob1.hd
          have HRS := Lib.hid ob1.hr
          obtain ⟨_, hrl, br, or', hxr⟩ := ob1.hr.addr
          have HXR := Lib.hid hxr
          obtain ⟨_, hclen, bc, oc', hxc⟩ := ob1.hc.addr
          have HXC := Lib.hid hxc
          obtain ⟨m5, hm5⟩ : ∃ m5, m5 = u.code.length := ⟨_, rfl⟩
          obtain ⟨m6, hm6⟩ : ∃ m6, m6 = u.data.length := ⟨_, rfl⟩
          obtain ⟨mr, hmr⟩ : ∃ mr, mr = u.relocs.length := ⟨_, rfl⟩
          have SNC := Lib.hid (codeF_snoc (nb := nb) hu)
          have SND := Lib.hid (dataF_snoc (nb := nb) hu)
          have LC := Lib.hid (sumC_le hu)
          have LD := Lib.hid (sumD_le hu)
          rw [← hm5] at q5 HCD LC
          rw [← hm6] at q6 HDD LD
          rw [← hmr] at q4 HRS hrl
          have HM5 := Lib.hid hm5
          have HM6 := Lib.hid hm6
          have HMR := Lib.hid hmr
          clear ob1 hio hxr hxc hm5 hm6 hmr hu
          obtain ⟨ml, hml⟩ : ∃ ml, ml = (codeH os nb bg ++ codeF os nb (os.take i)).length := ⟨_, rfl⟩
          obtain ⟨md, hmd⟩ : ∃ md, md = ([0, 0] ++ dataF os nb (os.take i)).length := ⟨_, rfl⟩
          have HML := Lib.hid hml
          have HMD := Lib.hid hmd
          rw [List.length_append, codeH_len, codeF_len] at hml
          rw [List.length_append, dataF_len] at hmd
          simp only [List.length_cons, List.length_nil] at hmd
          have bl1 : (ml : Int) + (m5 : Int) ≤ 65536 := by have := HLM.out; have := LC.out; have := HNB.out; omega
          have bl2 : (md : Int) + (m6 : Int) ≤ 16384 := by have := HLM.out; have := LD.out; omega
          have bl3 : 0 < ml := by omega
          have bl4 : 0 < md := by omega
          obtain ⟨CI, hCI⟩ : ∃ CI, CI = codeH os nb bg ++ codeF os nb (os.take i) := ⟨_, rfl⟩
          obtain ⟨DI, hDI⟩ : ∃ DI, DI = [0, 0] ++ dataF os nb (os.take i) := ⟨_, rfl⟩
          rw [← hCI] at HML
          rw [← hDI] at HMD
          rw [← hCI, ← hDI] at IM
          have HCI := Lib.hid hCI.symm
          have HDI := Lib.hid hDI.symm
          clear hCI hDI
          obtain ⟨gc, rfl⟩ := own_some IM.out.oc (by rw [← HML.out]; exact bl3)
          obtain ⟨gd, rfl⟩ := own_some IM.out.od (by rw [← HMD.out]; exact bl4)
          clear hml hmd
          generalize u.pkg = upk at *
          generalize u.hash = uh at *
          generalize u.imports.length = m2 at *
          generalize u.syms.length = m3 at *
          have NA := Lib.hid (Nw.new wo2 (.cells #[.string upk, .int .i64 uh, .slice xi m2 ci', .slice xs m3 cs, .slice xr mr cr, .slice xuc m5 cuc, .slice xud m6 cud] 27))
          have BA := Lib.hid (Blk.new wo2 [.string upk, .int .i64 uh, .slice xi m2 ci', .slice xs m3 cs, .slice xr mr cr, .slice xuc m5 cuc, .slice xud m6 cud] 27)
          go_upto_region 12 with fail
          have IMA := Lib.hid (IM.out.nw NA.out)
          have GA := Lib.hid (GN.out.trans NA.out)
          generalize wo2.alloc (.cells #[.string upk, .int .i64 uh, .slice xi m2 ci', .slice xs m3 cs, .slice xr mr cr, .slice xuc m5 cuc, .slice xud m6 cud] 27) = wA at *
          generalize wo2.heap.size = bo at *
          clear q0 q1 q2 q3 q4 q5 q6 NA IM GN
          have FC := Lib.hid (fun (wz : World) (k : Nw wA wz) => (show wz.cell? ⟨q, 0, none⟩ = some (.slice (some ⟨gc, 0, none⟩) ml cc) ∧ wz.cell? ⟨q, 1, none⟩ = some (.slice (some ⟨gd, 0, none⟩) md cd) by
            rw [HML.out, HMD.out]; exact ⟨(IMA.out.nw k).blk.cell 0, (IMA.out.nw k).blk.cell 1⟩))
          go_wp2_with fail
          go_region_held3 (fun wz => wz.cell? ⟨q, 0, none⟩ = some (.slice (some ⟨gc, 0, none⟩) ml cc) ∧ wz.cell? ⟨q, 1, none⟩ = some (.slice (some ⟨gd, 0, none⟩) md cd))
            (exact FC.out _ (by first | assumption | exact (Nw.refl _).drew | exact Nw.refl _))
            (fail)
          rename_i hHeld
          clear hHeld
          obtain ⟨wD, hwD⟩ : ∃ wD, wD = wA.drew := ⟨_, rfl⟩
          rw [← hwD]
          have ND := Lib.hid (show Nw wA wD by rw [hwD]; exact (Nw.refl _).drew)
          clear hwD
          have IMD := Lib.hid (IMA.out.nw ND.out)
          have GD := Lib.hid (GA.out.trans ND.out)
          have BD := Lib.hid (BA.out.nw ND.out)
          have c0 := (FC.out _ ND.out).1
          have cB := BD.out.cell
          clear FC IMA GA BA
          have OWC := Lib.hid (show wD.ownsRow wB.heap.size 2 1 (.slice (some ⟨gc, 0, none⟩) ml cc) ml (wdV CI) by rw [HML.out]; exact IMD.out.oc)
          have SRC := Lib.hid (words_src HCD.out (GB.out.nw GD.out))
          have ARM := Lib.hid (fun (x' : Option Addr) (c' : Nat) (w3 : World) (ho : w3.ownsRow wB.heap.size 2 1 (.slice x' (ml + m5) c') (ml + m5) (wdV CI ++ wdV u.code)) (hg : wD.grownBy w3 (some gc)) (hl : (Value.slice x' (ml + m5) c').ownBlock = some gc ∨ (Value.slice x' (ml + m5) c').ownBlock = some wD.heap.size) =>
            (show Im2 wB.heap.size (w3.setCell ⟨q, 0, none⟩ (.slice x' (ml + m5) c')) q (CI ++ u.code) DI x' c' (some ⟨gd, 0, none⟩) cd ∧ Nw wB (w3.setCell ⟨q, 0, none⟩ (.slice x' (ml + m5) c')) ∧ Blk (w3.setCell ⟨q, 0, none⟩ (.slice x' (ml + m5) c')) bo [.string upk, .int .i64 uh, .slice xi m2 ci', .slice xs m3 cs, .slice xr mr cr, .slice xuc m5 cuc, .slice xud m6 cud] 27 ∧ w3.frozen? ⟨q, 0, none⟩ = false ∧ w3.cell? ⟨q, 0, none⟩ = some (.slice (some ⟨gc, 0, none⟩) ml cc) from by
              have hm := HML.out
              subst hm
              have kq := grown_kp hg
              have nq : ¬ some gc = some q := IMD.out.qc
              refine ⟨Im2.appC IMD.out (ns := u.code) HM5.out.symm ho hg hl, ?_, ?_, (IMD.out.blk.kp kq nq).frozen 0, (IMD.out.blk.kp kq nq).cell 0⟩
              · exact nw_setNew (grown_nw GD.out hg (fun g hg => own_block IMD.out.oc g hg)) IMD.out.bq (kp_one w3 q 0 _)
              · exact (BD.out.kp kq (fun e => own_neBlk IMD.out.oc BD.out (by decide) (by injection e))).kp (kp_one w3 q 0 _) (fun e => BD.out.ne IMD.out.blk (by simp) e)))
          have H63 := Lib.hid (show ml + m5 ≤ maxLen by unfold maxLen; omega)
          have HBY := Lib.hid (show (ml + m5) * 8 ≤ 140737488355328 by omega)
          have HBS := Lib.hid GD.out.size
          go_upto_region 14 with (at_builtin; refine wpList_app64 _ rfl (.tmp 61) (.tmp 63) rfl rfl wB.heap.size gc ml cc (wdV CI) rfl OWC.out xuc m5 cuc u.code rfl HM5.out.symm SRC.out H63.out HBY.out HBS.out ?_; intro x1 c1 w3 ho hg hl'; obtain ⟨q1, q2, q3, zq, cq⟩ := ARM.out x1 c1 w3 ho hg hl'; have IM3 := Lib.hid q1; have GN3 := Lib.hid q2; have BO3 := Lib.hid q3; clear ho hg hl' q1 q2 q3)
          generalize w3.setCell ⟨q, 0, none⟩ (.slice x1 (ml + m5) c1) = wE at *
          clear ARM OWC SRC H63 HBY HBS cq zq c0 cB IMD GD BD
          have c1q : wE.cell? ⟨q, 1, none⟩ = some (.slice (some ⟨gd, 0, none⟩) md cd) := by rw [HMD.out]; exact IM3.out.blk.cell 1
          have cB := BO3.out.cell
          have OWD := Lib.hid (show wE.ownsRow wB.heap.size 2 1 (.slice (some ⟨gd, 0, none⟩) md cd) md (wdV DI) by rw [HMD.out]; exact IM3.out.od)
          have SRC := Lib.hid (words_src HDD.out (GB.out.nw GN3.out))
          have ARM := Lib.hid (fun (x' : Option Addr) (c' : Nat) (w4 : World) (ho : w4.ownsRow wB.heap.size 2 1 (.slice x' (md + m6) c') (md + m6) (wdV DI ++ wdV u.data)) (hg : wE.grownBy w4 (some gd)) (hl : (Value.slice x' (md + m6) c').ownBlock = some gd ∨ (Value.slice x' (md + m6) c').ownBlock = some wE.heap.size) =>
            (show Im2 wB.heap.size (w4.setCell ⟨q, 1, none⟩ (.slice x' (md + m6) c')) q (CI ++ u.code) (DI ++ u.data) x1 c1 x' c' ∧ Nw wB (w4.setCell ⟨q, 1, none⟩ (.slice x' (md + m6) c')) ∧ Blk (w4.setCell ⟨q, 1, none⟩ (.slice x' (md + m6) c')) bo [.string upk, .int .i64 uh, .slice xi m2 ci', .slice xs m3 cs, .slice xr mr cr, .slice xuc m5 cuc, .slice xud m6 cud] 27 ∧ w4.frozen? ⟨q, 1, none⟩ = false ∧ w4.cell? ⟨q, 1, none⟩ = some (.slice (some ⟨gd, 0, none⟩) md cd) from by
              have hm := HMD.out
              subst hm
              have kq := grown_kp hg
              have nq : ¬ some gd = some q := IM3.out.qd
              refine ⟨Im2.appD IM3.out (ns := u.data) HM6.out.symm ho hg hl, ?_, ?_, (IM3.out.blk.kp kq nq).frozen 1, (IM3.out.blk.kp kq nq).cell 1⟩
              · exact nw_setNew (grown_nw GN3.out hg (fun g hg => own_block IM3.out.od g hg)) IM3.out.bq (kp_one w4 q 1 _)
              · exact (BO3.out.kp kq (fun e => own_neBlk IM3.out.od BO3.out (by decide) (by injection e))).kp (kp_one w4 q 1 _) (fun e => BO3.out.ne IM3.out.blk (by simp) e)))
          have H63 := Lib.hid (show md + m6 ≤ maxLen by unfold maxLen; omega)
          have HBY := Lib.hid (show (md + m6) * 8 ≤ 140737488355328 by omega)
          have HBS := Lib.hid GN3.out.size
          go_upto_region 15 with (at_builtin; refine wpList_app64 _ rfl (.tmp 67) (.tmp 69) rfl rfl wB.heap.size gd md cd (wdV DI) rfl OWD.out xud m6 cud u.data rfl HM6.out.symm SRC.out H63.out HBY.out HBS.out ?_; intro y1 d1 w4 ho hg hl'; obtain ⟨q1, q2, q3, zq, cq⟩ := ARM.out y1 d1 w4 ho hg hl'; have IM4 := Lib.hid q1; have GN4 := Lib.hid q2; have BO4 := Lib.hid q3; clear ho hg hl' q1 q2 q3)
          generalize w4.setCell ⟨q, 1, none⟩ (.slice y1 (md + m6) d1) = wF at *
          clear ARM OWD SRC H63 HBY HBS cq zq c1q cB IM3 GN3 BO3
          obtain ⟨mlx, hmlx⟩ : ∃ z, z = ml + m5 := ⟨_, rfl⟩
          obtain ⟨mdx, hmdx⟩ : ∃ z, z = md + m6 := ⟨_, rfl⟩
          have HLX := Lib.hid (show mlx = (CI ++ u.code).length by rw [List.length_append, hmlx, HML.out, HM5.out])
          have HDX := Lib.hid (show mdx = (DI ++ u.data).length by rw [List.length_append, hmdx, HMD.out, HM6.out])
          obtain ⟨gc2, rfl⟩ := own_some IM4.out.oc (by rw [← HLX.out]; omega)
          obtain ⟨gd2, rfl⟩ := own_some IM4.out.od (by rw [← HDX.out]; omega)
          have FLC := Lib.hid (fun k => (show mlx = (CI ++ fixC os nb u.code (u.relocs.take k)).length by rw [List.length_append, fixC_len, HLX.out, List.length_append]))
          have FLD := Lib.hid (fun k => (show mdx = (DI ++ fixD os nb u.data (u.relocs.take k)).length by rw [List.length_append, fixD_len, HDX.out, List.length_append]))
          have bx1 : (mlx : Int) = (ml : Int) + (m5 : Int) := by omega
          have bx2 : (mdx : Int) = (md : Int) + (m6 : Int) := by omega
          have HBX1 := Lib.hid bx1
          have HBX2 := Lib.hid bx2
          clear hmlx hmdx bx1 bx2
          have cB := BO4.out.cell
          go_upto_region 16 with fail
          clear cB
          go_loopw [75] (fun vk wr => ∃ k : Nat, k ≤ mr ∧ vk = .int .i64 (k : Int) ∧ Im2 wB.heap.size wr q (CI ++ fixC os nb u.code (u.relocs.take k)) (DI ++ fixD os nb u.data (u.relocs.take k)) (some ⟨gc2, 0, none⟩) c1 (some ⟨gd2, 0, none⟩) d1 ∧ Blk wr bo [.string upk, .int .i64 uh, .slice xi m2 ci', .slice xs m3 cs, .slice xr mr cr, .slice xuc m5 cuc, .slice xud m6 cud] 27 ∧ Nw wB wr) (fun vk _ => mr - (intOf vk).toNat)
          case atStart => exact ⟨0, Nat.zero_le _, rfl, by rw [List.take_zero, fixC_nil, fixD_nil]; exact IM4.out, BO4.out, GN4.out⟩
          case round =>
            clear IM4 BO4 GN4
            obtain ⟨k, hk, rfl, im, hbo, g⟩ := hrel
            have IM := Lib.hid im
            have BO := Lib.hid hbo
            have GK := Lib.hid g
            clear im hbo g
            by_cases hkt : k < mr
            · have hks : k < u.relocs.length := by have := HMR.out; omega
              have hq2 : (0 : Int) ≤ (k : Int) := by omega
              have hq3 : (k : Int) < (mr : Int) := by omega
              obtain rfl : xr = _ := HXR.out (ne_nil_of_lt hks)
              have sy := re_read HRS.out (GB.out.nw GK.out) hks
              have s0 := sy.f0
              have s1 := sy.f1
              have s2 := sy.f2
              have HFIT := Lib.hid sy.hn
              have TK := Lib.hid (List.take_succ_eq_append_getElem hks)
              obtain ⟨ja, hja, hjd, hjc⟩ := rel_ok HVU.out (List.getElem_mem hks)
              obtain ⟨cn, hcn⟩ := cn_stB HOK.out (flP_sub (f := Ob.relocs) HU.out (List.getElem_mem hks))
              clear sy
              generalize u.relocs[k] = s at *
              obtain ⟨rd, ra, rn⟩ := s
              dsimp only at s0 s1 s2 HFIT hja hjd hjc hcn
              subst hja
              have JD := Lib.hid hjd
              have JC := Lib.hid hjc
              have PN := Lib.hid (placeN_some (nb := nb) hcn)
              have FSC := Lib.hid (show fixC os nb u.code (u.relocs.take (k + 1)) = fixC1 os nb u.code (fixC os nb u.code (u.relocs.take k)) ⟨rd, (ja : Int), rn⟩ by rw [TK.out, fixC_snoc])
              have FSD := Lib.hid (show fixD os nb u.data (u.relocs.take (k + 1)) = fixD1 os nb (fixD os nb u.data (u.relocs.take k)) ⟨rd, (ja : Int), rn⟩ by rw [TK.out, fixD_snoc])
              have NX := Lib.hid (Nw.new wr (.cells #[.bool rd, .int .i64 (ja : Int), .string rn] 64))
              have BX := Lib.hid (Blk.new wr [.bool rd, .int .i64 (ja : Int), .string rn] 64)
              clear hjd hjc TK
              go_upto_region 18 with fail
              generalize wr.heap.size = bx at *
              have IMX := Lib.hid (IM.out.nw NX.out)
              have BOX := Lib.hid (BO.out.nw NX.out)
              have GX := Lib.hid (GK.out.trans NX.out)
              generalize wr.alloc (.cells #[.bool rd, .int .i64 (ja : Int), .string rn] 64) = wX at *
              clear s0 s1 s2 NX IM BO GK
              obtain ⟨b1, hp, hbk⟩ := (CLB.out.nw GX.out).value hcn
              have FC := Lib.hid (fun (wz : World) (k : Nw wX wz) => (⟨(LKB.out _ (GX.out.trans k)).cell 2, (BX.out.nw k).cell 2, (hbk.nw k).cell 3, (CLB.out.nw (GX.out.trans k)).look HFIT.out hp⟩ : wz.cell? ⟨p, 2, none⟩ = some (.map (some mb)) ∧ wz.cell? ⟨bx, 2, none⟩ = some (.string rn) ∧ wz.cell? ⟨b1, 3, none⟩ = some (.int .i64 (placeC os nb cn)) ∧ (Instr.lookup 93 (.map (some mb)) (.string rn) false).run Try.prog wz = .ok (.pointer (some ⟨b1, 0, none⟩)) wz))
              clear hcn hbk hp
              generalize placeC os nb cn = pl at *
              go_wp2_with fail
              go_region_held3 (fun wz => wz.cell? ⟨p, 2, none⟩ = some (.map (some mb)) ∧ wz.cell? ⟨bx, 2, none⟩ = some (.string rn) ∧ wz.cell? ⟨b1, 3, none⟩ = some (.int .i64 pl) ∧ (Instr.lookup 93 (.map (some mb)) (.string rn) false).run Try.prog wz = .ok (.pointer (some ⟨b1, 0, none⟩)) wz)
                (exact FC.out _ (by first | assumption | exact (Nw.refl _).drew | exact Nw.refl _))
                (fail)
              rename_i hHeld
              clear hHeld
              obtain ⟨wD, hwD⟩ : ∃ wD, wD = wX.drew := ⟨_, rfl⟩
              rw [← hwD]
              have ND := Lib.hid (show Nw wX wD by rw [hwD]; exact (Nw.refl _).drew)
              clear hwD FC
              have IMD := Lib.hid (IMX.out.nw ND.out)
              have BOD := Lib.hid (BOX.out.nw ND.out)
              have BXD := Lib.hid (BX.out.nw ND.out)
              have GD := Lib.hid (GX.out.trans ND.out)
              clear IMX BOX BX GX
              cases rd with
              | true =>
                have hjl : ja < m6 := by have := JD.out rfl; have := HM6.out; omega
                have hj0 : 0 ≤ (md : Int) + (ja : Int) := by omega
                have hj1 : (md : Int) + (ja : Int) < (mdx : Int) := by have := HBX2.out; omega
                have hj2 : ((md : Int) + (ja : Int)).toNat = md + ja := by omega
                have hji : (ja : Int) ≤ 16384 := by omega
                have c1q : wD.cell? ⟨q, 1, none⟩ = some (.slice (some ⟨gd2, 0, none⟩) mdx d1) := by rw [FLD.out k]; exact IMD.out.blk.cell 1
                have cX := BXD.out.cell
                have ce := own_cell IMD.out.od (j := md + ja) (by rw [← FLD.out k]; omega)
                have ze := IMD.out.od.frozenAt (md + ja)
                have FN := Lib.hid (show Im2 wB.heap.size (wD.setCell ⟨gd2, md + ja, none⟩ (.int .i64 pl)) q (CI ++ fixC os nb u.code (u.relocs.take (k + 1))) (DI ++ fixD os nb u.data (u.relocs.take (k + 1))) (some ⟨gc2, 0, none⟩) c1 (some ⟨gd2, 0, none⟩) d1 from by
                  have := IMD.out.putD (md + ja) pl
                  rw [FSC.out, FSD.out]
                  unfold fixC1 fixD1
                  simp only [if_true, Int.toNat_natCast]
                  rw [PN.out]
                  rw [set_app HMD.out] at this
                  exact this)
                have BON := Lib.hid (BOD.out.kp (kp_one wD gd2 (md + ja) (.int .i64 pl)) (fun e => own_neBlk IMD.out.od BOD.out (by decide) e.symm))
                have GNN := Lib.hid (nw_setNew GD.out (own_block IMD.out.od gd2 rfl) (kp_one wD gd2 (md + ja) (.int .i64 pl)))
                clear FSC FSD JD JC PN
                generalize (DI ++ fixD os nb u.data (u.relocs.take k))[md + ja]'_ = ev at *
                go_wp2_with fail
                go_roundw
                case rel => exact ⟨k + 1, by omega, by go_num, FN.out, BON.out, GNN.out⟩
                case measure => simp [intOf]; omega
              | false =>
                obtain ⟨hjl, hokw⟩ := JC.out rfl
                have hjm : ja < m5 := by have := HM5.out; omega
                obtain rfl : xuc = _ := HXC.out (ne_nil_of_lt hjl)
                obtain ⟨cv, hi64⟩ := wd_read HCD.out (GB.out.nw GD.out) hjl
                have GV := Lib.hid (show u.code.getD ja 0 = u.code[ja] by simp [List.getD_eq_getElem?_getD, List.getElem?_eq_getElem hjl])
                generalize u.code[ja]'hjl = wv at *
                have DE := Lib.hid (isaDecode_ok (w := wD) hi64 hokw)
                have OPR := Lib.hid (opW_range wv)
                have FW := Lib.hid (show fixW wv pl = encV (opW wv) (aW wv) (bW wv) (cW wv) pl from rfl)
                generalize opW wv = vo at *
                generalize aW wv = va at *
                generalize bW wv = vbb at *
                generalize cW wv = vcc at *
                generalize nW wv = vn at *
                have hj0 : 0 ≤ (ml : Int) + (ja : Int) := by omega
                have hj1 : (ml : Int) + (ja : Int) < (mlx : Int) := by have := HBX1.out; omega
                have hj2 : ((ml : Int) + (ja : Int)).toNat = ml + ja := by omega
                have hja0 : (0 : Int) ≤ (ja : Int) := by omega
                have hja1 : (ja : Int) < (m5 : Int) := by omega
                have hji : (ja : Int) ≤ 65536 := by omega
                have cX := BXD.out.cell
                have cB := BOD.out.cell
                clear hokw hi64 JC JD
                go_wp2_with fail
                refine DE.out.mono ?_
                rintro e1 w2 ⟨rfl, k2⟩
                have K2 := Lib.hid k2
                have NI := Lib.hid (k2.alloc (.cells #[.int .i64 vo, .int .i64 va, .int .i64 vbb, .int .i64 vcc, .int .i64 vn] 100))
                have BI := Lib.hid (Blk.new w2 [.int .i64 vo, .int .i64 va, .int .i64 vbb, .int .i64 vcc, .int .i64 vn] 100)
                clear k2 cX cB cv DE
                go_upto_region 22 with fail
                have HBI := Lib.hid (show wD.heap.size ≤ w2.heap.size from K2.out.size)
                generalize w2.alloc (.cells #[.int .i64 vo, .int .i64 va, .int .i64 vbb, .int .i64 vcc, .int .i64 vn] 100) = wI at *
                generalize w2.heap.size = bi at *
                have cI := BI.out.cell
                have zI := BI.out.frozen
                have BJ := Lib.hid (show Blk (wI.setCell ⟨bi, 4, none⟩ (.int .i64 pl)) bi [.int .i64 vo, .int .i64 va, .int .i64 vbb, .int .i64 vcc, .int .i64 pl] 100 from BI.out.set 4 (.int .i64 pl))
                have NJ := Lib.hid (show Nw wD (wI.setCell ⟨bi, 4, none⟩ (.int .i64 pl)) from nw_setNew NI.out HBI.out (kp_one wI bi 4 _))
                go_upto_region 23 with fail
                generalize wI.setCell ⟨bi, 4, none⟩ (.int .i64 pl) = wJ at *
                have IMJ := Lib.hid (IMD.out.nw NJ.out)
                have BXJ := Lib.hid (BXD.out.nw NJ.out)
                have BOJ := Lib.hid (BOD.out.nw NJ.out)
                have GJ := Lib.hid (GD.out.trans NJ.out)
                clear cI zI BI NI HBI IMD BXD BOD GD NJ K2
                have FS := Lib.hid (fun (wz : World) (k1 : Nw wJ wz) => (show wz.cell? ⟨q, 0, none⟩ = some (.slice (some ⟨gc2, 0, none⟩) mlx c1) ∧ wz.cell? ⟨bx, 1, none⟩ = some (.int .i64 (ja : Int)) ∧ wz.cell? ⟨bi, 0, none⟩ = some (.int .i64 vo) ∧ wz.cell? ⟨bi, 1, none⟩ = some (.int .i64 va) ∧ wz.cell? ⟨bi, 2, none⟩ = some (.int .i64 vbb) ∧ wz.cell? ⟨bi, 3, none⟩ = some (.int .i64 vcc) ∧ wz.cell? ⟨bi, 4, none⟩ = some (.int .i64 pl) by
                  refine ⟨?_, (BXJ.out.nw k1).cell 1, (BJ.out.nw k1).cell 0, (BJ.out.nw k1).cell 1, (BJ.out.nw k1).cell 2, (BJ.out.nw k1).cell 3, (BJ.out.nw k1).cell 4⟩
                  rw [FLC.out k]
                  exact (IMJ.out.nw k1).blk.cell 0))
                have nq : ¬ q = gc2 := fun e => IMJ.out.qc (by rw [e]; rfl)
                have nx : ¬ bx = gc2 := fun e => own_neBlk IMJ.out.oc BXJ.out (by decide) e.symm
                have ni : ¬ bi = gc2 := fun e => own_neBlk IMJ.out.oc BJ.out (by decide) e.symm
                have NQ := Lib.hid nq
                have NXX := Lib.hid nx
                have NII := Lib.hid ni
                clear nq nx ni
                have FP := Lib.hid (fun (w5 : World) (k5 : Nw wJ w5) (vv : Value) => (show ∀ wz, wz = w5.setCell ⟨gc2, ml + ja, none⟩ vv → (wz.cell? ⟨q, 0, none⟩ = some (.slice (some ⟨gc2, 0, none⟩) mlx c1) ∧ wz.cell? ⟨bx, 1, none⟩ = some (.int .i64 (ja : Int)) ∧ wz.cell? ⟨bi, 0, none⟩ = some (.int .i64 vo) ∧ wz.cell? ⟨bi, 1, none⟩ = some (.int .i64 va) ∧ wz.cell? ⟨bi, 2, none⟩ = some (.int .i64 vbb) ∧ wz.cell? ⟨bi, 3, none⟩ = some (.int .i64 vcc) ∧ wz.cell? ⟨bi, 4, none⟩ = some (.int .i64 pl)) by
                  intro wz e
                  rw [e]
                  have kk := kp_one w5 gc2 (ml + ja) vv
                  obtain ⟨f0, f1, f2, f3, f4, f5, f6⟩ := FS.out w5 k5
                  exact ⟨kk.keeps f0 NQ.out, kk.keeps f1 NXX.out, kk.keeps f2 NII.out, kk.keeps f3 NII.out, kk.keeps f4 NII.out, kk.keeps f5 NII.out, kk.keeps f6 NII.out⟩))
                have FE := Lib.hid (fun (w5 : World) (k5 : Nw wJ w5) => (show (∃ ev, w5.cell? ⟨gc2, ml + ja, none⟩ = some ev) ∧ w5.frozen? ⟨gc2, ml + ja, none⟩ = false from
                  ⟨⟨_, own_cell (IMJ.out.nw k5).oc (j := ml + ja) (by rw [← FLC.out k]; omega)⟩, (IMJ.out.nw k5).oc.frozenAt (ml + ja)⟩))
                have EC := Lib.hid (fun (wz : World) => encode_v wz vo va vbb vcc pl OPR.out)
                have FIN := Lib.hid (fun (w5 : World) (k5 : Nw wJ w5) => (show Im2 wB.heap.size (w5.setCell ⟨gc2, ml + ja, none⟩ (.int .i64 (encV vo va vbb vcc pl))) q (CI ++ fixC os nb u.code (u.relocs.take (k + 1))) (DI ++ fixD os nb u.data (u.relocs.take (k + 1))) (some ⟨gc2, 0, none⟩) c1 (some ⟨gd2, 0, none⟩) d1 ∧ Blk (w5.setCell ⟨gc2, ml + ja, none⟩ (.int .i64 (encV vo va vbb vcc pl))) bo [.string upk, .int .i64 uh, .slice xi m2 ci', .slice xs m3 cs, .slice (some ⟨br, or', none⟩) mr cr, .slice (some ⟨bc, oc', none⟩) m5 cuc, .slice xud m6 cud] 27 ∧ Nw wB (w5.setCell ⟨gc2, ml + ja, none⟩ (.int .i64 (encV vo va vbb vcc pl))) from by
                  refine ⟨?_, (BOJ.out.nw k5).kp (kp_one w5 gc2 (ml + ja) _) (fun e => own_neBlk IMJ.out.oc BOJ.out (by decide) e.symm), nw_setNew (GJ.out.trans k5) (own_block IMJ.out.oc gc2 rfl) (kp_one w5 gc2 (ml + ja) _)⟩
                  have := (IMJ.out.nw k5).putC (ml + ja) (encV vo va vbb vcc pl)
                  rw [FSC.out, FSD.out]
                  unfold fixC1 fixD1
                  simp only [Bool.false_eq_true, if_false, Int.toNat_natCast]
                  rw [PN.out, GV.out, FW.out]
                  rw [set_app HML.out] at this
                  exact this))
                generalize encV vo va vbb vcc pl = ww at *
                clear FSC FSD PN GV FW IMJ BXJ BOJ GJ BJ
                have hjw : IntKind.i64.wrap ((ml : Int) + (ja : Int)) = (ml : Int) + (ja : Int) := IntWalk.i64_in _ (by omega)
                go_wp2_with fail
                go_region_held3 (fun wz => wz.cell? ⟨q, 0, none⟩ = some (.slice (some ⟨gc2, 0, none⟩) mlx c1) ∧ wz.cell? ⟨bx, 1, none⟩ = some (.int .i64 (ja : Int)) ∧ wz.cell? ⟨bi, 0, none⟩ = some (.int .i64 vo) ∧ wz.cell? ⟨bi, 1, none⟩ = some (.int .i64 va) ∧ wz.cell? ⟨bi, 2, none⟩ = some (.int .i64 vbb) ∧ wz.cell? ⟨bi, 3, none⟩ = some (.int .i64 vcc) ∧ wz.cell? ⟨bi, 4, none⟩ = some (.int .i64 pl))
                  (first | exact FS.out _ ((Nw.refl _).drew) | exact FS.out _ kk | exact FP.out _ kk _ _ rfl)
                  (first
                    | (go_at_call 74; (with_reducible refine (EC.out _).mono ?_); rintro e5 w5 ⟨er, rfl, k5⟩; have kk : Nw wJ w5 := Nw.trans (by first | assumption | exact (Nw.refl _).drew | exact Nw.refl _) k5; obtain ⟨⟨ev, ce⟩, ze⟩ := FE.out w5 kk))
                all_goals
                  have FN := Lib.hid (FIN.out w5 kk)
                  clear hjw
                  go_wp2_with fail
                  go_roundw
                  case rel => exact ⟨k + 1, by omega, by go_num, FN.out.1, FN.out.2.1, FN.out.2.2⟩
                  case measure => simp [intOf]; omega
            · obtain rfl : k = mr := by omega
              have IM9 := Lib.hid (show Im2 wB.heap.size wr q (codeH os nb bg ++ codeF os nb (os.take (i + 1))) ([0, 0] ++ dataF os nb (os.take (i + 1))) (some ⟨gc2, 0, none⟩) c1 (some ⟨gd2, 0, none⟩) d1 from by
                have := IM.out
                rw [List.take_of_length_le (by have := HMR.out; omega)] at this
                rw [SNC.out, SND.out, ← List.append_assoc, ← List.append_assoc, HCI.out, HDI.out]
                exact this)
              clear IM
              go_wp2_with fail
              go_roundw
              case rel => exact ⟨i + 1, _, _, _, _, by omega, by go_num, IM9.out, GK.out⟩
              case measure => simp [intOf]; omega
        · have IMF := Lib.hid (show Im2 wB.heap.size wo2 q (imgC os bg) (imgD0 os bg) xc cc xd cd from by
            have := IM.out
            rw [List.take_of_length_le (by have := HN.out; omega)] at this
            unfold imgC imgD0
            rw [← HNB.out]
            exact this)
          have BRO := Lib.hid (BR0.out.nw GN.out)
          obtain ⟨lc, hlc⟩ : ∃ lc, lc = (imgC os bg).length := ⟨_, rfl⟩
          obtain ⟨ld, hld⟩ : ∃ ld, ld = (imgD0 os bg).length := ⟨_, rfl⟩
          have HLC := Lib.hid hlc
          have HLD := Lib.hid hld
          have hl2 : 2 ≤ ld := by rw [hld]; unfold imgD0; simp
          have hl3 : (1 : Int) < (ld : Int) := by omega
          obtain ⟨gd, rfl⟩ := own_some IMF.out.od (by rw [← hld]; omega)
          have c0 : wo2.cell? ⟨q, 0, none⟩ = some (.slice xc lc cc) := by rw [hlc]; exact IMF.out.blk.cell 0
          have c1 : wo2.cell? ⟨q, 1, none⟩ = some (.slice (some ⟨gd, 0, none⟩) ld cd) := by rw [hld]; exact IMF.out.blk.cell 1
          have c2 : wo2.cell? ⟨q, 2, none⟩ = some (.int .i64 0) := IMF.out.blk.cell 2
          have ce := own_cell IMF.out.od (j := 1) (by omega)
          have ze := IMF.out.od.frozenAt 1
          have IMG := Lib.hid (show Im2 wB.heap.size (wo2.setCell ⟨gd, 1, none⟩ (.int .i64 (ld : Int))) q (imgC os bg) (imgD os bg) xc cc (some ⟨gd, 0, none⟩) cd from by
            have := IMF.out.putD 1 (ld : Int)
            rw [hld] at this
            unfold imgD
            rw [hld]
            exact this)
          have BRG := Lib.hid (BRO.out.kp (kp_one wo2 gd 1 (.int .i64 (ld : Int))) (fun e => own_neBlk IMF.out.od BRO.out (by decide) e.symm))
          have GG := Lib.hid (nw_setNew GN.out (own_block IMF.out.od gd rfl) (kp_one wo2 gd 1 (.int .i64 (ld : Int))))
          have hdl : ld = (imgD os bg).length := by unfold imgD; rw [List.length_set]; exact hld
          have HDL := Lib.hid hdl
          generalize (imgD0 os bg)[1]'_ = ev at *
          clear hlc hld IMF BRO IM hdl
          go_upto_region 27 with fail
          generalize wo2.setCell ⟨gd, 1, none⟩ (.int .i64 (ld : Int)) = wG at *
          clear c0 c1 c2 ce ze
          have e0 : wG.cell? ⟨q, 0, none⟩ = some (.slice xc lc cc) := by rw [HLC.out]; exact IMG.out.blk.cell 0
          have e1 : wG.cell? ⟨q, 1, none⟩ = some (.slice (some ⟨gd, 0, none⟩) ld cd) := by rw [HDL.out]; exact IMG.out.blk.cell 1
          have e2 : wG.cell? ⟨q, 2, none⟩ = some (.int .i64 0) := IMG.out.blk.cell 2
          have cR := BRG.out.cell
          have zR := BRG.out.frozen
          have BRZ := Lib.hid (BRG.out.sets 0 [.slice xc lc cc, .slice (some ⟨gd, 0, none⟩) ld cd, .int .i64 0])
          have FIN := Lib.hid (show ∃ x c y d, Ending.returned (.agg #[.slice xc lc cc, .slice (some ⟨gd, 0, none⟩) ld cd, .int .i64 0]) = .returned (.agg #[.slice x (imgC os bg).length c, .slice y (imgD os bg).length d, .int .i64 0]) ∧ (lays wG r 0 [.slice xc lc cc, .slice (some ⟨gd, 0, none⟩) ld cd, .int .i64 0]).ownsRow w.heap.size 2 1 (.slice x (imgC os bg).length c) (imgC os bg).length (wdV (imgC os bg)) ∧ (lays wG r 0 [.slice xc lc cc, .slice (some ⟨gd, 0, none⟩) ld cd, .int .i64 0]).ownsRow w.heap.size 2 1 (.slice y (imgD os bg).length d) (imgD os bg).length (wdV (imgD os bg)) ∧ Nw w (lays wG r 0 [.slice xc lc cc, .slice (some ⟨gd, 0, none⟩) ld cd, .int .i64 0]) from by
            have kl : Kp (fun j => j = r) wG (lays wG r 0 [.slice xc lc cc, .slice (some ⟨gd, 0, none⟩) ld cd, .int .i64 0]) := (Kp.refl (fun j => j = r) wG).sets (fun _ => rfl) 0 _
            have hr1 := HRL.out
            refine ⟨xc, cc, some ⟨gd, 0, none⟩, cd, by rw [← HLC.out, ← HDL.out], ?_, ?_, ?_⟩
            · exact own_weaken (own_kp IMG.out.oc kl (fun g hg e => by have := own_block IMG.out.oc g hg; have e : g = r := e; omega)) NB0.out.size
            · exact own_weaken (own_kp IMG.out.od kl (fun g hg e => by have := own_block IMG.out.od g hg; have e : g = r := e; omega)) NB0.out.size
            · exact nw_setNew (NB0.out.trans GG.out) (Nat.le_of_eq HR.out.symm) kl)
          go_wp2_with fail
          refine bodyPost_ret (v := .agg #[.slice xc lc cc, .slice (some ⟨gd, 0, none⟩) ld cd, .int .i64 0]) (img_res rfl BRZ.out) rfl ?_
          exact FIN.out
end Go.Proofs.Ytfdjlicegfgodaa
