/- Linking: counted. -/
import Derived.Test.YtfdjlicegfgodaaLk9
import Derived.Test.YtfdjlicegfgodaaBytes
namespace Go.Proofs.Ytfdjlicegfgodaa
open Go.RowKit
set_option linter.unusedSimpArgs false
set_option linter.unusedVariables false

theorem grown_nw {w w1 w' : World} {row : Option Nat} (h : Nw w w1) (hg : w1.grownBy w' row) (hr : ∀ k, row = some k → w.heap.size ≤ k) : Nw w w' :=
  Kp.grown (S := fun _ => False) h hg (fun k hk hlt => absurd hlt (Nat.not_lt_of_le (hr k hk)))
theorem own_weaken {w : World} {base base' e size n : Nat} {v : Value} {xs : List Value} (h : w.ownsRow base e size v n xs) (hb : base' ≤ base) : w.ownsRow base' e size v n xs := by
  refine ⟨h.1, ?_⟩
  rcases h.2 with h2 | ⟨g, cap, cur, hv, hg, r⟩
  · exact .inl h2
  · exact .inr ⟨g, cap, cur, hv, Nat.le_trans hb hg, r⟩
theorem own_block {w : World} {base e size n : Nat} {v : Value} {xs : List Value} (h : w.ownsRow base e size v n xs) : ∀ g, v.ownBlock = some g → base ≤ g := by
  intro g hg
  exact (h.lt g hg).1
theorem new_cells (w : World) (cs : List Value) (t : TypeId) : ∀ j u, cs[j]? = some u → (w.alloc (.cells cs.toArray t)).cell? ((⟨w.heap.size, 0, none⟩ : Addr).add j) = some u := by
  intro j u h
  have e : (⟨w.heap.size, 0, none⟩ : Addr).add j = ⟨w.heap.size, 0 + j, none⟩ := by unfold Addr.add; split <;> simp_all
  rw [e, Nat.zero_add]
  exact ((Blk.new w cs t).cell j).trans h
theorem symInfo : (Try.prog.info? 44).map (fun i => (i.zero, i.size, i.bytes)) = some (some (.agg #[.string ⟨#[]⟩, .int .i64 0, .bool false, .int .i64 0, .int .i64 0, .int .i64 0]), 6, 56) := by kernel_rfl
def syCs (s : Sy) : List Value := [.string s.name, .int .i64 s.kind, .bool s.weak, .int .i64 s.at_, .int .i64 s.size, .int .i64 s.frame]
theorem syCs_one (s : Sy) : ∀ u ∈ syCs s, u.oneCell' = true := by
  intro u hu
  simp only [syCs, List.mem_cons, List.not_mem_nil, or_false] at hu
  rcases hu with rfl | rfl | rfl | rfl | rfl | rfl <;> rfl
/-- the symbol of an occurrence, if it counts -/
noncomputable def cntOf (os : List Ob) (nb : Nat) (x : Occ) : Option Sy :=
  match cnF x.s.name (occs os) with
  | some c => if c.obj = x.i ∧ c.pos = x.k then some { c.sym with at_ := placeC os nb c } else none
  | none => none
noncomputable def cntP (os : List Ob) (nb : Nat) (l : List Occ) : List Sy := l.filterMap (cntOf os nb)
noncomputable def countedL (os : List Ob) (nb : Nat) : List Sy := cntP os nb (occs os)
theorem cntP_snoc (os : List Ob) (nb : Nat) (l : List Occ) (x : Occ) : cntP os nb (l ++ [x]) = cntP os nb l ++ (cntOf os nb x).toList := by
  unfold cntP
  rw [List.filterMap_append]
  cases h : cntOf os nb x with
  | none => simp [h]
  | some s => simp [h]
theorem occP_pre {os : List Ob} {i k : Nat} {u : Ob} (hu : os[i]? = some u) (hk : k ≤ u.syms.length) : ∃ r, occs os = occP os i k ++ r := by
  obtain ⟨hi, rfl⟩ := List.getElem?_eq_some_iff.1 hu
  have e1 : os = os.take i ++ os[i] :: os.drop (i + 1) := by
    rw [← List.drop_eq_getElem_cons hi, List.take_append_drop]
  have e2 : os[i].syms = os[i].syms.take k ++ os[i].syms.drop k := (List.take_append_drop _ _).symm
  unfold occP occs
  rw [List.getElem?_eq_getElem hi]
  simp only [Option.map_some, Option.getD_some]
  have e3 : fromO 0 os = fromO 0 (os.take i) ++ fromO (0 + (os.take i).length) (os[i] :: os.drop (i + 1)) := by
    rw [← fromO_append, ← e1]
  have e4 : (os.take i).length = i := by rw [List.length_take]; omega
  rw [e3, e4, Nat.zero_add]
  have e5 : fromS i 0 os[i].syms = fromS i 0 (os[i].syms.take k) ++ fromS i (0 + (os[i].syms.take k).length) (os[i].syms.drop k) := by
    rw [← fromS_append, ← e2]
  simp only [fromO]
  rw [e5]
  exact ⟨_, by rw [List.append_assoc, List.append_assoc]⟩
theorem cntP_le (os : List Ob) (nb : Nat) (l : List Occ) : (cntP os nb l).length ≤ l.length := List.length_filterMap_le _ _
theorem occP_le {os : List Ob} {i k : Nat} {u : Ob} (hu : os[i]? = some u) (hk : k ≤ u.syms.length) : (occP os i k).length ≤ (occs os).length := by
  obtain ⟨r, hr⟩ := occP_pre hu hk
  rw [hr, List.length_append]
  omega
/-- the slice v reads as these symbols, in new blocks -/
def SymsNew (w w' : World) (v : Value) (l : List Sy) : Prop := w'.ownsRow w.heap.size 44 6 v l.length (l.flatMap syCs)
set_option maxRecDepth 100000 in
set_option maxHeartbeats 8000000 in
theorem counted_any {B : Nat} {W w : World} {os : List Ob} {v vb : Value} {p mb nb base : Nat} {ptr : ByteArray → Option Nat} (ho : SlB B W 7 (ObAt B W) os v) (h : In B W w) (hL : LkAt w p v vb mb nb) (hcl : Coll os nb base w mb ptr (occs os)) (hsz : (occs os).length ≤ 1000000) :
    Calls Try.prog 55 #[.pointer (some ⟨p, 0, none⟩)] w fun e w' => ∃ x c, e = .returned (.slice x (countedL os nb).length c) ∧ SymsNew w w' (.slice x (countedL os nb).length c) (countedL os nb) ∧ Nw w w' := by
  obtain ⟨x, cp, rfl, ho, hl⟩ := ho.sl
  obtain ⟨_, _, b, o, hx⟩ := ho.addr
  have HO := Lib.hid ho
  have HX := Lib.hid hx
  have G := Lib.hid h
  have CL := Lib.hid hcl
  obtain ⟨n, hn⟩ : ∃ n, n = os.length := ⟨_, rfl⟩
  rw [← hn] at hl HO hL
  have HN := Lib.hid hn
  have HSZ := Lib.hid hsz
  have LK := Lib.hid (fun (wz : World) (k : Nw w wz) => hL.nw k)
  have c0 : w.cell? ⟨p, 0, none⟩ = some (.slice x n cp) := hL.cell 0
  obtain ⟨i0, hi, hz0, hz1, hz2⟩ := info_parts symInfo
  have CZ := Lib.hid (cntP_le os nb)
  clear ho hx h hn hL hcl hsz
  go_enter Try.func55, Try.ntmps55
  go_upto_region 3 with fail
  clear c0
  go_loopw [3, 14] (fun vo vi wr => ∃ (i m : Nat) (y : Option Addr) (c : Nat), i ≤ n ∧ vi = .int .i64 (i : Int) ∧ vo = .slice y m c ∧ m = (cntP os nb (occP os i 0)).length ∧ SymsNew w wr (.slice y m c) (cntP os nb (occP os i 0)) ∧ Nw w wr) (fun _ vi _ => n - (intOf vi).toNat)
  case atStart => exact ⟨0, 0, none, 0, Nat.zero_le _, rfl, rfl, by rw [occP_zero]; rfl, by rw [occP_zero]; exact ⟨rfl, .inl ⟨rfl, rfl⟩⟩, Nw.refl _⟩
  case round =>
    obtain ⟨i, m, y, c, hi', rfl, rfl, hm, hsn, g⟩ := hrel
    have GR := Lib.hid g
    have SN := Lib.hid hsn
    have HM := Lib.hid hm
    clear g hsn hm
    rename World => wo
    by_cases hlt : i < n
    · have hio : i < os.length := by have := HN.out; omega
      obtain ⟨u, hu⟩ : ∃ u, os[i]? = some u := ⟨_, List.getElem?_eq_getElem hio⟩
      have HU := Lib.hid hu
      have hq0 : (0 : Int) ≤ (i : Int) := by omega
      have hq1 : (i : Int) < (n : Int) := by omega
      obtain rfl : x = _ := HX.out (ne_nil_of_lt hio)
      obtain ⟨xi, ci', xs, cs, xr, cr, xc, cc, xd, cd, ob1⟩ := ob_read HO.out (G.out.nw GR.out) hu
      have q0 := ob1.f0
      have q1 := ob1.f1
      have q2 := ob1.f2
      have q3 := ob1.f3
      have q4 := ob1.f4
      have q5 := ob1.f5
      have q6 := ob1.f6
      have HS := Lib.hid ob1.hs
      obtain ⟨_, hsl, bs, os', hxs⟩ := ob1.hs.addr
      have HXS := Lib.hid hxs
      obtain ⟨ms, hms⟩ : ∃ ms, ms = u.syms.length := ⟨_, rfl⟩
      rw [← hms] at q3 HS hsl
      have HMS := Lib.hid hms
      clear ob1 hio hu hxs hms
      generalize u.pkg = upk at *
      generalize u.hash = uh at *
      generalize u.imports.length = m2 at *
      generalize u.relocs.length = m4 at *
      generalize u.code.length = m5 at *
      generalize u.data.length = m6 at *
      have NA := Lib.hid (Nw.new wo (.cells #[.string upk, .int .i64 uh, .slice xi m2 ci', .slice xs ms cs, .slice xr m4 cr, .slice xc m5 cc, .slice xd m6 cd] 27))
      have cA := (Blk.new wo [.string upk, .int .i64 uh, .slice xi m2 ci', .slice xs ms cs, .slice xr m4 cr, .slice xc m5 cc, .slice xd m6 cd] 27).cell
      go_upto_region 6 with fail
      have GA := Lib.hid (GR.out.trans NA.out)
      have SNA := Lib.hid (show SymsNew w (wo.alloc (.cells #[.string upk, .int .i64 uh, .slice xi m2 ci', .slice xs ms cs, .slice xr m4 cr, .slice xc m5 cc, .slice xd m6 cd] 27)) (.slice y m c) (cntP os nb (occP os i 0)) from own_kp SN.out NA.out (fun _ _ x => x))
      generalize wo.alloc (.cells #[.string upk, .int .i64 uh, .slice xi m2 ci', .slice xs ms cs, .slice xr m4 cr, .slice xc m5 cc, .slice xd m6 cd] 27) = wA at *
      clear cA q0 q1 q2 q3 q4 q5 q6 NA SN
      go_loopw [3, 22] (fun vo vk wr => ∃ (k m : Nat) (y : Option Addr) (c : Nat), k ≤ ms ∧ vk = .int .i64 (k : Int) ∧ vo = .slice y m c ∧ m = (cntP os nb (occP os i k)).length ∧ SymsNew w wr (.slice y m c) (cntP os nb (occP os i k)) ∧ Nw w wr) (fun _ vk _ => ms - (intOf vk).toNat)
      case atStart => exact ⟨0, m, y, c, Nat.zero_le _, rfl, rfl, HM.out, SNA.out, GA.out⟩
      case round =>
        clear SNA GA HM
        obtain ⟨k, m, y, c, hk, rfl, rfl, hm, hsn, g⟩ := hrel
        have GK := Lib.hid g
        have SN := Lib.hid hsn
        have HM := Lib.hid hm
        clear g hsn hm
        by_cases hkt : k < ms
        · have hks : k < u.syms.length := by have := HMS.out; omega
          have hq2 : (0 : Int) ≤ (k : Int) := by omega
          have hq3 : (k : Int) < (ms : Int) := by omega
          obtain rfl : xs = _ := HXS.out (ne_nil_of_lt hks)
          have sy := sy_read HS.out (G.out.nw GK.out) hks
          have s0 := sy.f0
          have s1 := sy.f1
          have s2 := sy.f2
          have s3 := sy.f3
          have s4 := sy.f4
          have s5 := sy.f5
          have HFIT := Lib.hid sy.hn
          have ST := Lib.hid (occ_step HU.out hks)
          have MI := Lib.hid (occ_in HU.out hks)
          have hml : m ≤ 1000000 := by
            rw [HM.out]
            have h1 := CZ.out (occP os i k)
            have h2 := occP_le HU.out (Nat.le_of_lt hks)
            have h3 := HSZ.out
            omega
          clear sy
          generalize u.syms[k] = s at *
          obtain ⟨snm, sk, sw, sa, sz, sf⟩ := s
          dsimp only at s0 s1 s2 s3 s4 s5 HFIT
          have NX := Lib.hid (Nw.new wr (.cells #[.string snm, .int .i64 sk, .bool sw, .int .i64 sa, .int .i64 sz, .int .i64 sf] 44))
          have BX := Lib.hid (Blk.new wr [.string snm, .int .i64 sk, .bool sw, .int .i64 sa, .int .i64 sz, .int .i64 sf] 44)
          go_upto_region 8 with fail
          have GX := Lib.hid (GK.out.trans NX.out)
          have SNX := Lib.hid (show SymsNew w (wr.alloc (.cells #[.string snm, .int .i64 sk, .bool sw, .int .i64 sa, .int .i64 sz, .int .i64 sf] 44)) (.slice y m c) (cntP os nb (occP os i k)) from own_kp SN.out NX.out (fun _ _ x => x))
          generalize wr.heap.size = bx at *
          generalize wr.alloc (.cells #[.string snm, .int .i64 sk, .bool sw, .int .i64 sa, .int .i64 sz, .int .i64 sf] 44) = wX at *
          clear s0 s1 s2 s3 s4 s5 NX SN
          obtain ⟨cn, hc⟩ := cn_some MI.out
          dsimp only at hc
          obtain ⟨b1, hp, hbk⟩ := (CL.out.nw GX.out).value hc
          have FC := Lib.hid (fun (wz : World) (k : Nw wX wz) => (⟨(LK.out _ (GX.out.trans k)).cell 2, (BX.out.nw k).cell 0, (CL.out.nw (GX.out.trans k)).look HFIT.out hp⟩ : wz.cell? ⟨p, 2, none⟩ = some (.map (some mb)) ∧ wz.cell? ⟨bx, 0, none⟩ = some (.string snm) ∧ (Instr.lookup 93 (.map (some mb)) (.string snm) false).run Try.prog wz = .ok (.pointer (some ⟨b1, 0, none⟩)) wz))
          have CN := Lib.hid (show cntOf os nb ⟨i, k, ⟨snm, sk, sw, sa, sz, sf⟩⟩ = if cn.obj = i ∧ cn.pos = k then some { cn.sym with at_ := placeC os nb cn } else none by unfold cntOf; simp only [hc])
          obtain ⟨co, cpos, ⟨yn, yk, yw, ya, yz, yf⟩, tw⟩ := cn
          obtain ⟨pc, hpc⟩ : ∃ pc, pc = placeC os nb ⟨co, cpos, ⟨yn, yk, yw, ya, yz, yf⟩, tw⟩ := ⟨_, rfl⟩
          have BS := Lib.hid (show Blk wX b1 [.string yn, .int .i64 yk, .bool yw, .int .i64 pc, .int .i64 yz, .int .i64 yf, .int .i64 (co : Int), .int .i64 (cpos : Int), .bool tw] 121 by
            have := hbk
            unfold cnCs at this
            rw [← hpc] at this
            exact this)
          rw [← hpc] at CN
          dsimp only at CN
          clear hpc hbk hp hc
          go_wp2_with fail
          go_region_held3 (fun wz => wz.cell? ⟨p, 2, none⟩ = some (.map (some mb)) ∧ wz.cell? ⟨bx, 0, none⟩ = some (.string snm) ∧ (Instr.lookup 93 (.map (some mb)) (.string snm) false).run Try.prog wz = .ok (.pointer (some ⟨b1, 0, none⟩)) wz)
            (exact FC.out _ (by first | assumption | exact (Nw.refl _).drew | exact Nw.refl _))
            (fail)
          rename_i hHeld
          clear hHeld
          obtain ⟨wD, hwD⟩ : ∃ wD, wD = wX.drew := ⟨_, rfl⟩
          rw [← hwD]
          have ND := Lib.hid (show Nw wX wD by rw [hwD]; exact (Nw.refl _).drew)
          clear hwD FC
          have BSD := Lib.hid (BS.out.nw ND.out)
          have GD := Lib.hid (GX.out.trans ND.out)
          have SND := Lib.hid (show SymsNew w wD (.slice y m c) (cntP os nb (occP os i k)) from own_kp SNX.out ND.out (fun _ _ x => x))
          clear SNX BS GX
          have cS := BSD.out.cell
          by_cases h1 : co = i
          · by_cases h2 : cpos = k
            · subst h1; subst h2
              have CL2 := Lib.hid (show cntP os nb (occP os co (cpos + 1)) = cntP os nb (occP os co cpos) ++ [⟨yn, yk, yw, pc, yz, yf⟩] by
                rw [ST.out, cntP_snoc, CN.out, if_pos ⟨rfl, rfl⟩]; rfl)
              have OW2 := Lib.hid (show (wD.alloc (.cells #[.string yn, .int .i64 yk, .bool yw, .int .i64 pc, .int .i64 yz, .int .i64 yf] 44)).ownsRow w.heap.size 44 6 (.slice y m c) m ((cntP os nb (occP os co cpos)).flatMap syCs) from by rw [HM.out]; rw [HM.out] at SND; exact own_kp SND.out (Nw.new _ _) (fun _ _ x => x))
              have ARM := Lib.hid (fun (x' : Option Addr) (c' : Nat) (w3 : World) (ho : w3.ownsRow w.heap.size 44 6 (.slice x' (m + 1) c') (m + 1) ((cntP os nb (occP os co cpos)).flatMap syCs ++ [.string yn, .int .i64 yk, .bool yw, .int .i64 pc, .int .i64 yz, .int .i64 yf])) (hg : (wD.alloc (.cells #[.string yn, .int .i64 yk, .bool yw, .int .i64 pc, .int .i64 yz, .int .i64 yf] 44)).grownBy w3 (Value.slice y m c).ownBlock) =>
                (show m + 1 = (cntP os nb (occP os co (cpos + 1))).length ∧ SymsNew w w3 (.slice x' (m + 1) c') (cntP os nb (occP os co (cpos + 1))) ∧ Nw w w3 from
                  ⟨by rw [CL2.out, List.length_append, HM.out]; rfl, by
                    unfold SymsNew
                    rw [CL2.out, List.length_append, List.flatMap_append]
                    simp only [List.length_singleton, List.flatMap_singleton]
                    rw [← HM.out]
                    exact ho, grown_nw (GD.out.alloc _) hg (fun g hg => own_block SND.out g hg)⟩))
              have H63 := Lib.hid (show m + 1 ≤ maxLen by unfold maxLen; omega)
              have HBY := Lib.hid (show (m + 1) * 56 ≤ 140737488355328 by omega)
              have HBS := Lib.hid (show w.heap.size ≤ (wD.alloc (.cells #[.string yn, .int .i64 yk, .bool yw, .int .i64 pc, .int .i64 yz, .int .i64 yf] 44)).heap.size from (GD.out.alloc _).size)
              have HN1 := Lib.hid (new_cells wD [.string yn, .int .i64 yk, .bool yw, .int .i64 pc, .int .i64 yz, .int .i64 yf] 44)
              have HN2 := Lib.hid (syCs_one ⟨yn, yk, yw, pc, yz, yf⟩)
              clear CN MI
              go_wp2_with (at_builtin; refine wpList_app _ rfl (.tmp 48) (.tmp 53) 23 rfl w.heap.size 44 i0 (.agg #[.string ⟨#[]⟩, .int .i64 0, .bool false, .int .i64 0, .int .i64 0, .int .i64 0]) 6 56 Try.underlying23 hi hz0 hz1 hz2 rfl (by decide) _ _ _ rfl OW2.out ⟨wD.heap.size, 0, none⟩ 1 1 [.string yn, .int .i64 yk, .bool yw, .int .i64 pc, .int .i64 yz, .int .i64 yf] rfl rfl HN1.out HN2.out H63.out HBY.out HBS.out ?_; intro x' c' w3 ho hg hl'; have S3 := Lib.hid (ARM.out x' c' w3 ho hg); clear ho hg hl')
              go_roundw
              case rel => exact ⟨cpos + 1, m + 1, x', c', by omega, by go_num, rfl, S3.out.1, S3.out.2.1, S3.out.2.2⟩
              case measure => simp [intOf]; omega
            · obtain ⟨m1, m2', m3, m4'⟩ := int_ne (show ¬ ((cpos : Nat) : Int) = (k : Int) by omega)
              subst h1
              have CL2 := Lib.hid (show cntP os nb (occP os co (k + 1)) = cntP os nb (occP os co k) by
                rw [ST.out, cntP_snoc, CN.out, if_neg (fun hh => h2 hh.2)]; simp)
              clear CN MI
              go_wp2_with fail
              go_roundw
              case rel => exact ⟨k + 1, m, y, c, by omega, by go_num, rfl, by rw [CL2.out]; exact HM.out, by rw [CL2.out]; exact SND.out, GD.out⟩
              case measure => simp [intOf]; omega
          · obtain ⟨m1, m2', m3, m4'⟩ := int_ne (show ¬ ((co : Nat) : Int) = (i : Int) by omega)
            have CL2 := Lib.hid (show cntP os nb (occP os i (k + 1)) = cntP os nb (occP os i k) by
              rw [ST.out, cntP_snoc, CN.out, if_neg (fun hh => h1 hh.1)]; simp)
            clear CN MI
            go_wp2_with fail
            go_roundw
            case rel => exact ⟨k + 1, m, y, c, by omega, by go_num, rfl, by rw [CL2.out]; exact HM.out, by rw [CL2.out]; exact SND.out, GD.out⟩
            case measure => simp [intOf]; omega
        · obtain rfl : k = ms := by omega
          have RV := Lib.hid (occ_next HU.out (Nat.le_of_eq HMS.out.symm))
          go_wp2_with fail
          go_roundw
          case rel => exact ⟨i + 1, m, y, c, by omega, by go_num, rfl, by rw [RV.out]; exact HM.out, by rw [RV.out]; exact SN.out, GK.out⟩
          case measure => simp [intOf]; omega
    · have RV := Lib.hid (occP_all (os := os) (i := i) (by have := HN.out; omega) 0)
      have FN := Lib.hid (show ∃ x c', Ending.returned (.slice y m c) = .returned (.slice x (countedL os nb).length c') ∧ SymsNew w wo (.slice x (countedL os nb).length c') (countedL os nb) ∧ Nw w wo from by
        have h1 := HM.out
        have h2 := SN.out
        rw [RV.out] at h1 h2
        exact ⟨y, c, by unfold countedL; rw [h1], by unfold countedL; rw [← h1]; exact h2, GR.out⟩)
      go_wp2_with fail
      go_returns
      exact FN.out
end Go.Proofs.Ytfdjlicegfgodaa
