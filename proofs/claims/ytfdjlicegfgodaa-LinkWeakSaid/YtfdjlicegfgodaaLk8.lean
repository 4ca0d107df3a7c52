/- Linking: collect. -/
import Derived.Test.YtfdjlicegfgodaaLk7
namespace Go.Proofs.Ytfdjlicegfgodaa
open Go.RowKit
set_option linter.unusedSimpArgs false
set_option linter.unusedVariables false

theorem In.kp {B : Nat} {W w w' : World} {S : Nat → Prop} (h : In B W w) (k : Kp S w w') (hs : ∀ x, x < B → ¬ S x) : In B W w' :=
  ⟨h.bel.trans (Kp.below k h.le (fun x hx e => hs x hx e)), Nat.le_trans h.le k.size⟩
theorem fr_nw {mb : Nat} {w a b : World} (h : Kp (fun j => j = mb) w a) (k : Nw a b) : Kp (fun j => j = mb) w b := Kp.trans h k (fun _ _ x => x.elim)
theorem fr_set {mb bs : Nat} {w a c : World} (h : Kp (fun j => j = mb) w a) (hb : w.heap.size ≤ bs) (k : Kp (fun j => j = bs) a c) : Kp (fun j => j = mb) w c := Kp.trans h k (fun x hx e => by
  have e : x = bs := e
  omega)
theorem fr_mb {mb : Nat} {w a c : World} (h : Kp (fun j => j = mb) w a) (k : Kp (fun j => j = mb) a c) : Kp (fun j => j = mb) w c := Kp.trans h k (fun _ _ x => x)
/-- the linker in block p -/
def LkAt (w : World) (p : Nat) (v vb : Value) (mb : Nat) (nb : Nat) : Prop := Blk w p [v, vb, .map (some mb), .int .i64 ((nb : Int) + 1)] 95
theorem kp_one (w : World) (b o : Nat) (v : Value) : Kp (fun j => j = b) w (w.setCell ⟨b, o, none⟩ v) := (Kp.refl (fun j => j = b) w).setCell (p := ⟨b, o, none⟩) (fun _ => rfl) v
set_option maxRecDepth 100000 in
set_option maxHeartbeats 16000000 in
theorem collect_any {B : Nat} {W w : World} {os : List Ob} {v vb : Value} {p mb nb : Nat} (ho : SlB B W 7 (ObAt B W) os v) (h : In B W w) (hL : LkAt w p v vb mb nb) (hmb : B ≤ mb) (hval : ∀ o ∈ os, codeV o = 0) (hs1 : os.length ≤ 100) (hs2 : nb ≤ 100000) (hm : SMap w mb (fun _ => none)) :
    Calls Try.prog 51 #[.pointer (some ⟨p, 0, none⟩)] w fun e w' => e = .returned (.tuple #[]) ∧ (∃ ptr, Coll os nb w.heap.size w' mb ptr (occs os)) ∧ Kp (fun j => j = mb) w w' := by
  obtain ⟨x, cp, rfl, ho, hl⟩ := ho.sl
  obtain ⟨_, _, b, o, hx⟩ := ho.addr
  have HO := Lib.hid ho
  have HX := Lib.hid hx
  have GG := Lib.hid (fun (wz : World) (k : Kp (fun j => j = mb) w wz) => h.kp k (fun x hx e => by
    have e : x = mb := e
    omega))
  have VAL := Lib.hid hval
  obtain ⟨n, hn⟩ : ∃ n, n = os.length := ⟨_, rfl⟩
  rw [← hn] at hl HO hs1 hL
  have HN := Lib.hid hn
  have hpm : mb ≠ p := hm.neBlk hL
  have LK := Lib.hid (fun (wz : World) (k : Kp (fun j => j = mb) w wz) => (Blk.kp hL k (fun e => hpm e.symm) : LkAt wz p (.slice x n cp) vb mb nb))
  have SM0 := Lib.hid hm
  have c0 : w.cell? ⟨p, 0, none⟩ = some (.slice x n cp) := hL.cell 0
  have c3 : w.cell? ⟨p, 3, none⟩ = some (.int .i64 ((nb : Int) + 1)) := hL.cell 3
  have hmf : ∀ (fn : Fn) (first cap : Array Value) (w : World), (Instr.makeFunc fn first cap).run Try.prog w = .ok (.func fn first cap) w := fun _ _ _ _ => rfl
  have hnbi : (nb : Int) ≤ 100000 := by omega
  clear ho hx h hn hL hm hval hpm
  go_enter Try.func51, Try.ntmps51
  go_upto_region 2 with fail
  go_loopw [2, 3, 20] (fun vc vd vi wr => ∃ (i : Nat) (ci di : Int), i ≤ n ∧ vi = .int .i64 (i : Int) ∧ vc = .int .i64 ci ∧ vd = .int .i64 di ∧ ci = ((nb + 1 + sumC (os.take i) : Nat) : Int) ∧ di = ((2 + sumD (os.take i) : Nat) : Int) ∧ sumC (os.take i) ≤ 65536 * i ∧ sumD (os.take i) ≤ 65536 * i ∧ (∃ ptr, Coll os nb w.heap.size wr mb ptr (occP os i 0)) ∧ Kp (fun j => j = mb) w wr) (fun _ _ vi _ => n - (intOf vi).toNat)
  case atStart => exact ⟨0, (nb : Int) + 1, 2, Nat.zero_le _, rfl, by go_num, rfl, by simp [sumC], by simp [sumD], by simp [sumC], by simp [sumD], ⟨_, by rw [occP_zero]; exact Coll.start (f := fun _ => none) SM0.out⟩, Kp.refl _ _⟩
  case round =>
    clear c0 c3
    obtain ⟨i, ci, di, hi, rfl, rfl, rfl, hci, hdi, hbc, hbd, ⟨ptr, hcl⟩, g⟩ := hrel
    have GR := Lib.hid g
    have HCI := Lib.hid hci
    have HDI := Lib.hid hdi
    have CL := Lib.hid hcl
    have b1 : 0 ≤ ci ∧ ci ≤ 10000000 := by omega
    have b2 : 0 ≤ di ∧ di ≤ 10000000 := by omega
    have HBC := Lib.hid hbc
    have HBD := Lib.hid hbd
    obtain ⟨b3, b4⟩ := b1
    obtain ⟨b5, b6⟩ := b2
    clear g hci hdi hcl hbc hbd
    rename World => wo
    by_cases hlt : i < n
    · have hio : i < os.length := by have := HN.out; omega
      obtain ⟨u, hu⟩ : ∃ u, os[i]? = some u := ⟨_, List.getElem?_eq_getElem hio⟩
      have HU := Lib.hid hu
      have hq0 : (0 : Int) ≤ (i : Int) := by omega
      have hq1 : (i : Int) < (n : Int) := by omega
      obtain rfl : x = _ := HX.out (ne_nil_of_lt hio)
      obtain ⟨xi, ci', xs, cs, xr, cr, xc, cc, xd, cd, ob1⟩ := ob_read HO.out (GG.out _ GR.out) hu
      have q0 := ob1.f0
      have q1 := ob1.f1
      have q2 := ob1.f2
      have q3 := ob1.f3
      have q4 := ob1.f4
      have q5 := ob1.f5
      have q6 := ob1.f6
      have HS := Lib.hid ob1.hs
      obtain ⟨_, hsl, bs, os', hxs⟩ := ob1.hs.addr
      have HXS := Lib.hid hxs
      have HVU := Lib.hid (VAL.out u (List.mem_of_getElem? hu))
      obtain ⟨ms, hms⟩ : ∃ ms, ms = u.syms.length := ⟨_, rfl⟩
      rw [← hms] at q3 HS hsl
      have HMS := Lib.hid hms
      have LEN := Lib.hid (codeV_len HVU.out)
      have SN1 := Lib.hid (sumC_snoc hu)
      have SN2 := Lib.hid (sumD_snoc hu)
      obtain ⟨m5, hm5⟩ : ∃ m5, m5 = u.code.length := ⟨_, rfl⟩
      obtain ⟨m6, hm6⟩ : ∃ m6, m6 = u.data.length := ⟨_, rfl⟩
      rw [← hm5, ← hm6] at LEN
      rw [← hm5] at q5 SN1
      rw [← hm6] at q6 SN2
      have l5 : (m5 : Int) ≤ 65536 := by have := LEN.out; omega
      have l6 : (m6 : Int) ≤ 16384 := by have := LEN.out; omega
      clear ob1 hio hu hxs hms hm5 hm6
      generalize u.pkg = upk at *
      generalize u.hash = uh at *
      generalize u.imports.length = m2 at *
      generalize u.relocs.length = m4 at *
      have NA := Lib.hid (Nw.new wo (.cells #[.string upk, .int .i64 uh, .slice xi m2 ci', .slice xs ms cs, .slice xr m4 cr, .slice xc m5 cc, .slice xd m6 cd] 27))
      have BA := Lib.hid (Blk.new wo [.string upk, .int .i64 uh, .slice xi m2 ci', .slice xs ms cs, .slice xr m4 cr, .slice xc m5 cc, .slice xd m6 cd] 27)
      have cA := BA.out.cell
      go_upto_region 5 with fail
      have CL2 := Lib.hid (CL.out.nw NA.out)
      have GA := Lib.hid (fr_nw GR.out NA.out)
      generalize wo.alloc (.cells #[.string upk, .int .i64 uh, .slice xi m2 ci', .slice xs ms cs, .slice xr m4 cr, .slice xc m5 cc, .slice xd m6 cd] 27) = wA at *
      generalize wo.heap.size = bo at *
      clear cA q0 q1 q2 q3 q4 q5 q6 NA CL
      go_loopw [28] (fun vk wr => ∃ k : Nat, k ≤ ms ∧ vk = .int .i64 (k : Int) ∧ (∃ ptr, Coll os nb w.heap.size wr mb ptr (occP os i k)) ∧ Blk wr bo [.string upk, .int .i64 uh, .slice xi m2 ci', .slice xs ms cs, .slice xr m4 cr, .slice xc m5 cc, .slice xd m6 cd] 27 ∧ Kp (fun j => j = mb) w wr) (fun vk _ => ms - (intOf vk).toNat)
      case atStart => exact ⟨0, Nat.zero_le _, rfl, ⟨_, CL2.out⟩, BA.out, GA.out⟩
      case round =>
        clear CL2 BA GA
        obtain ⟨k, hk, rfl, ⟨ptr, hcl⟩, hbo, g⟩ := hrel
        have CL := Lib.hid hcl
        have BO := Lib.hid hbo
        have GK := Lib.hid g
        clear hcl hbo g
        by_cases hkt : k < ms
        · have hks : k < u.syms.length := by have := HMS.out; omega
          have hq2 : (0 : Int) ≤ (k : Int) := by omega
          have hq3 : (k : Int) < (ms : Int) := by omega
          obtain rfl : xs = _ := HXS.out (ne_nil_of_lt hks)
          have sy := sy_read HS.out (GG.out _ GK.out) hks
          have s0 := sy.f0
          have s1 := sy.f1
          have s2 := sy.f2
          have s3 := sy.f3
          have s4 := sy.f4
          have s5 := sy.f5
          have HFIT := Lib.hid sy.hn
          have ST := Lib.hid (occ_step HU.out hks)
          obtain ⟨b7, b8⟩ := sym_at HVU.out hks
          clear sy
          generalize u.syms[k] = s at *
          obtain ⟨snm, sk, sw, sa, sz, sf⟩ := s
          dsimp only at s0 s1 s2 s3 s4 s5 b7 b8 HFIT
          have NX := Lib.hid (Nw.new wr (.cells #[.string snm, .int .i64 sk, .bool sw, .int .i64 sa, .int .i64 sz, .int .i64 sf] 44))
          have BX := Lib.hid (Blk.new wr [.string snm, .int .i64 sk, .bool sw, .int .i64 sa, .int .i64 sz, .int .i64 sf] 44)
          go_upto_region 7 with fail
          generalize hbx : wr.heap.size = bx at *
          generalize wr.alloc (.cells #[.string snm, .int .i64 sk, .bool sw, .int .i64 sa, .int .i64 sz, .int .i64 sf] 44) = wX at *
          have HBX := Lib.hid hbx
          clear hbx s0 s1 s2 s3 s4 s5
          have cX := BX.out.cell
          have zX := BX.out.frozen
          by_cases hkd : sk = 1
          · skip
            have PL := Lib.hid (fun (t : Bool) => (show placeC os nb ⟨i, k, ⟨snm, sk, sw, sa, sz, sf⟩, t⟩ = sa + ci by
              unfold placeC
              dsimp only
              rw [if_pos hkd, HCI.out]))
            have BY := Lib.hid (BX.out.set 3 (.int .i64 (sa + ci)))
            have NY := Lib.hid (show Nw wr (wX.setCell ⟨bx, 3, none⟩ (.int .i64 (sa + ci))) from nw_setNew NX.out (by have := HBX.out; omega) (kp_one wX bx 3 _))
            go_upto_region 10 with fail
            generalize wX.setCell ⟨bx, 3, none⟩ (.int .i64 (sa + ci)) = wY at *
            obtain ⟨pl, hpl⟩ : ∃ pl, pl = sa + ci := ⟨_, rfl⟩
            rw [← hpl] at PL BY
            clear hpl cX zX BX NX
            have HKD := Lib.hid hkd
            clear hkd
            have BY2 := Lib.hid (show Blk wY bx [.string snm, .int .i64 sk, .bool sw, .int .i64 pl, .int .i64 sz, .int .i64 sf] 44 from BY.out)
            clear BY
            have CY := Lib.hid (CL.out.nw NY.out)
            have BOY := Lib.hid (BO.out.nw NY.out)
            have GY := Lib.hid (fr_nw GK.out NY.out)
            clear CL BO GK
            have d2 : wY.cell? ⟨p, 2, none⟩ = some (.map (some mb)) := (LK.out _ GY.out).cell 2
            have e0 : wY.cell? ⟨bx, 0, none⟩ = some (.string snm) := BY2.out.cell 0
            cases hp : ptr snm with
            | none =>
              have FC := Lib.hid (fun (wz : World) (g : Nw wY wz) => (⟨g.keeps d2, g.keeps e0, by
                have := (CY.out.nw g).map.lookOk Try.underlying93 (zeroPtr wz) HFIT.out
                unfold ptrV at this
                rw [hp] at this
                simpa only [Option.map_none, Option.getD_none, Option.isSome_none] using this⟩ : wz.cell? ⟨p, 2, none⟩ = some (.map (some mb)) ∧ wz.cell? ⟨bx, 0, none⟩ = some (.string snm) ∧ (Instr.lookup 93 (.map (some mb)) (.string snm) true).run Try.prog wz = .ok (.tuple #[.pointer none, .bool false]) wz))
              have HP := Lib.hid hp
              clear hp
              go_wp2_with fail
              go_region_held3 (fun wz => wz.cell? ⟨p, 2, none⟩ = some (.map (some mb)) ∧ wz.cell? ⟨bx, 0, none⟩ = some (.string snm) ∧ (Instr.lookup 93 (.map (some mb)) (.string snm) true).run Try.prog wz = .ok (.tuple #[.pointer none, .bool false]) wz)
                (exact FC.out _ (by first | assumption | exact (Nw.refl _).drew | exact Nw.refl _))
                (fail)

              rename_i hHeld
              clear hHeld
              obtain ⟨wD, hwD⟩ : ∃ wD, wD = wY.drew := ⟨_, rfl⟩
              rw [← hwD]
              have ND := Lib.hid (show Nw wY wD by rw [hwD]; exact (Nw.refl _).drew)
              clear hwD FC d2 e0
              have CD := Lib.hid (CY.out.nw ND.out)
              have BOD := Lib.hid (BOY.out.nw ND.out)
              have GD := Lib.hid (fr_nw GY.out ND.out)
              have BYD := Lib.hid (BY2.out.nw ND.out)
              have d2 : wD.cell? ⟨p, 2, none⟩ = some (.map (some mb)) := (LK.out _ GD.out).cell 2
              have cY := BYD.out.cell
              have NE := Lib.hid (show Nw wD (wD.alloc (.cells #[.string snm, .int .i64 sk, .bool sw, .int .i64 pl, .int .i64 sz, .int .i64 sf, .int .i64 (i : Int), .int .i64 (k : Int), .bool false] 121)).drew from (Nw.new _ _).drew)
              have BE := Lib.hid (show Blk (wD.alloc (.cells #[.string snm, .int .i64 sk, .bool sw, .int .i64 pl, .int .i64 sz, .int .i64 sf, .int .i64 (i : Int), .int .i64 (k : Int), .bool false] 121)).drew wD.heap.size [.string snm, .int .i64 sk, .bool sw, .int .i64 pl, .int .i64 sz, .int .i64 sf, .int .i64 (i : Int), .int .i64 (k : Int), .bool false] 121 from (Blk.new wD _ _).drew)
              obtain ⟨w5, eUP, sm5, k5⟩ := (CD.out.nw NE.out).map.store Try.underlying93 HFIT.out (.pointer (some ⟨wD.heap.size, 0, none⟩))
              have FC5 := Lib.hid (show Coll os nb w.heap.size w5 mb (upd ptr snm wD.heap.size) (occP os i (k + 1)) by
                rw [ST.out]
                exact Coll.fresh (x := ⟨i, k, ⟨snm, sk, sw, sa, sz, sf⟩⟩) CD.out HP.out NE.out (Nat.le_refl _) GD.out.size (by
                  have e : cnCs os nb ⟨i, k, ⟨snm, sk, sw, sa, sz, sf⟩, false⟩ = [.string snm, .int .i64 sk, .bool sw, .int .i64 pl, .int .i64 sz, .int .i64 sf, .int .i64 (i : Int), .int .i64 (k : Int), .bool false] := by
                    unfold cnCs
                    rw [PL.out]
                  dsimp only
                  rw [e]; exact BE.out) k5 sm5)
              have BO5 := Lib.hid ((BOD.out.nw NE.out).kp k5 (fun e => (CD.out.map.neBlk BOD.out) e.symm))
              have G5 := Lib.hid (fr_mb (fr_nw GD.out NE.out) k5)
              have FS := Lib.hid (fun (wz : World) (hb : Blk wz bx [.string snm, .int .i64 sk, .bool sw, .int .i64 pl, .int .i64 sz, .int .i64 sf] 44) (hd : wz.cell? ⟨p, 2, none⟩ = some (.map (some mb))) => (⟨hd, hb.cell 0, hb.cell 1, hb.cell 2, hb.cell 3, hb.cell 4, hb.cell 5⟩ : wz.cell? ⟨p, 2, none⟩ = some (.map (some mb)) ∧ wz.cell? ⟨bx, 0, none⟩ = some (.string snm) ∧ wz.cell? ⟨bx, 1, none⟩ = some (.int .i64 sk) ∧ wz.cell? ⟨bx, 2, none⟩ = some (.bool sw) ∧ wz.cell? ⟨bx, 3, none⟩ = some (.int .i64 pl) ∧ wz.cell? ⟨bx, 4, none⟩ = some (.int .i64 sz) ∧ wz.cell? ⟨bx, 5, none⟩ = some (.int .i64 sf)))
              have F1 := Lib.hid (FS.out wD.drew BYD.out.drew d2)
              have F2 := Lib.hid (FS.out _ (BYD.out.nw NE.out) (NE.out.keeps d2))
              have F3 := Lib.hid (FS.out w5 ((BYD.out.nw NE.out).kp k5 (fun e => (CD.out.map.neBlk BYD.out) e.symm)) ((LK.out _ G5.out).cell 2))
              clear sm5 k5 cY FS
              go_wp2_with fail
              go_region_held3 (fun wz => wz.cell? ⟨p, 2, none⟩ = some (.map (some mb)) ∧ wz.cell? ⟨bx, 0, none⟩ = some (.string snm) ∧ wz.cell? ⟨bx, 1, none⟩ = some (.int .i64 sk) ∧ wz.cell? ⟨bx, 2, none⟩ = some (.bool sw) ∧ wz.cell? ⟨bx, 3, none⟩ = some (.int .i64 pl) ∧ wz.cell? ⟨bx, 4, none⟩ = some (.int .i64 sz) ∧ wz.cell? ⟨bx, 5, none⟩ = some (.int .i64 sf))
                (first | exact F1.out | exact F2.out | exact F3.out)
                (fail)
              go_wp2_with fail
              go_roundw
              case rel => exact ⟨k + 1, by omega, by go_num, ⟨_, FC5.out⟩, BO5.out, G5.out⟩
              case measure => simp [intOf]; omega
            | some bs2 =>
              have FC := Lib.hid (fun (wz : World) (g : Nw wY wz) => (⟨g.keeps d2, g.keeps e0, by
                have := (CY.out.nw g).map.lookOk Try.underlying93 (zeroPtr wz) HFIT.out
                unfold ptrV at this
                rw [hp] at this
                simpa only [Option.map_some, Option.getD_some, Option.isSome_some] using this⟩ : wz.cell? ⟨p, 2, none⟩ = some (.map (some mb)) ∧ wz.cell? ⟨bx, 0, none⟩ = some (.string snm) ∧ (Instr.lookup 93 (.map (some mb)) (.string snm) true).run Try.prog wz = .ok (.tuple #[.pointer (some ⟨bs2, 0, none⟩), .bool true]) wz))
              have HP := Lib.hid hp
              clear hp
              go_wp2_with fail
              go_region_held3 (fun wz => wz.cell? ⟨p, 2, none⟩ = some (.map (some mb)) ∧ wz.cell? ⟨bx, 0, none⟩ = some (.string snm) ∧ (Instr.lookup 93 (.map (some mb)) (.string snm) true).run Try.prog wz = .ok (.tuple #[.pointer (some ⟨bs2, 0, none⟩), .bool true]) wz)
                (exact FC.out _ (by first | assumption | exact (Nw.refl _).drew | exact Nw.refl _))
                (fail)
              rename_i hHeld
              clear hHeld
              obtain ⟨wD, hwD⟩ : ∃ wD, wD = wY.drew := ⟨_, rfl⟩
              rw [← hwD]
              have ND := Lib.hid (show Nw wY wD by rw [hwD]; exact (Nw.refl _).drew)
              clear hwD FC d2 e0
              have CD := Lib.hid (CY.out.nw ND.out)
              have BOD := Lib.hid (BOY.out.nw ND.out)
              have GD := Lib.hid (fr_nw GY.out ND.out)
              have BYD := Lib.hid (BY2.out.nw ND.out)
              obtain ⟨⟨co, cpos, ⟨yn, yk, yw, ya, yz, yf⟩, tw⟩, hc0, hB0, hbase⟩ := CD.out.blk snm bs2 HP.out
              have SNW := Lib.hid (show cnF snm (occP os i k ++ [⟨i, k, ⟨snm, sk, sw, sa, sz, sf⟩⟩]) = if yw && !sw then some ⟨i, k, ⟨snm, sk, sw, sa, sz, sf⟩, tw || (!yw && !sw)⟩ else some ⟨co, cpos, ⟨yn, yk, yw, ya, yz, yf⟩, tw || (!yw && !sw)⟩ by
                rw [cnF_snoc, hc0]; exact stepC_old (n := snm) (x := ⟨i, k, ⟨snm, sk, sw, sa, sz, sf⟩⟩) rfl _)
              obtain ⟨pc, hpc⟩ : ∃ pc, pc = placeC os nb ⟨co, cpos, ⟨yn, yk, yw, ya, yz, yf⟩, tw⟩ := ⟨_, rfl⟩
              have PC := Lib.hid (fun (t : Bool) => (show placeC os nb ⟨co, cpos, ⟨yn, yk, yw, ya, yz, yf⟩, t⟩ = pc by rw [hpc]; rfl))
              have BS := Lib.hid (show Blk wD bs2 [.string yn, .int .i64 yk, .bool yw, .int .i64 pc, .int .i64 yz, .int .i64 yf, .int .i64 (co : Int), .int .i64 (cpos : Int), .bool tw] 121 by
                have := hB0
                unfold cnCs at this
                rw [PC.out] at this
                exact this)
              have HBASE := Lib.hid hbase
              have nX := BYD.out.ne BS.out (by simp)
              have nO := BOD.out.ne BS.out (by simp)
              have NXB := Lib.hid nX
              have NOB := Lib.hid nO
              clear hpc hB0 hbase hc0 nX nO
              have FINC := Lib.hid (fun (w' : World) (c' : Cn) (hc : cnF snm (occP os i k ++ [⟨i, k, ⟨snm, sk, sw, sa, sz, sf⟩⟩]) = some c') (kk : Kp (fun j => j = bs2) wD w') (hB : Blk w' bs2 (cnCs os nb c') 121) => (show (∃ ptr, Coll os nb w.heap.size w' mb ptr (occP os i (k + 1))) ∧ Blk w' bo [.string upk, .int .i64 uh, .slice xi m2 ci', .slice (some ⟨bs, os', none⟩) ms cs, .slice xr m4 cr, .slice xc m5 cc, .slice xd m6 cd] 27 ∧ Kp (fun j => j = mb) w w' from
                ⟨⟨ptr, by rw [ST.out]; exact Coll.again (x := ⟨i, k, ⟨snm, sk, sw, sa, sz, sf⟩⟩) CD.out HP.out hc kk hB⟩, BOD.out.kp kk (fun e => NOB.out e), fr_set GD.out HBASE.out kk⟩))
              clear CY BOY GY BY2 CD BOD GD ST HP HFIT
              cases tw <;> cases yw <;> cases sw
              all_goals
                have cY := BYD.out.cell
                have cS := BS.out.cell
                have zS := BS.out.frozen
                simp only [Bool.not_true, Bool.not_false, Bool.and_true, Bool.and_false, Bool.true_and, Bool.false_and, Bool.or_true, Bool.or_false, Bool.true_or, Bool.false_or, Bool.false_eq_true, if_true, if_false] at SNW
                go_wp2_with fail
                refine (better_any (BS.out.set 8 _) _ _ _ _ _ _).mono ?_
                rintro e1 w1 ⟨rfl, k1⟩
                have BF := Lib.hid ((BS.out.set 8 _).nw k1)
                have KF := Lib.hid (Kp.trans (kp_one wD bs2 8 _) (k1.mono (S' := fun j => j = bs2) (fun _ _ x => x.elim)) (fun _ _ x => x))
                have BYF := Lib.hid (BYD.out.kp KF.out (fun e => NXB.out e))
                clear cY cS zS
                have cY := BYF.out.cell
                have cS := BF.out.cell
                have zS := BF.out.frozen
                first
                  | (have FN := Lib.hid (FINC.out _ _ SNW.out KF.out (by unfold cnCs; rw [PC.out]; exact BF.out))
                     clear k1 FINC SNW PC PL
                     go_wp2_with fail
                     go_roundw
                     case rel => exact ⟨k + 1, by omega, by go_num, FN.out.1, FN.out.2.1, FN.out.2.2⟩
                     case measure => simp [intOf]; omega)
                  | (have FN := Lib.hid (FINC.out _ _ SNW.out (KF.out.sets (fun _ => rfl) 0 [.string snm, .int .i64 sk, .bool false, .int .i64 pl, .int .i64 sz, .int .i64 sf, .int .i64 (i : Int), .int .i64 (k : Int)]) (by unfold cnCs; rw [PL.out]; exact BF.out.sets 0 [.string snm, .int .i64 sk, .bool false, .int .i64 pl, .int .i64 sz, .int .i64 sf, .int .i64 (i : Int), .int .i64 (k : Int)]))
                     clear k1 FINC SNW PC PL
                     go_wp2_with fail
                     go_roundw
                     case rel => exact ⟨k + 1, by omega, by go_num, FN.out.1, FN.out.2.1, FN.out.2.2⟩
                     case measure => simp [intOf]; omega)
          · obtain ⟨kn1, kn2, kn3, kn4⟩ := int_ne hkd
            have PL := Lib.hid (fun (t : Bool) => (show placeC os nb ⟨i, k, ⟨snm, sk, sw, sa, sz, sf⟩, t⟩ = sa + di by
              unfold placeC
              dsimp only
              rw [if_neg hkd, HDI.out]))
            have BY := Lib.hid (BX.out.set 3 (.int .i64 (sa + di)))
            have NY := Lib.hid (show Nw wr (wX.setCell ⟨bx, 3, none⟩ (.int .i64 (sa + di))) from nw_setNew NX.out (by have := HBX.out; omega) (kp_one wX bx 3 _))
            go_upto_region 10 with fail
            generalize wX.setCell ⟨bx, 3, none⟩ (.int .i64 (sa + di)) = wY at *
            obtain ⟨pl, hpl⟩ : ∃ pl, pl = sa + di := ⟨_, rfl⟩
            rw [← hpl] at PL BY
            clear hpl cX zX BX NX
            have HKD := Lib.hid hkd
            clear hkd
            have BY2 := Lib.hid (show Blk wY bx [.string snm, .int .i64 sk, .bool sw, .int .i64 pl, .int .i64 sz, .int .i64 sf] 44 from BY.out)
            clear BY
            have CY := Lib.hid (CL.out.nw NY.out)
            have BOY := Lib.hid (BO.out.nw NY.out)
            have GY := Lib.hid (fr_nw GK.out NY.out)
            clear CL BO GK
            have d2 : wY.cell? ⟨p, 2, none⟩ = some (.map (some mb)) := (LK.out _ GY.out).cell 2
            have e0 : wY.cell? ⟨bx, 0, none⟩ = some (.string snm) := BY2.out.cell 0
            cases hp : ptr snm with
            | none =>
              have FC := Lib.hid (fun (wz : World) (g : Nw wY wz) => (⟨g.keeps d2, g.keeps e0, by
                have := (CY.out.nw g).map.lookOk Try.underlying93 (zeroPtr wz) HFIT.out
                unfold ptrV at this
                rw [hp] at this
                simpa only [Option.map_none, Option.getD_none, Option.isSome_none] using this⟩ : wz.cell? ⟨p, 2, none⟩ = some (.map (some mb)) ∧ wz.cell? ⟨bx, 0, none⟩ = some (.string snm) ∧ (Instr.lookup 93 (.map (some mb)) (.string snm) true).run Try.prog wz = .ok (.tuple #[.pointer none, .bool false]) wz))
              have HP := Lib.hid hp
              clear hp
              go_wp2_with fail
              go_region_held3 (fun wz => wz.cell? ⟨p, 2, none⟩ = some (.map (some mb)) ∧ wz.cell? ⟨bx, 0, none⟩ = some (.string snm) ∧ (Instr.lookup 93 (.map (some mb)) (.string snm) true).run Try.prog wz = .ok (.tuple #[.pointer none, .bool false]) wz)
                (exact FC.out _ (by first | assumption | exact (Nw.refl _).drew | exact Nw.refl _))
                (fail)

              rename_i hHeld
              clear hHeld
              obtain ⟨wD, hwD⟩ : ∃ wD, wD = wY.drew := ⟨_, rfl⟩
              rw [← hwD]
              have ND := Lib.hid (show Nw wY wD by rw [hwD]; exact (Nw.refl _).drew)
              clear hwD FC d2 e0
              have CD := Lib.hid (CY.out.nw ND.out)
              have BOD := Lib.hid (BOY.out.nw ND.out)
              have GD := Lib.hid (fr_nw GY.out ND.out)
              have BYD := Lib.hid (BY2.out.nw ND.out)
              have d2 : wD.cell? ⟨p, 2, none⟩ = some (.map (some mb)) := (LK.out _ GD.out).cell 2
              have cY := BYD.out.cell
              have NE := Lib.hid (show Nw wD (wD.alloc (.cells #[.string snm, .int .i64 sk, .bool sw, .int .i64 pl, .int .i64 sz, .int .i64 sf, .int .i64 (i : Int), .int .i64 (k : Int), .bool false] 121)).drew from (Nw.new _ _).drew)
              have BE := Lib.hid (show Blk (wD.alloc (.cells #[.string snm, .int .i64 sk, .bool sw, .int .i64 pl, .int .i64 sz, .int .i64 sf, .int .i64 (i : Int), .int .i64 (k : Int), .bool false] 121)).drew wD.heap.size [.string snm, .int .i64 sk, .bool sw, .int .i64 pl, .int .i64 sz, .int .i64 sf, .int .i64 (i : Int), .int .i64 (k : Int), .bool false] 121 from (Blk.new wD _ _).drew)
              obtain ⟨w5, eUP, sm5, k5⟩ := (CD.out.nw NE.out).map.store Try.underlying93 HFIT.out (.pointer (some ⟨wD.heap.size, 0, none⟩))
              have FC5 := Lib.hid (show Coll os nb w.heap.size w5 mb (upd ptr snm wD.heap.size) (occP os i (k + 1)) by
                rw [ST.out]
                exact Coll.fresh (x := ⟨i, k, ⟨snm, sk, sw, sa, sz, sf⟩⟩) CD.out HP.out NE.out (Nat.le_refl _) GD.out.size (by
                  have e : cnCs os nb ⟨i, k, ⟨snm, sk, sw, sa, sz, sf⟩, false⟩ = [.string snm, .int .i64 sk, .bool sw, .int .i64 pl, .int .i64 sz, .int .i64 sf, .int .i64 (i : Int), .int .i64 (k : Int), .bool false] := by
                    unfold cnCs
                    rw [PL.out]
                  dsimp only
                  rw [e]; exact BE.out) k5 sm5)
              have BO5 := Lib.hid ((BOD.out.nw NE.out).kp k5 (fun e => (CD.out.map.neBlk BOD.out) e.symm))
              have G5 := Lib.hid (fr_mb (fr_nw GD.out NE.out) k5)
              have FS := Lib.hid (fun (wz : World) (hb : Blk wz bx [.string snm, .int .i64 sk, .bool sw, .int .i64 pl, .int .i64 sz, .int .i64 sf] 44) (hd : wz.cell? ⟨p, 2, none⟩ = some (.map (some mb))) => (⟨hd, hb.cell 0, hb.cell 1, hb.cell 2, hb.cell 3, hb.cell 4, hb.cell 5⟩ : wz.cell? ⟨p, 2, none⟩ = some (.map (some mb)) ∧ wz.cell? ⟨bx, 0, none⟩ = some (.string snm) ∧ wz.cell? ⟨bx, 1, none⟩ = some (.int .i64 sk) ∧ wz.cell? ⟨bx, 2, none⟩ = some (.bool sw) ∧ wz.cell? ⟨bx, 3, none⟩ = some (.int .i64 pl) ∧ wz.cell? ⟨bx, 4, none⟩ = some (.int .i64 sz) ∧ wz.cell? ⟨bx, 5, none⟩ = some (.int .i64 sf)))
              have F1 := Lib.hid (FS.out wD.drew BYD.out.drew d2)
              have F2 := Lib.hid (FS.out _ (BYD.out.nw NE.out) (NE.out.keeps d2))
              have F3 := Lib.hid (FS.out w5 ((BYD.out.nw NE.out).kp k5 (fun e => (CD.out.map.neBlk BYD.out) e.symm)) ((LK.out _ G5.out).cell 2))
              clear sm5 k5 cY FS
              go_wp2_with fail
              go_region_held3 (fun wz => wz.cell? ⟨p, 2, none⟩ = some (.map (some mb)) ∧ wz.cell? ⟨bx, 0, none⟩ = some (.string snm) ∧ wz.cell? ⟨bx, 1, none⟩ = some (.int .i64 sk) ∧ wz.cell? ⟨bx, 2, none⟩ = some (.bool sw) ∧ wz.cell? ⟨bx, 3, none⟩ = some (.int .i64 pl) ∧ wz.cell? ⟨bx, 4, none⟩ = some (.int .i64 sz) ∧ wz.cell? ⟨bx, 5, none⟩ = some (.int .i64 sf))
                (first | exact F1.out | exact F2.out | exact F3.out)
                (fail)
              go_wp2_with fail
              go_roundw
              case rel => exact ⟨k + 1, by omega, by go_num, ⟨_, FC5.out⟩, BO5.out, G5.out⟩
              case measure => simp [intOf]; omega
            | some bs2 =>
              have FC := Lib.hid (fun (wz : World) (g : Nw wY wz) => (⟨g.keeps d2, g.keeps e0, by
                have := (CY.out.nw g).map.lookOk Try.underlying93 (zeroPtr wz) HFIT.out
                unfold ptrV at this
                rw [hp] at this
                simpa only [Option.map_some, Option.getD_some, Option.isSome_some] using this⟩ : wz.cell? ⟨p, 2, none⟩ = some (.map (some mb)) ∧ wz.cell? ⟨bx, 0, none⟩ = some (.string snm) ∧ (Instr.lookup 93 (.map (some mb)) (.string snm) true).run Try.prog wz = .ok (.tuple #[.pointer (some ⟨bs2, 0, none⟩), .bool true]) wz))
              have HP := Lib.hid hp
              clear hp
              go_wp2_with fail
              go_region_held3 (fun wz => wz.cell? ⟨p, 2, none⟩ = some (.map (some mb)) ∧ wz.cell? ⟨bx, 0, none⟩ = some (.string snm) ∧ (Instr.lookup 93 (.map (some mb)) (.string snm) true).run Try.prog wz = .ok (.tuple #[.pointer (some ⟨bs2, 0, none⟩), .bool true]) wz)
                (exact FC.out _ (by first | assumption | exact (Nw.refl _).drew | exact Nw.refl _))
                (fail)
              rename_i hHeld
              clear hHeld
              obtain ⟨wD, hwD⟩ : ∃ wD, wD = wY.drew := ⟨_, rfl⟩
              rw [← hwD]
              have ND := Lib.hid (show Nw wY wD by rw [hwD]; exact (Nw.refl _).drew)
              clear hwD FC d2 e0
              have CD := Lib.hid (CY.out.nw ND.out)
              have BOD := Lib.hid (BOY.out.nw ND.out)
              have GD := Lib.hid (fr_nw GY.out ND.out)
              have BYD := Lib.hid (BY2.out.nw ND.out)
              obtain ⟨⟨co, cpos, ⟨yn, yk, yw, ya, yz, yf⟩, tw⟩, hc0, hB0, hbase⟩ := CD.out.blk snm bs2 HP.out
              have SNW := Lib.hid (show cnF snm (occP os i k ++ [⟨i, k, ⟨snm, sk, sw, sa, sz, sf⟩⟩]) = if yw && !sw then some ⟨i, k, ⟨snm, sk, sw, sa, sz, sf⟩, tw || (!yw && !sw)⟩ else some ⟨co, cpos, ⟨yn, yk, yw, ya, yz, yf⟩, tw || (!yw && !sw)⟩ by
                rw [cnF_snoc, hc0]; exact stepC_old (n := snm) (x := ⟨i, k, ⟨snm, sk, sw, sa, sz, sf⟩⟩) rfl _)
              obtain ⟨pc, hpc⟩ : ∃ pc, pc = placeC os nb ⟨co, cpos, ⟨yn, yk, yw, ya, yz, yf⟩, tw⟩ := ⟨_, rfl⟩
              have PC := Lib.hid (fun (t : Bool) => (show placeC os nb ⟨co, cpos, ⟨yn, yk, yw, ya, yz, yf⟩, t⟩ = pc by rw [hpc]; rfl))
              have BS := Lib.hid (show Blk wD bs2 [.string yn, .int .i64 yk, .bool yw, .int .i64 pc, .int .i64 yz, .int .i64 yf, .int .i64 (co : Int), .int .i64 (cpos : Int), .bool tw] 121 by
                have := hB0
                unfold cnCs at this
                rw [PC.out] at this
                exact this)
              have HBASE := Lib.hid hbase
              have nX := BYD.out.ne BS.out (by simp)
              have nO := BOD.out.ne BS.out (by simp)
              have NXB := Lib.hid nX
              have NOB := Lib.hid nO
              clear hpc hB0 hbase hc0 nX nO
              have FINC := Lib.hid (fun (w' : World) (c' : Cn) (hc : cnF snm (occP os i k ++ [⟨i, k, ⟨snm, sk, sw, sa, sz, sf⟩⟩]) = some c') (kk : Kp (fun j => j = bs2) wD w') (hB : Blk w' bs2 (cnCs os nb c') 121) => (show (∃ ptr, Coll os nb w.heap.size w' mb ptr (occP os i (k + 1))) ∧ Blk w' bo [.string upk, .int .i64 uh, .slice xi m2 ci', .slice (some ⟨bs, os', none⟩) ms cs, .slice xr m4 cr, .slice xc m5 cc, .slice xd m6 cd] 27 ∧ Kp (fun j => j = mb) w w' from
                ⟨⟨ptr, by rw [ST.out]; exact Coll.again (x := ⟨i, k, ⟨snm, sk, sw, sa, sz, sf⟩⟩) CD.out HP.out hc kk hB⟩, BOD.out.kp kk (fun e => NOB.out e), fr_set GD.out HBASE.out kk⟩))
              clear CY BOY GY BY2 CD BOD GD ST HP HFIT
              cases tw <;> cases yw <;> cases sw
              all_goals
                have cY := BYD.out.cell
                have cS := BS.out.cell
                have zS := BS.out.frozen
                simp only [Bool.not_true, Bool.not_false, Bool.and_true, Bool.and_false, Bool.true_and, Bool.false_and, Bool.or_true, Bool.or_false, Bool.true_or, Bool.false_or, Bool.false_eq_true, if_true, if_false] at SNW
                go_wp2_with fail
                refine (better_any (BS.out.set 8 _) _ _ _ _ _ _).mono ?_
                rintro e1 w1 ⟨rfl, k1⟩
                have BF := Lib.hid ((BS.out.set 8 _).nw k1)
                have KF := Lib.hid (Kp.trans (kp_one wD bs2 8 _) (k1.mono (S' := fun j => j = bs2) (fun _ _ x => x.elim)) (fun _ _ x => x))
                have BYF := Lib.hid (BYD.out.kp KF.out (fun e => NXB.out e))
                clear cY cS zS
                have cY := BYF.out.cell
                have cS := BF.out.cell
                have zS := BF.out.frozen
                first
                  | (have FN := Lib.hid (FINC.out _ _ SNW.out KF.out (by unfold cnCs; rw [PC.out]; exact BF.out))
                     clear k1 FINC SNW PC PL
                     go_wp2_with fail
                     go_roundw
                     case rel => exact ⟨k + 1, by omega, by go_num, FN.out.1, FN.out.2.1, FN.out.2.2⟩
                     case measure => simp [intOf]; omega)
                  | (have FN := Lib.hid (FINC.out _ _ SNW.out (KF.out.sets (fun _ => rfl) 0 [.string snm, .int .i64 sk, .bool false, .int .i64 pl, .int .i64 sz, .int .i64 sf, .int .i64 (i : Int), .int .i64 (k : Int)]) (by unfold cnCs; rw [PL.out]; exact BF.out.sets 0 [.string snm, .int .i64 sk, .bool false, .int .i64 pl, .int .i64 sz, .int .i64 sf, .int .i64 (i : Int), .int .i64 (k : Int)]))
                     clear k1 FINC SNW PC PL
                     go_wp2_with fail
                     go_roundw
                     case rel => exact ⟨k + 1, by omega, by go_num, FN.out.1, FN.out.2.1, FN.out.2.2⟩
                     case measure => simp [intOf]; omega)
        · obtain rfl : k = ms := by omega
          have CL2 := Lib.hid (show Coll os nb w.heap.size wr mb ptr (occP os (i + 1) 0) by rw [occ_next HU.out (Nat.le_of_eq HMS.out.symm)]; exact CL.out)
          have cO := BO.out.cell
          have NC := Lib.hid (show ci + (m5 : Int) = ((nb + 1 + sumC (os.take (i + 1)) : Nat) : Int) by rw [HCI.out, SN1.out]; omega)
          have NDD := Lib.hid (show di + (m6 : Int) = ((2 + sumD (os.take (i + 1)) : Nat) : Int) by rw [HDI.out, SN2.out]; omega)
          have NB1 := Lib.hid (show sumC (os.take (i + 1)) ≤ 65536 * (i + 1) by rw [SN1.out]; have := HBC.out; omega)
          have NB2 := Lib.hid (show sumD (os.take (i + 1)) ≤ 65536 * (i + 1) by rw [SN2.out]; have := HBD.out; omega)
          clear CL
          go_wp2_with fail
          go_roundw
          case rel => exact ⟨i + 1, ci + m5, di + m6, by omega, by go_num, by go_num, by go_num, NC.out, NDD.out, NB1.out, NB2.out, ⟨_, CL2.out⟩, GK.out⟩
          case measure => simp [intOf]; omega
    · have FN := Lib.hid (show (∃ ptr, Coll os nb w.heap.size wo mb ptr (occs os)) ∧ Kp (fun j => j = mb) w wo from ⟨⟨ptr, by have := CL.out; rw [occP_all (by have := HN.out; omega)] at this; exact this⟩, GR.out⟩)
      clear CL HCI HDI HBC HBD
      go_wp2_with fail
      go_returns
      exact ⟨rfl, FN.out.1, FN.out.2⟩
end Go.Proofs.Ytfdjlicegfgodaa
