/- LinkWeak: weak symbols behind change nothing. -/
import Derived.Test.YtfdjlicegfgodaaLkV1
namespace Go.Proofs.Ytfdjlicegfgodaa
open Go.RowKit
set_option linter.unusedSimpArgs false
set_option linter.unusedVariables false

theorem pkgs_ne {os : List Ob} {i : Nat} {u : Ob} {n : ByteArray} (hu : os[i]? = some u) (h : n ∉ pkgs (os.take i)) (hn : ¬ u.pkg = n) : n ∉ pkgs (os.take (i + 1)) := by
  rw [pkgs_snoc hu]
  intro hm
  rcases List.mem_append.1 hm with hm | hm
  · exact h hm
  · simp at hm
    exact hn hm.symm
/-- the weak copies so far lie in a row of our own, and the object being made holds them -/
structure WkAt (base : Nat) (w : World) (q : Nat) (L : List Sy) (x : Option Addr) (m c : Nat) : Prop where
  box : Blk w q [.string weakN, .int .i64 0, .slice none 0 0, .slice x m c, .slice none 0 0, .slice none 0 0, .slice none 0 0] 27
  row : w.ownsRow base 44 6 (.slice x m c) m (L.flatMap syCs)
theorem WkAt.kp {S : Nat → Prop} {base : Nat} {w w' : World} {q : Nat} {L : List Sy} {x : Option Addr} {m c : Nat} (h : WkAt base w q L x m c) (k : Kp S w w') (hq : ¬ S q) (hs : ∀ b, base ≤ b → ¬ S b) : WkAt base w' q L x m c :=
  ⟨h.box.kp k hq, own_kp h.row k (fun g hg => hs g (own_block h.row g hg))⟩
theorem kp_set {S : Nat → Prop} {a w : World} {q : Nat} (h : Kp S a w) (hq : S q) (o : Nat) (v : Value) : Kp S a (w.setCell ⟨q, o, none⟩ v) := h.setCell (p := ⟨q, o, none⟩) (fun _ => hq) v
theorem own_setOther {base q o : Nat} {e : TypeId} {size n : Nat} {w : World} {v u : Value} {xs : List Value} (h : w.ownsRow base e size v n xs) (hq : q < base) : (w.setCell ⟨q, o, none⟩ u).ownsRow base e size v n xs :=
  own_kp h ((Kp.refl (fun b => b = q) w).setCell (p := ⟨q, o, none⟩) (fun _ => rfl) u) (fun g hg e => by have := own_block h g hg; omega)
theorem new_after (w : World) (a : Addr) (v : Value) (cs : List Value) (t : TypeId) : Blk ((w.setCell a v).alloc (.cells cs.toArray t)) w.heap.size cs t := by
  have h := Blk.new (w.setCell a v) cs t
  have e : (w.setCell a v).heap.size = w.heap.size := by simp [World.setCell]
  rw [e] at h
  exact h
theorem own_cap {w : World} {base e size n c g : Nat} {xs : List Value} (h : w.ownsRow base e size (.slice (some ⟨g, 0, none⟩) n c) n xs) : n ≤ c := by
  rcases h.2 with ⟨h1, _⟩ | ⟨g', cap, cur, h1, _, _, h2, _⟩
  · cases h1
  · injection h1 with h3 h4 h5; omega
theorem own_empty64 (w : World) : (w.alloc (.cells #[] 2)).ownsRow w.heap.size 2 1 (.slice (some ⟨w.heap.size, 0, none⟩) 0 0) 0 [] :=
  ⟨rfl, .inr ⟨w.heap.size, 0, #[], rfl, Nat.le_refl _, by show (w.heap.push _)[w.heap.size]? = _; simp, Nat.le_refl _, Nat.zero_le _, rfl, rfl⟩⟩
theorem WkAt.app {base : Nat} {w w3 : World} {q : Nat} {L : List Sy} {x x' : Option Addr} {m c c' : Nat} {s : Sy} (h : WkAt base w q L x m c) (hq : q < base) (ho : w3.ownsRow base 44 6 (.slice x' (m + 1) c') (m + 1) (L.flatMap syCs ++ syCs s)) (hg : w.grownBy w3 (Value.slice x m c).ownBlock) :
    WkAt base (w3.setCell ⟨q, 3, none⟩ (.slice x' (m + 1) c')) q (L ++ [s]) x' (m + 1) c' ∧ Kp (fun b => b = q ∨ base ≤ b) w (w3.setCell ⟨q, 3, none⟩ (.slice x' (m + 1) c')) ∧ w3.frozen? ⟨q, 3, none⟩ = false ∧ w3.cell? ⟨q, 3, none⟩ = some (.slice x m c) := by
  have hb := h.box.kp (grown_kp hg) (fun e => by have := own_block h.row _ e; omega)
  have kq : Kp (fun b => b = q) w3 (w3.setCell ⟨q, 3, none⟩ (.slice x' (m + 1) c')) := (Kp.refl (fun b => b = q) w3).setCell (p := ⟨q, 3, none⟩) (fun _ => rfl) _
  refine ⟨⟨hb.set 3 (.slice x' (m + 1) c'), ?_⟩, ?_, hb.frozen 3, hb.cell 3⟩
  · rw [List.flatMap_append]
    simp only [List.flatMap_singleton]
    exact own_kp ho kq (fun g hg e => by have := own_block ho g hg; omega)
  · exact Kp.trans (Kp.mono (grown_kp hg) (fun b _ e => Or.inr (own_block h.row b e))) kq (fun b _ e => Or.inl e)
set_option maxRecDepth 100000 in
set_option maxHeartbeats 32000000 in
theorem linkWeak_walk {w : World} {os : List Ob} {bg : List ByteArray} {v vb : Value} (ho : SlB w.heap.size w 7 (ObAt w.heap.size w) os v) (hb : SlB w.heap.size w 1 StrAt2 bg vb) :
    Calls Try.prog 9 #[v, vb] w (BoolPost w true) := by
  obtain ⟨i0, hi0, hz0, hz1, hz2⟩ := info_parts obInfo
  obtain ⟨is, his, zs0, zs1, zs2⟩ := info_parts symInfo
  have HV := Lib.hid (linked_any ho hb (In.self w))
  have LI := Lib.hid (fun (wz : World) (k : Nw w wz) (os' : List Ob) (v' : Value) (ho' : SlB wz.heap.size wz 7 (ObAt wz.heap.size wz) os' v') (h1 : os'.length ≤ 100) (h2 : bg.length ≤ 100000) (h3 : (occs os').length ≤ 1000000) => link_any ho' (hb.self_nw k) (In.self wz) h1 h2 h3)
  have AW := Lib.hid awake30_any
  obtain ⟨x, cp, rfl, ho, hl⟩ := ho.sl
  obtain ⟨_, _, b, o, hx⟩ := ho.addr
  obtain ⟨xb, cb, rfl, hb, hlb⟩ := hb.sl
  have HO := Lib.hid ho
  have HX := Lib.hid hx
  obtain ⟨n, hn⟩ : ∃ n, n = os.length := ⟨_, rfl⟩
  rw [← hn] at hl HO HV ⊢
  have HN := Lib.hid hn
  clear ho hx hb hn
  go_enter Try.func9, Try.ntmps9
  go_wp2_with fail
  refine HV.out.mono ?_
  rintro e1 w1 ⟨r, rfl, hr, k1⟩
  have K1 := Lib.hid k1
  have HR := Lib.hid hr
  clear k1 hr HV
  cases r with
  | false =>
    clear HR
    go_wp2_with fail
    refine (AW.out _).mono ?_
    rintro ea wa ⟨rfl, ka⟩
    have KA := Lib.hid (K1.out.trans ka)
    clear ka
    go_wp2_with fail
    go_returns
    exact ⟨rfl, KA.out⟩
  | true =>
    have LT := Lib.hid (HR.out (by trivial)).1
    have BD := Lib.hid (HR.out (by trivial)).2
    clear HR
    by_cases hn0 : n = 0
    · subst hn0
      go_wp2_with fail
      refine (AW.out _).mono ?_
      rintro ea wa ⟨rfl, ka⟩
      have KA := Lib.hid (K1.out.trans ka)
      clear ka
      go_wp2_with fail
      go_returns
      exact ⟨rfl, KA.out⟩
    have hn0' : ¬ (n : Int) = 0 := by omega
    obtain ⟨ne1, ne2, ne3, ne4⟩ := int_ne hn0'
    by_cases hn8 : (8 : Int) < (n : Int)
    · go_wp2_with fail
      refine (AW.out _).mono ?_
      rintro ea wa ⟨rfl, ka⟩
      have KA := Lib.hid (K1.out.trans ka)
      clear ka
      go_wp2_with fail
      go_returns
      exact ⟨rfl, KA.out⟩
    obtain rfl : x = _ := HX.out (ne_nil_of_lt (i := 0) (by have := HN.out; omega))
    have NB := Lib.hid (Nw.new w1 (.cells #[.string weakN, .int .i64 0, .slice none 0 0, .slice none 0 0, .slice none 0 0, .slice none 0 0, .slice none 0 0] 27))
    have BO := Lib.hid (Blk.new w1 [.string weakN, .int .i64 0, .slice none 0 0, .slice none 0 0, .slice none 0 0, .slice none 0 0, .slice none 0 0] 27)
    have hq1 : ¬ n = 0 := hn0
    clear hn0
    have eW : (⟨#[35, 119, 101, 97, 107]⟩ : ByteArray) = weakN := rfl
    go_upto_region 6 with fail
    clear eW
    generalize w1.alloc (.cells #[.string weakN, .int .i64 0, .slice none 0 0, .slice none 0 0, .slice none 0 0, .slice none 0 0, .slice none 0 0] 27) = wB at *
    have hqw : w.heap.size ≤ w1.heap.size := K1.out.size
    generalize w1.heap.size = q at *
    go_loopw [6] (fun vi wr => ∃ i : Nat, i ≤ n ∧ vi = .int .i64 (i : Int) ∧ weakN ∉ pkgs (os.take i) ∧ Nw wB wr) (fun vi _ => n - (intOf vi).toNat)
    case atStart => exact ⟨0, Nat.zero_le _, rfl, by simp [pkgs], Nw.refl _⟩
    case round =>
      obtain ⟨i, hi, rfl, hpk, g⟩ := hrel
      have GR := Lib.hid g
      have HPK := Lib.hid hpk
      have cO := (BO.out.nw g).cell
      clear g hpk
      rename World => wo
      by_cases hlt : i < n
      · have hio : i < os.length := by have := HN.out; omega
        obtain ⟨u, hu⟩ : ∃ u, os[i]? = some u := ⟨_, List.getElem?_eq_getElem hio⟩
        have hp0 : (0 : Int) ≤ (i : Int) := by omega
        have hp1 : (i : Int) < (n : Int) := by omega
        obtain ⟨xi, ci, xs, cs, xr, cr, xc, cc, xd, cd, ob1⟩ := ob_read HO.out ((In.self w).nw (K1.out.trans (NB.out.trans GR.out))) hu
        have q0 := ob1.f0
        have PN := Lib.hid (fun (h : ¬ u.pkg = weakN) => pkgs_ne hu HPK.out h)
        clear ob1 hu hio
        generalize u.pkg = up at *
        by_cases hpk : up = weakN
        · subst hpk
          clear PN HPK
          go_wp2_with fail
          go_quiet (fail)
          go_wp2_with fail
          refine (AW.out _).mono ?_
          rintro ea wa ⟨rfl, ka⟩
          have KA := Lib.hid (K1.out.trans (NB.out.trans (GR.out.trans (by first | exact ((Nw.refl _).drewN _).trans ka | exact ((Nw.refl _).drew).trans ka | exact ka))))
          clear ka
          go_wp2_with fail
          go_returns
          exact ⟨rfl, KA.out⟩
        · obtain ⟨n1, n2, n3, n4⟩ := str_ne hpk
          have PN2 := Lib.hid (PN.out hpk)
          clear PN HPK
          go_wp2_with fail
          go_quiet (fail)
          go_wp2_with fail
          go_roundw
          case rel => exact ⟨i + 1, by omega, by go_num, PN2.out, by first | exact GR.out.drewN _ | exact GR.out.drew | exact GR.out⟩
          case measure => simp [intOf]; omega
      · have PK := Lib.hid (show weakN ∉ pkgs os by
          have := HPK.out
          rw [List.take_of_length_le (by have := HN.out; omega)] at this
          exact this)
        clear HPK
        have hp1 : ¬ (i : Int) < (n : Int) := by omega
        have KO := Lib.hid (K1.out.trans (NB.out.trans GR.out))
        have LW := Lib.hid (LI.out wo KO.out os _ (obs_nw HO.out KO.out) (by have := HN.out; omega) (by have := LT.out.2.1; omega) (by have := LT.out.occ; omega))
        have BOo := Lib.hid (BO.out.nw GR.out)
        clear cO
        go_wp2_with fail
        refine LW.out.mono ?_
        rintro e2 w2 (⟨hbad, x1, c1, y1, d1, s1, q1, rfl, hoc, hod, hos, k2⟩ | ⟨hbad, rfl, k2⟩)
        rotate_left
        · exact absurd BD.out hbad
        clear LW
        obtain ⟨hpk, hso, hlm⟩ := bad_parts hbad
        have VAL := Lib.hid (packV_zero hpk)
        have LIM := Lib.hid hlm
        have OBS := Lib.hid (obs_ok HO.out)
        have CAT := Lib.hid (fun (s : Sy) (h : s ∈ countedL os bg.length) => counted_at VAL.out LIM.out OBS.out h)
        have HLM := Lib.hid (show bg.length ≤ 1000 ∧ bg.length + 1 + sumC os ≤ 65536 ∧ 2 + sumD os ≤ 16384 by unfold limP at hlm; omega)
        obtain ⟨lc, hlc⟩ : ∃ lc, lc = (imgC os bg).length := ⟨_, rfl⟩
        obtain ⟨ld, hld⟩ : ∃ ld, ld = (imgD os bg).length := ⟨_, rfl⟩
        obtain ⟨L, hL⟩ : ∃ L, L = countedL os bg.length := ⟨_, rfl⟩
        rw [← hL] at hos CAT ⊢
        obtain ⟨ls, hls⟩ : ∃ ls, ls = L.length := ⟨_, rfl⟩
        rw [← hls] at hos ⊢
        rw [← hlc] at hoc ⊢
        rw [← hld] at hod ⊢
        have HLC := Lib.hid hlc
        have HLD := Lib.hid hld
        have HLS := Lib.hid hls
        have HL := Lib.hid hL
        have hld2 : 2 ≤ ld := by rw [hld, imgD_len]; omega
        have hlc1 : 1 ≤ lc := by rw [hlc, imgC_len]; omega
        have lcb : (lc : Int) ≤ 65536 := by rw [hlc, imgC_len]; have := HLM.out; omega
        have ldb : (ld : Int) ≤ 16384 := by rw [hld, imgD_len]; have := HLM.out; omega
        have lsb : (ls : Int) ≤ 2000 := by
          rw [hls, hL]
          have h1 := cntP_le os bg.length (occs os)
          have h2 := LT.out.occ
          unfold countedL
          omega
        have NX := Lib.hid (Nw.new w2 (.cells #[.slice x1 lc c1, .slice y1 ld d1, .int .i64 0] 53))
        have BX := Lib.hid (Blk.new w2 [.slice x1 lc c1, .slice y1 ld d1, .int .i64 0] 53)
        have K3 := Lib.hid (KO.out.trans (k2.trans NX.out))
        have B3 := Lib.hid (BOo.out.nw (k2.trans NX.out))
        have OC := Lib.hid (own_kp hoc NX.out (fun _ _ x => x))
        have OD := Lib.hid (own_kp hod NX.out (fun _ _ x => x))
        have OS := Lib.hid (own_kp hos NX.out (fun _ _ x => x))
        have hqo : q < wo.heap.size := BOo.out.lt
        have hqb : q < w2.heap.size := Nat.lt_of_lt_of_le hqo k2.size
        have hwo2 : wo.heap.size ≤ w2.heap.size := k2.size
        clear hpk hso hlm hlc hld hls hL hoc hod hos k2 hbad
        go_upto_region 12 with fail
        generalize w2.alloc (.cells #[.slice x1 lc c1, .slice y1 ld d1, .int .i64 0] 53) = w3 at *
        have hbi : w2.heap.size < w3.heap.size := BX.out.lt
        generalize w2.heap.size = bi at *
        have hwo3 : wo.heap.size < w3.heap.size := by omega
        clear NX
        go_loopw [10] (fun vj wr => ∃ (j : Nat) (xs : Option Addr) (cs : Nat), j ≤ ls ∧ vj = .int .i64 (j : Int) ∧ WkAt w3.heap.size wr q ((L.take j).map weakOf) xs j cs ∧ Kp (fun b => b = q) w3 wr) (fun vj _ => ls - (intOf vj).toNat)
        case atStart => exact ⟨0, none, 0, Nat.zero_le _, rfl, ⟨B3.out, ⟨rfl, .inl ⟨rfl, rfl⟩⟩⟩, Kp.refl _ _⟩
        case round =>
          obtain ⟨j, xs, cs, hj, rfl, hwk, g⟩ := hrel
          have GK := Lib.hid g
          have WK := Lib.hid hwk
          have OSK := Lib.hid (own_kp OS.out g (fun g hg e => by have := own_block OS.out g hg; omega))
          clear g hwk
          rename World => wr
          by_cases hjt : j < ls
          · have hjl : j < L.length := by have := HLS.out; omega
            have hp2 : (0 : Int) ≤ (j : Int) := by omega
            have hp3 : (j : Int) < (ls : Int) := by omega
            obtain ⟨gs, rfl⟩ := own_some OSK.out (by omega)
            obtain ⟨f0, f1, f2, f3, f4, f5⟩ := row_sy OSK.out HLS.out hjl
            have TK := Lib.hid (show (L.take (j + 1)).map weakOf = (L.take j).map weakOf ++ [weakOf L[j]] by rw [List.take_succ_eq_append_getElem hjl, List.map_append]; rfl)
            obtain ⟨S, hS⟩ : ∃ S, S = weakOf L[j] := ⟨_, rfl⟩
            have ES := Lib.hid (show syCs S = [.string L[j].name, .int .i64 L[j].kind, .bool true, .int .i64 0, .int .i64 1, .int .i64 L[j].frame] by rw [hS]; rfl)
            rw [← hS] at TK
            clear hS
            generalize L[j].name = yn at *
            generalize L[j].kind = yk at *
            generalize L[j].weak = yw at *
            generalize L[j].at_ = ya at *
            generalize L[j].size = yz at *
            generalize L[j].frame = yf at *
            have NA := Lib.hid (Nw.new wr (.cells #[.string yn, .int .i64 yk, .bool true, .int .i64 0, .int .i64 1, .int .i64 yf] 44))
            have BA := Lib.hid (Blk.new wr [.string yn, .int .i64 yk, .bool true, .int .i64 0, .int .i64 1, .int .i64 yf] 44)
            go_upto_region 18 with fail
            generalize wr.alloc (.cells #[.string yn, .int .i64 yk, .bool true, .int .i64 0, .int .i64 1, .int .i64 yf] 44) = wa at *
            have cA := BA.out.cell
            have WA := Lib.hid (WK.out.kp NA.out (fun x => x) (fun _ _ x => x))
            have cQ := WA.out.box.cell
            have GA := Lib.hid (Kp.trans GK.out NA.out (fun _ _ x => x.elim))
            have hqb3 : q < w3.heap.size := by omega
            have WC := Lib.hid (WA.out.kp (Nw.new wa (.cells #[.string yn, .int .i64 yk, .bool true, .int .i64 0, .int .i64 1, .int .i64 yf] 44)) (fun x => x) (fun _ _ x => x))
            have ARM := Lib.hid (fun (x' : Option Addr) (c' : Nat) (w4 : World) (ho : w4.ownsRow w3.heap.size 44 6 (.slice x' (j + 1) c') (j + 1) (((L.take j).map weakOf).flatMap syCs ++ [.string yn, .int .i64 yk, .bool true, .int .i64 0, .int .i64 1, .int .i64 yf])) (hg : (wa.alloc (.cells #[.string yn, .int .i64 yk, .bool true, .int .i64 0, .int .i64 1, .int .i64 yf] 44)).grownBy w4 (Value.slice xs j cs).ownBlock) =>
              (show WkAt w3.heap.size (w4.setCell ⟨q, 3, none⟩ (.slice x' (j + 1) c')) q ((L.take (j + 1)).map weakOf) x' (j + 1) c' ∧ Kp (fun b => b = q) w3 (w4.setCell ⟨q, 3, none⟩ (.slice x' (j + 1) c')) ∧ w4.frozen? ⟨q, 3, none⟩ = false ∧ w4.cell? ⟨q, 3, none⟩ = some (.slice xs j cs) from by
                rw [← ES.out] at ho
                obtain ⟨a1, a2, a3, a4⟩ := WC.out.app hqb3 ho hg
                rw [TK.out]
                exact ⟨a1, Kp.trans (GA.out.alloc _) a2 (fun b hb e => by omega), a3, a4⟩))
            have OW := Lib.hid WC.out.row
            have H63 := Lib.hid (show j + 1 ≤ maxLen by unfold maxLen; omega)
            have HBY := Lib.hid (show (j + 1) * 56 ≤ 140737488355328 by omega)
            have HBS := Lib.hid (show w3.heap.size ≤ (wa.alloc (.cells #[.string yn, .int .i64 yk, .bool true, .int .i64 0, .int .i64 1, .int .i64 yf] 44)).heap.size from (GA.out.alloc _).size)
            have HN1 := Lib.hid (new_cells wa [.string yn, .int .i64 yk, .bool true, .int .i64 0, .int .i64 1, .int .i64 yf] 44)
            have HN2 := Lib.hid (show ∀ u ∈ [Value.string yn, .int .i64 yk, .bool true, .int .i64 0, .int .i64 1, .int .i64 yf], u.oneCell' = true by rw [← ES.out]; exact syCs_one S)
            clear f0 f1 f2 f3 f4 f5
            go_wp2_with (at_builtin; refine wpList_app _ rfl (.tmp 69) (.tmp 71) 23 rfl w3.heap.size 44 is (.agg #[.string ⟨#[]⟩, .int .i64 0, .bool false, .int .i64 0, .int .i64 0, .int .i64 0]) 6 56 Try.underlying23 his zs0 zs1 zs2 rfl (by decide) _ _ _ rfl OW.out ⟨wa.heap.size, 0, none⟩ 1 1 [.string yn, .int .i64 yk, .bool true, .int .i64 0, .int .i64 1, .int .i64 yf] rfl rfl HN1.out HN2.out H63.out HBY.out HBS.out ?_; intro x' c' w4 ho hg hl'; obtain ⟨q1, q2, zq, cq⟩ := ARM.out x' c' w4 ho hg; have S3 := Lib.hid q1; have S4 := Lib.hid q2; clear ho hg hl' q1 q2)
            go_roundw
            case rel => exact ⟨j + 1, x', c', by omega, by go_num, S3.out, S4.out⟩
            case measure => simp [intOf]; omega
          · have hp3 : ¬ (j : Int) < (ls : Int) := by omega
            have hjls : j = ls := by omega
            subst hjls
            have WL := Lib.hid (show WkAt w3.heap.size wr q (L.map weakOf) xs j cs by
              have := WK.out
              rw [List.take_of_length_le (by have := HLS.out; omega)] at this
              exact this)
            have hqb3 : q < w3.heap.size := by omega
            have hqr : q < wr.heap.size := WL.out.box.lt
            clear WK OSK
            have cQ := WL.out.box.cell
            have zQ := WL.out.box.frozen
            have B20 := Lib.hid (show Blk ((wr.setCell ⟨q, 5, none⟩ (.slice (some ⟨wr.heap.size, 0, none⟩) 1 1)).alloc (.cells #[.int .i64 0] 2)) q [.string weakN, .int .i64 0, .slice none 0 0, .slice xs j cs, .slice none 0 0, .slice (some ⟨wr.heap.size, 0, none⟩) 1 1, .slice none 0 0] 27 from (WL.out.box.set 5 (.slice (some ⟨wr.heap.size, 0, none⟩) 1 1)).alloc _)
            have R20 := Lib.hid ((own_setOther (q := q) (o := 5) (u := .slice (some ⟨wr.heap.size, 0, none⟩) 1 1) WL.out.row hqb3).alloc (.cells #[.int .i64 0] 2))
            have C20 := Lib.hid (new_after wr ⟨q, 5, none⟩ (.slice (some ⟨wr.heap.size, 0, none⟩) 1 1) [.int .i64 0] 2)
            have K20 := Lib.hid ((kp_set GK.out rfl 5 (.slice (some ⟨wr.heap.size, 0, none⟩) 1 1)).alloc (.cells #[.int .i64 0] 2))
            go_upto_region 20 with fail
            generalize (wr.setCell ⟨q, 5, none⟩ (.slice (some ⟨wr.heap.size, 0, none⟩) 1 1)).alloc (.cells #[.int .i64 0] 2) = w20 at *
            generalize wr.heap.size = cb0 at *
            clear cQ zQ
            have hqr2 : q < w20.heap.size := B20.out.lt
            have hcb : cb0 < w20.heap.size := C20.out.lt
            have cQ := B20.out.cell
            have zQ := B20.out.frozen
            have B21 := Lib.hid (show Blk ((w20.setCell ⟨q, 6, none⟩ (.slice (some ⟨w20.heap.size, 0, none⟩) 1 1)).alloc (.cells #[.int .i64 0] 2)) q [.string weakN, .int .i64 0, .slice none 0 0, .slice xs j cs, .slice none 0 0, .slice (some ⟨cb0, 0, none⟩) 1 1, .slice (some ⟨w20.heap.size, 0, none⟩) 1 1] 27 from (B20.out.set 6 (.slice (some ⟨w20.heap.size, 0, none⟩) 1 1)).alloc _)
            have R21 := Lib.hid ((own_setOther (q := q) (o := 6) (u := .slice (some ⟨w20.heap.size, 0, none⟩) 1 1) R20.out hqb3).alloc (.cells #[.int .i64 0] 2))
            have C21 := Lib.hid ((C20.out.setOther (a := ⟨q, 6, none⟩) (show cb0 ≠ q by omega) (.slice (some ⟨w20.heap.size, 0, none⟩) 1 1)).alloc (.cells #[.int .i64 0] 2))
            have D21 := Lib.hid (new_after w20 ⟨q, 6, none⟩ (.slice (some ⟨w20.heap.size, 0, none⟩) 1 1) [.int .i64 0] 2)
            have K21 := Lib.hid ((kp_set K20.out rfl 6 (.slice (some ⟨w20.heap.size, 0, none⟩) 1 1)).alloc (.cells #[.int .i64 0] 2))
            go_upto_region 21 with fail
            generalize (w20.setCell ⟨q, 6, none⟩ (.slice (some ⟨w20.heap.size, 0, none⟩) 1 1)).alloc (.cells #[.int .i64 0] 2) = w21 at *
            generalize w20.heap.size = db0 at *
            clear cQ zQ B20 R20 C20 K20
            have OW21 := Lib.hid (show ObAt w21.heap.size w21 (weakOb L) [.string weakN, .int .i64 0, .slice none 0 0, .slice xs j cs, .slice none 0 0, .slice (some ⟨cb0, 0, none⟩) 1 1, .slice (some ⟨db0, 0, none⟩) 1 1] from
              weak_at (own_SlB6 R21.out (fun s hs => by
                obtain ⟨s0, h0, rfl⟩ := List.mem_map.1 hs
                exact (CAT.out s0 h0).2) (by rw [List.length_map]; exact HLS.out) (by omega))
                (blk_SlB (l := [0]) C21.out (by intro v hv; simp at hv; subst hv; exact i64_0) rfl (by decide))
                (blk_SlB (l := [0]) D21.out (by intro v hv; simp at hv; subst hv; exact i64_0) rfl (by decide)))
            have N21 := Lib.hid (show Nw w w21 from Kp.trans K3.out K21.out (fun x hx e => by omega))
            have BQ := Lib.hid (show Blk w21 q [.string weakN, .int .i64 0, .slice none 0 0, .slice xs j cs, .slice none 0 0, .slice (some ⟨cb0, 0, none⟩) 1 1, .slice (some ⟨db0, 0, none⟩) 1 1] 27 from B21.out)
            clear B21 R21 C21 D21 WL GK
            obtain ⟨news, hnl, hnc, hn1, hro⟩ := rows_ob HO.out ((In.self w).nw (N21.out.trans (Nw.new w21 (.cells #[] 27)))) n (by have := HN.out; omega)
            have RO := Lib.hid hro
            have NC := Lib.hid (show ∀ j u, news[j]? = some u → (w21.alloc (.cells #[] 27)).cell? ((⟨b, o, none⟩ : Addr).add j) = some u from fun j u h => by
              have e2 : (⟨b, o, none⟩ : Addr).add j = ⟨b, o + j, none⟩ := by unfold Addr.add; split <;> simp_all
              rw [e2]; exact hnc j u h)
            have N1 := Lib.hid hn1
            have NL := Lib.hid hnl
            clear hro hnc hn1 hnl
            have OE := Lib.hid (own_emptyO w21)
            have H63 := Lib.hid (show 0 + n ≤ maxLen by unfold maxLen; omega)
            have HBY := Lib.hid (show (0 + n) * 144 ≤ 140737488355328 by omega)
            have HBS := Lib.hid (show w21.heap.size ≤ (w21.alloc (.cells #[] 27)).heap.size by simp)
            have STEP := Lib.hid (fun (x' : Option Addr) (c' : Nat) (w4 : World) (ho : w4.ownsRow w21.heap.size 27 7 (.slice x' (0 + n) c') (0 + n) ([] ++ news)) (hgr : (w21.alloc (.cells #[] 27)).grownBy w4 (Value.slice (some ⟨w21.heap.size, 0, none⟩) 0 0).ownBlock) =>
              show ∃ gc, x' = some ⟨gc, 0, none⟩ ∧ Nw w21 w4 ∧ w4.ownsRow w21.heap.size 27 7 (.slice (some ⟨gc, 0, none⟩) n c') n news from by
              rw [Nat.zero_add, List.nil_append] at ho
              obtain ⟨gc, rfl⟩ := own_some ho (by omega)
              exact ⟨gc, rfl, Kp.grown (Nw.new w21 _) hgr (fun b hb _ => by simp only [Value.ownBlock, Option.some.injEq] at hb; omega), ho⟩)
            go_upto_region 22 with (at_builtin; refine wpList_app _ rfl (.tmp 78) (.tmp 79) 47 rfl w21.heap.size 27 i0 (.agg #[.string ⟨#[]⟩, .int .i64 0, .slice none 0 0, .slice none 0 0, .slice none 0 0, .slice none 0 0, .slice none 0 0]) 7 144 Try.underlying47 hi0 hz0 hz1 hz2 rfl (by decide) _ 0 [] rfl OE.out ⟨b, o, none⟩ n cp news rfl NL.out NC.out N1.out H63.out HBY.out HBS.out ?_; intro x' c' w4 ho hgr hl'; obtain ⟨gc, rfl, KB, OC4⟩ := STEP.out x' c' w4 ho hgr; have K22 := Lib.hid KB; have O22 := Lib.hid OC4; clear ho hgr hl' KB OC4)
            clear STEP OE H63 HBY HBS NC N1
            rename World => w22
            have BQ2 := Lib.hid (BQ.out.nw K22.out)
            have cQ := BQ2.out.cell
            have OW := Lib.hid (O22.out.alloc (.cells #[.string weakN, .int .i64 0, .slice none 0 0, .slice xs j cs, .slice none 0 0, .slice (some ⟨cb0, 0, none⟩) 1 1, .slice (some ⟨db0, 0, none⟩) 1 1] 27))
            have H63 := Lib.hid (show n + 1 ≤ maxLen by unfold maxLen; omega)
            have HBY := Lib.hid (show (n + 1) * 144 ≤ 140737488355328 by omega)
            have HBS := Lib.hid (show w21.heap.size ≤ (w22.alloc (.cells #[.string weakN, .int .i64 0, .slice none 0 0, .slice xs j cs, .slice none 0 0, .slice (some ⟨cb0, 0, none⟩) 1 1, .slice (some ⟨db0, 0, none⟩) 1 1] 27)).heap.size from (K22.out.alloc _).size)
            have HN1 := Lib.hid (new_cells w22 [.string weakN, .int .i64 0, .slice none 0 0, .slice xs j cs, .slice none 0 0, .slice (some ⟨cb0, 0, none⟩) 1 1, .slice (some ⟨db0, 0, none⟩) 1 1] 27)
            have HN2 := Lib.hid OW21.out.one
            have STEP := Lib.hid (fun (x' : Option Addr) (c'' : Nat) (w5 : World) (ho : w5.ownsRow w21.heap.size 27 7 (.slice x' (n + 1) c'') (n + 1) (news ++ [.string weakN, .int .i64 0, .slice none 0 0, .slice xs j cs, .slice none 0 0, .slice (some ⟨cb0, 0, none⟩) 1 1, .slice (some ⟨db0, 0, none⟩) 1 1])) (hgr : (w22.alloc (.cells #[.string weakN, .int .i64 0, .slice none 0 0, .slice xs j cs, .slice none 0 0, .slice (some ⟨cb0, 0, none⟩) 1 1, .slice (some ⟨db0, 0, none⟩) 1 1] 27)).grownBy w5 (Value.slice (some ⟨gc, 0, none⟩) n c').ownBlock) =>
              show ∃ gd, x' = some ⟨gd, 0, none⟩ ∧ Nw w21 w5 ∧ SlB w5.heap.size w5 7 (ObAt w5.heap.size w5) (os ++ [weakOb L]) (.slice (some ⟨gd, 0, none⟩) (n + 1) c'') from by
              obtain ⟨gd, rfl⟩ := own_some ho (by omega)
              have k5 : Nw w21 w5 := grown_nw (K22.out.alloc _) hgr (fun k hk => own_block O22.out k hk)
              exact ⟨gd, rfl, k5, rows_all (by rw [← HN.out]; exact RO.out) HN.out ((In.self w).nw (N21.out.trans k5)) NL.out ho (OW21.out.up ((In.self w21).nw k5)) (by omega)⟩)
            go_upto_region 23 with (at_builtin; refine wpList_app _ rfl (.tmp 81) (.tmp 83) 47 rfl w21.heap.size 27 i0 (.agg #[.string ⟨#[]⟩, .int .i64 0, .slice none 0 0, .slice none 0 0, .slice none 0 0, .slice none 0 0, .slice none 0 0]) 7 144 Try.underlying47 hi0 hz0 hz1 hz2 rfl (by decide) _ n news rfl OW.out ⟨w22.heap.size, 0, none⟩ 1 1 [.string weakN, .int .i64 0, .slice none 0 0, .slice xs j cs, .slice none 0 0, .slice (some ⟨cb0, 0, none⟩) 1 1, .slice (some ⟨db0, 0, none⟩) 1 1] rfl rfl HN1.out HN2.out H63.out HBY.out HBS.out ?_; intro x' c'' w23 ho hgr hl'; obtain ⟨gd, rfl, KB, SB⟩ := STEP.out x' c'' w23 ho hgr; have K23 := Lib.hid KB; have OL23 := Lib.hid SB; clear ho hgr hl' KB SB)
            clear STEP OW H63 HBY HBS HN1 HN2 O22 BQ2 cQ RO NL
            rename World => w23
            have BQ3 := Lib.hid (BQ.out.nw K23.out)
            have cQ := BQ3.out.cell
            have BX3 := Lib.hid (BX.out.kp (Kp.trans K21.out K23.out (fun _ _ x => x.elim)) (show ¬ bi = q by omega))
            have cX := BX3.out.cell
            have N23 := Lib.hid (N21.out.trans K23.out)
            have RV := Lib.hid (fun (wz : World) (k : Nw w21 wz) => rvalid_any (weakOb L) _ OW21.out ((In.self w21).nw k))
            go_wp2_with fail
            refine (num30_any _ _).mono ?_
            rintro e3 w24 ⟨rfl, rfl⟩
            go_wp2_with fail
            refine (RV.out _ K23.out).mono ?_
            rintro e4 w24 ⟨rfl, k4⟩
            have N24 := Lib.hid (N23.out.trans k4)
            have OL24 := Lib.hid (obs_nw OL23.out k4)
            have BX4 := Lib.hid (BX3.out.nw k4)
            have K24 := Lib.hid (show Kp (fun b => b = q) w3 w24 from Kp.trans K21.out (K23.out.trans k4) (fun _ _ x => x.elim))
            clear cX cQ k4 RV OL23 BX3 BQ3 BQ N23 K23 K22 K21 N21 OW21
            have cX := BX4.out.cell
            obtain ⟨vv, hvv⟩ : ∃ vv, vv = codeV (weakOb L) := ⟨_, rfl⟩
            rw [← hvv]
            have HVV := Lib.hid hvv
            clear hvv
            by_cases hv : vv = 0
            rotate_left
            · obtain ⟨m1, m2, m3, m4⟩ := int_ne hv
              go_wp2_with fail
              refine (num30_any _ _).mono ?_
              rintro e5 w25 ⟨rfl, rfl⟩
              go_wp2_with fail
              refine (AW.out _).mono ?_
              rintro ea wa ⟨rfl, ka⟩
              have KA := Lib.hid (N24.out.trans ka)
              clear ka
              go_wp2_with fail
              go_returns
              exact ⟨rfl, KA.out⟩
            subst hv
            by_cases hc6 : (60000 : Int) < (lc : Int)
            · skip
              go_wp2_with fail
              refine (num30_any _ _).mono ?_
              rintro e5 w25 ⟨rfl, rfl⟩
              go_wp2_with fail
              refine (AW.out _).mono ?_
              rintro ea wa ⟨rfl, ka⟩
              have KA := Lib.hid (N24.out.trans ka)
              clear ka
              go_wp2_with fail
              go_returns
              exact ⟨rfl, KA.out⟩
            by_cases hd6 : (16000 : Int) < (ld : Int)
            · skip
              go_wp2_with fail
              refine (num30_any _ _).mono ?_
              rintro e5 w25 ⟨rfl, rfl⟩
              go_wp2_with fail
              refine (AW.out _).mono ?_
              rintro ea wa ⟨rfl, ka⟩
              have KA := Lib.hid (N24.out.trans ka)
              clear ka
              go_wp2_with fail
              go_returns
              exact ⟨rfl, KA.out⟩
            have WB := Lib.hid (show badV (os ++ [weakOb L]) bg = 0 by
              have hv := HVV.out
              rw [HL.out] at hv ⊢
              exact weak_bad BD.out PK.out hv.symm (by rw [← HLC.out]; omega) (by rw [← HLD.out]; omega))
            have EC := Lib.hid (show imgC (os ++ [weakOb L]) bg = imgC os bg ++ [0] by rw [HL.out]; exact weak_imgC)
            have ED := Lib.hid (show imgD (os ++ [weakOb L]) bg = (imgD os bg).set 1 ((ld : Int) + 1) ++ [0] by rw [HL.out, HLD.out]; exact weak_imgD)
            have EL := Lib.hid (show countedL (os ++ [weakOb L]) bg.length = L by
              have := weak_counted (os := os) (nb := bg.length)
              rw [← HL.out] at this
              exact this)
            have LW := Lib.hid (LI.out w24 N24.out (os ++ [weakOb L]) _ OL24.out (by rw [List.length_append, ← HN.out]; simp only [List.length_cons, List.length_nil]; omega) (by have := LT.out.2.1; omega) (by
              rw [weak_occs, List.length_append, fromS_len]
              have h1 := LT.out.occ
              have h2 : (weakOb L).syms.length = j := by
                rw [HLS.out]
                exact List.length_map _
              omega))
            go_upto_region 25 with fail
            clear cX
            go_wp2_with fail
            refine LW.out.mono ?_
            rintro e5 w25 (⟨hbad2, x2, cc2, y2, dd2, s2, qq2, rfl, hoc2, hod2, hos2, k5⟩ | ⟨hbad2, _⟩)
            rotate_left
            · exact absurd WB.out hbad2
            rw [EL.out] at hos2 ⊢
            rw [EC.out] at hoc2 ⊢
            rw [ED.out] at hod2 ⊢
            have e1 : (imgC os bg ++ [0]).length = lc + 1 := by rw [List.length_append, ← HLC.out]; rfl
            have e2 : ((imgD os bg).set 1 ((ld : Int) + 1) ++ [0]).length = ld + 1 := by rw [List.length_append, List.length_set, ← HLD.out]; rfl
            rw [← HLS.out] at hos2 ⊢
            rw [e1] at hoc2 ⊢
            rw [e2] at hod2 ⊢
            obtain ⟨gy, rfl⟩ := own_some hod2 (by omega)
            obtain ⟨gx, rfl⟩ := own_some hoc2 (by omega)
            have hcp := own_cap hoc2
            have hdp := own_cap hod2
            have NY := Lib.hid (Nw.new w25 (.cells #[.slice (some ⟨gx, 0, none⟩) (lc + 1) cc2, .slice (some ⟨gy, 0, none⟩) (ld + 1) dd2, .int .i64 0] 53))
            have BY := Lib.hid (Blk.new w25 [.slice (some ⟨gx, 0, none⟩) (lc + 1) cc2, .slice (some ⟨gy, 0, none⟩) (ld + 1) dd2, .int .i64 0] 53)
            have N26 := Lib.hid (N24.out.trans (k5.trans NY.out))
            have K26 := Lib.hid (show Kp (fun b => b = q) w3 _ from Kp.trans K24.out (k5.trans NY.out) (fun _ _ x => x.elim))
            have BX6 := Lib.hid (BX4.out.nw (k5.trans NY.out))
            have IC := Lib.hid (imgC_i64 (bg := bg) OBS.out)
            have ID := Lib.hid (imgD_i64 VAL.out LIM.out OBS.out)
            have SA := Lib.hid (own_SlB6 (own_kp OS.out K26.out (fun g hg e => by have := own_block OS.out g hg; omega)) (fun s hs => (CAT.out s hs).1) HLS.out (by omega))
            have SB := Lib.hid (own_SlB6 (own_kp hos2 NY.out (fun _ _ x => x)) (fun s hs => (CAT.out s hs).1) HLS.out (by omega))
            have CA := Lib.hid (own_SlB (own_kp OC.out K26.out (fun g hg e => by have := own_block OC.out g hg; omega)) IC.out HLC.out (by omega))
            have DA := Lib.hid (own_SlB (own_kp OD.out K26.out (fun g hg e => by have := own_block OD.out g hg; omega)) ID.out HLD.out (by omega))
            have CB := Lib.hid (own_SlB (own_kp hoc2 NY.out (fun _ _ x => x)) (fun v hv => by
              rcases List.mem_append.1 hv with hv | hv
              · exact IC.out v hv
              · simp at hv; subst hv; exact i64_0) e1.symm (by omega))
            have DB := Lib.hid (own_SlB (own_kp hod2 NY.out (fun _ _ x => x)) (fun v hv => by
              rcases List.mem_append.1 hv with hv | hv
              · exact mem_set_i64 ID.out (by unfold I64; omega) v hv
              · simp at hv; subst hv; exact i64_0) e2.symm (by omega))
            clear hos2 hoc2 hod2 k5 LW hbad2 e1 e2
            go_upto_region 26 with fail
            generalize w25.alloc (.cells #[.slice (some ⟨gx, 0, none⟩) (lc + 1) cc2, .slice (some ⟨gy, 0, none⟩) (ld + 1) dd2, .int .i64 0] 53) = w26 at *
            generalize w25.heap.size = by2 at *
            have SY := Lib.hid (syms28 L L _ _ w26 SA.out SB.out (In.self w26))
            rw [dc_true rfl] at SY
            have cY := BY.out.cell
            have cX := BX6.out.cell
            go_wp2_with fail
            refine (num30_any _ _).mono ?_
            rintro e6 w27 ⟨rfl, rfl⟩
            go_wp2_with fail
            refine SY.out.mono ?_
            rintro e7 w27 ⟨rfl, k7⟩
            have K7 := Lib.hid k7
            clear cY cX k7
            have cY := (BY.out.nw K7.out).cell
            have cX := (BX6.out.nw K7.out).cell
            go_upto_region 28 with fail
            clear SY LI CAT SA SB OS OC OD
            obtain ⟨t, ht⟩ : ∃ t : Int, t = (ld : Int) + 1 := ⟨_, rfl⟩
            obtain ⟨DS, hDS⟩ : ∃ DS, DS = (imgD os bg).set 1 t := ⟨_, rfl⟩
            have DSB := Lib.hid (show DS.set 1 (ld : Int) = imgD os bg by
              rw [hDS, ht, HLD.out]
              exact imgD_back)
            have DSL := Lib.hid (show DS.length = ld by rw [hDS, List.length_set, ← HLD.out])
            have DS1 := Lib.hid (show DS[1]? = some t by rw [hDS, List.getElem?_set_self (by rw [← HLD.out]; omega)])
            rw [← ht, ← hDS] at DB
            have DT := Lib.hid (show SlB w26.heap.size w26 1 WdAt DS (.slice (some ⟨gy, 0, none⟩) ld dd2) by
              have h := DB.out.takeN (k := ld) (c' := dd2) (by rw [List.length_append, DSL.out]; omega)
              have e : (DS ++ [0]).take ld = DS := by rw [← DSL.out]; simp
              rw [e] at h
              exact h)
            have CT := Lib.hid (show SlB w26.heap.size w26 1 WdAt (imgC os bg) (.slice (some ⟨gx, 0, none⟩) lc cc2) by
              have h := CB.out.takeN (k := lc) (c' := cc2) (by rw [List.length_append, ← HLC.out]; omega)
              have e : (imgC os bg ++ [0]).take lc = imgC os bg := by rw [HLC.out]; simp
              rw [e] at h
              exact h)
            have hs1 : IntKind.i64.wrap (t - 1) = (ld : Int) := by rw [ht, Int.add_sub_cancel]; exact IntWalk.i64_in _ (by omega)
            have hs2 : t - 1 = (ld : Int) := by omega
            have hl1 : (1 : Int) < (ld : Int) := by omega
            have hq2 : (ld : Int) ≤ (dd2 : Int) := by omega
            have hq3 : (ld : Int) ≤ (ld : Int) + 1 := by omega
            have hkz : ¬ dd2 = ld := by omega
            have hq4 : (lc : Int) ≤ (cc2 : Int) := by omega
            have hq5 : (lc : Int) ≤ (lc : Int) + 1 := by omega
            have hkz2 : ¬ cc2 = lc := by omega
            clear hDS
            have hb2 : by2 < w27.heap.size := (BY.out.nw K7.out).lt
            have hbi2 : bi < w27.heap.size := (BX6.out.nw K7.out).lt
            have OE := Lib.hid (own_empty64 w27)
            have SRC := Lib.hid (words_src DT.out ((In.self w26).nw (K7.out.trans (Nw.new w27 (.cells #[] 2)))))
            have H63 := Lib.hid (show 0 + ld ≤ maxLen by unfold maxLen; omega)
            have HBY := Lib.hid (show (0 + ld) * 8 ≤ 140737488355328 by omega)
            have HBS := Lib.hid (show w27.heap.size ≤ (w27.alloc (.cells #[] 2)).heap.size by simp)
            have STEP := Lib.hid (fun (x' : Option Addr) (c' : Nat) (w4 : World) (ho : w4.ownsRow w27.heap.size 2 1 (.slice x' (0 + ld) c') (0 + ld) ([] ++ wdV DS)) (hgr : (w27.alloc (.cells #[] 2)).grownBy w4 (some w27.heap.size)) =>
              show ∃ ge, x' = some ⟨ge, 0, none⟩ ∧ Nw w27 w4 ∧ w4.ownsRow w27.heap.size 2 1 (.slice (some ⟨ge, 0, none⟩) ld c') ld (wdV DS) from by
              rw [Nat.zero_add, List.nil_append] at ho
              obtain ⟨ge, rfl⟩ := own_some ho (by omega)
              exact ⟨ge, rfl, Kp.grown (Nw.new w27 _) hgr (fun b hb _ => by simp only [Option.some.injEq] at hb; omega), ho⟩)
            clear ht
            go_upto_region 29 with (at_builtin; refine wpList_app64 _ rfl (.tmp 147) (.tmp 153) rfl rfl w27.heap.size w27.heap.size 0 0 [] rfl OE.out (some ⟨gy, 0, none⟩) ld dd2 DS rfl DSL.out SRC.out H63.out HBY.out HBS.out ?_; intro x' c28 w28 ho hgr hl'; obtain ⟨ge, rfl, KB, OC4⟩ := STEP.out x' c28 w28 ho hgr; have K28 := Lib.hid KB; have O28 := Lib.hid OC4; clear ho hgr hl' KB OC4)
            clear STEP OE H63 HBY HBS SRC cX cY
            have cE : w28.cell? ⟨ge, 1, none⟩ = some (.int .i64 t) := by
              rw [O28.out.cellAt 1 (by omega)]
              unfold wdV
              rw [List.getElem?_map, DS1.out]
              rfl
            have zE := O28.out.frozenAt 1
            have hge : w27.heap.size ≤ ge := own_block O28.out ge rfl
            have ST9 := Lib.hid (O28.out.stored 1 (.int .i64 (ld : Int))).1
            have K29 := Lib.hid (show Nw w27 (w28.setCell ⟨ge, 1, none⟩ (.int .i64 (ld : Int))) from Kp.setCell K28.out (p := ⟨ge, 1, none⟩) (fun hlt => absurd hlt (Nat.not_lt.2 hge)) _)
            go_upto_region 30 with fail
            clear cE zE
            generalize w28.setCell ⟨ge, 1, none⟩ (.int .i64 (ld : Int)) = w29 at *
            have KZ := Lib.hid (K7.out.trans K29.out)
            have DR := Lib.hid (own_SlB (l := imgD os bg) (by
              have h := ST9.out
              rw [← wdV_set, DSB.out] at h
              exact h) ID.out HLD.out (by omega))
            have W1 := Lib.hid (fun (wz : World) (k : Nw w29 wz) => words28 (imgC os bg) (imgC os bg) _ _ wz (CT.out.self_nw KZ.out) (CA.out.self_nw KZ.out) ((In.self w29).nw k))
            have W2 := Lib.hid (fun (wz : World) (k : Nw w29 wz) => words28 (imgD os bg) (imgD os bg) _ _ wz DR.out (DA.out.self_nw KZ.out) ((In.self w29).nw k))
            rw [dc_true rfl] at W1 W2
            have FC := Lib.hid (fun (wz : World) (k : Nw w29 wz) => (show Nw w29 wz ∧ wz.cell? ⟨bi, 0, none⟩ = some (.slice x1 lc c1) ∧ wz.cell? ⟨bi, 1, none⟩ = some (.slice y1 ld d1) ∧ wz.cell? ⟨by2, 0, none⟩ = some (.slice (some ⟨gx, 0, none⟩) (lc + 1) cc2) from
              ⟨k, (BX6.out.nw (KZ.out.trans k)).cell 0, (BX6.out.nw (KZ.out.trans k)).cell 1, (BY.out.nw (KZ.out.trans k)).cell 0⟩))
            have FIN := Lib.hid (fun (wz : World) (k : Nw w29 wz) => (show BoolPost w true (.returned (.bool true)) wz from ⟨rfl, N26.out.trans (KZ.out.trans k)⟩))
            clear hs1 hs2
            go_wp2_with fail
            go_region_held3 (fun wz => Nw w29 wz ∧ wz.cell? ⟨bi, 0, none⟩ = some (.slice x1 lc c1) ∧ wz.cell? ⟨bi, 1, none⟩ = some (.slice y1 ld d1) ∧ wz.cell? ⟨by2, 0, none⟩ = some (.slice (some ⟨gx, 0, none⟩) (lc + 1) cc2))
              (exact FC.out _ (by first | assumption | exact (Nw.refl _).drew | exact Nw.refl _))
              (first
                | (go_at_call 25; (with_reducible refine (W1.out _ (by first | assumption | exact (Nw.refl _).drew | exact Nw.refl _)).mono ?_); rintro e8 w8 ⟨rfl, k8⟩; have kk8 : Nw w29 w8 := Nw.trans (by first | assumption | exact (Nw.refl _).drew | exact Nw.refl _) k8; clear k8)
                | (go_at_call 25; (with_reducible refine (W2.out _ (by first | assumption | exact (Nw.refl _).drew | exact Nw.refl _)).mono ?_); rintro e9 w9 ⟨rfl, k9⟩; have kk9 : Nw w29 w9 := Nw.trans (by first | assumption | exact (Nw.refl _).drew | exact Nw.refl _) k9; clear k9)
                | (go_at_call 21; (with_reducible refine (AW.out _).mono ?_); rintro eg wg ⟨rfl, kd⟩; have kkg : Nw w29 wg := Nw.trans (by first | assumption | exact (Nw.refl _).drew | exact Nw.refl _) kd; clear kd))
            all_goals
              go_wp2_with fail
              go_returns
              exact FIN.out _ (by assumption)
end Go.Proofs.Ytfdjlicegfgodaa
