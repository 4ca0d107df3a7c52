/- Linking: an image that is being made; put. -/
import Derived.Test.YtfdjlicegfgodaaLk10
namespace Go.Proofs.Ytfdjlicegfgodaa
open Go.RowKit
set_option linter.unusedSimpArgs false
set_option linter.unusedVariables false

theorem i64info : (Try.prog.info? 2).map (fun i => (i.zero, i.size, i.bytes)) = some (some (.int .i64 0), 1, 8) := by kernel_rfl
def wdV (l : List Int) : List Value := l.map (Value.int .i64)
theorem wdV_one (l : List Int) : ∀ u ∈ wdV l, u.oneCell' = true := by
  intro u hu
  obtain ⟨x, _, rfl⟩ := List.mem_map.1 hu
  rfl
/-- the image in block q: its code, its data in rows of our own -/
structure Im2 (base : Nat) (w : World) (q : Nat) (cl dl : List Int) (xc : Option Addr) (cc : Nat) (xd : Option Addr) (cd : Nat) : Prop where
  blk : Blk w q [.slice xc cl.length cc, .slice xd dl.length cd, .int .i64 0] 53
  oc : w.ownsRow base 2 1 (.slice xc cl.length cc) cl.length (wdV cl)
  od : w.ownsRow base 2 1 (.slice xd dl.length cd) dl.length (wdV dl)
  qc : (Value.slice xc cl.length cc).ownBlock ≠ some q
  qd : (Value.slice xd dl.length cd).ownBlock ≠ some q
  ap : ∀ g, (Value.slice xc cl.length cc).ownBlock = some g → (Value.slice xd dl.length cd).ownBlock ≠ some g
  bq : base ≤ q
section
variable {base : Nat} {w w' : World} {q : Nat} {cl dl : List Int} {xc : Option Addr} {cc : Nat} {xd : Option Addr} {cd : Nat}
theorem Im2.nw (h : Im2 base w q cl dl xc cc xd cd) (k : Nw w w') : Im2 base w' q cl dl xc cc xd cd :=
  ⟨h.blk.nw k, own_kp h.oc k (fun _ _ x => x), own_kp h.od k (fun _ _ x => x), h.qc, h.qd, h.ap, h.bq⟩
theorem grown_kp {w w' : World} {row : Option Nat} (hg : w.grownBy w' row) : Kp (fun j => row = some j) w w' := Kp.grown (Kp.refl _ w) hg (fun k hk _ => hk)
/-- the code has grown, its place is noted -/
theorem Im2.appC (h : Im2 base w q cl dl xc cc xd cd) {m : Nat} {ns : List Int} (hm : ns.length = m) {x' : Option Addr} {c' : Nat} (ho : w'.ownsRow base 2 1 (.slice x' (cl.length + m) c') (cl.length + m) (wdV cl ++ wdV ns))
    (hg : w.grownBy w' (Value.slice xc cl.length cc).ownBlock) (hl : (Value.slice x' (cl.length + m) c').ownBlock = (Value.slice xc cl.length cc).ownBlock ∨ (Value.slice x' (cl.length + m) c').ownBlock = some w.heap.size) :
    Im2 base (w'.setCell ⟨q, 0, none⟩ (.slice x' (cl.length + m) c')) q (cl ++ ns) dl x' c' xd cd := by
  have k := grown_kp hg
  have hq := h.blk.lt
  have e : (cl ++ ns).length = cl.length + m := by rw [List.length_append, hm]
  have hb := (h.blk.kp k (fun e => h.qc e)).set 0 (.slice x' (cl.length + m) c')
  have n1 : (Value.slice x' (cl.length + m) c').ownBlock ≠ some q := by
    intro e2
    rcases hl with hl | hl
    · exact h.qc (hl.symm.trans e2)
    · rw [hl] at e2; injection e2 with e2; omega
  refine ⟨by rw [e]; exact hb, ?_, ?_, by rw [e]; exact n1, h.qd, ?_, h.bq⟩
  · rw [e, show wdV (cl ++ ns) = wdV cl ++ wdV ns by unfold wdV; rw [List.map_append]]
    exact own_kp ho (kp_one w' q 0 _) (fun g hg2 e2 => n1 (by rw [hg2, e2]))
  · exact own_kp (own_kp h.od k (fun g hg2 e2 => h.ap g e2 hg2)) (kp_one w' q 0 _) (fun g hg2 e2 => h.qd (by rw [hg2, e2]))
  · intro g hg2 hd
    rw [e] at hg2
    rcases hl with hl | hl
    · exact h.ap g (hl.symm.trans hg2) hd
    · rw [hl] at hg2
      injection hg2 with hg2
      have := (h.od.lt g hd).2
      omega
theorem Im2.appD (h : Im2 base w q cl dl xc cc xd cd) {m : Nat} {ns : List Int} (hm : ns.length = m) {x' : Option Addr} {c' : Nat} (ho : w'.ownsRow base 2 1 (.slice x' (dl.length + m) c') (dl.length + m) (wdV dl ++ wdV ns))
    (hg : w.grownBy w' (Value.slice xd dl.length cd).ownBlock) (hl : (Value.slice x' (dl.length + m) c').ownBlock = (Value.slice xd dl.length cd).ownBlock ∨ (Value.slice x' (dl.length + m) c').ownBlock = some w.heap.size) :
    Im2 base (w'.setCell ⟨q, 1, none⟩ (.slice x' (dl.length + m) c')) q cl (dl ++ ns) xc cc x' c' := by
  have k := grown_kp hg
  have hq := h.blk.lt
  have e : (dl ++ ns).length = dl.length + m := by rw [List.length_append, hm]
  have hb := (h.blk.kp k (fun e => h.qd e)).set 1 (.slice x' (dl.length + m) c')
  have n1 : (Value.slice x' (dl.length + m) c').ownBlock ≠ some q := by
    intro e2
    rcases hl with hl | hl
    · exact h.qd (hl.symm.trans e2)
    · rw [hl] at e2; injection e2 with e2; omega
  refine ⟨by rw [e]; exact hb, ?_, ?_, h.qc, by rw [e]; exact n1, ?_, h.bq⟩
  · exact own_kp (own_kp h.oc k (fun g hg2 e2 => h.ap g hg2 e2)) (kp_one w' q 1 _) (fun g hg2 e2 => h.qc (by rw [hg2, e2]))
  · rw [e, show wdV (dl ++ ns) = wdV dl ++ wdV ns by unfold wdV; rw [List.map_append]]
    exact own_kp ho (kp_one w' q 1 _) (fun g hg2 e2 => n1 (by rw [hg2, e2]))
  · intro g hg2 hd
    rw [e] at hd
    rcases hl with hl | hl
    · exact h.ap g hg2 (hl.symm.trans hd)
    · rw [hl] at hd
      injection hd with hd
      have := (h.oc.lt g hg2).2
      omega
theorem wdV_set (l : List Int) (j : Nat) (v : Int) : wdV (l.set j v) = (wdV l).set j (.int .i64 v) := by unfold wdV; rw [List.map_set]
/-- a word of the code is put -/
theorem Im2.putC {g : Nat} (h : Im2 base w q cl dl (some ⟨g, 0, none⟩) cc xd cd) (j : Nat) (v : Int) : Im2 base (w.setCell ⟨g, j, none⟩ (.int .i64 v)) q (cl.set j v) dl (some ⟨g, 0, none⟩) cc xd cd := by
  have e : (cl.set j v).length = cl.length := List.length_set
  refine ⟨by rw [e]; exact h.blk.kp (kp_one w g j _) (fun e2 => h.qc (by rw [e2]; rfl)), ?_, own_kp h.od (kp_one w g j _) (fun g2 hg2 e2 => h.ap g rfl (by rw [hg2, e2])), by rw [e]; exact h.qc, h.qd, by rw [e]; exact h.ap, h.bq⟩
  rw [e, wdV_set]
  exact (h.oc.stored j _).1
theorem Im2.putD {g : Nat} (h : Im2 base w q cl dl xc cc (some ⟨g, 0, none⟩) cd) (j : Nat) (v : Int) : Im2 base (w.setCell ⟨g, j, none⟩ (.int .i64 v)) q cl (dl.set j v) xc cc (some ⟨g, 0, none⟩) cd := by
  have e : (dl.set j v).length = dl.length := List.length_set
  refine ⟨by rw [e]; exact h.blk.kp (kp_one w g j _) (fun e2 => h.qd (by rw [e2]; rfl)), own_kp h.oc (kp_one w g j _) (fun g2 hg2 e2 => h.ap g2 hg2 (by rw [e2]; rfl)), ?_, h.qc, by rw [e]; exact h.qd, by rw [e]; exact h.ap, h.bq⟩
  rw [e, wdV_set]
  exact (h.od.stored j _).1
theorem own_some {w : World} {base e size n : Nat} {x : Option Addr} {c : Nat} {xs : List Value} (h : w.ownsRow base e size (.slice x n c) n xs) (hn : 0 < n) : ∃ g, x = some ⟨g, 0, none⟩ := by
  rcases h.2 with ⟨_, h2⟩ | ⟨g, cap, cur, h1, _⟩
  · omega
  · injection h1 with h1
    exact ⟨g, h1⟩
theorem own_cell {w : World} {base : Nat} {l : List Int} {g c : Nat} (h : w.ownsRow base 2 1 (.slice (some ⟨g, 0, none⟩) l.length c) l.length (wdV l)) {j : Nat} (hj : j < l.length) : w.cell? ⟨g, j, none⟩ = some (.int .i64 l[j]) := by
  rw [h.cellAt j (by omega)]
  unfold wdV
  rw [List.getElem?_map, List.getElem?_eq_getElem hj]
  rfl
end
def encV (op a b c n : Int) : Int := if okIns op a b c n = true then encIns op a b c n else 0
theorem encode_v (w : World) (op a b c n : Int) (hop : -9223372036854775808 ≤ op ∧ op ≤ 9223372036854775807) :
    Calls Try.prog 74 #[.agg #[.int .i64 op, .int .i64 a, .int .i64 b, .int .i64 c, .int .i64 n]] w fun e w' => ∃ er, e = .returned (.tuple #[.int .i64 (encV op a b c n), .int .i64 er]) ∧ Nw w w' :=
  (isaEncode_any w op a b c n hop).mono fun e w' q => ⟨_, q.1, q.2⟩
set_option maxRecDepth 100000 in
set_option maxHeartbeats 4000000 in
theorem put_any {w0 w : World} {q : Nat} {cl dl : List Int} {xc : Option Addr} {cc : Nat} {xd : Option Addr} {cd : Nat} (h : Im2 w0.heap.size w q cl dl xc cc xd cd) (hn : Nw w0 w) (hl : cl.length ≤ 10000000) (op a b c n : Int) (hop : -9223372036854775808 ≤ op ∧ op ≤ 9223372036854775807) :
    Calls Try.prog 73 #[.agg #[.int .i64 op, .int .i64 a, .int .i64 b, .int .i64 c, .int .i64 n], .pointer (some ⟨q, 0, none⟩)] w fun e w' => e = .returned (.tuple #[]) ∧ ∃ x' c', Im2 w0.heap.size w' q (cl ++ [encV op a b c n]) dl x' c' xd cd ∧ Nw w0 w' := by
  have N0 := Lib.hid (Nw.new w (.cells #[.int .i64 op, .int .i64 a, .int .i64 b, .int .i64 c, .int .i64 n] 100))
  have BA := Lib.hid (Blk.new w [.int .i64 op, .int .i64 a, .int .i64 b, .int .i64 c, .int .i64 n] 100)
  have IM := Lib.hid (h.nw N0.out)
  have HN := Lib.hid (hn.trans N0.out)
  obtain ⟨i0, hi, hz0, hz1, hz2⟩ := info_parts i64info
  obtain ⟨m, hm⟩ : ∃ m, m = cl.length := ⟨_, rfl⟩
  have HM := Lib.hid hm
  have hml : m ≤ 10000000 := by omega
  have cA := BA.out.cell
  have EN := Lib.hid (encode_v (w.alloc (.cells #[.int .i64 op, .int .i64 a, .int .i64 b, .int .i64 c, .int .i64 n] 100)) op a b c n hop)
  obtain ⟨ev, hev⟩ : ∃ ev, ev = encV op a b c n := ⟨_, rfl⟩
  rw [← hev] at EN ⊢
  clear h hn hl hm hev hop
  go_enter Try.func73, Try.ntmps73
  go_wp2_with fail
  refine EN.out.mono ?_
  rintro e1 w1 ⟨er, rfl, k1⟩
  have IM1 := Lib.hid (IM.out.nw k1)
  have HN1 := Lib.hid (HN.out.trans k1)
  clear k1 EN cA IM HN N0 BA
  have c0 : w1.cell? ⟨q, 0, none⟩ = some (.slice xc m cc) := by rw [HM.out]; exact IM1.out.blk.cell 0
  have IA := Lib.hid (IM1.out.nw (Nw.new w1 (.cells #[.int .i64 ev] 2)))
  have OW := Lib.hid (show (w1.alloc (.cells #[.int .i64 ev] 2)).ownsRow w0.heap.size 2 1 (.slice xc m cc) m (wdV cl) by rw [HM.out]; exact IA.out.oc)
  have ARM := Lib.hid (fun (x' : Option Addr) (c' : Nat) (w3 : World) (ho : w3.ownsRow w0.heap.size 2 1 (.slice x' (m + 1) c') (m + 1) (wdV cl ++ [.int .i64 ev])) (hg : (w1.alloc (.cells #[.int .i64 ev] 2)).grownBy w3 (Value.slice xc m cc).ownBlock) (hl : (Value.slice x' (m + 1) c').ownBlock = (Value.slice xc m cc).ownBlock ∨ (Value.slice x' (m + 1) c').ownBlock = some (w1.alloc (.cells #[.int .i64 ev] 2)).heap.size) =>
    (show Im2 w0.heap.size (w3.setCell ⟨q, 0, none⟩ (.slice x' (m + 1) c')) q (cl ++ [ev]) dl x' c' xd cd ∧ Nw w0 (w3.setCell ⟨q, 0, none⟩ (.slice x' (m + 1) c')) ∧ w3.frozen? ⟨q, 0, none⟩ = false ∧ w3.cell? ⟨q, 0, none⟩ = some (.slice xc m cc) from by
      have hm := HM.out
      subst hm
      refine ⟨Im2.appC IA.out (ns := [ev]) rfl ho hg hl, ?_, ?_, (IA.out.blk.kp (grown_kp hg) (fun e => IA.out.qc e)).cell 0⟩
      · exact nw_setNew (grown_nw (HN1.out.alloc _) hg (fun g hg => own_block IA.out.oc g hg)) IA.out.bq (kp_one w3 q 0 _)
      · exact (IA.out.blk.kp (grown_kp hg) (fun e => IA.out.qc e)).frozen 0))
  have H63 := Lib.hid (show m + 1 ≤ maxLen by unfold maxLen; omega)
  have HBY := Lib.hid (show (m + 1) * 8 ≤ 140737488355328 by omega)
  have HBS := Lib.hid (show w0.heap.size ≤ (w1.alloc (.cells #[.int .i64 ev] 2)).heap.size from (HN1.out.alloc _).size)
  have HX1 := Lib.hid (new_cells w1 [.int .i64 ev] 2)
  have HX2 := Lib.hid (wdV_one [ev])
  clear IA
  go_wp2_with (at_builtin; refine wpList_app _ rfl (.tmp 11) (.tmp 13) 25 rfl w0.heap.size 2 i0 (.int .i64 0) 1 8 Try.underlying25 hi hz0 hz1 hz2 rfl (by decide) _ _ _ rfl OW.out ⟨w1.heap.size, 0, none⟩ 1 1 [.int .i64 ev] rfl rfl HX1.out HX2.out H63.out HBY.out HBS.out ?_; intro x' c' w3 ho hg hl'; obtain ⟨q1, q2, zq, cq⟩ := ARM.out x' c' w3 ho hg hl'; have S3 := Lib.hid q1; have S4 := Lib.hid q2; clear ho hg hl' q1 q2)
  go_returns
  exact ⟨rfl, _, _, S3.out, S4.out⟩
end Go.Proofs.Ytfdjlicegfgodaa
