/- mortiseref3.New: the document's machine is made. -/
import Derived.Test.YthlcoocboidnlaaMach29
namespace Go.Proofs.Ythlcoocboidnlaa
open Go.RowKit
set_option linter.unusedSimpArgs false
set_option linter.unusedVariables false

section
variable {P : Program} {w : World}
/-- append of a slice's elements, wherever these lie -/
theorem step_app {o : Oper} {a : Act} {K : Act → World → Prop} {Q : Exit → Act → World → Prop} (s x : Operand) (t : TypeId)
    (ho : o.op = .call { callee := .builtin .append, args := #[s, x], argTypes := #[t, t] })
    (base : Nat) (e : TypeId) (i : TypeInfo) (z : Value) (size bytes : Nat) (ht : P.underlying t = some (.slice e)) (hi : P.info? e = some i) (hz : i.zero = some z)
    (hsize : i.size = size) (hby : i.bytes = bytes) (hzs : z.cells.size = size) (hsz : 0 < size)
    (v : Value) (n : Nat) (xs : List Value) (hs : a.eval s = v) (hown : w.ownsRow base e size v n xs)
    (ad : Addr) (m c : Nat) (news : List Value) (hx : a.eval x = .slice (some ad) m c) (hl : news.length = m * size) (hnews : ∀ j u, news[j]? = some u → w.cell? (ad.add j) = some u) (h1 : ∀ u ∈ news, u.oneCell' = true)
    (h63 : n + m ≤ maxLen) (hbytes : (n + m) * bytes ≤ 140737488355328) (hbase : base ≤ w.heap.size)
    (h : ∀ x' c' w', w'.ownsRow base e size (.slice x' (n + m) c') (n + m) (xs ++ news) → w.grownBy w' v.ownBlock → ((Value.slice x' (n + m) c').ownBlock = v.ownBlock ∨ (Value.slice x' (n + m) c').ownBlock = some w.heap.size) → K (a.put o.dst (.slice x' (n + m) c')) w') : Oper.wp P o a w K Q := by
  obtain ⟨v', w', hr, h2, h3, _⟩ := run_append_own (P := P) w base t o.type e i z size bytes ht hi hz hsize hby hzs hsz v n xs hown ad m c news hl hnews h1 h63 hbytes hbase
  have h4 := app_loc (P := P) w base t o.type e i z size bytes ht hi hz hsize hby v n xs hown ad m c news hl hnews h1 h63 hbytes hr
  unfold Oper.wp execOp
  simp only [ho, resolve, invoke, builtin, Sem.run_bind, Sem.run_pure, Result.andThen_ok, List.map_toArray, List.map_cons, List.map_nil, hs, hx, hr]
  obtain ⟨x', c', rfl⟩ := own_slice h2
  exact h x' c' w' h2 h3 h4
end
theorem app_nonec (w : World) {gd n c cc : Nat} (hn : n ≤ c) : (Builtin.append_ #[35, 35] 35 #[.slice (some ⟨gd, 0, none⟩) n c, .slice none 0 cc]).run Try.prog w = .ok (.slice (some ⟨gd, 0, none⟩) n c) w := by
  obtain ⟨i0, hi0, hz0, hz1, hz2⟩ := info_parts u8info
  simp [Builtin.append_, run_underlying Try.underlying35, sizeOf, typeInfo, hi0, hz1, Builtin.lenOf, Builtin.firstCells, loadCells, loadCellsFrom, storeCells, hn]
theorem step_app_none {w : World} {o : Oper} {a : Act} {K : Act → World → Prop} {Q : Exit → Act → World → Prop} (s x : Operand)
    (ho : o.op = .call { callee := .builtin .append, args := #[s, x], argTypes := #[35, 35] }) (hty : o.type = 35) (g cc : Nat) (hs : a.eval s = .slice (some ⟨g, 0, none⟩) 0 0) (hx : a.eval x = .slice none 0 cc)
    (h : K (a.put o.dst (.slice (some ⟨g, 0, none⟩) 0 0)) w) : Oper.wp Try.prog o a w K Q := by
  have hr := app_nonec w (gd := g) (n := 0) (c := 0) (cc := cc) (Nat.le_refl _)
  unfold Oper.wp execOp
  simp only [ho, hty, resolve, invoke, builtin, Sem.run_bind, Sem.run_pure, Result.andThen_ok, List.map_toArray, List.map_cons, List.map_nil, hs, hx, hr]
  exact h
/-- append to an empty row of our own -/
theorem step_app_bytes {w : World} {o : Oper} {a : Act} {K : Act → World → Prop} {Q : Exit → Act → World → Prop} (s x : Operand)
    (ho : o.op = .call { callee := .builtin .append, args := #[s, x], argTypes := #[35, 35] }) (hty : o.type = 35) (base g : Nat) (hs : a.eval s = .slice (some ⟨g, 0, none⟩) 0 0) (hown : w.ownsRow base 5 1 (.slice (some ⟨g, 0, none⟩) 0 0) 0 []) {R : Nat → Prop} (xi : Option Addr) (ni ci : Nat) (l : List UInt8) (hx : a.eval x = .slice xi ni ci) (hb : BytesR R w (.slice xi ni ci) l) (hn : ni ≤ 4096) (hbase : base ≤ w.heap.size)
    (h : ∀ x' c' w', w'.ownsRow base 5 1 (.slice x' ni c') ni (byteV l) → Nw w w' ∨ w.grownBy w' (some g) → ((Value.slice x' ni c').ownBlock = some g ∨ (Value.slice x' ni c').ownBlock = some w.heap.size) → K (a.put o.dst (.slice x' ni c')) w') : Oper.wp Try.prog o a w K Q := by
  have hln := hb.len
  cases xi with
  | none =>
    have hl0 : l = [] := by
      by_cases e : l = []
      · exact e
      · obtain ⟨_, _, _, _, _, h3⟩ := hb
        rename_i hv _ _
        injection hv with hv _ _
        obtain ⟨_, _, e2, _⟩ := h3 e
        rw [← hv] at e2
        cases e2
    subst hl0
    obtain rfl : ni = 0 := hln
    exact step_app_none s x ho hty g ci hs hx (h _ _ w hown (.inl (Nw.refl w)) (.inl rfl))
  | some ad =>
    obtain ⟨i0, hi, hz0', hz1, hz2⟩ := info_parts u8info
    refine step_app s x 35 ho base 5 i0 (.int .u8 0) 1 1 Try.underlying35 hi hz0' hz1 hz2 rfl (by decide) _ 0 [] hs hown ad ni ci (byteV l) hx (by rw [byteV_length, hln]; omega) ?_ ?_ (by unfold maxLen; omega) (by omega) hbase ?_
    · intro j u hu
      obtain ⟨x2, cap, hv, _, _, hc⟩ := hb
      injection hv with hv _ _
      have hj : j < l.length := by
        have := (List.getElem?_eq_some_iff.1 hu).1
        rwa [byteV_length] at this
      obtain ⟨b, oo, he, _, hcc⟩ := hc (by intro e; rw [e] at hj; simp at hj)
      rw [← hv] at he
      injection he with he
      subst he
      rw [add_at, hcc j hj, ← hu]
      simp [byteV, hj]
    · intro u hu
      simp only [byteV, List.mem_map] at hu
      obtain ⟨b, _, rfl⟩ := hu
      rfl
    · intro x' c' w' h1 h2 h3
      rw [Nat.zero_add] at h1 h3 ⊢
      exact h x' c' w' h1 (.inr h2) h3
theorem one_all {cs : List Value} (h : cs.all (fun v => v.oneCell') = true) : cs.toArray.all (fun v => v.oneCell') = true := all_oneCell_toArray (fun v hv => List.all_eq_true.1 h v hv)
theorem setCells_lays (b : Nat) : ∀ (vs : List Value) (w : World) (o : Nat), w.setCells b o vs = lays w b o vs
  | [], _, _ => rfl
  | v :: r, w, o => setCells_lays b r (w.setCell ⟨b, o, none⟩ v) (o + 1)
theorem Blk.there {w : World} {b : Nat} {cs : List Value} {t : TypeId} (h : Blk w b cs t) : w.there b 0 cs.length := fun j hj => by
  rw [Nat.zero_add, h.cell, List.getElem?_eq_getElem hj]
  exact ⟨rfl, h.frozen j⟩
theorem Blk.range {w : World} {b : Nat} {cs : List Value} {t : TypeId} (h : Blk w b cs t) : w.rangeAt b 0 cs := fun j v hv => by
  rw [Nat.zero_add, h.cell, hv]

/-- the new machine's cells -/
def mcs (a b r p i : Value) : List Value := [a, b, .int .i64 0, .int .i64 0, .int .i64 0, .int .i64 0, .int .i64 0, .int .i64 0, .int .i64 0, .int .i64 0, .int .i64 0, .int .i64 0, .int .i64 0, .int .i64 0, .int .i64 0, .int .i64 0, .int .i64 0, r, p, i, .int .i64 0, .int .i64 0, .int .i64 0, .slice none 0 0, .int .i64 0]
theorem mcs_there {w : World} {q : Nat} {cs : List Value} {t : TypeId} (h : Blk w q cs t) (hl : cs.length = 25) (a b r p i : Value) : w.there q 0 (mcs a b r p i).toArray.size := fun j hj => by
  have hj : j < 25 := hj
  rw [Nat.zero_add, h.cell, List.getElem?_eq_getElem (by omega)]
  exact ⟨rfl, h.frozen j⟩
theorem mcs_info (a b r p i : Value) : (Try.prog.info? 51).map (·.size) = some (mcs a b r p i).toArray.size := by kernel_rfl
theorem mcs_infol (a b r p i : Value) : (Try.prog.info? 51).map (·.size) = some (mcs a b r p i).length := by kernel_rfl
theorem mcs_one (a b r p i : Value) (ha : a.oneCell' = true) (hb : b.oneCell' = true) (hr : r.oneCell' = true) (hp : p.oneCell' = true) (hi : i.oneCell' = true) : (mcs a b r p i).toArray.all (fun v => v.oneCell') = true := by
  refine one_all ?_
  unfold mcs
  simp only [List.all_cons, ha, hb, hr, hp, hi, List.all_nil, Bool.and_true, Bool.true_and]
  rfl
theorem toL (l : List Value) : l.toArray.toList = l := rfl
theorem laysL_all : ∀ (vs cs pre : List Value), vs.length = cs.length → laysL (pre ++ cs) pre.length vs = pre ++ vs
  | [], cs, pre, h => by
    cases cs with
    | nil => rfl
    | cons a r => simp at h
  | v :: vs, cs, pre, h => by
    cases cs with
    | nil => simp at h
    | cons a r =>
      have h1 := laysL_all vs r (pre ++ [v]) (by simpa using h)
      simp only [List.length_append, List.length_cons, List.length_nil, List.append_assoc, List.cons_append, List.nil_append] at h1
      show laysL ((pre ++ a :: r).set pre.length v) (pre.length + 1) vs = pre ++ v :: vs
      rw [List.set_append_right _ _ (Nat.le_refl _), Nat.sub_self, List.set_cons_zero]
      exact h1
theorem Blk.over {w : World} {b : Nat} {cs : List Value} {t : TypeId} (h : Blk w b cs t) (vs : List Value) (hl : vs.length = cs.length) : Blk (lays w b 0 vs) b vs t := by
  have h1 := h.sets 0 vs
  have h2 := laysL_all vs cs [] hl
  simp only [List.nil_append, List.length_nil] at h2
  rw [h2] at h1
  exact h1

theorem abs_wp2 {P : Program} {md : Region.Mode} {ops : Array Oper} {Q : Exit → Act → World → Prop} {S : World → Prop} {fu : Nat} {li : Array Bool} {ac : Act} {wo : World}
    (h : ∀ (G : Nat → Array Bool → Act → World → Prop) (QQ : Act → World → Prop), (∀ fu li ac wo, wpAnyH P md ops Q S fu li ac wo = G fu li ac wo) → (∀ ac wo, Q .normal ac wo → QQ ac wo) → (∀ fu li ac wo, Region.ready md ops li = [] → QQ ac wo → G fu li ac wo) → G fu li ac wo) : wpAnyH P md ops Q S fu li ac wo :=
  h _ (fun ac wo => Q .normal ac wo) (fun _ _ _ _ => rfl) (fun _ _ x => x) (fun fu _ _ _ hr hq => wpAnyH_done hr hq fu)
theorem abs_wp {P : Program} {md : Region.Mode} {ops : Array Oper} {Q : Exit → Act → World → Prop} {S : World → Prop} {fu : Nat} {li : Array Bool} {ac : Act} {wo : World}
    (h : ∀ G : Nat → Array Bool → Act → World → Prop, (∀ fu li ac wo, wpAnyH P md ops Q S fu li ac wo = G fu li ac wo) → G fu li ac wo) : wpAnyH P md ops Q S fu li ac wo := h _ (fun _ _ _ _ => rfl)

/-- the parts of a new machine: what the caller gets -/
structure NewV (w w' : World) (code data : List Int) (mem : Int) (inp : List UInt8) (bm : Nat) (x1 x2 : Option Addr) (c1 c2 : Nat) : Prop where
  vmem : MemAt w' bm (Ms.new code data 0 mem inp).mem
  vcode : w'.ownsRow w.heap.size 2 1 (.slice x1 code.length c1) code.length (code.map (Value.int .i64))
  vinp : w'.ownsRow w.heap.size 5 1 (.slice x2 inp.length c2) inp.length (byteV inp)
  cp : ∀ g, (Value.slice x1 code.length c1).ownBlock = some g → g ≠ bm
  ip : ∀ g, (Value.slice x2 inp.length c2).ownBlock = some g → g ≠ bm
  bb : w.heap.size ≤ bm
  nw : Nw w w'
theorem dnew_res {tmps : Array Value} {w : World} {q : Nat} {cs : List Value} {k : Value} (h6 : tmps[6]?.getD undef = .pointer (some ⟨q, 0, none⟩)) (h7 : tmps[7]?.getD undef = k) (hb : Blk w q cs 51) (hl : cs.length = 25) :
    (results Try.f25 tmps).run Try.prog w = .ok (.tuple #[.agg cs.toArray, k]) w := by
  have hld := run_loadVar_mid (P := Try.prog) w q 0 51 cs _ hb.range Try.underlying51 rfl (by rw [hl]; kernel_rfl)
  unfold results
  rw [Try.results25]
  have g6 : tmps.getD 6 undef = .pointer (some ⟨q, 0, none⟩) := by rw [← h6]; simp [Array.getD_eq_getD_getElem?]
  have g7 : tmps.getD 7 undef = k := by rw [← h7]; simp [Array.getD_eq_getD_getElem?]
  simp only [List.mapM_toArray]
  simp [List.mapM_cons, asAddr, h6, h7, hld, Sem.run_bind, Sem.run_pure, Result.andThen_ok]
set_option maxRecDepth 100000 in
set_option maxHeartbeats 8000000 in
theorem dnew_ok (w : World) (R : Nat → Prop) (xc xd xi : Option Addr) (nc cc nd cd ni ci : Nat) (entry mem : Int) (code data : List Int) (inp : List UInt8)
    (hco : WordsR R w (.slice xc nc cc) code) (hda : WordsR R w (.slice xd nd cd) data) (hin : BytesR R w (.slice xi ni ci) inp) (hR : ∀ b, R b → b < w.heap.size)
    (h1 : 1 ≤ code.length) (h2 : code.length ≤ 65536) (h3 : data.length ≤ 16384) (h4 : 0 ≤ entry) (h5 : entry < (code.length : Int)) (h6 : (data.length : Int) ≤ mem) (h7 : mem ≤ 262144) (h8 : inp.length ≤ 4096) :
    Calls Try.prog 25 #[.agg #[.slice xc nc cc, .slice xd nd cd, .int .i64 entry], .int .i64 mem, .slice xi ni ci] w fun e w' => ∃ bm x1 c1 x2 c2, e = .returned (.tuple #[(.agg (mcs (.slice x1 code.length c1) (.slice (some ⟨bm, 0, none⟩) mem.toNat mem.toNat) (.int .i64 mem) (.int .i64 entry) (.slice x2 inp.length c2)).toArray), .int .i64 0]) ∧ NewV w w' code data mem inp bm x1 x2 c1 c2 := by
  have hni := hin.len
  have hncl := hco.len
  have hndl := hda.len
  obtain ⟨mn, hmn⟩ : ∃ mn : Nat, mem = (mn : Int) := ⟨mem.toNat, by omega⟩
  subst hmn
  obtain ⟨it, hi0, hz0', hz1, hz2⟩ := info_parts i64info
  have HI0 := Lib.hid hi0
  have HZ0 := Lib.hid hz0'
  have HZ1 := Lib.hid hz1
  have HZ2 := Lib.hid hz2
  obtain ⟨Zl, hZl⟩ : ∃ Zl, Zl = List.replicate mn (Value.int .i64 0) := ⟨_, rfl⟩
  obtain ⟨Zr, hZr⟩ : ∃ Zr, Zr = madeCells (Value.int .i64 0).cells (mn * 1) := ⟨_, rfl⟩
  have HZ := Lib.hid (show Zl.toArray = Zr by rw [hZl, hZr]; exact made_zeros mn)
  have hmk : ∀ (w : World), (Instr.makeSlice 22 (.int .i64 (mn : Int)) (.int .i64 (mn : Int))).run Try.prog w = .ok (.slice (some ⟨w.heap.size, 0, none⟩) mn mn) (w.alloc (.cells Zr 2)) := fun w => by
    have := run_make (P := Try.prog) w 22 2 it (.int .i64 0) Try.underlying22 hi0 hz0' .i64 .i64 (mn : Int) (mn : Int) (by omega) (Int.le_refl _) (by rw [hz2]; omega) (by omega)
    rw [hz1] at this
    simpa [hZr] using this
  have HZL := Lib.hid hZl
  obtain ⟨lc, hlc⟩ : ∃ lc, lc = code.map (Value.int .i64) := ⟨_, rfl⟩
  obtain ⟨li, hli⟩ : ∃ li, li = inp := ⟨_, rfl⟩
  have HLC := Lib.hid hlc
  have HLI := Lib.hid hli
  have HLC1 := Lib.hid (show lc.length = nc * 1 by rw [hlc, List.length_map]; omega)
  have HONE := Lib.hid (show ∀ u ∈ lc, u.oneCell' = true by
    rw [hlc]
    intro u hu
    simp only [List.mem_map] at hu
    obtain ⟨b, _, rfl⟩ := hu
    rfl)
  have H63 := Lib.hid (show 0 + nc ≤ maxLen by unfold maxLen; omega)
  have HBY := Lib.hid (show (0 + nc) * 8 ≤ 140737488355328 by omega)
  have H8 := Lib.hid (show ni ≤ 4096 by omega)
  obtain ⟨adc, hadc, hcell⟩ : ∃ ad, xc = some ad ∧ ∀ j u, lc[j]? = some u → w.cell? (ad.add j) = some u := by
    obtain ⟨x, cap, e, _, _, hc⟩ := hco
    injection e with e1 e2 e3
    obtain ⟨b, o, e, _, hcc⟩ := hc (by intro e; rw [e] at h1; simp at h1)
    subst e1
    subst e
    refine ⟨_, rfl, fun j u hj => ?_⟩
    have hjl : j < code.length := by
      have := (List.getElem?_eq_some_iff.1 hj).1
      rwa [hlc, List.length_map] at this
    rw [add_at, hcc j hjl, ← hj, hlc]
    simp [hjl]
  subst hadc
  have HDA := Lib.hid hda
  have HRL := Lib.hid hR
  have HNC := Lib.hid hncl
  have HND := Lib.hid hndl
  have HNI := Lib.hid hni
  have N0 := Lib.hid ((Nw.new w (.cells #[.slice (some adc) nc cc, .slice xd nd cd, .int .i64 entry] 29)).alloc (.cells #[.slice none 0 0, .slice none 0 0, .int .i64 0, .int .i64 0, .int .i64 0, .int .i64 0, .int .i64 0, .int .i64 0, .int .i64 0, .int .i64 0, .int .i64 0, .int .i64 0, .int .i64 0, .int .i64 0, .int .i64 0, .int .i64 0, .int .i64 0, .int .i64 0, .int .i64 0, .slice none 0 0, .int .i64 0, .int .i64 0, .int .i64 0, .slice none 0 0, .int .i64 0] 51))
  have B0 := Lib.hid ((Blk.new w [.slice (some adc) nc cc, .slice xd nd cd, .int .i64 entry] 29).alloc (.cells #[.slice none 0 0, .slice none 0 0, .int .i64 0, .int .i64 0, .int .i64 0, .int .i64 0, .int .i64 0, .int .i64 0, .int .i64 0, .int .i64 0, .int .i64 0, .int .i64 0, .int .i64 0, .int .i64 0, .int .i64 0, .int .i64 0, .int .i64 0, .int .i64 0, .int .i64 0, .slice none 0 0, .int .i64 0, .int .i64 0, .int .i64 0, .slice none 0 0, .int .i64 0] 51))
  have BQ0 := Lib.hid (show Blk ((w.alloc (.cells #[.slice (some adc) nc cc, .slice xd nd cd, .int .i64 entry] 29)).alloc (.cells #[.slice none 0 0, .slice none 0 0, .int .i64 0, .int .i64 0, .int .i64 0, .int .i64 0, .int .i64 0, .int .i64 0, .int .i64 0, .int .i64 0, .int .i64 0, .int .i64 0, .int .i64 0, .int .i64 0, .int .i64 0, .int .i64 0, .int .i64 0, .int .i64 0, .int .i64 0, .slice none 0 0, .int .i64 0, .int .i64 0, .int .i64 0, .slice none 0 0, .int .i64 0] 51)) (w.heap.size + 1) [.slice none 0 0, .slice none 0 0, .int .i64 0, .int .i64 0, .int .i64 0, .int .i64 0, .int .i64 0, .int .i64 0, .int .i64 0, .int .i64 0, .int .i64 0, .int .i64 0, .int .i64 0, .int .i64 0, .int .i64 0, .int .i64 0, .int .i64 0, .int .i64 0, .int .i64 0, .slice none 0 0, .int .i64 0, .int .i64 0, .int .i64 0, .slice none 0 0, .int .i64 0] 51 by
    have := Blk.new (w.alloc (.cells #[.slice (some adc) nc cc, .slice xd nd cd, .int .i64 entry] 29)) [.slice none 0 0, .slice none 0 0, .int .i64 0, .int .i64 0, .int .i64 0, .int .i64 0, .int .i64 0, .int .i64 0, .int .i64 0, .int .i64 0, .int .i64 0, .int .i64 0, .int .i64 0, .int .i64 0, .int .i64 0, .int .i64 0, .int .i64 0, .int .i64 0, .int .i64 0, .slice none 0 0, .int .i64 0, .int .i64 0, .int .i64 0, .slice none 0 0, .int .i64 0] 51
    rw [size_alloc] at this; exact this)
  have HIN := Lib.hid (hin.nw N0.out)
  rw [← hncl] at h1 h2 h5
  rw [← hndl] at h3 h6
  rw [← hni] at h8 ⊢
  rw [← hncl]
  have q1 : (1 : Int) ≤ (nc : Int) := by omega
  have q2 : (nc : Int) ≤ 65536 := by omega
  have q3 : (nd : Int) ≤ 16384 := by omega
  have q8 : (ni : Int) ≤ 4096 := by omega
  have hwc : IntKind.i64.wrap ((nc : Nat) : Int) = nc := IntWalk.i64_in _ (by omega)
  have hwd : IntKind.i64.wrap ((nd : Nat) : Int) = nd := IntWalk.i64_in _ (by omega)
  have hwi : IntKind.i64.wrap ((ni : Nat) : Int) = ni := IntWalk.i64_in _ (by omega)
  have q0 : (nc == 0) = false := by simpa using (show nc ≠ 0 by omega)
  have q0' : ((nc : Int) == 0) = false := by simpa using (show nc ≠ 0 by omega)
  have q0'' : ¬ nc = 0 := by omega
  have d1 : decide ((nc : Int) < 1) = false := decide_eq_false (by omega)
  have d2 : decide ((65536 : Int) < (nc : Int)) = false := decide_eq_false (by omega)
  have d3 : decide ((16384 : Int) < (nd : Int)) = false := decide_eq_false (by omega)
  have d4 : decide (entry < 0) = false := decide_eq_false (by omega)
  have d5 : decide ((nc : Int) ≤ entry) = false := decide_eq_false (by omega)
  have d6 : decide (mn < nd) = false := decide_eq_false (by omega)
  have d7 : decide ((262144 : Int) < (mn : Int)) = false := decide_eq_false (by omega)
  have d8 : decide ((4096 : Int) < (ni : Int)) = false := decide_eq_false (by omega)
  clear hco hda hin hR hlc hli hncl hndl hni hZl hZr hi0 hz0' hz1 hz2
  go_enter Try.func25, Try.ntmps25
  go_upto_region 1 with fail
  generalize (w.alloc (.cells #[.slice (some adc) nc cc, .slice xd nd cd, .int .i64 entry] 29)).alloc (.cells #[.slice none 0 0, .slice none 0 0, .int .i64 0, .int .i64 0, .int .i64 0, .int .i64 0, .int .i64 0, .int .i64 0, .int .i64 0, .int .i64 0, .int .i64 0, .int .i64 0, .int .i64 0, .int .i64 0, .int .i64 0, .int .i64 0, .int .i64 0, .int .i64 0, .int .i64 0, .slice none 0 0, .int .i64 0, .int .i64 0, .int .i64 0, .slice none 0 0, .int .i64 0] 51) = w1 at *
  obtain ⟨q, hq⟩ : ∃ q, q = w.heap.size + 1 := ⟨_, rfl⟩
  rw [← hq] at BQ0 ⊢
  have HQ := Lib.hid hq
  clear hq
  generalize hbi : w.heap.size = bi at *
  have HBI0 := Lib.hid hbi
  clear hbi
  have i0 := B0.out.cell 0
  have i1 := B0.out.cell 1
  have i2 := B0.out.cell 2
  simp only [List.getElem?_cons_zero, List.getElem?_cons_succ] at i0 i1 i2
  have FC := Lib.hid (fun (wz : World) (hz : Nw w1 wz) => (⟨hz, hz.keeps i0, hz.keeps i1, hz.keeps i2⟩ : _ ∧ _ ∧ _ ∧ _))
  have HCC := Lib.hid (fun (wz : World) (hz : Nw w1 wz) => fun j u (h : lc[j]? = some u) => (N0.out.trans hz).keeps (hcell j u h))
  have HBI := Lib.hid (fun (wz : World) (hz : Nw w1 wz) => (show BytesR R wz (.slice xi ni ci) li from by rw [HLI.out]; exact HIN.out.nw hz))
  clear hcell
  go_upto_region 5 with fail
  go_cut [8] from 55 to 66 (fun s8 wx => ∃ p bm x1 x2 c1 c2, s8 = .pointer (some ⟨p, 0, none⟩) ∧ Blk wx p (mcs (.slice x1 nc c1) (.slice (some ⟨bm, 0, none⟩) mn mn) (.int .i64 0) (.int .i64 entry) (.slice x2 ni c2)) 51 ∧ NewM w1 wx p bm mn nc ni x1 x2 c1 c2 lc Zl li)
  case first =>
    refine wp_region_held_drew (S := fun wz => Nw w1 wz ∧ wz.cell? ⟨bi, 0, none⟩ = some (.slice (some adc) nc cc) ∧ wz.cell? ⟨bi, 1, none⟩ = some (.slice xd nd cd) ∧ wz.cell? ⟨bi, 2, none⟩ = some (.int .i64 entry)) (by kernel_rfl) (FC.out _ (Nw.refl _).drew) (fun hHeld => ?_)
    clear i0 i1 i2
    refine wpAnyH_take (i := 1) (v := (.pointer (some ⟨bi, 0, none⟩))) rfl (by kernel_rfl) (by kernel_rfl) (by kernel_rfl) (fun _ _ _ h => h) (Or.inl ⟨by rfl, ?_⟩) (by assumption) ?_
    · intro wq hSw
      (try dsimp only at hSw)
      go_simp
    try simp only [Act.put, List.setIfInBounds_toArray, List.set_cons_zero, List.set_cons_succ]
    refine wpAnyH_take (i := 2) (v := (.slice (some adc) nc cc)) rfl (by kernel_rfl) (by kernel_rfl) (by kernel_rfl) (fun _ _ _ h => h) (Or.inl ⟨by rfl, ?_⟩) (by assumption) ?_
    · intro wq hSw
      (try dsimp only at hSw)
      go_simp
    try simp only [Act.put, List.setIfInBounds_toArray, List.set_cons_zero, List.set_cons_succ]
    refine wpAnyH_take (i := 4) (v := (.int .i64 (mn : Int))) rfl (by kernel_rfl) (by kernel_rfl) (by kernel_rfl) (fun _ _ _ h => h) (Or.inl ⟨by rfl, ?_⟩) (by assumption) ?_
    · intro wq hSw
      (try dsimp only at hSw)
      go_simp
    try simp only [Act.put, List.setIfInBounds_toArray, List.set_cons_zero, List.set_cons_succ]
    refine wpAnyH_take (i := 6) (v := (.pointer (some ⟨bi, 2, none⟩))) rfl (by kernel_rfl) (by kernel_rfl) (by kernel_rfl) (fun _ _ _ h => h) (Or.inl ⟨by rfl, ?_⟩) (by assumption) ?_
    · intro wq hSw
      (try dsimp only at hSw)
      go_simp
    try simp only [Act.put, List.setIfInBounds_toArray, List.set_cons_zero, List.set_cons_succ]
    refine wpAnyH_take (i := 7) (v := (.int .i64 entry)) rfl (by kernel_rfl) (by kernel_rfl) (by kernel_rfl) (fun _ _ _ h => h) (Or.inl ⟨by rfl, ?_⟩) (by assumption) ?_
    · intro wq hSw
      (try dsimp only at hSw)
      go_simp
    try simp only [Act.put, List.setIfInBounds_toArray, List.set_cons_zero, List.set_cons_succ]
    refine wpAnyH_take (i := 9) (v := (.slice xi ni ci)) rfl (by kernel_rfl) (by kernel_rfl) (by kernel_rfl) (fun _ _ _ h => h) (Or.inl ⟨by rfl, ?_⟩) (by assumption) ?_
    · intro wq hSw
      (try dsimp only at hSw)
      go_simp
    try simp only [Act.put, List.setIfInBounds_toArray, List.set_cons_zero, List.set_cons_succ]
    clear hHeld
    refine abs_wp2 (fun G QQ hG hQQ hD => ?_)
    have HG := Lib.hid hG
    have HQQ := Lib.hid hQQ
    have HD := Lib.hid hD
    clear hG hQQ hD
    suffices keyS : ∀ (u0 u1 u2 u3 u4 u5 u6 u7 u9 u10 u11 u12 u13 u14 u15 u16 u17 u18 u19 u20 u21 u22 u23 u24 u25 u26 u27 u28 u29 u30 u31 u32 u33 u34 u35 u36 u37 u38 u39 u40 u41 u42 u43 u44 u45 u46 u47 u48 u49 u50 u51 u52 u53 u54 u67 u68 u69 u70 u71 u72 u73 u74 u75 u76 u77 u78 u79 u80 u81 u82 u83 u84 u85 u86 : Value), (∀ (t55 t56 t57 t58 t59 t60 t61 t62 t63 t64 t65 t66 : Value) (p bm : Nat) (x1 : Option Addr) (c1 : Nat) (x2 : Option Addr) (c2 : Nat) (w : World), Blk w p (mcs (.slice x1 nc c1) (.slice (some ⟨bm, 0, none⟩) mn mn) (.int .i64 0) (.int .i64 entry) (.slice x2 ni c2)) 51 → NewM w1 w p bm mn nc ni x1 x2 c1 c2 lc Zl li → QQ { tmps := #[u0, u1, u2, u3, u4, u5, u6, u7, .pointer (some ⟨p, 0, none⟩), u9, u10, u11, u12, u13, u14, u15, u16, u17, u18, u19, u20, u21, u22, u23, u24, u25, u26, u27, u28, u29, u30, u31, u32, u33, u34, u35, u36, u37, u38, u39, u40, u41, u42, u43, u44, u45, u46, u47, u48, u49, u50, u51, u52, u53, u54, t55, t56, t57, t58, t59, t60, t61, t62, t63, t64, t65, t66, u67, u68, u69, u70, u71, u72, u73, u74, u75, u76, u77, u78, u79, u80, u81, u82, u83, u84, u85, u86], defers := [] } w) → ∀ (lx : Array Bool), lx = #[false, true, true, false, true, false, true, true, false, true, false, false, false, false] → ∀ (u8 u55 u56 u58 u60 u61 u63 u65 u66 : Value), G 8 lx { tmps := #[u0, u1, u2, u3, u4, u5, u6, u7, u8, u9, u10, u11, u12, u13, u14, u15, u16, u17, u18, u19, u20, u21, u22, u23, u24, u25, u26, u27, u28, u29, u30, u31, u32, u33, u34, u35, u36, u37, u38, u39, u40, u41, u42, u43, u44, u45, u46, u47, u48, u49, u50, u51, u52, u53, u54, u55, u56, .slice (some adc) nc cc, u58, .int .i64 (mn : Int), u60, u61, .int .i64 entry, u63, .slice xi ni ci, u65, u66, u67, u68, u69, u70, u71, u72, u73, u74, u75, u76, u77, u78, u79, u80, u81, u82, u83, u84, u85, u86], defers := [] } w1.drew by
      refine keyS _ _ _ _ _ _ _ _ _ _ _ _ _ _ _ _ _ _ _ _ _ _ _ _ _ _ _ _ _ _ _ _ _ _ _ _ _ _ _ _ _ _ _ _ _ _ _ _ _ _ _ _ _ _ _ _ _ _ _ _ _ _ _ _ _ _ _ _ _ _ _ _ _ _ ?_ _ (by kernel_rfl) _ _ _ _ _ _ _ _ _
      intro t55 t56 t57 t58 t59 t60 t61 t62 t63 t64 t65 t66 p bm x1 c1 x2 c2 wz hb hn
      refine HQQ.out _ _ ?_
      have BF := Lib.hid hb
      have NM := Lib.hid hn
      clear hb hn
      go_wp2_with fail
      go_meet
      exact ⟨p, bm, x1, x2, c1, c2, rfl, BF.out, NM.out⟩
    intro u0 u1 u2 u3 u4 u5 u6 u7 u9 u10 u11 u12 u13 u14 u15 u16 u17 u18 u19 u20 u21 u22 u23 u24 u25 u26 u27 u28 u29 u30 u31 u32 u33 u34 u35 u36 u37 u38 u39 u40 u41 u42 u43 u44 u45 u46 u47 u48 u49 u50 u51 u52 u53 u54 u67 u68 u69 u70 u71 u72 u73 u74 u75 u76 u77 u78 u79 u80 u81 u82 u83 u84 u85 u86 fin
    have FIN_ := Lib.hid fin
    clear fin
    have key_ : ∀ (u55 u56 u61 u63 : Value) (x1 : Option Addr) (c1 : Nat) (x2 : Option Addr) (c2 : Nat) (bm : Nat) (p : Nat) (w : World) (hN : Nw w1 w) (o1 : w.ownsRow w1.heap.size 2 1 (.slice x1 nc c1) nc lc) (o2 : w.ownsRow w1.heap.size 5 1 (.slice x2 ni c2) ni (byteV li)) (mb : Blk w bm Zl 2) (mg : w1.heap.size ≤ bm) (db : Blk w p [.slice none 0 0, .slice none 0 0, .int .i64 0, .int .i64 0, .int .i64 0, .int .i64 0, .int .i64 0, .int .i64 0, .int .i64 0, .int .i64 0, .int .i64 0, .int .i64 0, .int .i64 0, .int .i64 0, .int .i64 0, .int .i64 0, .int .i64 0, .int .i64 0, .int .i64 0, .slice none 0 0, .int .i64 0, .int .i64 0, .int .i64 0, .slice none 0 0, .int .i64 0] 51) (dg : w1.heap.size ≤ p) (d1m : ∀ g, (Value.ownBlock (.slice x1 nc c1)) = some g → g ≠ bm) (d1p : ∀ g, (Value.ownBlock (.slice x1 nc c1)) = some g → g ≠ p) (d2m : ∀ g, (Value.ownBlock (.slice x2 ni c2)) = some g → g ≠ bm) (d2p : ∀ g, (Value.ownBlock (.slice x2 ni c2)) = some g → g ≠ p) (dmp : bm ≠ p) (d12 : ∀ g g', (Value.ownBlock (.slice x1 nc c1)) = some g → (Value.ownBlock (.slice x2 ni c2)) = some g' → g ≠ g') (lx : Array Bool) (hlx : lx = #[true, true, true, true, true, true, true, true, true, true, true, true, true, false]), G 1 lx { tmps := #[u0, u1, u2, u3, u4, u5, u6, u7, .pointer (some ⟨p, 0, none⟩), u9, u10, u11, u12, u13, u14, u15, u16, u17, u18, u19, u20, u21, u22, u23, u24, u25, u26, u27, u28, u29, u30, u31, u32, u33, u34, u35, u36, u37, u38, u39, u40, u41, u42, u43, u44, u45, u46, u47, u48, u49, u50, u51, u52, u53, u54, u55, u56, .slice (some adc) nc cc, .slice x1 nc c1, .int .i64 (mn : Int), .slice (some ⟨bm, 0, none⟩) mn mn, u61, .int .i64 entry, u63, .slice xi ni ci, .slice x2 ni c2, .agg (mcs (.slice x1 nc c1) (.slice (some ⟨bm, 0, none⟩) mn mn) (.int .i64 0) (.int .i64 entry) (.slice x2 ni c2)).toArray, u67, u68, u69, u70, u71, u72, u73, u74, u75, u76, u77, u78, u79, u80, u81, u82, u83, u84, u85, u86], defers := [] } w := by
      intro u55 u56 u61 u63 x1 c1 x2 c2 bm p w hN o1 o2 mb mg db dg d1m d1p d2m d2p dmp d12 lx hlx
      subst hlx
      rw [← HG.out]
      have HN_ := Lib.hid hN
      have O1_ := Lib.hid o1
      have O2_ := Lib.hid o2
      have MB_ := Lib.hid mb
      have MG_ := Lib.hid mg
      have DB_ := Lib.hid db
      have DG_ := Lib.hid dg
      have D1M_ := Lib.hid d1m
      have D1P_ := Lib.hid d1p
      have D2M_ := Lib.hid d2m
      have D2P_ := Lib.hid d2p
      have DMP_ := Lib.hid dmp
      have D12_ := Lib.hid d12
      have SZ_ := Lib.hid hN.size
      have ML_ := Lib.hid mb.lt
      have DL_ := Lib.hid db.lt
      have RL_ := Lib.hid (fun g (h : Value.ownBlock (.slice x1 nc c1) = some g) => (o1.lt g h).2)
      have TL_ := Lib.hid (fun g (h : Value.ownBlock (.slice x2 ni c2) = some g) => (o2.lt g h).2)
      clear hN o1 o2 mb mg db dg d1m d1p d2m d2p dmp d12
      refine wpAnyH_ready (rs := [13]) (by kernel_rfl) (by simp) ?_
      refine AllReadyH.cons rfl (fun K hK => ?_) AllReadyH.nil
      rw [if_pos (by rfl)]
      have NF := Lib.hid (Kp.sets (S := fun _ => False) (b := p) HN_.out (fun h => absurd h (Nat.not_lt_of_le DG_.out)) 0 (mcs (.slice x1 nc c1) (.slice (some ⟨bm, 0, none⟩) mn mn) (.int .i64 0) (.int .i64 entry) (.slice x2 ni c2)))
      have BF := Lib.hid (Blk.over DB_.out (mcs (.slice x1 nc c1) (.slice (some ⟨bm, 0, none⟩) mn mn) (.int .i64 0) (.int .i64 entry) (.slice x2 ni c2)) rfl)
      have KF := Lib.hid ((Kp.refl (fun x => x = p) w).sets (b := p) (fun _ => rfl) 0 (mcs (.slice x1 nc c1) (.slice (some ⟨bm, 0, none⟩) mn mn) (.int .i64 0) (.int .i64 entry) (.slice x2 ni c2)))
      refine wp_store_mid 51 (.tmp 8) (.tmp 66) rfl p 0 (mcs (.slice x1 nc c1) (.slice (some ⟨bm, 0, none⟩) mn mn) (.int .i64 0) (.int .i64 entry) (.slice x2 ni c2)).toArray rfl rfl (mcs_there DB_.out rfl _ _ _ _ _) (mcs_info _ _ _ _ _) (mcs_one _ _ _ _ _ rfl rfl rfl rfl rfl) ?_
      rw [setCells_lays, toL]
      refine hK.out _ _ (FC.out _ NF.out) (fun hHeld => ?_)
      clear hK K
      try simp only [Act.put, List.setIfInBounds_toArray, List.set_cons_zero, List.set_cons_succ]
      rw [HG.out]
      refine HD.out _ _ _ _ (by kernel_rfl) ?_
      have NM := Lib.hid (show NewM w1 (lays w p 0 (mcs (.slice x1 nc c1) (.slice (some ⟨bm, 0, none⟩) mn mn) (.int .i64 0) (.int .i64 entry) (.slice x2 ni c2))) p bm mn nc ni x1 x2 c1 c2 lc Zl li from ⟨MB_.out.kp KF.out DMP_.out, own_kp O1_.out KF.out (fun g hg e => D1P_.out g hg e), own_kp O2_.out KF.out (fun g hg e => D2P_.out g hg e), DMP_.out, fun g hg => ⟨D1P_.out g hg, D1M_.out g hg⟩, fun g hg => ⟨D2P_.out g hg, D2M_.out g hg⟩, DG_.out, MG_.out, NF.out⟩)
      exact FIN_.out _ _ _ _ _ _ _ _ _ _ _ _ p bm x1 c1 x2 c2 _ BF.out NM.out
    have L2211 := Lib.hid key_
    clear key_
    have key_ : ∀ (u55 u56 u61 u65 u66 : Value) (x1 : Option Addr) (c1 : Nat) (g2 : Nat) (bm : Nat) (p : Nat) (w : World) (hN : Nw w1 w) (o1 : w.ownsRow w1.heap.size 2 1 (.slice x1 nc c1) nc lc) (o2 : w.ownsRow w1.heap.size 5 1 (.slice (some ⟨g2, 0, none⟩) 0 0) 0 []) (mb : Blk w bm Zl 2) (mg : w1.heap.size ≤ bm) (db : Blk w p [.slice none 0 0, .slice none 0 0, .int .i64 0, .int .i64 0, .int .i64 0, .int .i64 0, .int .i64 0, .int .i64 0, .int .i64 0, .int .i64 0, .int .i64 0, .int .i64 0, .int .i64 0, .int .i64 0, .int .i64 0, .int .i64 0, .int .i64 0, .int .i64 0, .int .i64 0, .slice none 0 0, .int .i64 0, .int .i64 0, .int .i64 0, .slice none 0 0, .int .i64 0] 51) (dg : w1.heap.size ≤ p) (d1m : ∀ g, (Value.ownBlock (.slice x1 nc c1)) = some g → g ≠ bm) (d1p : ∀ g, (Value.ownBlock (.slice x1 nc c1)) = some g → g ≠ p) (d2m : ∀ g, (Value.ownBlock (.slice (some ⟨g2, 0, none⟩) 0 0)) = some g → g ≠ bm) (d2p : ∀ g, (Value.ownBlock (.slice (some ⟨g2, 0, none⟩) 0 0)) = some g → g ≠ p) (dmp : bm ≠ p) (d12 : ∀ g g', (Value.ownBlock (.slice x1 nc c1)) = some g → (Value.ownBlock (.slice (some ⟨g2, 0, none⟩) 0 0)) = some g' → g ≠ g') (lx : Array Bool) (hlx : lx = #[true, true, true, true, true, true, true, true, true, true, false, false, true, false]), G 3 lx { tmps := #[u0, u1, u2, u3, u4, u5, u6, u7, .pointer (some ⟨p, 0, none⟩), u9, u10, u11, u12, u13, u14, u15, u16, u17, u18, u19, u20, u21, u22, u23, u24, u25, u26, u27, u28, u29, u30, u31, u32, u33, u34, u35, u36, u37, u38, u39, u40, u41, u42, u43, u44, u45, u46, u47, u48, u49, u50, u51, u52, u53, u54, u55, u56, .slice (some adc) nc cc, .slice x1 nc c1, .int .i64 (mn : Int), .slice (some ⟨bm, 0, none⟩) mn mn, u61, .int .i64 entry, .slice (some ⟨g2, 0, none⟩) 0 0, .slice xi ni ci, u65, u66, u67, u68, u69, u70, u71, u72, u73, u74, u75, u76, u77, u78, u79, u80, u81, u82, u83, u84, u85, u86], defers := [] } w := by
      intro u55 u56 u61 u65 u66 x1 c1 g2 bm p w hN o1 o2 mb mg db dg d1m d1p d2m d2p dmp d12 lx hlx
      subst hlx
      rw [← HG.out]
      have HN_ := Lib.hid hN
      have O1_ := Lib.hid o1
      have O2_ := Lib.hid o2
      have MB_ := Lib.hid mb
      have MG_ := Lib.hid mg
      have DB_ := Lib.hid db
      have DG_ := Lib.hid dg
      have D1M_ := Lib.hid d1m
      have D1P_ := Lib.hid d1p
      have D2M_ := Lib.hid d2m
      have D2P_ := Lib.hid d2p
      have DMP_ := Lib.hid dmp
      have D12_ := Lib.hid d12
      have SZ_ := Lib.hid hN.size
      have ML_ := Lib.hid mb.lt
      have DL_ := Lib.hid db.lt
      have RL_ := Lib.hid (fun g (h : Value.ownBlock (.slice x1 nc c1) = some g) => (o1.lt g h).2)
      have TL_ := Lib.hid (fun g (h : Value.ownBlock (.slice (some ⟨g2, 0, none⟩) 0 0) = some g) => (o2.lt g h).2)
      clear hN o1 o2 mb mg db dg d1m d1p d2m d2p dmp d12
      refine wpAnyH_ready (rs := [10]) (by kernel_rfl) (by simp) ?_
      refine AllReadyH.cons rfl (fun K hK => ?_) AllReadyH.nil
      rw [if_pos (by rfl)]
      refine step_app_bytes (.tmp 63) (.tmp 64) rfl rfl w1.heap.size g2 rfl O2_.out xi ni ci li rfl (HBI.out w HN_.out) H8.out SZ_.out ?_
      intro x2 c2 w' ho hg hl
      have KX := Lib.hid (show Kp (fun x => x = g2) w w' from hg.elim (fun k => k.mono (fun _ _ x => x.elim)) (fun k => Kp.grown (S := fun x => x = g2) (Kp.refl _ w) k (fun k hk _ => by have h1 : some g2 = some k := hk; injection h1 with h1; exact h1.symm)))
      have NB := Lib.hid (show Nw w1 w' from Kp.trans HN_.out KX.out (fun x hx e => by have e : x = g2 := e; have := (O2_.out.lt g2 rfl).1; omega))
      have OX := Lib.hid ho
      have HX := Lib.hid (show ∀ g, (Value.slice x2 ni c2).ownBlock = some g → g = g2 ∨ g = w.heap.size from fun g hg => by rcases hl with e | e; exact .inl (by rw [e] at hg; injection hg with hg; exact hg.symm); exact .inr (by rw [e] at hg; injection hg with hg; exact hg.symm))
      clear ho hg hl
      refine hK.out _ _ (FC.out _ NB.out) (fun hHeld => ?_)
      clear hK K
      try simp only [Act.put, List.setIfInBounds_toArray, List.set_cons_zero, List.set_cons_succ]
      refine wpAnyH_take (i := 11) (v := .agg #[.slice x1 nc c1, .slice (some ⟨bm, 0, none⟩) mn mn, .int .i64 0, .int .i64 0, .int .i64 0, .int .i64 0, .int .i64 0, .int .i64 0, .int .i64 0, .int .i64 0, .int .i64 0, .int .i64 0, .int .i64 0, .int .i64 0, .int .i64 0, .int .i64 0, .int .i64 0, .int .i64 0, .int .i64 entry, .slice x2 ni c2, .int .i64 0, .int .i64 0, .int .i64 0, .slice none 0 0, .int .i64 0]) rfl (by kernel_rfl) (by kernel_rfl) (by kernel_rfl) (fun _ _ _ h => h) (Or.inl ⟨by rfl, ?_⟩) (FC.out _ NB.out) ?_
      · intro wq hSw
        (try dsimp only at hSw)
        go_simp
      try simp only [Act.put, List.setIfInBounds_toArray, List.set_cons_zero, List.set_cons_succ]
      rw [HG.out]
      exact L2211.out _ _ _ _ _ _ _ _ _ _ _ NB.out (own_kp O1_.out KX.out (fun g hg e => by have e : g = g2 := e; exact D12_.out g g2 hg rfl e)) OX.out (MB_.out.kp KX.out (fun e => D2M_.out g2 rfl e.symm)) MG_.out (DB_.out.kp KX.out (fun e => D2P_.out g2 rfl e.symm)) DG_.out D1M_.out D1P_.out (fun g hg e => by rcases HX.out g hg with h | h; exact D2M_.out g2 rfl (h ▸ e); have := ML_.out; omega) (fun g hg e => by rcases HX.out g hg with h | h; exact D2P_.out g2 rfl (h ▸ e); have := DL_.out; omega) DMP_.out (fun g g' hg hg' e => by rcases HX.out g' hg' with h | h; exact D12_.out g g2 hg rfl (h ▸ e); have := RL_.out g hg; omega) _ (by kernel_rfl)
    have L2111 := Lib.hid key_
    clear key_
    have key_ : ∀ (u55 u56 u60 u61 u63 u66 : Value) (x1 : Option Addr) (c1 : Nat) (x2 : Option Addr) (c2 : Nat) (p : Nat) (w : World) (hN : Nw w1 w) (o1 : w.ownsRow w1.heap.size 2 1 (.slice x1 nc c1) nc lc) (o2 : w.ownsRow w1.heap.size 5 1 (.slice x2 ni c2) ni (byteV li)) (db : Blk w p [.slice none 0 0, .slice none 0 0, .int .i64 0, .int .i64 0, .int .i64 0, .int .i64 0, .int .i64 0, .int .i64 0, .int .i64 0, .int .i64 0, .int .i64 0, .int .i64 0, .int .i64 0, .int .i64 0, .int .i64 0, .int .i64 0, .int .i64 0, .int .i64 0, .int .i64 0, .slice none 0 0, .int .i64 0, .int .i64 0, .int .i64 0, .slice none 0 0, .int .i64 0] 51) (dg : w1.heap.size ≤ p) (d1p : ∀ g, (Value.ownBlock (.slice x1 nc c1)) = some g → g ≠ p) (d2p : ∀ g, (Value.ownBlock (.slice x2 ni c2)) = some g → g ≠ p) (d12 : ∀ g g', (Value.ownBlock (.slice x1 nc c1)) = some g → (Value.ownBlock (.slice x2 ni c2)) = some g' → g ≠ g') (lx : Array Bool) (hlx : lx = #[true, true, true, true, true, false, true, true, true, true, true, false, true, false]), G 3 lx { tmps := #[u0, u1, u2, u3, u4, u5, u6, u7, .pointer (some ⟨p, 0, none⟩), u9, u10, u11, u12, u13, u14, u15, u16, u17, u18, u19, u20, u21, u22, u23, u24, u25, u26, u27, u28, u29, u30, u31, u32, u33, u34, u35, u36, u37, u38, u39, u40, u41, u42, u43, u44, u45, u46, u47, u48, u49, u50, u51, u52, u53, u54, u55, u56, .slice (some adc) nc cc, .slice x1 nc c1, .int .i64 (mn : Int), u60, u61, .int .i64 entry, u63, .slice xi ni ci, .slice x2 ni c2, u66, u67, u68, u69, u70, u71, u72, u73, u74, u75, u76, u77, u78, u79, u80, u81, u82, u83, u84, u85, u86], defers := [] } w := by
      intro u55 u56 u60 u61 u63 u66 x1 c1 x2 c2 p w hN o1 o2 db dg d1p d2p d12 lx hlx
      subst hlx
      rw [← HG.out]
      have HN_ := Lib.hid hN
      have O1_ := Lib.hid o1
      have O2_ := Lib.hid o2
      have DB_ := Lib.hid db
      have DG_ := Lib.hid dg
      have D1P_ := Lib.hid d1p
      have D2P_ := Lib.hid d2p
      have D12_ := Lib.hid d12
      have SZ_ := Lib.hid hN.size
      have DL_ := Lib.hid db.lt
      have RL_ := Lib.hid (fun g (h : Value.ownBlock (.slice x1 nc c1) = some g) => (o1.lt g h).2)
      have TL_ := Lib.hid (fun g (h : Value.ownBlock (.slice x2 ni c2) = some g) => (o2.lt g h).2)
      clear hN o1 o2 db dg d1p d2p d12
      refine wpAnyH_ready (rs := [5]) (by kernel_rfl) (by simp) ?_
      refine AllReadyH.cons rfl (fun K hK => ?_) AllReadyH.nil
      rw [if_pos (by rfl)]
      have NX := Lib.hid (Nw.new w (.cells Zr 2))
      have BX := Lib.hid (show Blk (w.alloc (.cells Zr 2)) w.heap.size Zl 2 by rw [← HZ.out]; exact Blk.new w Zl 2)
      go_simp
      refine hK.out _ _ (FC.out _ (HN_.out.trans NX.out)) (fun hHeld => ?_)
      clear hK K
      try simp only [Act.put, List.setIfInBounds_toArray, List.set_cons_zero, List.set_cons_succ]
      obtain ⟨bm, hbm⟩ : ∃ bm, bm = w.heap.size := ⟨_, rfl⟩
      rw [← hbm] at BX ⊢
      refine wpAnyH_take (i := 11) (v := .agg #[.slice x1 nc c1, .slice (some ⟨bm, 0, none⟩) mn mn, .int .i64 0, .int .i64 0, .int .i64 0, .int .i64 0, .int .i64 0, .int .i64 0, .int .i64 0, .int .i64 0, .int .i64 0, .int .i64 0, .int .i64 0, .int .i64 0, .int .i64 0, .int .i64 0, .int .i64 0, .int .i64 0, .int .i64 entry, .slice x2 ni c2, .int .i64 0, .int .i64 0, .int .i64 0, .slice none 0 0, .int .i64 0]) rfl (by kernel_rfl) (by kernel_rfl) (by kernel_rfl) (fun _ _ _ h => h) (Or.inl ⟨by rfl, ?_⟩) (FC.out _ (HN_.out.trans NX.out)) ?_
      · intro wq hSw
        (try dsimp only at hSw)
        go_simp
      try simp only [Act.put, List.setIfInBounds_toArray, List.set_cons_zero, List.set_cons_succ]
      rw [HG.out]
      exact L2211.out _ _ _ _ _ _ _ _ _ _ _ (HN_.out.trans NX.out) (own_kp O1_.out NX.out (fun _ _ x => x)) (own_kp O2_.out NX.out (fun _ _ x => x)) BX.out (by first | exact SZ_.out | (rw [hbm]; exact SZ_.out)) (DB_.out.nw NX.out) DG_.out (fun g hg e => by have := RL_.out g hg; omega) D1P_.out (fun g hg e => by have := TL_.out g hg; omega) D2P_.out (fun e => by have := DL_.out; omega) D12_.out _ (by kernel_rfl)
    have L2201 := Lib.hid key_
    clear key_
    have key_ : ∀ (u8 u55 u56 u61 u63 u66 : Value) (x1 : Option Addr) (c1 : Nat) (x2 : Option Addr) (c2 : Nat) (bm : Nat) (w : World) (hN : Nw w1 w) (o1 : w.ownsRow w1.heap.size 2 1 (.slice x1 nc c1) nc lc) (o2 : w.ownsRow w1.heap.size 5 1 (.slice x2 ni c2) ni (byteV li)) (mb : Blk w bm Zl 2) (mg : w1.heap.size ≤ bm) (d1m : ∀ g, (Value.ownBlock (.slice x1 nc c1)) = some g → g ≠ bm) (d2m : ∀ g, (Value.ownBlock (.slice x2 ni c2)) = some g → g ≠ bm) (d12 : ∀ g g', (Value.ownBlock (.slice x1 nc c1)) = some g → (Value.ownBlock (.slice x2 ni c2)) = some g' → g ≠ g') (lx : Array Bool) (hlx : lx = #[true, true, true, true, true, true, true, true, true, true, true, false, false, false]), G 3 lx { tmps := #[u0, u1, u2, u3, u4, u5, u6, u7, u8, u9, u10, u11, u12, u13, u14, u15, u16, u17, u18, u19, u20, u21, u22, u23, u24, u25, u26, u27, u28, u29, u30, u31, u32, u33, u34, u35, u36, u37, u38, u39, u40, u41, u42, u43, u44, u45, u46, u47, u48, u49, u50, u51, u52, u53, u54, u55, u56, .slice (some adc) nc cc, .slice x1 nc c1, .int .i64 (mn : Int), .slice (some ⟨bm, 0, none⟩) mn mn, u61, .int .i64 entry, u63, .slice xi ni ci, .slice x2 ni c2, u66, u67, u68, u69, u70, u71, u72, u73, u74, u75, u76, u77, u78, u79, u80, u81, u82, u83, u84, u85, u86], defers := [] } w := by
      intro u8 u55 u56 u61 u63 u66 x1 c1 x2 c2 bm w hN o1 o2 mb mg d1m d2m d12 lx hlx
      subst hlx
      rw [← HG.out]
      have HN_ := Lib.hid hN
      have O1_ := Lib.hid o1
      have O2_ := Lib.hid o2
      have MB_ := Lib.hid mb
      have MG_ := Lib.hid mg
      have D1M_ := Lib.hid d1m
      have D2M_ := Lib.hid d2m
      have D12_ := Lib.hid d12
      have SZ_ := Lib.hid hN.size
      have ML_ := Lib.hid mb.lt
      have RL_ := Lib.hid (fun g (h : Value.ownBlock (.slice x1 nc c1) = some g) => (o1.lt g h).2)
      have TL_ := Lib.hid (fun g (h : Value.ownBlock (.slice x2 ni c2) = some g) => (o2.lt g h).2)
      clear hN o1 o2 mb mg d1m d2m d12
      refine wpAnyH_take (i := 11) (v := .agg #[.slice x1 nc c1, .slice (some ⟨bm, 0, none⟩) mn mn, .int .i64 0, .int .i64 0, .int .i64 0, .int .i64 0, .int .i64 0, .int .i64 0, .int .i64 0, .int .i64 0, .int .i64 0, .int .i64 0, .int .i64 0, .int .i64 0, .int .i64 0, .int .i64 0, .int .i64 0, .int .i64 0, .int .i64 entry, .slice x2 ni c2, .int .i64 0, .int .i64 0, .int .i64 0, .slice none 0 0, .int .i64 0]) rfl (by kernel_rfl) (by kernel_rfl) (by kernel_rfl) (fun _ _ _ h => h) (Or.inl ⟨by rfl, ?_⟩) (FC.out _ HN_.out) ?_
      · intro wq hSw
        (try dsimp only at hSw)
        go_simp
      try simp only [Act.put, List.setIfInBounds_toArray, List.set_cons_zero, List.set_cons_succ]
      refine wpAnyH_ready (rs := [12]) (by kernel_rfl) (by simp) ?_
      refine AllReadyH.cons rfl (fun K hK => ?_) AllReadyH.nil
      rw [if_pos (by rfl)]
      have NX := Lib.hid (Nw.new w (.cells #[.slice none 0 0, .slice none 0 0, .int .i64 0, .int .i64 0, .int .i64 0, .int .i64 0, .int .i64 0, .int .i64 0, .int .i64 0, .int .i64 0, .int .i64 0, .int .i64 0, .int .i64 0, .int .i64 0, .int .i64 0, .int .i64 0, .int .i64 0, .int .i64 0, .int .i64 0, .slice none 0 0, .int .i64 0, .int .i64 0, .int .i64 0, .slice none 0 0, .int .i64 0] 51))
      have BX := Lib.hid (Blk.new w [.slice none 0 0, .slice none 0 0, .int .i64 0, .int .i64 0, .int .i64 0, .int .i64 0, .int .i64 0, .int .i64 0, .int .i64 0, .int .i64 0, .int .i64 0, .int .i64 0, .int .i64 0, .int .i64 0, .int .i64 0, .int .i64 0, .int .i64 0, .int .i64 0, .int .i64 0, .slice none 0 0, .int .i64 0, .int .i64 0, .int .i64 0, .slice none 0 0, .int .i64 0] 51)
      go_simp
      refine hK.out _ _ (FC.out _ (HN_.out.trans NX.out)) (fun hHeld => ?_)
      clear hK K
      try simp only [Act.put, List.setIfInBounds_toArray, List.set_cons_zero, List.set_cons_succ]
      rw [HG.out]
      exact L2211.out _ _ _ _ _ _ _ _ _ _ _ (HN_.out.trans NX.out) (own_kp O1_.out NX.out (fun _ _ x => x)) (own_kp O2_.out NX.out (fun _ _ x => x)) (MB_.out.nw NX.out) MG_.out BX.out SZ_.out D1M_.out (fun g hg e => by have := RL_.out g hg; omega) D2M_.out (fun g hg e => by have := TL_.out g hg; omega) (fun e => by have := ML_.out; omega) D12_.out _ (by kernel_rfl)
    have L2210 := Lib.hid key_
    clear key_
    have key_ : ∀ (u56 u58 u61 u65 u66 : Value) (g1 : Nat) (g2 : Nat) (bm : Nat) (p : Nat) (w : World) (hN : Nw w1 w) (o1 : w.ownsRow w1.heap.size 2 1 (.slice (some ⟨g1, 0, none⟩) 0 0) 0 []) (o2 : w.ownsRow w1.heap.size 5 1 (.slice (some ⟨g2, 0, none⟩) 0 0) 0 []) (mb : Blk w bm Zl 2) (mg : w1.heap.size ≤ bm) (db : Blk w p [.slice none 0 0, .slice none 0 0, .int .i64 0, .int .i64 0, .int .i64 0, .int .i64 0, .int .i64 0, .int .i64 0, .int .i64 0, .int .i64 0, .int .i64 0, .int .i64 0, .int .i64 0, .int .i64 0, .int .i64 0, .int .i64 0, .int .i64 0, .int .i64 0, .int .i64 0, .slice none 0 0, .int .i64 0, .int .i64 0, .int .i64 0, .slice none 0 0, .int .i64 0] 51) (dg : w1.heap.size ≤ p) (d1m : ∀ g, (Value.ownBlock (.slice (some ⟨g1, 0, none⟩) 0 0)) = some g → g ≠ bm) (d1p : ∀ g, (Value.ownBlock (.slice (some ⟨g1, 0, none⟩) 0 0)) = some g → g ≠ p) (d2m : ∀ g, (Value.ownBlock (.slice (some ⟨g2, 0, none⟩) 0 0)) = some g → g ≠ bm) (d2p : ∀ g, (Value.ownBlock (.slice (some ⟨g2, 0, none⟩) 0 0)) = some g → g ≠ p) (dmp : bm ≠ p) (d12 : ∀ g g', (Value.ownBlock (.slice (some ⟨g1, 0, none⟩) 0 0)) = some g → (Value.ownBlock (.slice (some ⟨g2, 0, none⟩) 0 0)) = some g' → g ≠ g') (lx : Array Bool) (hlx : lx = #[true, true, true, false, true, true, true, true, true, true, false, false, true, false]), G 4 lx { tmps := #[u0, u1, u2, u3, u4, u5, u6, u7, .pointer (some ⟨p, 0, none⟩), u9, u10, u11, u12, u13, u14, u15, u16, u17, u18, u19, u20, u21, u22, u23, u24, u25, u26, u27, u28, u29, u30, u31, u32, u33, u34, u35, u36, u37, u38, u39, u40, u41, u42, u43, u44, u45, u46, u47, u48, u49, u50, u51, u52, u53, u54, .slice (some ⟨g1, 0, none⟩) 0 0, u56, .slice (some adc) nc cc, u58, .int .i64 (mn : Int), .slice (some ⟨bm, 0, none⟩) mn mn, u61, .int .i64 entry, .slice (some ⟨g2, 0, none⟩) 0 0, .slice xi ni ci, u65, u66, u67, u68, u69, u70, u71, u72, u73, u74, u75, u76, u77, u78, u79, u80, u81, u82, u83, u84, u85, u86], defers := [] } w := by
      intro u56 u58 u61 u65 u66 g1 g2 bm p w hN o1 o2 mb mg db dg d1m d1p d2m d2p dmp d12 lx hlx
      subst hlx
      rw [← HG.out]
      have HN_ := Lib.hid hN
      have O1_ := Lib.hid o1
      have O2_ := Lib.hid o2
      have MB_ := Lib.hid mb
      have MG_ := Lib.hid mg
      have DB_ := Lib.hid db
      have DG_ := Lib.hid dg
      have D1M_ := Lib.hid d1m
      have D1P_ := Lib.hid d1p
      have D2M_ := Lib.hid d2m
      have D2P_ := Lib.hid d2p
      have DMP_ := Lib.hid dmp
      have D12_ := Lib.hid d12
      have SZ_ := Lib.hid hN.size
      have ML_ := Lib.hid mb.lt
      have DL_ := Lib.hid db.lt
      have RL_ := Lib.hid (fun g (h : Value.ownBlock (.slice (some ⟨g1, 0, none⟩) 0 0) = some g) => (o1.lt g h).2)
      have TL_ := Lib.hid (fun g (h : Value.ownBlock (.slice (some ⟨g2, 0, none⟩) 0 0) = some g) => (o2.lt g h).2)
      clear hN o1 o2 mb mg db dg d1m d1p d2m d2p dmp d12
      refine wpAnyH_ready (rs := [3]) (by kernel_rfl) (by simp) ?_
      refine AllReadyH.cons rfl (fun K hK => ?_) AllReadyH.nil
      rw [if_pos (by rfl)]
      refine step_app (.tmp 55) (.tmp 57) 22 rfl w1.heap.size 2 it (.int .i64 0) 1 8 Try.underlying22 HI0.out HZ0.out HZ1.out HZ2.out rfl (by decide) _ 0 [] rfl O1_.out adc nc cc lc rfl HLC1.out (HCC.out w HN_.out) HONE.out H63.out HBY.out SZ_.out ?_
      intro x1 c1 w' ho hg hl
      rw [Nat.zero_add] at ho hl
      rw [List.nil_append] at ho
      have HG := Lib.hid hg
      have KX := Lib.hid (show Kp (fun x => x = g1) w w' from Kp.grown (S := fun x => x = g1) (Kp.refl _ w) hg (fun k hk _ => by have h1 : some g1 = some k := hk; injection h1 with h1; exact h1.symm))
      have NB := Lib.hid (show Nw w1 w' from Kp.trans HN_.out KX.out (fun x hx e => by have e : x = g1 := e; have := (O1_.out.lt g1 rfl).1; omega))
      have OX := Lib.hid ho
      have HX := Lib.hid (show ∀ g, (Value.slice x1 nc c1).ownBlock = some g → g = g1 ∨ g = w.heap.size from fun g hg => by rcases hl with e | e; exact .inl (by rw [e] at hg; injection hg with hg; exact hg.symm); exact .inr (by rw [e] at hg; injection hg with hg; exact hg.symm))
      clear ho hg hl HG
      simp only [Nat.zero_add]
      refine hK.out _ _ (FC.out _ NB.out) (fun hHeld => ?_)
      clear hK K
      try simp only [Act.put, List.setIfInBounds_toArray, List.set_cons_zero, List.set_cons_succ]
      rw [HG.out]
      exact L2111.out _ _ _ _ _ _ _ _ _ _ _ NB.out OX.out (own_kp O2_.out KX.out (fun g hg e => by have e : g = g1 := e; exact D12_.out g1 g rfl hg e.symm)) (MB_.out.kp KX.out (fun e => D1M_.out g1 rfl e.symm)) MG_.out (DB_.out.kp KX.out (fun e => D1P_.out g1 rfl e.symm)) DG_.out (fun g hg e => by rcases HX.out g hg with h | h; exact D1M_.out g1 rfl (h ▸ e); have := ML_.out; omega) (fun g hg e => by rcases HX.out g hg with h | h; exact D1P_.out g1 rfl (h ▸ e); have := DL_.out; omega) D2M_.out D2P_.out DMP_.out (fun g g' hg hg' e => by rcases HX.out g hg with h | h; exact D12_.out g1 g' rfl hg' (h ▸ e); have := TL_.out g' hg'; omega) _ (by kernel_rfl)
    have L1111 := Lib.hid key_
    clear key_
    have key_ : ∀ (u55 u56 u61 u63 u65 u66 : Value) (x1 : Option Addr) (c1 : Nat) (bm : Nat) (p : Nat) (w : World) (hN : Nw w1 w) (o1 : w.ownsRow w1.heap.size 2 1 (.slice x1 nc c1) nc lc) (mb : Blk w bm Zl 2) (mg : w1.heap.size ≤ bm) (db : Blk w p [.slice none 0 0, .slice none 0 0, .int .i64 0, .int .i64 0, .int .i64 0, .int .i64 0, .int .i64 0, .int .i64 0, .int .i64 0, .int .i64 0, .int .i64 0, .int .i64 0, .int .i64 0, .int .i64 0, .int .i64 0, .int .i64 0, .int .i64 0, .int .i64 0, .int .i64 0, .slice none 0 0, .int .i64 0, .int .i64 0, .int .i64 0, .slice none 0 0, .int .i64 0] 51) (dg : w1.heap.size ≤ p) (d1m : ∀ g, (Value.ownBlock (.slice x1 nc c1)) = some g → g ≠ bm) (d1p : ∀ g, (Value.ownBlock (.slice x1 nc c1)) = some g → g ≠ p) (dmp : bm ≠ p) (lx : Array Bool) (hlx : lx = #[true, true, true, true, true, true, true, true, false, true, false, false, true, false]), G 4 lx { tmps := #[u0, u1, u2, u3, u4, u5, u6, u7, .pointer (some ⟨p, 0, none⟩), u9, u10, u11, u12, u13, u14, u15, u16, u17, u18, u19, u20, u21, u22, u23, u24, u25, u26, u27, u28, u29, u30, u31, u32, u33, u34, u35, u36, u37, u38, u39, u40, u41, u42, u43, u44, u45, u46, u47, u48, u49, u50, u51, u52, u53, u54, u55, u56, .slice (some adc) nc cc, .slice x1 nc c1, .int .i64 (mn : Int), .slice (some ⟨bm, 0, none⟩) mn mn, u61, .int .i64 entry, u63, .slice xi ni ci, u65, u66, u67, u68, u69, u70, u71, u72, u73, u74, u75, u76, u77, u78, u79, u80, u81, u82, u83, u84, u85, u86], defers := [] } w := by
      intro u55 u56 u61 u63 u65 u66 x1 c1 bm p w hN o1 mb mg db dg d1m d1p dmp lx hlx
      subst hlx
      rw [← HG.out]
      have HN_ := Lib.hid hN
      have O1_ := Lib.hid o1
      have MB_ := Lib.hid mb
      have MG_ := Lib.hid mg
      have DB_ := Lib.hid db
      have DG_ := Lib.hid dg
      have D1M_ := Lib.hid d1m
      have D1P_ := Lib.hid d1p
      have DMP_ := Lib.hid dmp
      have SZ_ := Lib.hid hN.size
      have ML_ := Lib.hid mb.lt
      have DL_ := Lib.hid db.lt
      have RL_ := Lib.hid (fun g (h : Value.ownBlock (.slice x1 nc c1) = some g) => (o1.lt g h).2)
      clear hN o1 mb mg db dg d1m d1p dmp
      refine wpAnyH_ready (rs := [8]) (by kernel_rfl) (by simp) ?_
      refine AllReadyH.cons rfl (fun K hK => ?_) AllReadyH.nil
      rw [if_pos (by rfl)]
      have NX := Lib.hid (Nw.new w (.cells #[] 5))
      have OX := Lib.hid (own_weaken (own_empty w 5) SZ_.out)
      go_simp
      refine hK.out _ _ (FC.out _ (HN_.out.trans NX.out)) (fun hHeld => ?_)
      clear hK K
      try simp only [Act.put, List.setIfInBounds_toArray, List.set_cons_zero, List.set_cons_succ]
      rw [HG.out]
      exact L2111.out _ _ _ _ _ _ _ _ _ _ _ (HN_.out.trans NX.out) (own_kp O1_.out NX.out (fun _ _ x => x)) OX.out (MB_.out.nw NX.out) MG_.out (DB_.out.nw NX.out) DG_.out D1M_.out D1P_.out (fun g hg e => by have h1 : some w.heap.size = some g := hg; injection h1 with h1; have := ML_.out; omega) (fun g hg e => by have h1 : some w.heap.size = some g := hg; injection h1 with h1; have := DL_.out; omega) DMP_.out (fun g g' hg hg' e => by have h1 : some w.heap.size = some g' := hg'; injection h1 with h1; have := RL_.out g hg; omega) _ (by kernel_rfl)
    have L2011 := Lib.hid key_
    clear key_
    have key_ : ∀ (u55 u56 u60 u61 u65 u66 : Value) (x1 : Option Addr) (c1 : Nat) (g2 : Nat) (p : Nat) (w : World) (hN : Nw w1 w) (o1 : w.ownsRow w1.heap.size 2 1 (.slice x1 nc c1) nc lc) (o2 : w.ownsRow w1.heap.size 5 1 (.slice (some ⟨g2, 0, none⟩) 0 0) 0 []) (db : Blk w p [.slice none 0 0, .slice none 0 0, .int .i64 0, .int .i64 0, .int .i64 0, .int .i64 0, .int .i64 0, .int .i64 0, .int .i64 0, .int .i64 0, .int .i64 0, .int .i64 0, .int .i64 0, .int .i64 0, .int .i64 0, .int .i64 0, .int .i64 0, .int .i64 0, .int .i64 0, .slice none 0 0, .int .i64 0, .int .i64 0, .int .i64 0, .slice none 0 0, .int .i64 0] 51) (dg : w1.heap.size ≤ p) (d1p : ∀ g, (Value.ownBlock (.slice x1 nc c1)) = some g → g ≠ p) (d2p : ∀ g, (Value.ownBlock (.slice (some ⟨g2, 0, none⟩) 0 0)) = some g → g ≠ p) (d12 : ∀ g g', (Value.ownBlock (.slice x1 nc c1)) = some g → (Value.ownBlock (.slice (some ⟨g2, 0, none⟩) 0 0)) = some g' → g ≠ g') (lx : Array Bool) (hlx : lx = #[true, true, true, true, true, false, true, true, true, true, false, false, true, false]), G 4 lx { tmps := #[u0, u1, u2, u3, u4, u5, u6, u7, .pointer (some ⟨p, 0, none⟩), u9, u10, u11, u12, u13, u14, u15, u16, u17, u18, u19, u20, u21, u22, u23, u24, u25, u26, u27, u28, u29, u30, u31, u32, u33, u34, u35, u36, u37, u38, u39, u40, u41, u42, u43, u44, u45, u46, u47, u48, u49, u50, u51, u52, u53, u54, u55, u56, .slice (some adc) nc cc, .slice x1 nc c1, .int .i64 (mn : Int), u60, u61, .int .i64 entry, .slice (some ⟨g2, 0, none⟩) 0 0, .slice xi ni ci, u65, u66, u67, u68, u69, u70, u71, u72, u73, u74, u75, u76, u77, u78, u79, u80, u81, u82, u83, u84, u85, u86], defers := [] } w := by
      intro u55 u56 u60 u61 u65 u66 x1 c1 g2 p w hN o1 o2 db dg d1p d2p d12 lx hlx
      subst hlx
      rw [← HG.out]
      have HN_ := Lib.hid hN
      have O1_ := Lib.hid o1
      have O2_ := Lib.hid o2
      have DB_ := Lib.hid db
      have DG_ := Lib.hid dg
      have D1P_ := Lib.hid d1p
      have D2P_ := Lib.hid d2p
      have D12_ := Lib.hid d12
      have SZ_ := Lib.hid hN.size
      have DL_ := Lib.hid db.lt
      have RL_ := Lib.hid (fun g (h : Value.ownBlock (.slice x1 nc c1) = some g) => (o1.lt g h).2)
      have TL_ := Lib.hid (fun g (h : Value.ownBlock (.slice (some ⟨g2, 0, none⟩) 0 0) = some g) => (o2.lt g h).2)
      clear hN o1 o2 db dg d1p d2p d12
      refine wpAnyH_ready (rs := [5, 10]) (by kernel_rfl) (by simp) ?_
      refine AllReadyH.cons rfl (fun K hK => ?_) ?_
      · rw [if_pos (by rfl)]
        have NX := Lib.hid (Nw.new w (.cells Zr 2))
        have BX := Lib.hid (show Blk (w.alloc (.cells Zr 2)) w.heap.size Zl 2 by rw [← HZ.out]; exact Blk.new w Zl 2)
        go_simp
        refine hK.out _ _ (FC.out _ (HN_.out.trans NX.out)) (fun hHeld => ?_)
        clear hK K
        try simp only [Act.put, List.setIfInBounds_toArray, List.set_cons_zero, List.set_cons_succ]
        rw [HG.out]
        exact L2111.out _ _ _ _ _ _ _ _ _ _ _ (HN_.out.trans NX.out) (own_kp O1_.out NX.out (fun _ _ x => x)) (own_kp O2_.out NX.out (fun _ _ x => x)) BX.out (by first | exact SZ_.out | (rw [hbm]; exact SZ_.out)) (DB_.out.nw NX.out) DG_.out (fun g hg e => by have := RL_.out g hg; omega) D1P_.out (fun g hg e => by have := TL_.out g hg; omega) D2P_.out (fun e => by have := DL_.out; omega) D12_.out _ (by kernel_rfl)
      refine AllReadyH.cons rfl (fun K hK => ?_) AllReadyH.nil
      rw [if_pos (by rfl)]
      refine step_app_bytes (.tmp 63) (.tmp 64) rfl rfl w1.heap.size g2 rfl O2_.out xi ni ci li rfl (HBI.out w HN_.out) H8.out SZ_.out ?_
      intro x2 c2 w' ho hg hl
      have KX := Lib.hid (show Kp (fun x => x = g2) w w' from hg.elim (fun k => k.mono (fun _ _ x => x.elim)) (fun k => Kp.grown (S := fun x => x = g2) (Kp.refl _ w) k (fun k hk _ => by have h1 : some g2 = some k := hk; injection h1 with h1; exact h1.symm)))
      have NB := Lib.hid (show Nw w1 w' from Kp.trans HN_.out KX.out (fun x hx e => by have e : x = g2 := e; have := (O2_.out.lt g2 rfl).1; omega))
      have OX := Lib.hid ho
      have HX := Lib.hid (show ∀ g, (Value.slice x2 ni c2).ownBlock = some g → g = g2 ∨ g = w.heap.size from fun g hg => by rcases hl with e | e; exact .inl (by rw [e] at hg; injection hg with hg; exact hg.symm); exact .inr (by rw [e] at hg; injection hg with hg; exact hg.symm))
      clear ho hg hl
      refine hK.out _ _ (FC.out _ NB.out) (fun hHeld => ?_)
      clear hK K
      try simp only [Act.put, List.setIfInBounds_toArray, List.set_cons_zero, List.set_cons_succ]
      rw [HG.out]
      exact L2201.out _ _ _ _ _ _ _ _ _ _ _ _ NB.out (own_kp O1_.out KX.out (fun g hg e => by have e : g = g2 := e; exact D12_.out g g2 hg rfl e)) OX.out (DB_.out.kp KX.out (fun e => D2P_.out g2 rfl e.symm)) DG_.out D1P_.out (fun g hg e => by rcases HX.out g hg with h | h; exact D2P_.out g2 rfl (h ▸ e); have := DL_.out; omega) (fun g g' hg hg' e => by rcases HX.out g' hg' with h | h; exact D12_.out g g2 hg rfl (h ▸ e); have := RL_.out g hg; omega) _ (by kernel_rfl)
    have L2101 := Lib.hid key_
    clear key_
    have key_ : ∀ (u8 u55 u56 u61 u65 u66 : Value) (x1 : Option Addr) (c1 : Nat) (g2 : Nat) (bm : Nat) (w : World) (hN : Nw w1 w) (o1 : w.ownsRow w1.heap.size 2 1 (.slice x1 nc c1) nc lc) (o2 : w.ownsRow w1.heap.size 5 1 (.slice (some ⟨g2, 0, none⟩) 0 0) 0 []) (mb : Blk w bm Zl 2) (mg : w1.heap.size ≤ bm) (d1m : ∀ g, (Value.ownBlock (.slice x1 nc c1)) = some g → g ≠ bm) (d2m : ∀ g, (Value.ownBlock (.slice (some ⟨g2, 0, none⟩) 0 0)) = some g → g ≠ bm) (d12 : ∀ g g', (Value.ownBlock (.slice x1 nc c1)) = some g → (Value.ownBlock (.slice (some ⟨g2, 0, none⟩) 0 0)) = some g' → g ≠ g') (lx : Array Bool) (hlx : lx = #[true, true, true, true, true, true, true, true, true, true, false, false, false, false]), G 4 lx { tmps := #[u0, u1, u2, u3, u4, u5, u6, u7, u8, u9, u10, u11, u12, u13, u14, u15, u16, u17, u18, u19, u20, u21, u22, u23, u24, u25, u26, u27, u28, u29, u30, u31, u32, u33, u34, u35, u36, u37, u38, u39, u40, u41, u42, u43, u44, u45, u46, u47, u48, u49, u50, u51, u52, u53, u54, u55, u56, .slice (some adc) nc cc, .slice x1 nc c1, .int .i64 (mn : Int), .slice (some ⟨bm, 0, none⟩) mn mn, u61, .int .i64 entry, .slice (some ⟨g2, 0, none⟩) 0 0, .slice xi ni ci, u65, u66, u67, u68, u69, u70, u71, u72, u73, u74, u75, u76, u77, u78, u79, u80, u81, u82, u83, u84, u85, u86], defers := [] } w := by
      intro u8 u55 u56 u61 u65 u66 x1 c1 g2 bm w hN o1 o2 mb mg d1m d2m d12 lx hlx
      subst hlx
      rw [← HG.out]
      have HN_ := Lib.hid hN
      have O1_ := Lib.hid o1
      have O2_ := Lib.hid o2
      have MB_ := Lib.hid mb
      have MG_ := Lib.hid mg
      have D1M_ := Lib.hid d1m
      have D2M_ := Lib.hid d2m
      have D12_ := Lib.hid d12
      have SZ_ := Lib.hid hN.size
      have ML_ := Lib.hid mb.lt
      have RL_ := Lib.hid (fun g (h : Value.ownBlock (.slice x1 nc c1) = some g) => (o1.lt g h).2)
      have TL_ := Lib.hid (fun g (h : Value.ownBlock (.slice (some ⟨g2, 0, none⟩) 0 0) = some g) => (o2.lt g h).2)
      clear hN o1 o2 mb mg d1m d2m d12
      refine wpAnyH_ready (rs := [10, 12]) (by kernel_rfl) (by simp) ?_
      refine AllReadyH.cons rfl (fun K hK => ?_) ?_
      · rw [if_pos (by rfl)]
        refine step_app_bytes (.tmp 63) (.tmp 64) rfl rfl w1.heap.size g2 rfl O2_.out xi ni ci li rfl (HBI.out w HN_.out) H8.out SZ_.out ?_
        intro x2 c2 w' ho hg hl
        have KX := Lib.hid (show Kp (fun x => x = g2) w w' from hg.elim (fun k => k.mono (fun _ _ x => x.elim)) (fun k => Kp.grown (S := fun x => x = g2) (Kp.refl _ w) k (fun k hk _ => by have h1 : some g2 = some k := hk; injection h1 with h1; exact h1.symm)))
        have NB := Lib.hid (show Nw w1 w' from Kp.trans HN_.out KX.out (fun x hx e => by have e : x = g2 := e; have := (O2_.out.lt g2 rfl).1; omega))
        have OX := Lib.hid ho
        have HX := Lib.hid (show ∀ g, (Value.slice x2 ni c2).ownBlock = some g → g = g2 ∨ g = w.heap.size from fun g hg => by rcases hl with e | e; exact .inl (by rw [e] at hg; injection hg with hg; exact hg.symm); exact .inr (by rw [e] at hg; injection hg with hg; exact hg.symm))
        clear ho hg hl
        refine hK.out _ _ (FC.out _ NB.out) (fun hHeld => ?_)
        clear hK K
        try simp only [Act.put, List.setIfInBounds_toArray, List.set_cons_zero, List.set_cons_succ]
        rw [HG.out]
        exact L2210.out _ _ _ _ _ _ _ _ _ _ _ _ NB.out (own_kp O1_.out KX.out (fun g hg e => by have e : g = g2 := e; exact D12_.out g g2 hg rfl e)) OX.out (MB_.out.kp KX.out (fun e => D2M_.out g2 rfl e.symm)) MG_.out D1M_.out (fun g hg e => by rcases HX.out g hg with h | h; exact D2M_.out g2 rfl (h ▸ e); have := ML_.out; omega) (fun g g' hg hg' e => by rcases HX.out g' hg' with h | h; exact D12_.out g g2 hg rfl (h ▸ e); have := RL_.out g hg; omega) _ (by kernel_rfl)
      refine AllReadyH.cons rfl (fun K hK => ?_) AllReadyH.nil
      rw [if_pos (by rfl)]
      have NX := Lib.hid (Nw.new w (.cells #[.slice none 0 0, .slice none 0 0, .int .i64 0, .int .i64 0, .int .i64 0, .int .i64 0, .int .i64 0, .int .i64 0, .int .i64 0, .int .i64 0, .int .i64 0, .int .i64 0, .int .i64 0, .int .i64 0, .int .i64 0, .int .i64 0, .int .i64 0, .int .i64 0, .int .i64 0, .slice none 0 0, .int .i64 0, .int .i64 0, .int .i64 0, .slice none 0 0, .int .i64 0] 51))
      have BX := Lib.hid (Blk.new w [.slice none 0 0, .slice none 0 0, .int .i64 0, .int .i64 0, .int .i64 0, .int .i64 0, .int .i64 0, .int .i64 0, .int .i64 0, .int .i64 0, .int .i64 0, .int .i64 0, .int .i64 0, .int .i64 0, .int .i64 0, .int .i64 0, .int .i64 0, .int .i64 0, .int .i64 0, .slice none 0 0, .int .i64 0, .int .i64 0, .int .i64 0, .slice none 0 0, .int .i64 0] 51)
      go_simp
      refine hK.out _ _ (FC.out _ (HN_.out.trans NX.out)) (fun hHeld => ?_)
      clear hK K
      try simp only [Act.put, List.setIfInBounds_toArray, List.set_cons_zero, List.set_cons_succ]
      rw [HG.out]
      exact L2111.out _ _ _ _ _ _ _ _ _ _ _ (HN_.out.trans NX.out) (own_kp O1_.out NX.out (fun _ _ x => x)) (own_kp O2_.out NX.out (fun _ _ x => x)) (MB_.out.nw NX.out) MG_.out BX.out SZ_.out D1M_.out (fun g hg e => by have := RL_.out g hg; omega) D2M_.out (fun g hg e => by have := TL_.out g hg; omega) (fun e => by have := ML_.out; omega) D12_.out _ (by kernel_rfl)
    have L2110 := Lib.hid key_
    clear key_
    have key_ : ∀ (u8 u55 u56 u60 u61 u63 u66 : Value) (x1 : Option Addr) (c1 : Nat) (x2 : Option Addr) (c2 : Nat) (w : World) (hN : Nw w1 w) (o1 : w.ownsRow w1.heap.size 2 1 (.slice x1 nc c1) nc lc) (o2 : w.ownsRow w1.heap.size 5 1 (.slice x2 ni c2) ni (byteV li)) (d12 : ∀ g g', (Value.ownBlock (.slice x1 nc c1)) = some g → (Value.ownBlock (.slice x2 ni c2)) = some g' → g ≠ g') (lx : Array Bool) (hlx : lx = #[true, true, true, true, true, false, true, true, true, true, true, false, false, false]), G 4 lx { tmps := #[u0, u1, u2, u3, u4, u5, u6, u7, u8, u9, u10, u11, u12, u13, u14, u15, u16, u17, u18, u19, u20, u21, u22, u23, u24, u25, u26, u27, u28, u29, u30, u31, u32, u33, u34, u35, u36, u37, u38, u39, u40, u41, u42, u43, u44, u45, u46, u47, u48, u49, u50, u51, u52, u53, u54, u55, u56, .slice (some adc) nc cc, .slice x1 nc c1, .int .i64 (mn : Int), u60, u61, .int .i64 entry, u63, .slice xi ni ci, .slice x2 ni c2, u66, u67, u68, u69, u70, u71, u72, u73, u74, u75, u76, u77, u78, u79, u80, u81, u82, u83, u84, u85, u86], defers := [] } w := by
      intro u8 u55 u56 u60 u61 u63 u66 x1 c1 x2 c2 w hN o1 o2 d12 lx hlx
      subst hlx
      rw [← HG.out]
      have HN_ := Lib.hid hN
      have O1_ := Lib.hid o1
      have O2_ := Lib.hid o2
      have D12_ := Lib.hid d12
      have SZ_ := Lib.hid hN.size
      have RL_ := Lib.hid (fun g (h : Value.ownBlock (.slice x1 nc c1) = some g) => (o1.lt g h).2)
      have TL_ := Lib.hid (fun g (h : Value.ownBlock (.slice x2 ni c2) = some g) => (o2.lt g h).2)
      clear hN o1 o2 d12
      refine wpAnyH_ready (rs := [5, 12]) (by kernel_rfl) (by simp) ?_
      refine AllReadyH.cons rfl (fun K hK => ?_) ?_
      · rw [if_pos (by rfl)]
        have NX := Lib.hid (Nw.new w (.cells Zr 2))
        have BX := Lib.hid (show Blk (w.alloc (.cells Zr 2)) w.heap.size Zl 2 by rw [← HZ.out]; exact Blk.new w Zl 2)
        go_simp
        refine hK.out _ _ (FC.out _ (HN_.out.trans NX.out)) (fun hHeld => ?_)
        clear hK K
        try simp only [Act.put, List.setIfInBounds_toArray, List.set_cons_zero, List.set_cons_succ]
        rw [HG.out]
        exact L2210.out _ _ _ _ _ _ _ _ _ _ _ _ (HN_.out.trans NX.out) (own_kp O1_.out NX.out (fun _ _ x => x)) (own_kp O2_.out NX.out (fun _ _ x => x)) BX.out (by first | exact SZ_.out | (rw [hbm]; exact SZ_.out)) (fun g hg e => by have := RL_.out g hg; omega) (fun g hg e => by have := TL_.out g hg; omega) D12_.out _ (by kernel_rfl)
      refine AllReadyH.cons rfl (fun K hK => ?_) AllReadyH.nil
      rw [if_pos (by rfl)]
      have NX := Lib.hid (Nw.new w (.cells #[.slice none 0 0, .slice none 0 0, .int .i64 0, .int .i64 0, .int .i64 0, .int .i64 0, .int .i64 0, .int .i64 0, .int .i64 0, .int .i64 0, .int .i64 0, .int .i64 0, .int .i64 0, .int .i64 0, .int .i64 0, .int .i64 0, .int .i64 0, .int .i64 0, .int .i64 0, .slice none 0 0, .int .i64 0, .int .i64 0, .int .i64 0, .slice none 0 0, .int .i64 0] 51))
      have BX := Lib.hid (Blk.new w [.slice none 0 0, .slice none 0 0, .int .i64 0, .int .i64 0, .int .i64 0, .int .i64 0, .int .i64 0, .int .i64 0, .int .i64 0, .int .i64 0, .int .i64 0, .int .i64 0, .int .i64 0, .int .i64 0, .int .i64 0, .int .i64 0, .int .i64 0, .int .i64 0, .int .i64 0, .slice none 0 0, .int .i64 0, .int .i64 0, .int .i64 0, .slice none 0 0, .int .i64 0] 51)
      go_simp
      refine hK.out _ _ (FC.out _ (HN_.out.trans NX.out)) (fun hHeld => ?_)
      clear hK K
      try simp only [Act.put, List.setIfInBounds_toArray, List.set_cons_zero, List.set_cons_succ]
      rw [HG.out]
      exact L2201.out _ _ _ _ _ _ _ _ _ _ _ _ (HN_.out.trans NX.out) (own_kp O1_.out NX.out (fun _ _ x => x)) (own_kp O2_.out NX.out (fun _ _ x => x)) BX.out SZ_.out (fun g hg e => by have := RL_.out g hg; omega) (fun g hg e => by have := TL_.out g hg; omega) D12_.out _ (by kernel_rfl)
    have L2200 := Lib.hid key_
    clear key_
    have key_ : ∀ (u55 u56 u58 u61 u65 u66 : Value) (g2 : Nat) (bm : Nat) (p : Nat) (w : World) (hN : Nw w1 w) (o2 : w.ownsRow w1.heap.size 5 1 (.slice (some ⟨g2, 0, none⟩) 0 0) 0 []) (mb : Blk w bm Zl 2) (mg : w1.heap.size ≤ bm) (db : Blk w p [.slice none 0 0, .slice none 0 0, .int .i64 0, .int .i64 0, .int .i64 0, .int .i64 0, .int .i64 0, .int .i64 0, .int .i64 0, .int .i64 0, .int .i64 0, .int .i64 0, .int .i64 0, .int .i64 0, .int .i64 0, .int .i64 0, .int .i64 0, .int .i64 0, .int .i64 0, .slice none 0 0, .int .i64 0, .int .i64 0, .int .i64 0, .slice none 0 0, .int .i64 0] 51) (dg : w1.heap.size ≤ p) (d2m : ∀ g, (Value.ownBlock (.slice (some ⟨g2, 0, none⟩) 0 0)) = some g → g ≠ bm) (d2p : ∀ g, (Value.ownBlock (.slice (some ⟨g2, 0, none⟩) 0 0)) = some g → g ≠ p) (dmp : bm ≠ p) (lx : Array Bool) (hlx : lx = #[false, true, true, false, true, true, true, true, true, true, false, false, true, false]), G 5 lx { tmps := #[u0, u1, u2, u3, u4, u5, u6, u7, .pointer (some ⟨p, 0, none⟩), u9, u10, u11, u12, u13, u14, u15, u16, u17, u18, u19, u20, u21, u22, u23, u24, u25, u26, u27, u28, u29, u30, u31, u32, u33, u34, u35, u36, u37, u38, u39, u40, u41, u42, u43, u44, u45, u46, u47, u48, u49, u50, u51, u52, u53, u54, u55, u56, .slice (some adc) nc cc, u58, .int .i64 (mn : Int), .slice (some ⟨bm, 0, none⟩) mn mn, u61, .int .i64 entry, .slice (some ⟨g2, 0, none⟩) 0 0, .slice xi ni ci, u65, u66, u67, u68, u69, u70, u71, u72, u73, u74, u75, u76, u77, u78, u79, u80, u81, u82, u83, u84, u85, u86], defers := [] } w := by
      intro u55 u56 u58 u61 u65 u66 g2 bm p w hN o2 mb mg db dg d2m d2p dmp lx hlx
      subst hlx
      rw [← HG.out]
      have HN_ := Lib.hid hN
      have O2_ := Lib.hid o2
      have MB_ := Lib.hid mb
      have MG_ := Lib.hid mg
      have DB_ := Lib.hid db
      have DG_ := Lib.hid dg
      have D2M_ := Lib.hid d2m
      have D2P_ := Lib.hid d2p
      have DMP_ := Lib.hid dmp
      have SZ_ := Lib.hid hN.size
      have ML_ := Lib.hid mb.lt
      have DL_ := Lib.hid db.lt
      have TL_ := Lib.hid (fun g (h : Value.ownBlock (.slice (some ⟨g2, 0, none⟩) 0 0) = some g) => (o2.lt g h).2)
      clear hN o2 mb mg db dg d2m d2p dmp
      refine wpAnyH_ready (rs := [0]) (by kernel_rfl) (by simp) ?_
      refine AllReadyH.cons rfl (fun K hK => ?_) AllReadyH.nil
      rw [if_pos (by rfl)]
      have NX := Lib.hid (Nw.new w (.cells #[] 2))
      have OX := Lib.hid (own_weaken (own_empty w 2) SZ_.out)
      go_simp
      refine hK.out _ _ (FC.out _ (HN_.out.trans NX.out)) (fun hHeld => ?_)
      clear hK K
      try simp only [Act.put, List.setIfInBounds_toArray, List.set_cons_zero, List.set_cons_succ]
      rw [HG.out]
      exact L1111.out _ _ _ _ _ _ _ _ _ _ (HN_.out.trans NX.out) OX.out (own_kp O2_.out NX.out (fun _ _ x => x)) (MB_.out.nw NX.out) MG_.out (DB_.out.nw NX.out) DG_.out (fun g hg e => by have h1 : some w.heap.size = some g := hg; injection h1 with h1; have := ML_.out; omega) (fun g hg e => by have h1 : some w.heap.size = some g := hg; injection h1 with h1; have := DL_.out; omega) D2M_.out D2P_.out DMP_.out (fun g g' hg hg' e => by have h1 : some w.heap.size = some g := hg; injection h1 with h1; have := TL_.out g' hg'; omega) _ (by kernel_rfl)
    have L0111 := Lib.hid key_
    clear key_
    have key_ : ∀ (u56 u58 u61 u63 u65 u66 : Value) (g1 : Nat) (bm : Nat) (p : Nat) (w : World) (hN : Nw w1 w) (o1 : w.ownsRow w1.heap.size 2 1 (.slice (some ⟨g1, 0, none⟩) 0 0) 0 []) (mb : Blk w bm Zl 2) (mg : w1.heap.size ≤ bm) (db : Blk w p [.slice none 0 0, .slice none 0 0, .int .i64 0, .int .i64 0, .int .i64 0, .int .i64 0, .int .i64 0, .int .i64 0, .int .i64 0, .int .i64 0, .int .i64 0, .int .i64 0, .int .i64 0, .int .i64 0, .int .i64 0, .int .i64 0, .int .i64 0, .int .i64 0, .int .i64 0, .slice none 0 0, .int .i64 0, .int .i64 0, .int .i64 0, .slice none 0 0, .int .i64 0] 51) (dg : w1.heap.size ≤ p) (d1m : ∀ g, (Value.ownBlock (.slice (some ⟨g1, 0, none⟩) 0 0)) = some g → g ≠ bm) (d1p : ∀ g, (Value.ownBlock (.slice (some ⟨g1, 0, none⟩) 0 0)) = some g → g ≠ p) (dmp : bm ≠ p) (lx : Array Bool) (hlx : lx = #[true, true, true, false, true, true, true, true, false, true, false, false, true, false]), G 5 lx { tmps := #[u0, u1, u2, u3, u4, u5, u6, u7, .pointer (some ⟨p, 0, none⟩), u9, u10, u11, u12, u13, u14, u15, u16, u17, u18, u19, u20, u21, u22, u23, u24, u25, u26, u27, u28, u29, u30, u31, u32, u33, u34, u35, u36, u37, u38, u39, u40, u41, u42, u43, u44, u45, u46, u47, u48, u49, u50, u51, u52, u53, u54, .slice (some ⟨g1, 0, none⟩) 0 0, u56, .slice (some adc) nc cc, u58, .int .i64 (mn : Int), .slice (some ⟨bm, 0, none⟩) mn mn, u61, .int .i64 entry, u63, .slice xi ni ci, u65, u66, u67, u68, u69, u70, u71, u72, u73, u74, u75, u76, u77, u78, u79, u80, u81, u82, u83, u84, u85, u86], defers := [] } w := by
      intro u56 u58 u61 u63 u65 u66 g1 bm p w hN o1 mb mg db dg d1m d1p dmp lx hlx
      subst hlx
      rw [← HG.out]
      have HN_ := Lib.hid hN
      have O1_ := Lib.hid o1
      have MB_ := Lib.hid mb
      have MG_ := Lib.hid mg
      have DB_ := Lib.hid db
      have DG_ := Lib.hid dg
      have D1M_ := Lib.hid d1m
      have D1P_ := Lib.hid d1p
      have DMP_ := Lib.hid dmp
      have SZ_ := Lib.hid hN.size
      have ML_ := Lib.hid mb.lt
      have DL_ := Lib.hid db.lt
      have RL_ := Lib.hid (fun g (h : Value.ownBlock (.slice (some ⟨g1, 0, none⟩) 0 0) = some g) => (o1.lt g h).2)
      clear hN o1 mb mg db dg d1m d1p dmp
      refine wpAnyH_ready (rs := [3, 8]) (by kernel_rfl) (by simp) ?_
      refine AllReadyH.cons rfl (fun K hK => ?_) ?_
      · rw [if_pos (by rfl)]
        refine step_app (.tmp 55) (.tmp 57) 22 rfl w1.heap.size 2 it (.int .i64 0) 1 8 Try.underlying22 HI0.out HZ0.out HZ1.out HZ2.out rfl (by decide) _ 0 [] rfl O1_.out adc nc cc lc rfl HLC1.out (HCC.out w HN_.out) HONE.out H63.out HBY.out SZ_.out ?_
        intro x1 c1 w' ho hg hl
        rw [Nat.zero_add] at ho hl
        rw [List.nil_append] at ho
        have HG := Lib.hid hg
        have KX := Lib.hid (show Kp (fun x => x = g1) w w' from Kp.grown (S := fun x => x = g1) (Kp.refl _ w) hg (fun k hk _ => by have h1 : some g1 = some k := hk; injection h1 with h1; exact h1.symm))
        have NB := Lib.hid (show Nw w1 w' from Kp.trans HN_.out KX.out (fun x hx e => by have e : x = g1 := e; have := (O1_.out.lt g1 rfl).1; omega))
        have OX := Lib.hid ho
        have HX := Lib.hid (show ∀ g, (Value.slice x1 nc c1).ownBlock = some g → g = g1 ∨ g = w.heap.size from fun g hg => by rcases hl with e | e; exact .inl (by rw [e] at hg; injection hg with hg; exact hg.symm); exact .inr (by rw [e] at hg; injection hg with hg; exact hg.symm))
        clear ho hg hl HG
        simp only [Nat.zero_add]
        refine hK.out _ _ (FC.out _ NB.out) (fun hHeld => ?_)
        clear hK K
        try simp only [Act.put, List.setIfInBounds_toArray, List.set_cons_zero, List.set_cons_succ]
        rw [HG.out]
        exact L2011.out _ _ _ _ _ _ _ _ _ _ _ NB.out OX.out (MB_.out.kp KX.out (fun e => D1M_.out g1 rfl e.symm)) MG_.out (DB_.out.kp KX.out (fun e => D1P_.out g1 rfl e.symm)) DG_.out (fun g hg e => by rcases HX.out g hg with h | h; exact D1M_.out g1 rfl (h ▸ e); have := ML_.out; omega) (fun g hg e => by rcases HX.out g hg with h | h; exact D1P_.out g1 rfl (h ▸ e); have := DL_.out; omega) DMP_.out _ (by kernel_rfl)
      refine AllReadyH.cons rfl (fun K hK => ?_) AllReadyH.nil
      rw [if_pos (by rfl)]
      have NX := Lib.hid (Nw.new w (.cells #[] 5))
      have OX := Lib.hid (own_weaken (own_empty w 5) SZ_.out)
      go_simp
      refine hK.out _ _ (FC.out _ (HN_.out.trans NX.out)) (fun hHeld => ?_)
      clear hK K
      try simp only [Act.put, List.setIfInBounds_toArray, List.set_cons_zero, List.set_cons_succ]
      rw [HG.out]
      exact L1111.out _ _ _ _ _ _ _ _ _ _ (HN_.out.trans NX.out) (own_kp O1_.out NX.out (fun _ _ x => x)) OX.out (MB_.out.nw NX.out) MG_.out (DB_.out.nw NX.out) DG_.out D1M_.out D1P_.out (fun g hg e => by have h1 : some w.heap.size = some g := hg; injection h1 with h1; have := ML_.out; omega) (fun g hg e => by have h1 : some w.heap.size = some g := hg; injection h1 with h1; have := DL_.out; omega) DMP_.out (fun g g' hg hg' e => by have h1 : some w.heap.size = some g' := hg'; injection h1 with h1; have := RL_.out g hg; omega) _ (by kernel_rfl)
    have L1011 := Lib.hid key_
    clear key_
    have key_ : ∀ (u56 u58 u60 u61 u65 u66 : Value) (g1 : Nat) (g2 : Nat) (p : Nat) (w : World) (hN : Nw w1 w) (o1 : w.ownsRow w1.heap.size 2 1 (.slice (some ⟨g1, 0, none⟩) 0 0) 0 []) (o2 : w.ownsRow w1.heap.size 5 1 (.slice (some ⟨g2, 0, none⟩) 0 0) 0 []) (db : Blk w p [.slice none 0 0, .slice none 0 0, .int .i64 0, .int .i64 0, .int .i64 0, .int .i64 0, .int .i64 0, .int .i64 0, .int .i64 0, .int .i64 0, .int .i64 0, .int .i64 0, .int .i64 0, .int .i64 0, .int .i64 0, .int .i64 0, .int .i64 0, .int .i64 0, .int .i64 0, .slice none 0 0, .int .i64 0, .int .i64 0, .int .i64 0, .slice none 0 0, .int .i64 0] 51) (dg : w1.heap.size ≤ p) (d1p : ∀ g, (Value.ownBlock (.slice (some ⟨g1, 0, none⟩) 0 0)) = some g → g ≠ p) (d2p : ∀ g, (Value.ownBlock (.slice (some ⟨g2, 0, none⟩) 0 0)) = some g → g ≠ p) (d12 : ∀ g g', (Value.ownBlock (.slice (some ⟨g1, 0, none⟩) 0 0)) = some g → (Value.ownBlock (.slice (some ⟨g2, 0, none⟩) 0 0)) = some g' → g ≠ g') (lx : Array Bool) (hlx : lx = #[true, true, true, false, true, false, true, true, true, true, false, false, true, false]), G 5 lx { tmps := #[u0, u1, u2, u3, u4, u5, u6, u7, .pointer (some ⟨p, 0, none⟩), u9, u10, u11, u12, u13, u14, u15, u16, u17, u18, u19, u20, u21, u22, u23, u24, u25, u26, u27, u28, u29, u30, u31, u32, u33, u34, u35, u36, u37, u38, u39, u40, u41, u42, u43, u44, u45, u46, u47, u48, u49, u50, u51, u52, u53, u54, .slice (some ⟨g1, 0, none⟩) 0 0, u56, .slice (some adc) nc cc, u58, .int .i64 (mn : Int), u60, u61, .int .i64 entry, .slice (some ⟨g2, 0, none⟩) 0 0, .slice xi ni ci, u65, u66, u67, u68, u69, u70, u71, u72, u73, u74, u75, u76, u77, u78, u79, u80, u81, u82, u83, u84, u85, u86], defers := [] } w := by
      intro u56 u58 u60 u61 u65 u66 g1 g2 p w hN o1 o2 db dg d1p d2p d12 lx hlx
      subst hlx
      rw [← HG.out]
      have HN_ := Lib.hid hN
      have O1_ := Lib.hid o1
      have O2_ := Lib.hid o2
      have DB_ := Lib.hid db
      have DG_ := Lib.hid dg
      have D1P_ := Lib.hid d1p
      have D2P_ := Lib.hid d2p
      have D12_ := Lib.hid d12
      have SZ_ := Lib.hid hN.size
      have DL_ := Lib.hid db.lt
      have RL_ := Lib.hid (fun g (h : Value.ownBlock (.slice (some ⟨g1, 0, none⟩) 0 0) = some g) => (o1.lt g h).2)
      have TL_ := Lib.hid (fun g (h : Value.ownBlock (.slice (some ⟨g2, 0, none⟩) 0 0) = some g) => (o2.lt g h).2)
      clear hN o1 o2 db dg d1p d2p d12
      refine wpAnyH_ready (rs := [3, 5]) (by kernel_rfl) (by simp) ?_
      refine AllReadyH.cons rfl (fun K hK => ?_) ?_
      · rw [if_pos (by rfl)]
        refine step_app (.tmp 55) (.tmp 57) 22 rfl w1.heap.size 2 it (.int .i64 0) 1 8 Try.underlying22 HI0.out HZ0.out HZ1.out HZ2.out rfl (by decide) _ 0 [] rfl O1_.out adc nc cc lc rfl HLC1.out (HCC.out w HN_.out) HONE.out H63.out HBY.out SZ_.out ?_
        intro x1 c1 w' ho hg hl
        rw [Nat.zero_add] at ho hl
        rw [List.nil_append] at ho
        have HG := Lib.hid hg
        have KX := Lib.hid (show Kp (fun x => x = g1) w w' from Kp.grown (S := fun x => x = g1) (Kp.refl _ w) hg (fun k hk _ => by have h1 : some g1 = some k := hk; injection h1 with h1; exact h1.symm))
        have NB := Lib.hid (show Nw w1 w' from Kp.trans HN_.out KX.out (fun x hx e => by have e : x = g1 := e; have := (O1_.out.lt g1 rfl).1; omega))
        have OX := Lib.hid ho
        have HX := Lib.hid (show ∀ g, (Value.slice x1 nc c1).ownBlock = some g → g = g1 ∨ g = w.heap.size from fun g hg => by rcases hl with e | e; exact .inl (by rw [e] at hg; injection hg with hg; exact hg.symm); exact .inr (by rw [e] at hg; injection hg with hg; exact hg.symm))
        clear ho hg hl HG
        simp only [Nat.zero_add]
        refine hK.out _ _ (FC.out _ NB.out) (fun hHeld => ?_)
        clear hK K
        try simp only [Act.put, List.setIfInBounds_toArray, List.set_cons_zero, List.set_cons_succ]
        rw [HG.out]
        exact L2101.out _ _ _ _ _ _ _ _ _ _ _ NB.out OX.out (own_kp O2_.out KX.out (fun g hg e => by have e : g = g1 := e; exact D12_.out g1 g rfl hg e.symm)) (DB_.out.kp KX.out (fun e => D1P_.out g1 rfl e.symm)) DG_.out (fun g hg e => by rcases HX.out g hg with h | h; exact D1P_.out g1 rfl (h ▸ e); have := DL_.out; omega) D2P_.out (fun g g' hg hg' e => by rcases HX.out g hg with h | h; exact D12_.out g1 g' rfl hg' (h ▸ e); have := TL_.out g' hg'; omega) _ (by kernel_rfl)
      refine AllReadyH.cons rfl (fun K hK => ?_) AllReadyH.nil
      rw [if_pos (by rfl)]
      have NX := Lib.hid (Nw.new w (.cells Zr 2))
      have BX := Lib.hid (show Blk (w.alloc (.cells Zr 2)) w.heap.size Zl 2 by rw [← HZ.out]; exact Blk.new w Zl 2)
      go_simp
      refine hK.out _ _ (FC.out _ (HN_.out.trans NX.out)) (fun hHeld => ?_)
      clear hK K
      try simp only [Act.put, List.setIfInBounds_toArray, List.set_cons_zero, List.set_cons_succ]
      rw [HG.out]
      exact L1111.out _ _ _ _ _ _ _ _ _ _ (HN_.out.trans NX.out) (own_kp O1_.out NX.out (fun _ _ x => x)) (own_kp O2_.out NX.out (fun _ _ x => x)) BX.out (by first | exact SZ_.out | (rw [hbm]; exact SZ_.out)) (DB_.out.nw NX.out) DG_.out (fun g hg e => by have := RL_.out g hg; omega) D1P_.out (fun g hg e => by have := TL_.out g hg; omega) D2P_.out (fun e => by have := DL_.out; omega) D12_.out _ (by kernel_rfl)
    have L1101 := Lib.hid key_
    clear key_
    have key_ : ∀ (u8 u56 u58 u61 u65 u66 : Value) (g1 : Nat) (g2 : Nat) (bm : Nat) (w : World) (hN : Nw w1 w) (o1 : w.ownsRow w1.heap.size 2 1 (.slice (some ⟨g1, 0, none⟩) 0 0) 0 []) (o2 : w.ownsRow w1.heap.size 5 1 (.slice (some ⟨g2, 0, none⟩) 0 0) 0 []) (mb : Blk w bm Zl 2) (mg : w1.heap.size ≤ bm) (d1m : ∀ g, (Value.ownBlock (.slice (some ⟨g1, 0, none⟩) 0 0)) = some g → g ≠ bm) (d2m : ∀ g, (Value.ownBlock (.slice (some ⟨g2, 0, none⟩) 0 0)) = some g → g ≠ bm) (d12 : ∀ g g', (Value.ownBlock (.slice (some ⟨g1, 0, none⟩) 0 0)) = some g → (Value.ownBlock (.slice (some ⟨g2, 0, none⟩) 0 0)) = some g' → g ≠ g') (lx : Array Bool) (hlx : lx = #[true, true, true, false, true, true, true, true, true, true, false, false, false, false]), G 5 lx { tmps := #[u0, u1, u2, u3, u4, u5, u6, u7, u8, u9, u10, u11, u12, u13, u14, u15, u16, u17, u18, u19, u20, u21, u22, u23, u24, u25, u26, u27, u28, u29, u30, u31, u32, u33, u34, u35, u36, u37, u38, u39, u40, u41, u42, u43, u44, u45, u46, u47, u48, u49, u50, u51, u52, u53, u54, .slice (some ⟨g1, 0, none⟩) 0 0, u56, .slice (some adc) nc cc, u58, .int .i64 (mn : Int), .slice (some ⟨bm, 0, none⟩) mn mn, u61, .int .i64 entry, .slice (some ⟨g2, 0, none⟩) 0 0, .slice xi ni ci, u65, u66, u67, u68, u69, u70, u71, u72, u73, u74, u75, u76, u77, u78, u79, u80, u81, u82, u83, u84, u85, u86], defers := [] } w := by
      intro u8 u56 u58 u61 u65 u66 g1 g2 bm w hN o1 o2 mb mg d1m d2m d12 lx hlx
      subst hlx
      rw [← HG.out]
      have HN_ := Lib.hid hN
      have O1_ := Lib.hid o1
      have O2_ := Lib.hid o2
      have MB_ := Lib.hid mb
      have MG_ := Lib.hid mg
      have D1M_ := Lib.hid d1m
      have D2M_ := Lib.hid d2m
      have D12_ := Lib.hid d12
      have SZ_ := Lib.hid hN.size
      have ML_ := Lib.hid mb.lt
      have RL_ := Lib.hid (fun g (h : Value.ownBlock (.slice (some ⟨g1, 0, none⟩) 0 0) = some g) => (o1.lt g h).2)
      have TL_ := Lib.hid (fun g (h : Value.ownBlock (.slice (some ⟨g2, 0, none⟩) 0 0) = some g) => (o2.lt g h).2)
      clear hN o1 o2 mb mg d1m d2m d12
      refine wpAnyH_ready (rs := [3, 12]) (by kernel_rfl) (by simp) ?_
      refine AllReadyH.cons rfl (fun K hK => ?_) ?_
      · rw [if_pos (by rfl)]
        refine step_app (.tmp 55) (.tmp 57) 22 rfl w1.heap.size 2 it (.int .i64 0) 1 8 Try.underlying22 HI0.out HZ0.out HZ1.out HZ2.out rfl (by decide) _ 0 [] rfl O1_.out adc nc cc lc rfl HLC1.out (HCC.out w HN_.out) HONE.out H63.out HBY.out SZ_.out ?_
        intro x1 c1 w' ho hg hl
        rw [Nat.zero_add] at ho hl
        rw [List.nil_append] at ho
        have HG := Lib.hid hg
        have KX := Lib.hid (show Kp (fun x => x = g1) w w' from Kp.grown (S := fun x => x = g1) (Kp.refl _ w) hg (fun k hk _ => by have h1 : some g1 = some k := hk; injection h1 with h1; exact h1.symm))
        have NB := Lib.hid (show Nw w1 w' from Kp.trans HN_.out KX.out (fun x hx e => by have e : x = g1 := e; have := (O1_.out.lt g1 rfl).1; omega))
        have OX := Lib.hid ho
        have HX := Lib.hid (show ∀ g, (Value.slice x1 nc c1).ownBlock = some g → g = g1 ∨ g = w.heap.size from fun g hg => by rcases hl with e | e; exact .inl (by rw [e] at hg; injection hg with hg; exact hg.symm); exact .inr (by rw [e] at hg; injection hg with hg; exact hg.symm))
        clear ho hg hl HG
        simp only [Nat.zero_add]
        refine hK.out _ _ (FC.out _ NB.out) (fun hHeld => ?_)
        clear hK K
        try simp only [Act.put, List.setIfInBounds_toArray, List.set_cons_zero, List.set_cons_succ]
        rw [HG.out]
        exact L2110.out _ _ _ _ _ _ _ _ _ _ _ NB.out OX.out (own_kp O2_.out KX.out (fun g hg e => by have e : g = g1 := e; exact D12_.out g1 g rfl hg e.symm)) (MB_.out.kp KX.out (fun e => D1M_.out g1 rfl e.symm)) MG_.out (fun g hg e => by rcases HX.out g hg with h | h; exact D1M_.out g1 rfl (h ▸ e); have := ML_.out; omega) D2M_.out (fun g g' hg hg' e => by rcases HX.out g hg with h | h; exact D12_.out g1 g' rfl hg' (h ▸ e); have := TL_.out g' hg'; omega) _ (by kernel_rfl)
      refine AllReadyH.cons rfl (fun K hK => ?_) AllReadyH.nil
      rw [if_pos (by rfl)]
      have NX := Lib.hid (Nw.new w (.cells #[.slice none 0 0, .slice none 0 0, .int .i64 0, .int .i64 0, .int .i64 0, .int .i64 0, .int .i64 0, .int .i64 0, .int .i64 0, .int .i64 0, .int .i64 0, .int .i64 0, .int .i64 0, .int .i64 0, .int .i64 0, .int .i64 0, .int .i64 0, .int .i64 0, .int .i64 0, .slice none 0 0, .int .i64 0, .int .i64 0, .int .i64 0, .slice none 0 0, .int .i64 0] 51))
      have BX := Lib.hid (Blk.new w [.slice none 0 0, .slice none 0 0, .int .i64 0, .int .i64 0, .int .i64 0, .int .i64 0, .int .i64 0, .int .i64 0, .int .i64 0, .int .i64 0, .int .i64 0, .int .i64 0, .int .i64 0, .int .i64 0, .int .i64 0, .int .i64 0, .int .i64 0, .int .i64 0, .int .i64 0, .slice none 0 0, .int .i64 0, .int .i64 0, .int .i64 0, .slice none 0 0, .int .i64 0] 51)
      go_simp
      refine hK.out _ _ (FC.out _ (HN_.out.trans NX.out)) (fun hHeld => ?_)
      clear hK K
      try simp only [Act.put, List.setIfInBounds_toArray, List.set_cons_zero, List.set_cons_succ]
      rw [HG.out]
      exact L1111.out _ _ _ _ _ _ _ _ _ _ (HN_.out.trans NX.out) (own_kp O1_.out NX.out (fun _ _ x => x)) (own_kp O2_.out NX.out (fun _ _ x => x)) (MB_.out.nw NX.out) MG_.out BX.out SZ_.out D1M_.out (fun g hg e => by have := RL_.out g hg; omega) D2M_.out (fun g hg e => by have := TL_.out g hg; omega) (fun e => by have := ML_.out; omega) D12_.out _ (by kernel_rfl)
    have L1110 := Lib.hid key_
    clear key_
    have key_ : ∀ (u55 u56 u60 u61 u63 u65 u66 : Value) (x1 : Option Addr) (c1 : Nat) (p : Nat) (w : World) (hN : Nw w1 w) (o1 : w.ownsRow w1.heap.size 2 1 (.slice x1 nc c1) nc lc) (db : Blk w p [.slice none 0 0, .slice none 0 0, .int .i64 0, .int .i64 0, .int .i64 0, .int .i64 0, .int .i64 0, .int .i64 0, .int .i64 0, .int .i64 0, .int .i64 0, .int .i64 0, .int .i64 0, .int .i64 0, .int .i64 0, .int .i64 0, .int .i64 0, .int .i64 0, .int .i64 0, .slice none 0 0, .int .i64 0, .int .i64 0, .int .i64 0, .slice none 0 0, .int .i64 0] 51) (dg : w1.heap.size ≤ p) (d1p : ∀ g, (Value.ownBlock (.slice x1 nc c1)) = some g → g ≠ p) (lx : Array Bool) (hlx : lx = #[true, true, true, true, true, false, true, true, false, true, false, false, true, false]), G 5 lx { tmps := #[u0, u1, u2, u3, u4, u5, u6, u7, .pointer (some ⟨p, 0, none⟩), u9, u10, u11, u12, u13, u14, u15, u16, u17, u18, u19, u20, u21, u22, u23, u24, u25, u26, u27, u28, u29, u30, u31, u32, u33, u34, u35, u36, u37, u38, u39, u40, u41, u42, u43, u44, u45, u46, u47, u48, u49, u50, u51, u52, u53, u54, u55, u56, .slice (some adc) nc cc, .slice x1 nc c1, .int .i64 (mn : Int), u60, u61, .int .i64 entry, u63, .slice xi ni ci, u65, u66, u67, u68, u69, u70, u71, u72, u73, u74, u75, u76, u77, u78, u79, u80, u81, u82, u83, u84, u85, u86], defers := [] } w := by
      intro u55 u56 u60 u61 u63 u65 u66 x1 c1 p w hN o1 db dg d1p lx hlx
      subst hlx
      rw [← HG.out]
      have HN_ := Lib.hid hN
      have O1_ := Lib.hid o1
      have DB_ := Lib.hid db
      have DG_ := Lib.hid dg
      have D1P_ := Lib.hid d1p
      have SZ_ := Lib.hid hN.size
      have DL_ := Lib.hid db.lt
      have RL_ := Lib.hid (fun g (h : Value.ownBlock (.slice x1 nc c1) = some g) => (o1.lt g h).2)
      clear hN o1 db dg d1p
      refine wpAnyH_ready (rs := [5, 8]) (by kernel_rfl) (by simp) ?_
      refine AllReadyH.cons rfl (fun K hK => ?_) ?_
      · rw [if_pos (by rfl)]
        have NX := Lib.hid (Nw.new w (.cells Zr 2))
        have BX := Lib.hid (show Blk (w.alloc (.cells Zr 2)) w.heap.size Zl 2 by rw [← HZ.out]; exact Blk.new w Zl 2)
        go_simp
        refine hK.out _ _ (FC.out _ (HN_.out.trans NX.out)) (fun hHeld => ?_)
        clear hK K
        try simp only [Act.put, List.setIfInBounds_toArray, List.set_cons_zero, List.set_cons_succ]
        rw [HG.out]
        exact L2011.out _ _ _ _ _ _ _ _ _ _ _ (HN_.out.trans NX.out) (own_kp O1_.out NX.out (fun _ _ x => x)) BX.out (by first | exact SZ_.out | (rw [hbm]; exact SZ_.out)) (DB_.out.nw NX.out) DG_.out (fun g hg e => by have := RL_.out g hg; omega) D1P_.out (fun e => by have := DL_.out; omega) _ (by kernel_rfl)
      refine AllReadyH.cons rfl (fun K hK => ?_) AllReadyH.nil
      rw [if_pos (by rfl)]
      have NX := Lib.hid (Nw.new w (.cells #[] 5))
      have OX := Lib.hid (own_weaken (own_empty w 5) SZ_.out)
      go_simp
      refine hK.out _ _ (FC.out _ (HN_.out.trans NX.out)) (fun hHeld => ?_)
      clear hK K
      try simp only [Act.put, List.setIfInBounds_toArray, List.set_cons_zero, List.set_cons_succ]
      rw [HG.out]
      exact L2101.out _ _ _ _ _ _ _ _ _ _ _ (HN_.out.trans NX.out) (own_kp O1_.out NX.out (fun _ _ x => x)) OX.out (DB_.out.nw NX.out) DG_.out D1P_.out (fun g hg e => by have h1 : some w.heap.size = some g := hg; injection h1 with h1; have := DL_.out; omega) (fun g g' hg hg' e => by have h1 : some w.heap.size = some g' := hg'; injection h1 with h1; have := RL_.out g hg; omega) _ (by kernel_rfl)
    have L2001 := Lib.hid key_
    clear key_
    have key_ : ∀ (u8 u55 u56 u61 u63 u65 u66 : Value) (x1 : Option Addr) (c1 : Nat) (bm : Nat) (w : World) (hN : Nw w1 w) (o1 : w.ownsRow w1.heap.size 2 1 (.slice x1 nc c1) nc lc) (mb : Blk w bm Zl 2) (mg : w1.heap.size ≤ bm) (d1m : ∀ g, (Value.ownBlock (.slice x1 nc c1)) = some g → g ≠ bm) (lx : Array Bool) (hlx : lx = #[true, true, true, true, true, true, true, true, false, true, false, false, false, false]), G 5 lx { tmps := #[u0, u1, u2, u3, u4, u5, u6, u7, u8, u9, u10, u11, u12, u13, u14, u15, u16, u17, u18, u19, u20, u21, u22, u23, u24, u25, u26, u27, u28, u29, u30, u31, u32, u33, u34, u35, u36, u37, u38, u39, u40, u41, u42, u43, u44, u45, u46, u47, u48, u49, u50, u51, u52, u53, u54, u55, u56, .slice (some adc) nc cc, .slice x1 nc c1, .int .i64 (mn : Int), .slice (some ⟨bm, 0, none⟩) mn mn, u61, .int .i64 entry, u63, .slice xi ni ci, u65, u66, u67, u68, u69, u70, u71, u72, u73, u74, u75, u76, u77, u78, u79, u80, u81, u82, u83, u84, u85, u86], defers := [] } w := by
      intro u8 u55 u56 u61 u63 u65 u66 x1 c1 bm w hN o1 mb mg d1m lx hlx
      subst hlx
      rw [← HG.out]
      have HN_ := Lib.hid hN
      have O1_ := Lib.hid o1
      have MB_ := Lib.hid mb
      have MG_ := Lib.hid mg
      have D1M_ := Lib.hid d1m
      have SZ_ := Lib.hid hN.size
      have ML_ := Lib.hid mb.lt
      have RL_ := Lib.hid (fun g (h : Value.ownBlock (.slice x1 nc c1) = some g) => (o1.lt g h).2)
      clear hN o1 mb mg d1m
      refine wpAnyH_ready (rs := [8, 12]) (by kernel_rfl) (by simp) ?_
      refine AllReadyH.cons rfl (fun K hK => ?_) ?_
      · rw [if_pos (by rfl)]
        have NX := Lib.hid (Nw.new w (.cells #[] 5))
        have OX := Lib.hid (own_weaken (own_empty w 5) SZ_.out)
        go_simp
        refine hK.out _ _ (FC.out _ (HN_.out.trans NX.out)) (fun hHeld => ?_)
        clear hK K
        try simp only [Act.put, List.setIfInBounds_toArray, List.set_cons_zero, List.set_cons_succ]
        rw [HG.out]
        exact L2110.out _ _ _ _ _ _ _ _ _ _ _ (HN_.out.trans NX.out) (own_kp O1_.out NX.out (fun _ _ x => x)) OX.out (MB_.out.nw NX.out) MG_.out D1M_.out (fun g hg e => by have h1 : some w.heap.size = some g := hg; injection h1 with h1; have := ML_.out; omega) (fun g g' hg hg' e => by have h1 : some w.heap.size = some g' := hg'; injection h1 with h1; have := RL_.out g hg; omega) _ (by kernel_rfl)
      refine AllReadyH.cons rfl (fun K hK => ?_) AllReadyH.nil
      rw [if_pos (by rfl)]
      have NX := Lib.hid (Nw.new w (.cells #[.slice none 0 0, .slice none 0 0, .int .i64 0, .int .i64 0, .int .i64 0, .int .i64 0, .int .i64 0, .int .i64 0, .int .i64 0, .int .i64 0, .int .i64 0, .int .i64 0, .int .i64 0, .int .i64 0, .int .i64 0, .int .i64 0, .int .i64 0, .int .i64 0, .int .i64 0, .slice none 0 0, .int .i64 0, .int .i64 0, .int .i64 0, .slice none 0 0, .int .i64 0] 51))
      have BX := Lib.hid (Blk.new w [.slice none 0 0, .slice none 0 0, .int .i64 0, .int .i64 0, .int .i64 0, .int .i64 0, .int .i64 0, .int .i64 0, .int .i64 0, .int .i64 0, .int .i64 0, .int .i64 0, .int .i64 0, .int .i64 0, .int .i64 0, .int .i64 0, .int .i64 0, .int .i64 0, .int .i64 0, .slice none 0 0, .int .i64 0, .int .i64 0, .int .i64 0, .slice none 0 0, .int .i64 0] 51)
      go_simp
      refine hK.out _ _ (FC.out _ (HN_.out.trans NX.out)) (fun hHeld => ?_)
      clear hK K
      try simp only [Act.put, List.setIfInBounds_toArray, List.set_cons_zero, List.set_cons_succ]
      rw [HG.out]
      exact L2011.out _ _ _ _ _ _ _ _ _ _ _ (HN_.out.trans NX.out) (own_kp O1_.out NX.out (fun _ _ x => x)) (MB_.out.nw NX.out) MG_.out BX.out SZ_.out D1M_.out (fun g hg e => by have := RL_.out g hg; omega) (fun e => by have := ML_.out; omega) _ (by kernel_rfl)
    have L2010 := Lib.hid key_
    clear key_
    have key_ : ∀ (u8 u55 u56 u60 u61 u65 u66 : Value) (x1 : Option Addr) (c1 : Nat) (g2 : Nat) (w : World) (hN : Nw w1 w) (o1 : w.ownsRow w1.heap.size 2 1 (.slice x1 nc c1) nc lc) (o2 : w.ownsRow w1.heap.size 5 1 (.slice (some ⟨g2, 0, none⟩) 0 0) 0 []) (d12 : ∀ g g', (Value.ownBlock (.slice x1 nc c1)) = some g → (Value.ownBlock (.slice (some ⟨g2, 0, none⟩) 0 0)) = some g' → g ≠ g') (lx : Array Bool) (hlx : lx = #[true, true, true, true, true, false, true, true, true, true, false, false, false, false]), G 5 lx { tmps := #[u0, u1, u2, u3, u4, u5, u6, u7, u8, u9, u10, u11, u12, u13, u14, u15, u16, u17, u18, u19, u20, u21, u22, u23, u24, u25, u26, u27, u28, u29, u30, u31, u32, u33, u34, u35, u36, u37, u38, u39, u40, u41, u42, u43, u44, u45, u46, u47, u48, u49, u50, u51, u52, u53, u54, u55, u56, .slice (some adc) nc cc, .slice x1 nc c1, .int .i64 (mn : Int), u60, u61, .int .i64 entry, .slice (some ⟨g2, 0, none⟩) 0 0, .slice xi ni ci, u65, u66, u67, u68, u69, u70, u71, u72, u73, u74, u75, u76, u77, u78, u79, u80, u81, u82, u83, u84, u85, u86], defers := [] } w := by
      intro u8 u55 u56 u60 u61 u65 u66 x1 c1 g2 w hN o1 o2 d12 lx hlx
      subst hlx
      rw [← HG.out]
      have HN_ := Lib.hid hN
      have O1_ := Lib.hid o1
      have O2_ := Lib.hid o2
      have D12_ := Lib.hid d12
      have SZ_ := Lib.hid hN.size
      have RL_ := Lib.hid (fun g (h : Value.ownBlock (.slice x1 nc c1) = some g) => (o1.lt g h).2)
      have TL_ := Lib.hid (fun g (h : Value.ownBlock (.slice (some ⟨g2, 0, none⟩) 0 0) = some g) => (o2.lt g h).2)
      clear hN o1 o2 d12
      refine wpAnyH_ready (rs := [5, 10, 12]) (by kernel_rfl) (by simp) ?_
      refine AllReadyH.cons rfl (fun K hK => ?_) ?_
      · rw [if_pos (by rfl)]
        have NX := Lib.hid (Nw.new w (.cells Zr 2))
        have BX := Lib.hid (show Blk (w.alloc (.cells Zr 2)) w.heap.size Zl 2 by rw [← HZ.out]; exact Blk.new w Zl 2)
        go_simp
        refine hK.out _ _ (FC.out _ (HN_.out.trans NX.out)) (fun hHeld => ?_)
        clear hK K
        try simp only [Act.put, List.setIfInBounds_toArray, List.set_cons_zero, List.set_cons_succ]
        rw [HG.out]
        exact L2110.out _ _ _ _ _ _ _ _ _ _ _ (HN_.out.trans NX.out) (own_kp O1_.out NX.out (fun _ _ x => x)) (own_kp O2_.out NX.out (fun _ _ x => x)) BX.out (by first | exact SZ_.out | (rw [hbm]; exact SZ_.out)) (fun g hg e => by have := RL_.out g hg; omega) (fun g hg e => by have := TL_.out g hg; omega) D12_.out _ (by kernel_rfl)
      refine AllReadyH.cons rfl (fun K hK => ?_) ?_
      · rw [if_pos (by rfl)]
        refine step_app_bytes (.tmp 63) (.tmp 64) rfl rfl w1.heap.size g2 rfl O2_.out xi ni ci li rfl (HBI.out w HN_.out) H8.out SZ_.out ?_
        intro x2 c2 w' ho hg hl
        have KX := Lib.hid (show Kp (fun x => x = g2) w w' from hg.elim (fun k => k.mono (fun _ _ x => x.elim)) (fun k => Kp.grown (S := fun x => x = g2) (Kp.refl _ w) k (fun k hk _ => by have h1 : some g2 = some k := hk; injection h1 with h1; exact h1.symm)))
        have NB := Lib.hid (show Nw w1 w' from Kp.trans HN_.out KX.out (fun x hx e => by have e : x = g2 := e; have := (O2_.out.lt g2 rfl).1; omega))
        have OX := Lib.hid ho
        have HX := Lib.hid (show ∀ g, (Value.slice x2 ni c2).ownBlock = some g → g = g2 ∨ g = w.heap.size from fun g hg => by rcases hl with e | e; exact .inl (by rw [e] at hg; injection hg with hg; exact hg.symm); exact .inr (by rw [e] at hg; injection hg with hg; exact hg.symm))
        clear ho hg hl
        refine hK.out _ _ (FC.out _ NB.out) (fun hHeld => ?_)
        clear hK K
        try simp only [Act.put, List.setIfInBounds_toArray, List.set_cons_zero, List.set_cons_succ]
        rw [HG.out]
        exact L2200.out _ _ _ _ _ _ _ _ _ _ _ _ NB.out (own_kp O1_.out KX.out (fun g hg e => by have e : g = g2 := e; exact D12_.out g g2 hg rfl e)) OX.out (fun g g' hg hg' e => by rcases HX.out g' hg' with h | h; exact D12_.out g g2 hg rfl (h ▸ e); have := RL_.out g hg; omega) _ (by kernel_rfl)
      refine AllReadyH.cons rfl (fun K hK => ?_) AllReadyH.nil
      rw [if_pos (by rfl)]
      have NX := Lib.hid (Nw.new w (.cells #[.slice none 0 0, .slice none 0 0, .int .i64 0, .int .i64 0, .int .i64 0, .int .i64 0, .int .i64 0, .int .i64 0, .int .i64 0, .int .i64 0, .int .i64 0, .int .i64 0, .int .i64 0, .int .i64 0, .int .i64 0, .int .i64 0, .int .i64 0, .int .i64 0, .int .i64 0, .slice none 0 0, .int .i64 0, .int .i64 0, .int .i64 0, .slice none 0 0, .int .i64 0] 51))
      have BX := Lib.hid (Blk.new w [.slice none 0 0, .slice none 0 0, .int .i64 0, .int .i64 0, .int .i64 0, .int .i64 0, .int .i64 0, .int .i64 0, .int .i64 0, .int .i64 0, .int .i64 0, .int .i64 0, .int .i64 0, .int .i64 0, .int .i64 0, .int .i64 0, .int .i64 0, .int .i64 0, .int .i64 0, .slice none 0 0, .int .i64 0, .int .i64 0, .int .i64 0, .slice none 0 0, .int .i64 0] 51)
      go_simp
      refine hK.out _ _ (FC.out _ (HN_.out.trans NX.out)) (fun hHeld => ?_)
      clear hK K
      try simp only [Act.put, List.setIfInBounds_toArray, List.set_cons_zero, List.set_cons_succ]
      rw [HG.out]
      exact L2101.out _ _ _ _ _ _ _ _ _ _ _ (HN_.out.trans NX.out) (own_kp O1_.out NX.out (fun _ _ x => x)) (own_kp O2_.out NX.out (fun _ _ x => x)) BX.out SZ_.out (fun g hg e => by have := RL_.out g hg; omega) (fun g hg e => by have := TL_.out g hg; omega) D12_.out _ (by kernel_rfl)
    have L2100 := Lib.hid key_
    clear key_
    have key_ : ∀ (u55 u56 u58 u61 u63 u65 u66 : Value) (bm : Nat) (p : Nat) (w : World) (hN : Nw w1 w) (mb : Blk w bm Zl 2) (mg : w1.heap.size ≤ bm) (db : Blk w p [.slice none 0 0, .slice none 0 0, .int .i64 0, .int .i64 0, .int .i64 0, .int .i64 0, .int .i64 0, .int .i64 0, .int .i64 0, .int .i64 0, .int .i64 0, .int .i64 0, .int .i64 0, .int .i64 0, .int .i64 0, .int .i64 0, .int .i64 0, .int .i64 0, .int .i64 0, .slice none 0 0, .int .i64 0, .int .i64 0, .int .i64 0, .slice none 0 0, .int .i64 0] 51) (dg : w1.heap.size ≤ p) (dmp : bm ≠ p) (lx : Array Bool) (hlx : lx = #[false, true, true, false, true, true, true, true, false, true, false, false, true, false]), G 6 lx { tmps := #[u0, u1, u2, u3, u4, u5, u6, u7, .pointer (some ⟨p, 0, none⟩), u9, u10, u11, u12, u13, u14, u15, u16, u17, u18, u19, u20, u21, u22, u23, u24, u25, u26, u27, u28, u29, u30, u31, u32, u33, u34, u35, u36, u37, u38, u39, u40, u41, u42, u43, u44, u45, u46, u47, u48, u49, u50, u51, u52, u53, u54, u55, u56, .slice (some adc) nc cc, u58, .int .i64 (mn : Int), .slice (some ⟨bm, 0, none⟩) mn mn, u61, .int .i64 entry, u63, .slice xi ni ci, u65, u66, u67, u68, u69, u70, u71, u72, u73, u74, u75, u76, u77, u78, u79, u80, u81, u82, u83, u84, u85, u86], defers := [] } w := by
      intro u55 u56 u58 u61 u63 u65 u66 bm p w hN mb mg db dg dmp lx hlx
      subst hlx
      rw [← HG.out]
      have HN_ := Lib.hid hN
      have MB_ := Lib.hid mb
      have MG_ := Lib.hid mg
      have DB_ := Lib.hid db
      have DG_ := Lib.hid dg
      have DMP_ := Lib.hid dmp
      have SZ_ := Lib.hid hN.size
      have ML_ := Lib.hid mb.lt
      have DL_ := Lib.hid db.lt
      clear hN mb mg db dg dmp
      refine wpAnyH_ready (rs := [0, 8]) (by kernel_rfl) (by simp) ?_
      refine AllReadyH.cons rfl (fun K hK => ?_) ?_
      · rw [if_pos (by rfl)]
        have NX := Lib.hid (Nw.new w (.cells #[] 2))
        have OX := Lib.hid (own_weaken (own_empty w 2) SZ_.out)
        go_simp
        refine hK.out _ _ (FC.out _ (HN_.out.trans NX.out)) (fun hHeld => ?_)
        clear hK K
        try simp only [Act.put, List.setIfInBounds_toArray, List.set_cons_zero, List.set_cons_succ]
        rw [HG.out]
        exact L1011.out _ _ _ _ _ _ _ _ _ _ (HN_.out.trans NX.out) OX.out (MB_.out.nw NX.out) MG_.out (DB_.out.nw NX.out) DG_.out (fun g hg e => by have h1 : some w.heap.size = some g := hg; injection h1 with h1; have := ML_.out; omega) (fun g hg e => by have h1 : some w.heap.size = some g := hg; injection h1 with h1; have := DL_.out; omega) DMP_.out _ (by kernel_rfl)
      refine AllReadyH.cons rfl (fun K hK => ?_) AllReadyH.nil
      rw [if_pos (by rfl)]
      have NX := Lib.hid (Nw.new w (.cells #[] 5))
      have OX := Lib.hid (own_weaken (own_empty w 5) SZ_.out)
      go_simp
      refine hK.out _ _ (FC.out _ (HN_.out.trans NX.out)) (fun hHeld => ?_)
      clear hK K
      try simp only [Act.put, List.setIfInBounds_toArray, List.set_cons_zero, List.set_cons_succ]
      rw [HG.out]
      exact L0111.out _ _ _ _ _ _ _ _ _ _ (HN_.out.trans NX.out) OX.out (MB_.out.nw NX.out) MG_.out (DB_.out.nw NX.out) DG_.out (fun g hg e => by have h1 : some w.heap.size = some g := hg; injection h1 with h1; have := ML_.out; omega) (fun g hg e => by have h1 : some w.heap.size = some g := hg; injection h1 with h1; have := DL_.out; omega) DMP_.out _ (by kernel_rfl)
    have L0011 := Lib.hid key_
    clear key_
    have key_ : ∀ (u55 u56 u58 u60 u61 u65 u66 : Value) (g2 : Nat) (p : Nat) (w : World) (hN : Nw w1 w) (o2 : w.ownsRow w1.heap.size 5 1 (.slice (some ⟨g2, 0, none⟩) 0 0) 0 []) (db : Blk w p [.slice none 0 0, .slice none 0 0, .int .i64 0, .int .i64 0, .int .i64 0, .int .i64 0, .int .i64 0, .int .i64 0, .int .i64 0, .int .i64 0, .int .i64 0, .int .i64 0, .int .i64 0, .int .i64 0, .int .i64 0, .int .i64 0, .int .i64 0, .int .i64 0, .int .i64 0, .slice none 0 0, .int .i64 0, .int .i64 0, .int .i64 0, .slice none 0 0, .int .i64 0] 51) (dg : w1.heap.size ≤ p) (d2p : ∀ g, (Value.ownBlock (.slice (some ⟨g2, 0, none⟩) 0 0)) = some g → g ≠ p) (lx : Array Bool) (hlx : lx = #[false, true, true, false, true, false, true, true, true, true, false, false, true, false]), G 6 lx { tmps := #[u0, u1, u2, u3, u4, u5, u6, u7, .pointer (some ⟨p, 0, none⟩), u9, u10, u11, u12, u13, u14, u15, u16, u17, u18, u19, u20, u21, u22, u23, u24, u25, u26, u27, u28, u29, u30, u31, u32, u33, u34, u35, u36, u37, u38, u39, u40, u41, u42, u43, u44, u45, u46, u47, u48, u49, u50, u51, u52, u53, u54, u55, u56, .slice (some adc) nc cc, u58, .int .i64 (mn : Int), u60, u61, .int .i64 entry, .slice (some ⟨g2, 0, none⟩) 0 0, .slice xi ni ci, u65, u66, u67, u68, u69, u70, u71, u72, u73, u74, u75, u76, u77, u78, u79, u80, u81, u82, u83, u84, u85, u86], defers := [] } w := by
      intro u55 u56 u58 u60 u61 u65 u66 g2 p w hN o2 db dg d2p lx hlx
      subst hlx
      rw [← HG.out]
      have HN_ := Lib.hid hN
      have O2_ := Lib.hid o2
      have DB_ := Lib.hid db
      have DG_ := Lib.hid dg
      have D2P_ := Lib.hid d2p
      have SZ_ := Lib.hid hN.size
      have DL_ := Lib.hid db.lt
      have TL_ := Lib.hid (fun g (h : Value.ownBlock (.slice (some ⟨g2, 0, none⟩) 0 0) = some g) => (o2.lt g h).2)
      clear hN o2 db dg d2p
      refine wpAnyH_ready (rs := [0, 5]) (by kernel_rfl) (by simp) ?_
      refine AllReadyH.cons rfl (fun K hK => ?_) ?_
      · rw [if_pos (by rfl)]
        have NX := Lib.hid (Nw.new w (.cells #[] 2))
        have OX := Lib.hid (own_weaken (own_empty w 2) SZ_.out)
        go_simp
        refine hK.out _ _ (FC.out _ (HN_.out.trans NX.out)) (fun hHeld => ?_)
        clear hK K
        try simp only [Act.put, List.setIfInBounds_toArray, List.set_cons_zero, List.set_cons_succ]
        rw [HG.out]
        exact L1101.out _ _ _ _ _ _ _ _ _ _ (HN_.out.trans NX.out) OX.out (own_kp O2_.out NX.out (fun _ _ x => x)) (DB_.out.nw NX.out) DG_.out (fun g hg e => by have h1 : some w.heap.size = some g := hg; injection h1 with h1; have := DL_.out; omega) D2P_.out (fun g g' hg hg' e => by have h1 : some w.heap.size = some g := hg; injection h1 with h1; have := TL_.out g' hg'; omega) _ (by kernel_rfl)
      refine AllReadyH.cons rfl (fun K hK => ?_) AllReadyH.nil
      rw [if_pos (by rfl)]
      have NX := Lib.hid (Nw.new w (.cells Zr 2))
      have BX := Lib.hid (show Blk (w.alloc (.cells Zr 2)) w.heap.size Zl 2 by rw [← HZ.out]; exact Blk.new w Zl 2)
      go_simp
      refine hK.out _ _ (FC.out _ (HN_.out.trans NX.out)) (fun hHeld => ?_)
      clear hK K
      try simp only [Act.put, List.setIfInBounds_toArray, List.set_cons_zero, List.set_cons_succ]
      rw [HG.out]
      exact L0111.out _ _ _ _ _ _ _ _ _ _ (HN_.out.trans NX.out) (own_kp O2_.out NX.out (fun _ _ x => x)) BX.out (by first | exact SZ_.out | (rw [hbm]; exact SZ_.out)) (DB_.out.nw NX.out) DG_.out (fun g hg e => by have := TL_.out g hg; omega) D2P_.out (fun e => by have := DL_.out; omega) _ (by kernel_rfl)
    have L0101 := Lib.hid key_
    clear key_
    have key_ : ∀ (u8 u55 u56 u58 u61 u65 u66 : Value) (g2 : Nat) (bm : Nat) (w : World) (hN : Nw w1 w) (o2 : w.ownsRow w1.heap.size 5 1 (.slice (some ⟨g2, 0, none⟩) 0 0) 0 []) (mb : Blk w bm Zl 2) (mg : w1.heap.size ≤ bm) (d2m : ∀ g, (Value.ownBlock (.slice (some ⟨g2, 0, none⟩) 0 0)) = some g → g ≠ bm) (lx : Array Bool) (hlx : lx = #[false, true, true, false, true, true, true, true, true, true, false, false, false, false]), G 6 lx { tmps := #[u0, u1, u2, u3, u4, u5, u6, u7, u8, u9, u10, u11, u12, u13, u14, u15, u16, u17, u18, u19, u20, u21, u22, u23, u24, u25, u26, u27, u28, u29, u30, u31, u32, u33, u34, u35, u36, u37, u38, u39, u40, u41, u42, u43, u44, u45, u46, u47, u48, u49, u50, u51, u52, u53, u54, u55, u56, .slice (some adc) nc cc, u58, .int .i64 (mn : Int), .slice (some ⟨bm, 0, none⟩) mn mn, u61, .int .i64 entry, .slice (some ⟨g2, 0, none⟩) 0 0, .slice xi ni ci, u65, u66, u67, u68, u69, u70, u71, u72, u73, u74, u75, u76, u77, u78, u79, u80, u81, u82, u83, u84, u85, u86], defers := [] } w := by
      intro u8 u55 u56 u58 u61 u65 u66 g2 bm w hN o2 mb mg d2m lx hlx
      subst hlx
      rw [← HG.out]
      have HN_ := Lib.hid hN
      have O2_ := Lib.hid o2
      have MB_ := Lib.hid mb
      have MG_ := Lib.hid mg
      have D2M_ := Lib.hid d2m
      have SZ_ := Lib.hid hN.size
      have ML_ := Lib.hid mb.lt
      have TL_ := Lib.hid (fun g (h : Value.ownBlock (.slice (some ⟨g2, 0, none⟩) 0 0) = some g) => (o2.lt g h).2)
      clear hN o2 mb mg d2m
      refine wpAnyH_ready (rs := [0, 12]) (by kernel_rfl) (by simp) ?_
      refine AllReadyH.cons rfl (fun K hK => ?_) ?_
      · rw [if_pos (by rfl)]
        have NX := Lib.hid (Nw.new w (.cells #[] 2))
        have OX := Lib.hid (own_weaken (own_empty w 2) SZ_.out)
        go_simp
        refine hK.out _ _ (FC.out _ (HN_.out.trans NX.out)) (fun hHeld => ?_)
        clear hK K
        try simp only [Act.put, List.setIfInBounds_toArray, List.set_cons_zero, List.set_cons_succ]
        rw [HG.out]
        exact L1110.out _ _ _ _ _ _ _ _ _ _ (HN_.out.trans NX.out) OX.out (own_kp O2_.out NX.out (fun _ _ x => x)) (MB_.out.nw NX.out) MG_.out (fun g hg e => by have h1 : some w.heap.size = some g := hg; injection h1 with h1; have := ML_.out; omega) D2M_.out (fun g g' hg hg' e => by have h1 : some w.heap.size = some g := hg; injection h1 with h1; have := TL_.out g' hg'; omega) _ (by kernel_rfl)
      refine AllReadyH.cons rfl (fun K hK => ?_) AllReadyH.nil
      rw [if_pos (by rfl)]
      have NX := Lib.hid (Nw.new w (.cells #[.slice none 0 0, .slice none 0 0, .int .i64 0, .int .i64 0, .int .i64 0, .int .i64 0, .int .i64 0, .int .i64 0, .int .i64 0, .int .i64 0, .int .i64 0, .int .i64 0, .int .i64 0, .int .i64 0, .int .i64 0, .int .i64 0, .int .i64 0, .int .i64 0, .int .i64 0, .slice none 0 0, .int .i64 0, .int .i64 0, .int .i64 0, .slice none 0 0, .int .i64 0] 51))
      have BX := Lib.hid (Blk.new w [.slice none 0 0, .slice none 0 0, .int .i64 0, .int .i64 0, .int .i64 0, .int .i64 0, .int .i64 0, .int .i64 0, .int .i64 0, .int .i64 0, .int .i64 0, .int .i64 0, .int .i64 0, .int .i64 0, .int .i64 0, .int .i64 0, .int .i64 0, .int .i64 0, .int .i64 0, .slice none 0 0, .int .i64 0, .int .i64 0, .int .i64 0, .slice none 0 0, .int .i64 0] 51)
      go_simp
      refine hK.out _ _ (FC.out _ (HN_.out.trans NX.out)) (fun hHeld => ?_)
      clear hK K
      try simp only [Act.put, List.setIfInBounds_toArray, List.set_cons_zero, List.set_cons_succ]
      rw [HG.out]
      exact L0111.out _ _ _ _ _ _ _ _ _ _ (HN_.out.trans NX.out) (own_kp O2_.out NX.out (fun _ _ x => x)) (MB_.out.nw NX.out) MG_.out BX.out SZ_.out D2M_.out (fun g hg e => by have := TL_.out g hg; omega) (fun e => by have := ML_.out; omega) _ (by kernel_rfl)
    have L0110 := Lib.hid key_
    clear key_
    have key_ : ∀ (u56 u58 u60 u61 u63 u65 u66 : Value) (g1 : Nat) (p : Nat) (w : World) (hN : Nw w1 w) (o1 : w.ownsRow w1.heap.size 2 1 (.slice (some ⟨g1, 0, none⟩) 0 0) 0 []) (db : Blk w p [.slice none 0 0, .slice none 0 0, .int .i64 0, .int .i64 0, .int .i64 0, .int .i64 0, .int .i64 0, .int .i64 0, .int .i64 0, .int .i64 0, .int .i64 0, .int .i64 0, .int .i64 0, .int .i64 0, .int .i64 0, .int .i64 0, .int .i64 0, .int .i64 0, .int .i64 0, .slice none 0 0, .int .i64 0, .int .i64 0, .int .i64 0, .slice none 0 0, .int .i64 0] 51) (dg : w1.heap.size ≤ p) (d1p : ∀ g, (Value.ownBlock (.slice (some ⟨g1, 0, none⟩) 0 0)) = some g → g ≠ p) (lx : Array Bool) (hlx : lx = #[true, true, true, false, true, false, true, true, false, true, false, false, true, false]), G 6 lx { tmps := #[u0, u1, u2, u3, u4, u5, u6, u7, .pointer (some ⟨p, 0, none⟩), u9, u10, u11, u12, u13, u14, u15, u16, u17, u18, u19, u20, u21, u22, u23, u24, u25, u26, u27, u28, u29, u30, u31, u32, u33, u34, u35, u36, u37, u38, u39, u40, u41, u42, u43, u44, u45, u46, u47, u48, u49, u50, u51, u52, u53, u54, .slice (some ⟨g1, 0, none⟩) 0 0, u56, .slice (some adc) nc cc, u58, .int .i64 (mn : Int), u60, u61, .int .i64 entry, u63, .slice xi ni ci, u65, u66, u67, u68, u69, u70, u71, u72, u73, u74, u75, u76, u77, u78, u79, u80, u81, u82, u83, u84, u85, u86], defers := [] } w := by
      intro u56 u58 u60 u61 u63 u65 u66 g1 p w hN o1 db dg d1p lx hlx
      subst hlx
      rw [← HG.out]
      have HN_ := Lib.hid hN
      have O1_ := Lib.hid o1
      have DB_ := Lib.hid db
      have DG_ := Lib.hid dg
      have D1P_ := Lib.hid d1p
      have SZ_ := Lib.hid hN.size
      have DL_ := Lib.hid db.lt
      have RL_ := Lib.hid (fun g (h : Value.ownBlock (.slice (some ⟨g1, 0, none⟩) 0 0) = some g) => (o1.lt g h).2)
      clear hN o1 db dg d1p
      refine wpAnyH_ready (rs := [3, 5, 8]) (by kernel_rfl) (by simp) ?_
      refine AllReadyH.cons rfl (fun K hK => ?_) ?_
      · rw [if_pos (by rfl)]
        refine step_app (.tmp 55) (.tmp 57) 22 rfl w1.heap.size 2 it (.int .i64 0) 1 8 Try.underlying22 HI0.out HZ0.out HZ1.out HZ2.out rfl (by decide) _ 0 [] rfl O1_.out adc nc cc lc rfl HLC1.out (HCC.out w HN_.out) HONE.out H63.out HBY.out SZ_.out ?_
        intro x1 c1 w' ho hg hl
        rw [Nat.zero_add] at ho hl
        rw [List.nil_append] at ho
        have HG := Lib.hid hg
        have KX := Lib.hid (show Kp (fun x => x = g1) w w' from Kp.grown (S := fun x => x = g1) (Kp.refl _ w) hg (fun k hk _ => by have h1 : some g1 = some k := hk; injection h1 with h1; exact h1.symm))
        have NB := Lib.hid (show Nw w1 w' from Kp.trans HN_.out KX.out (fun x hx e => by have e : x = g1 := e; have := (O1_.out.lt g1 rfl).1; omega))
        have OX := Lib.hid ho
        have HX := Lib.hid (show ∀ g, (Value.slice x1 nc c1).ownBlock = some g → g = g1 ∨ g = w.heap.size from fun g hg => by rcases hl with e | e; exact .inl (by rw [e] at hg; injection hg with hg; exact hg.symm); exact .inr (by rw [e] at hg; injection hg with hg; exact hg.symm))
        clear ho hg hl HG
        simp only [Nat.zero_add]
        refine hK.out _ _ (FC.out _ NB.out) (fun hHeld => ?_)
        clear hK K
        try simp only [Act.put, List.setIfInBounds_toArray, List.set_cons_zero, List.set_cons_succ]
        rw [HG.out]
        exact L2001.out _ _ _ _ _ _ _ _ _ _ _ NB.out OX.out (DB_.out.kp KX.out (fun e => D1P_.out g1 rfl e.symm)) DG_.out (fun g hg e => by rcases HX.out g hg with h | h; exact D1P_.out g1 rfl (h ▸ e); have := DL_.out; omega) _ (by kernel_rfl)
      refine AllReadyH.cons rfl (fun K hK => ?_) ?_
      · rw [if_pos (by rfl)]
        have NX := Lib.hid (Nw.new w (.cells Zr 2))
        have BX := Lib.hid (show Blk (w.alloc (.cells Zr 2)) w.heap.size Zl 2 by rw [← HZ.out]; exact Blk.new w Zl 2)
        go_simp
        refine hK.out _ _ (FC.out _ (HN_.out.trans NX.out)) (fun hHeld => ?_)
        clear hK K
        try simp only [Act.put, List.setIfInBounds_toArray, List.set_cons_zero, List.set_cons_succ]
        rw [HG.out]
        exact L1011.out _ _ _ _ _ _ _ _ _ _ (HN_.out.trans NX.out) (own_kp O1_.out NX.out (fun _ _ x => x)) BX.out (by first | exact SZ_.out | (rw [hbm]; exact SZ_.out)) (DB_.out.nw NX.out) DG_.out (fun g hg e => by have := RL_.out g hg; omega) D1P_.out (fun e => by have := DL_.out; omega) _ (by kernel_rfl)
      refine AllReadyH.cons rfl (fun K hK => ?_) AllReadyH.nil
      rw [if_pos (by rfl)]
      have NX := Lib.hid (Nw.new w (.cells #[] 5))
      have OX := Lib.hid (own_weaken (own_empty w 5) SZ_.out)
      go_simp
      refine hK.out _ _ (FC.out _ (HN_.out.trans NX.out)) (fun hHeld => ?_)
      clear hK K
      try simp only [Act.put, List.setIfInBounds_toArray, List.set_cons_zero, List.set_cons_succ]
      rw [HG.out]
      exact L1101.out _ _ _ _ _ _ _ _ _ _ (HN_.out.trans NX.out) (own_kp O1_.out NX.out (fun _ _ x => x)) OX.out (DB_.out.nw NX.out) DG_.out D1P_.out (fun g hg e => by have h1 : some w.heap.size = some g := hg; injection h1 with h1; have := DL_.out; omega) (fun g g' hg hg' e => by have h1 : some w.heap.size = some g' := hg'; injection h1 with h1; have := RL_.out g hg; omega) _ (by kernel_rfl)
    have L1001 := Lib.hid key_
    clear key_
    have key_ : ∀ (u8 u56 u58 u61 u63 u65 u66 : Value) (g1 : Nat) (bm : Nat) (w : World) (hN : Nw w1 w) (o1 : w.ownsRow w1.heap.size 2 1 (.slice (some ⟨g1, 0, none⟩) 0 0) 0 []) (mb : Blk w bm Zl 2) (mg : w1.heap.size ≤ bm) (d1m : ∀ g, (Value.ownBlock (.slice (some ⟨g1, 0, none⟩) 0 0)) = some g → g ≠ bm) (lx : Array Bool) (hlx : lx = #[true, true, true, false, true, true, true, true, false, true, false, false, false, false]), G 6 lx { tmps := #[u0, u1, u2, u3, u4, u5, u6, u7, u8, u9, u10, u11, u12, u13, u14, u15, u16, u17, u18, u19, u20, u21, u22, u23, u24, u25, u26, u27, u28, u29, u30, u31, u32, u33, u34, u35, u36, u37, u38, u39, u40, u41, u42, u43, u44, u45, u46, u47, u48, u49, u50, u51, u52, u53, u54, .slice (some ⟨g1, 0, none⟩) 0 0, u56, .slice (some adc) nc cc, u58, .int .i64 (mn : Int), .slice (some ⟨bm, 0, none⟩) mn mn, u61, .int .i64 entry, u63, .slice xi ni ci, u65, u66, u67, u68, u69, u70, u71, u72, u73, u74, u75, u76, u77, u78, u79, u80, u81, u82, u83, u84, u85, u86], defers := [] } w := by
      intro u8 u56 u58 u61 u63 u65 u66 g1 bm w hN o1 mb mg d1m lx hlx
      subst hlx
      rw [← HG.out]
      have HN_ := Lib.hid hN
      have O1_ := Lib.hid o1
      have MB_ := Lib.hid mb
      have MG_ := Lib.hid mg
      have D1M_ := Lib.hid d1m
      have SZ_ := Lib.hid hN.size
      have ML_ := Lib.hid mb.lt
      have RL_ := Lib.hid (fun g (h : Value.ownBlock (.slice (some ⟨g1, 0, none⟩) 0 0) = some g) => (o1.lt g h).2)
      clear hN o1 mb mg d1m
      refine wpAnyH_ready (rs := [3, 8, 12]) (by kernel_rfl) (by simp) ?_
      refine AllReadyH.cons rfl (fun K hK => ?_) ?_
      · rw [if_pos (by rfl)]
        refine step_app (.tmp 55) (.tmp 57) 22 rfl w1.heap.size 2 it (.int .i64 0) 1 8 Try.underlying22 HI0.out HZ0.out HZ1.out HZ2.out rfl (by decide) _ 0 [] rfl O1_.out adc nc cc lc rfl HLC1.out (HCC.out w HN_.out) HONE.out H63.out HBY.out SZ_.out ?_
        intro x1 c1 w' ho hg hl
        rw [Nat.zero_add] at ho hl
        rw [List.nil_append] at ho
        have HG := Lib.hid hg
        have KX := Lib.hid (show Kp (fun x => x = g1) w w' from Kp.grown (S := fun x => x = g1) (Kp.refl _ w) hg (fun k hk _ => by have h1 : some g1 = some k := hk; injection h1 with h1; exact h1.symm))
        have NB := Lib.hid (show Nw w1 w' from Kp.trans HN_.out KX.out (fun x hx e => by have e : x = g1 := e; have := (O1_.out.lt g1 rfl).1; omega))
        have OX := Lib.hid ho
        have HX := Lib.hid (show ∀ g, (Value.slice x1 nc c1).ownBlock = some g → g = g1 ∨ g = w.heap.size from fun g hg => by rcases hl with e | e; exact .inl (by rw [e] at hg; injection hg with hg; exact hg.symm); exact .inr (by rw [e] at hg; injection hg with hg; exact hg.symm))
        clear ho hg hl HG
        simp only [Nat.zero_add]
        refine hK.out _ _ (FC.out _ NB.out) (fun hHeld => ?_)
        clear hK K
        try simp only [Act.put, List.setIfInBounds_toArray, List.set_cons_zero, List.set_cons_succ]
        rw [HG.out]
        exact L2010.out _ _ _ _ _ _ _ _ _ _ _ NB.out OX.out (MB_.out.kp KX.out (fun e => D1M_.out g1 rfl e.symm)) MG_.out (fun g hg e => by rcases HX.out g hg with h | h; exact D1M_.out g1 rfl (h ▸ e); have := ML_.out; omega) _ (by kernel_rfl)
      refine AllReadyH.cons rfl (fun K hK => ?_) ?_
      · rw [if_pos (by rfl)]
        have NX := Lib.hid (Nw.new w (.cells #[] 5))
        have OX := Lib.hid (own_weaken (own_empty w 5) SZ_.out)
        go_simp
        refine hK.out _ _ (FC.out _ (HN_.out.trans NX.out)) (fun hHeld => ?_)
        clear hK K
        try simp only [Act.put, List.setIfInBounds_toArray, List.set_cons_zero, List.set_cons_succ]
        rw [HG.out]
        exact L1110.out _ _ _ _ _ _ _ _ _ _ (HN_.out.trans NX.out) (own_kp O1_.out NX.out (fun _ _ x => x)) OX.out (MB_.out.nw NX.out) MG_.out D1M_.out (fun g hg e => by have h1 : some w.heap.size = some g := hg; injection h1 with h1; have := ML_.out; omega) (fun g g' hg hg' e => by have h1 : some w.heap.size = some g' := hg'; injection h1 with h1; have := RL_.out g hg; omega) _ (by kernel_rfl)
      refine AllReadyH.cons rfl (fun K hK => ?_) AllReadyH.nil
      rw [if_pos (by rfl)]
      have NX := Lib.hid (Nw.new w (.cells #[.slice none 0 0, .slice none 0 0, .int .i64 0, .int .i64 0, .int .i64 0, .int .i64 0, .int .i64 0, .int .i64 0, .int .i64 0, .int .i64 0, .int .i64 0, .int .i64 0, .int .i64 0, .int .i64 0, .int .i64 0, .int .i64 0, .int .i64 0, .int .i64 0, .int .i64 0, .slice none 0 0, .int .i64 0, .int .i64 0, .int .i64 0, .slice none 0 0, .int .i64 0] 51))
      have BX := Lib.hid (Blk.new w [.slice none 0 0, .slice none 0 0, .int .i64 0, .int .i64 0, .int .i64 0, .int .i64 0, .int .i64 0, .int .i64 0, .int .i64 0, .int .i64 0, .int .i64 0, .int .i64 0, .int .i64 0, .int .i64 0, .int .i64 0, .int .i64 0, .int .i64 0, .int .i64 0, .int .i64 0, .slice none 0 0, .int .i64 0, .int .i64 0, .int .i64 0, .slice none 0 0, .int .i64 0] 51)
      go_simp
      refine hK.out _ _ (FC.out _ (HN_.out.trans NX.out)) (fun hHeld => ?_)
      clear hK K
      try simp only [Act.put, List.setIfInBounds_toArray, List.set_cons_zero, List.set_cons_succ]
      rw [HG.out]
      exact L1011.out _ _ _ _ _ _ _ _ _ _ (HN_.out.trans NX.out) (own_kp O1_.out NX.out (fun _ _ x => x)) (MB_.out.nw NX.out) MG_.out BX.out SZ_.out D1M_.out (fun g hg e => by have := RL_.out g hg; omega) (fun e => by have := ML_.out; omega) _ (by kernel_rfl)
    have L1010 := Lib.hid key_
    clear key_
    have key_ : ∀ (u8 u56 u58 u60 u61 u65 u66 : Value) (g1 : Nat) (g2 : Nat) (w : World) (hN : Nw w1 w) (o1 : w.ownsRow w1.heap.size 2 1 (.slice (some ⟨g1, 0, none⟩) 0 0) 0 []) (o2 : w.ownsRow w1.heap.size 5 1 (.slice (some ⟨g2, 0, none⟩) 0 0) 0 []) (d12 : ∀ g g', (Value.ownBlock (.slice (some ⟨g1, 0, none⟩) 0 0)) = some g → (Value.ownBlock (.slice (some ⟨g2, 0, none⟩) 0 0)) = some g' → g ≠ g') (lx : Array Bool) (hlx : lx = #[true, true, true, false, true, false, true, true, true, true, false, false, false, false]), G 6 lx { tmps := #[u0, u1, u2, u3, u4, u5, u6, u7, u8, u9, u10, u11, u12, u13, u14, u15, u16, u17, u18, u19, u20, u21, u22, u23, u24, u25, u26, u27, u28, u29, u30, u31, u32, u33, u34, u35, u36, u37, u38, u39, u40, u41, u42, u43, u44, u45, u46, u47, u48, u49, u50, u51, u52, u53, u54, .slice (some ⟨g1, 0, none⟩) 0 0, u56, .slice (some adc) nc cc, u58, .int .i64 (mn : Int), u60, u61, .int .i64 entry, .slice (some ⟨g2, 0, none⟩) 0 0, .slice xi ni ci, u65, u66, u67, u68, u69, u70, u71, u72, u73, u74, u75, u76, u77, u78, u79, u80, u81, u82, u83, u84, u85, u86], defers := [] } w := by
      intro u8 u56 u58 u60 u61 u65 u66 g1 g2 w hN o1 o2 d12 lx hlx
      subst hlx
      rw [← HG.out]
      have HN_ := Lib.hid hN
      have O1_ := Lib.hid o1
      have O2_ := Lib.hid o2
      have D12_ := Lib.hid d12
      have SZ_ := Lib.hid hN.size
      have RL_ := Lib.hid (fun g (h : Value.ownBlock (.slice (some ⟨g1, 0, none⟩) 0 0) = some g) => (o1.lt g h).2)
      have TL_ := Lib.hid (fun g (h : Value.ownBlock (.slice (some ⟨g2, 0, none⟩) 0 0) = some g) => (o2.lt g h).2)
      clear hN o1 o2 d12
      refine wpAnyH_ready (rs := [3, 5, 12]) (by kernel_rfl) (by simp) ?_
      refine AllReadyH.cons rfl (fun K hK => ?_) ?_
      · rw [if_pos (by rfl)]
        refine step_app (.tmp 55) (.tmp 57) 22 rfl w1.heap.size 2 it (.int .i64 0) 1 8 Try.underlying22 HI0.out HZ0.out HZ1.out HZ2.out rfl (by decide) _ 0 [] rfl O1_.out adc nc cc lc rfl HLC1.out (HCC.out w HN_.out) HONE.out H63.out HBY.out SZ_.out ?_
        intro x1 c1 w' ho hg hl
        rw [Nat.zero_add] at ho hl
        rw [List.nil_append] at ho
        have HG := Lib.hid hg
        have KX := Lib.hid (show Kp (fun x => x = g1) w w' from Kp.grown (S := fun x => x = g1) (Kp.refl _ w) hg (fun k hk _ => by have h1 : some g1 = some k := hk; injection h1 with h1; exact h1.symm))
        have NB := Lib.hid (show Nw w1 w' from Kp.trans HN_.out KX.out (fun x hx e => by have e : x = g1 := e; have := (O1_.out.lt g1 rfl).1; omega))
        have OX := Lib.hid ho
        have HX := Lib.hid (show ∀ g, (Value.slice x1 nc c1).ownBlock = some g → g = g1 ∨ g = w.heap.size from fun g hg => by rcases hl with e | e; exact .inl (by rw [e] at hg; injection hg with hg; exact hg.symm); exact .inr (by rw [e] at hg; injection hg with hg; exact hg.symm))
        clear ho hg hl HG
        simp only [Nat.zero_add]
        refine hK.out _ _ (FC.out _ NB.out) (fun hHeld => ?_)
        clear hK K
        try simp only [Act.put, List.setIfInBounds_toArray, List.set_cons_zero, List.set_cons_succ]
        rw [HG.out]
        exact L2100.out _ _ _ _ _ _ _ _ _ _ _ NB.out OX.out (own_kp O2_.out KX.out (fun g hg e => by have e : g = g1 := e; exact D12_.out g1 g rfl hg e.symm)) (fun g g' hg hg' e => by rcases HX.out g hg with h | h; exact D12_.out g1 g' rfl hg' (h ▸ e); have := TL_.out g' hg'; omega) _ (by kernel_rfl)
      refine AllReadyH.cons rfl (fun K hK => ?_) ?_
      · rw [if_pos (by rfl)]
        have NX := Lib.hid (Nw.new w (.cells Zr 2))
        have BX := Lib.hid (show Blk (w.alloc (.cells Zr 2)) w.heap.size Zl 2 by rw [← HZ.out]; exact Blk.new w Zl 2)
        go_simp
        refine hK.out _ _ (FC.out _ (HN_.out.trans NX.out)) (fun hHeld => ?_)
        clear hK K
        try simp only [Act.put, List.setIfInBounds_toArray, List.set_cons_zero, List.set_cons_succ]
        rw [HG.out]
        exact L1110.out _ _ _ _ _ _ _ _ _ _ (HN_.out.trans NX.out) (own_kp O1_.out NX.out (fun _ _ x => x)) (own_kp O2_.out NX.out (fun _ _ x => x)) BX.out (by first | exact SZ_.out | (rw [hbm]; exact SZ_.out)) (fun g hg e => by have := RL_.out g hg; omega) (fun g hg e => by have := TL_.out g hg; omega) D12_.out _ (by kernel_rfl)
      refine AllReadyH.cons rfl (fun K hK => ?_) AllReadyH.nil
      rw [if_pos (by rfl)]
      have NX := Lib.hid (Nw.new w (.cells #[.slice none 0 0, .slice none 0 0, .int .i64 0, .int .i64 0, .int .i64 0, .int .i64 0, .int .i64 0, .int .i64 0, .int .i64 0, .int .i64 0, .int .i64 0, .int .i64 0, .int .i64 0, .int .i64 0, .int .i64 0, .int .i64 0, .int .i64 0, .int .i64 0, .int .i64 0, .slice none 0 0, .int .i64 0, .int .i64 0, .int .i64 0, .slice none 0 0, .int .i64 0] 51))
      have BX := Lib.hid (Blk.new w [.slice none 0 0, .slice none 0 0, .int .i64 0, .int .i64 0, .int .i64 0, .int .i64 0, .int .i64 0, .int .i64 0, .int .i64 0, .int .i64 0, .int .i64 0, .int .i64 0, .int .i64 0, .int .i64 0, .int .i64 0, .int .i64 0, .int .i64 0, .int .i64 0, .int .i64 0, .slice none 0 0, .int .i64 0, .int .i64 0, .int .i64 0, .slice none 0 0, .int .i64 0] 51)
      go_simp
      refine hK.out _ _ (FC.out _ (HN_.out.trans NX.out)) (fun hHeld => ?_)
      clear hK K
      try simp only [Act.put, List.setIfInBounds_toArray, List.set_cons_zero, List.set_cons_succ]
      rw [HG.out]
      exact L1101.out _ _ _ _ _ _ _ _ _ _ (HN_.out.trans NX.out) (own_kp O1_.out NX.out (fun _ _ x => x)) (own_kp O2_.out NX.out (fun _ _ x => x)) BX.out SZ_.out (fun g hg e => by have := RL_.out g hg; omega) (fun g hg e => by have := TL_.out g hg; omega) D12_.out _ (by kernel_rfl)
    have L1100 := Lib.hid key_
    clear key_
    have key_ : ∀ (u8 u55 u56 u60 u61 u63 u65 u66 : Value) (x1 : Option Addr) (c1 : Nat) (w : World) (hN : Nw w1 w) (o1 : w.ownsRow w1.heap.size 2 1 (.slice x1 nc c1) nc lc) (lx : Array Bool) (hlx : lx = #[true, true, true, true, true, false, true, true, false, true, false, false, false, false]), G 6 lx { tmps := #[u0, u1, u2, u3, u4, u5, u6, u7, u8, u9, u10, u11, u12, u13, u14, u15, u16, u17, u18, u19, u20, u21, u22, u23, u24, u25, u26, u27, u28, u29, u30, u31, u32, u33, u34, u35, u36, u37, u38, u39, u40, u41, u42, u43, u44, u45, u46, u47, u48, u49, u50, u51, u52, u53, u54, u55, u56, .slice (some adc) nc cc, .slice x1 nc c1, .int .i64 (mn : Int), u60, u61, .int .i64 entry, u63, .slice xi ni ci, u65, u66, u67, u68, u69, u70, u71, u72, u73, u74, u75, u76, u77, u78, u79, u80, u81, u82, u83, u84, u85, u86], defers := [] } w := by
      intro u8 u55 u56 u60 u61 u63 u65 u66 x1 c1 w hN o1 lx hlx
      subst hlx
      rw [← HG.out]
      have HN_ := Lib.hid hN
      have O1_ := Lib.hid o1
      have SZ_ := Lib.hid hN.size
      have RL_ := Lib.hid (fun g (h : Value.ownBlock (.slice x1 nc c1) = some g) => (o1.lt g h).2)
      clear hN o1
      refine wpAnyH_ready (rs := [5, 8, 12]) (by kernel_rfl) (by simp) ?_
      refine AllReadyH.cons rfl (fun K hK => ?_) ?_
      · rw [if_pos (by rfl)]
        have NX := Lib.hid (Nw.new w (.cells Zr 2))
        have BX := Lib.hid (show Blk (w.alloc (.cells Zr 2)) w.heap.size Zl 2 by rw [← HZ.out]; exact Blk.new w Zl 2)
        go_simp
        refine hK.out _ _ (FC.out _ (HN_.out.trans NX.out)) (fun hHeld => ?_)
        clear hK K
        try simp only [Act.put, List.setIfInBounds_toArray, List.set_cons_zero, List.set_cons_succ]
        rw [HG.out]
        exact L2010.out _ _ _ _ _ _ _ _ _ _ _ (HN_.out.trans NX.out) (own_kp O1_.out NX.out (fun _ _ x => x)) BX.out (by first | exact SZ_.out | (rw [hbm]; exact SZ_.out)) (fun g hg e => by have := RL_.out g hg; omega) _ (by kernel_rfl)
      refine AllReadyH.cons rfl (fun K hK => ?_) ?_
      · rw [if_pos (by rfl)]
        have NX := Lib.hid (Nw.new w (.cells #[] 5))
        have OX := Lib.hid (own_weaken (own_empty w 5) SZ_.out)
        go_simp
        refine hK.out _ _ (FC.out _ (HN_.out.trans NX.out)) (fun hHeld => ?_)
        clear hK K
        try simp only [Act.put, List.setIfInBounds_toArray, List.set_cons_zero, List.set_cons_succ]
        rw [HG.out]
        exact L2100.out _ _ _ _ _ _ _ _ _ _ _ (HN_.out.trans NX.out) (own_kp O1_.out NX.out (fun _ _ x => x)) OX.out (fun g g' hg hg' e => by have h1 : some w.heap.size = some g' := hg'; injection h1 with h1; have := RL_.out g hg; omega) _ (by kernel_rfl)
      refine AllReadyH.cons rfl (fun K hK => ?_) AllReadyH.nil
      rw [if_pos (by rfl)]
      have NX := Lib.hid (Nw.new w (.cells #[.slice none 0 0, .slice none 0 0, .int .i64 0, .int .i64 0, .int .i64 0, .int .i64 0, .int .i64 0, .int .i64 0, .int .i64 0, .int .i64 0, .int .i64 0, .int .i64 0, .int .i64 0, .int .i64 0, .int .i64 0, .int .i64 0, .int .i64 0, .int .i64 0, .int .i64 0, .slice none 0 0, .int .i64 0, .int .i64 0, .int .i64 0, .slice none 0 0, .int .i64 0] 51))
      have BX := Lib.hid (Blk.new w [.slice none 0 0, .slice none 0 0, .int .i64 0, .int .i64 0, .int .i64 0, .int .i64 0, .int .i64 0, .int .i64 0, .int .i64 0, .int .i64 0, .int .i64 0, .int .i64 0, .int .i64 0, .int .i64 0, .int .i64 0, .int .i64 0, .int .i64 0, .int .i64 0, .int .i64 0, .slice none 0 0, .int .i64 0, .int .i64 0, .int .i64 0, .slice none 0 0, .int .i64 0] 51)
      go_simp
      refine hK.out _ _ (FC.out _ (HN_.out.trans NX.out)) (fun hHeld => ?_)
      clear hK K
      try simp only [Act.put, List.setIfInBounds_toArray, List.set_cons_zero, List.set_cons_succ]
      rw [HG.out]
      exact L2001.out _ _ _ _ _ _ _ _ _ _ _ (HN_.out.trans NX.out) (own_kp O1_.out NX.out (fun _ _ x => x)) BX.out SZ_.out (fun g hg e => by have := RL_.out g hg; omega) _ (by kernel_rfl)
    have L2000 := Lib.hid key_
    clear key_
    have key_ : ∀ (u55 u56 u58 u60 u61 u63 u65 u66 : Value) (p : Nat) (w : World) (hN : Nw w1 w) (db : Blk w p [.slice none 0 0, .slice none 0 0, .int .i64 0, .int .i64 0, .int .i64 0, .int .i64 0, .int .i64 0, .int .i64 0, .int .i64 0, .int .i64 0, .int .i64 0, .int .i64 0, .int .i64 0, .int .i64 0, .int .i64 0, .int .i64 0, .int .i64 0, .int .i64 0, .int .i64 0, .slice none 0 0, .int .i64 0, .int .i64 0, .int .i64 0, .slice none 0 0, .int .i64 0] 51) (dg : w1.heap.size ≤ p) (lx : Array Bool) (hlx : lx = #[false, true, true, false, true, false, true, true, false, true, false, false, true, false]), G 7 lx { tmps := #[u0, u1, u2, u3, u4, u5, u6, u7, .pointer (some ⟨p, 0, none⟩), u9, u10, u11, u12, u13, u14, u15, u16, u17, u18, u19, u20, u21, u22, u23, u24, u25, u26, u27, u28, u29, u30, u31, u32, u33, u34, u35, u36, u37, u38, u39, u40, u41, u42, u43, u44, u45, u46, u47, u48, u49, u50, u51, u52, u53, u54, u55, u56, .slice (some adc) nc cc, u58, .int .i64 (mn : Int), u60, u61, .int .i64 entry, u63, .slice xi ni ci, u65, u66, u67, u68, u69, u70, u71, u72, u73, u74, u75, u76, u77, u78, u79, u80, u81, u82, u83, u84, u85, u86], defers := [] } w := by
      intro u55 u56 u58 u60 u61 u63 u65 u66 p w hN db dg lx hlx
      subst hlx
      rw [← HG.out]
      have HN_ := Lib.hid hN
      have DB_ := Lib.hid db
      have DG_ := Lib.hid dg
      have SZ_ := Lib.hid hN.size
      have DL_ := Lib.hid db.lt
      clear hN db dg
      refine wpAnyH_ready (rs := [0, 5, 8]) (by kernel_rfl) (by simp) ?_
      refine AllReadyH.cons rfl (fun K hK => ?_) ?_
      · rw [if_pos (by rfl)]
        have NX := Lib.hid (Nw.new w (.cells #[] 2))
        have OX := Lib.hid (own_weaken (own_empty w 2) SZ_.out)
        go_simp
        refine hK.out _ _ (FC.out _ (HN_.out.trans NX.out)) (fun hHeld => ?_)
        clear hK K
        try simp only [Act.put, List.setIfInBounds_toArray, List.set_cons_zero, List.set_cons_succ]
        rw [HG.out]
        exact L1001.out _ _ _ _ _ _ _ _ _ _ (HN_.out.trans NX.out) OX.out (DB_.out.nw NX.out) DG_.out (fun g hg e => by have h1 : some w.heap.size = some g := hg; injection h1 with h1; have := DL_.out; omega) _ (by kernel_rfl)
      refine AllReadyH.cons rfl (fun K hK => ?_) ?_
      · rw [if_pos (by rfl)]
        have NX := Lib.hid (Nw.new w (.cells Zr 2))
        have BX := Lib.hid (show Blk (w.alloc (.cells Zr 2)) w.heap.size Zl 2 by rw [← HZ.out]; exact Blk.new w Zl 2)
        go_simp
        refine hK.out _ _ (FC.out _ (HN_.out.trans NX.out)) (fun hHeld => ?_)
        clear hK K
        try simp only [Act.put, List.setIfInBounds_toArray, List.set_cons_zero, List.set_cons_succ]
        rw [HG.out]
        exact L0011.out _ _ _ _ _ _ _ _ _ _ (HN_.out.trans NX.out) BX.out (by first | exact SZ_.out | (rw [hbm]; exact SZ_.out)) (DB_.out.nw NX.out) DG_.out (fun e => by have := DL_.out; omega) _ (by kernel_rfl)
      refine AllReadyH.cons rfl (fun K hK => ?_) AllReadyH.nil
      rw [if_pos (by rfl)]
      have NX := Lib.hid (Nw.new w (.cells #[] 5))
      have OX := Lib.hid (own_weaken (own_empty w 5) SZ_.out)
      go_simp
      refine hK.out _ _ (FC.out _ (HN_.out.trans NX.out)) (fun hHeld => ?_)
      clear hK K
      try simp only [Act.put, List.setIfInBounds_toArray, List.set_cons_zero, List.set_cons_succ]
      rw [HG.out]
      exact L0101.out _ _ _ _ _ _ _ _ _ _ (HN_.out.trans NX.out) OX.out (DB_.out.nw NX.out) DG_.out (fun g hg e => by have h1 : some w.heap.size = some g := hg; injection h1 with h1; have := DL_.out; omega) _ (by kernel_rfl)
    have L0001 := Lib.hid key_
    clear key_
    have key_ : ∀ (u8 u55 u56 u58 u61 u63 u65 u66 : Value) (bm : Nat) (w : World) (hN : Nw w1 w) (mb : Blk w bm Zl 2) (mg : w1.heap.size ≤ bm) (lx : Array Bool) (hlx : lx = #[false, true, true, false, true, true, true, true, false, true, false, false, false, false]), G 7 lx { tmps := #[u0, u1, u2, u3, u4, u5, u6, u7, u8, u9, u10, u11, u12, u13, u14, u15, u16, u17, u18, u19, u20, u21, u22, u23, u24, u25, u26, u27, u28, u29, u30, u31, u32, u33, u34, u35, u36, u37, u38, u39, u40, u41, u42, u43, u44, u45, u46, u47, u48, u49, u50, u51, u52, u53, u54, u55, u56, .slice (some adc) nc cc, u58, .int .i64 (mn : Int), .slice (some ⟨bm, 0, none⟩) mn mn, u61, .int .i64 entry, u63, .slice xi ni ci, u65, u66, u67, u68, u69, u70, u71, u72, u73, u74, u75, u76, u77, u78, u79, u80, u81, u82, u83, u84, u85, u86], defers := [] } w := by
      intro u8 u55 u56 u58 u61 u63 u65 u66 bm w hN mb mg lx hlx
      subst hlx
      rw [← HG.out]
      have HN_ := Lib.hid hN
      have MB_ := Lib.hid mb
      have MG_ := Lib.hid mg
      have SZ_ := Lib.hid hN.size
      have ML_ := Lib.hid mb.lt
      clear hN mb mg
      refine wpAnyH_ready (rs := [0, 8, 12]) (by kernel_rfl) (by simp) ?_
      refine AllReadyH.cons rfl (fun K hK => ?_) ?_
      · rw [if_pos (by rfl)]
        have NX := Lib.hid (Nw.new w (.cells #[] 2))
        have OX := Lib.hid (own_weaken (own_empty w 2) SZ_.out)
        go_simp
        refine hK.out _ _ (FC.out _ (HN_.out.trans NX.out)) (fun hHeld => ?_)
        clear hK K
        try simp only [Act.put, List.setIfInBounds_toArray, List.set_cons_zero, List.set_cons_succ]
        rw [HG.out]
        exact L1010.out _ _ _ _ _ _ _ _ _ _ (HN_.out.trans NX.out) OX.out (MB_.out.nw NX.out) MG_.out (fun g hg e => by have h1 : some w.heap.size = some g := hg; injection h1 with h1; have := ML_.out; omega) _ (by kernel_rfl)
      refine AllReadyH.cons rfl (fun K hK => ?_) ?_
      · rw [if_pos (by rfl)]
        have NX := Lib.hid (Nw.new w (.cells #[] 5))
        have OX := Lib.hid (own_weaken (own_empty w 5) SZ_.out)
        go_simp
        refine hK.out _ _ (FC.out _ (HN_.out.trans NX.out)) (fun hHeld => ?_)
        clear hK K
        try simp only [Act.put, List.setIfInBounds_toArray, List.set_cons_zero, List.set_cons_succ]
        rw [HG.out]
        exact L0110.out _ _ _ _ _ _ _ _ _ _ (HN_.out.trans NX.out) OX.out (MB_.out.nw NX.out) MG_.out (fun g hg e => by have h1 : some w.heap.size = some g := hg; injection h1 with h1; have := ML_.out; omega) _ (by kernel_rfl)
      refine AllReadyH.cons rfl (fun K hK => ?_) AllReadyH.nil
      rw [if_pos (by rfl)]
      have NX := Lib.hid (Nw.new w (.cells #[.slice none 0 0, .slice none 0 0, .int .i64 0, .int .i64 0, .int .i64 0, .int .i64 0, .int .i64 0, .int .i64 0, .int .i64 0, .int .i64 0, .int .i64 0, .int .i64 0, .int .i64 0, .int .i64 0, .int .i64 0, .int .i64 0, .int .i64 0, .int .i64 0, .int .i64 0, .slice none 0 0, .int .i64 0, .int .i64 0, .int .i64 0, .slice none 0 0, .int .i64 0] 51))
      have BX := Lib.hid (Blk.new w [.slice none 0 0, .slice none 0 0, .int .i64 0, .int .i64 0, .int .i64 0, .int .i64 0, .int .i64 0, .int .i64 0, .int .i64 0, .int .i64 0, .int .i64 0, .int .i64 0, .int .i64 0, .int .i64 0, .int .i64 0, .int .i64 0, .int .i64 0, .int .i64 0, .int .i64 0, .slice none 0 0, .int .i64 0, .int .i64 0, .int .i64 0, .slice none 0 0, .int .i64 0] 51)
      go_simp
      refine hK.out _ _ (FC.out _ (HN_.out.trans NX.out)) (fun hHeld => ?_)
      clear hK K
      try simp only [Act.put, List.setIfInBounds_toArray, List.set_cons_zero, List.set_cons_succ]
      rw [HG.out]
      exact L0011.out _ _ _ _ _ _ _ _ _ _ (HN_.out.trans NX.out) (MB_.out.nw NX.out) MG_.out BX.out SZ_.out (fun e => by have := ML_.out; omega) _ (by kernel_rfl)
    have L0010 := Lib.hid key_
    clear key_
    have key_ : ∀ (u8 u55 u56 u58 u60 u61 u65 u66 : Value) (g2 : Nat) (w : World) (hN : Nw w1 w) (o2 : w.ownsRow w1.heap.size 5 1 (.slice (some ⟨g2, 0, none⟩) 0 0) 0 []) (lx : Array Bool) (hlx : lx = #[false, true, true, false, true, false, true, true, true, true, false, false, false, false]), G 7 lx { tmps := #[u0, u1, u2, u3, u4, u5, u6, u7, u8, u9, u10, u11, u12, u13, u14, u15, u16, u17, u18, u19, u20, u21, u22, u23, u24, u25, u26, u27, u28, u29, u30, u31, u32, u33, u34, u35, u36, u37, u38, u39, u40, u41, u42, u43, u44, u45, u46, u47, u48, u49, u50, u51, u52, u53, u54, u55, u56, .slice (some adc) nc cc, u58, .int .i64 (mn : Int), u60, u61, .int .i64 entry, .slice (some ⟨g2, 0, none⟩) 0 0, .slice xi ni ci, u65, u66, u67, u68, u69, u70, u71, u72, u73, u74, u75, u76, u77, u78, u79, u80, u81, u82, u83, u84, u85, u86], defers := [] } w := by
      intro u8 u55 u56 u58 u60 u61 u65 u66 g2 w hN o2 lx hlx
      subst hlx
      rw [← HG.out]
      have HN_ := Lib.hid hN
      have O2_ := Lib.hid o2
      have SZ_ := Lib.hid hN.size
      have TL_ := Lib.hid (fun g (h : Value.ownBlock (.slice (some ⟨g2, 0, none⟩) 0 0) = some g) => (o2.lt g h).2)
      clear hN o2
      refine wpAnyH_ready (rs := [0, 5, 12]) (by kernel_rfl) (by simp) ?_
      refine AllReadyH.cons rfl (fun K hK => ?_) ?_
      · rw [if_pos (by rfl)]
        have NX := Lib.hid (Nw.new w (.cells #[] 2))
        have OX := Lib.hid (own_weaken (own_empty w 2) SZ_.out)
        go_simp
        refine hK.out _ _ (FC.out _ (HN_.out.trans NX.out)) (fun hHeld => ?_)
        clear hK K
        try simp only [Act.put, List.setIfInBounds_toArray, List.set_cons_zero, List.set_cons_succ]
        rw [HG.out]
        exact L1100.out _ _ _ _ _ _ _ _ _ _ (HN_.out.trans NX.out) OX.out (own_kp O2_.out NX.out (fun _ _ x => x)) (fun g g' hg hg' e => by have h1 : some w.heap.size = some g := hg; injection h1 with h1; have := TL_.out g' hg'; omega) _ (by kernel_rfl)
      refine AllReadyH.cons rfl (fun K hK => ?_) ?_
      · rw [if_pos (by rfl)]
        have NX := Lib.hid (Nw.new w (.cells Zr 2))
        have BX := Lib.hid (show Blk (w.alloc (.cells Zr 2)) w.heap.size Zl 2 by rw [← HZ.out]; exact Blk.new w Zl 2)
        go_simp
        refine hK.out _ _ (FC.out _ (HN_.out.trans NX.out)) (fun hHeld => ?_)
        clear hK K
        try simp only [Act.put, List.setIfInBounds_toArray, List.set_cons_zero, List.set_cons_succ]
        rw [HG.out]
        exact L0110.out _ _ _ _ _ _ _ _ _ _ (HN_.out.trans NX.out) (own_kp O2_.out NX.out (fun _ _ x => x)) BX.out (by first | exact SZ_.out | (rw [hbm]; exact SZ_.out)) (fun g hg e => by have := TL_.out g hg; omega) _ (by kernel_rfl)
      refine AllReadyH.cons rfl (fun K hK => ?_) AllReadyH.nil
      rw [if_pos (by rfl)]
      have NX := Lib.hid (Nw.new w (.cells #[.slice none 0 0, .slice none 0 0, .int .i64 0, .int .i64 0, .int .i64 0, .int .i64 0, .int .i64 0, .int .i64 0, .int .i64 0, .int .i64 0, .int .i64 0, .int .i64 0, .int .i64 0, .int .i64 0, .int .i64 0, .int .i64 0, .int .i64 0, .int .i64 0, .int .i64 0, .slice none 0 0, .int .i64 0, .int .i64 0, .int .i64 0, .slice none 0 0, .int .i64 0] 51))
      have BX := Lib.hid (Blk.new w [.slice none 0 0, .slice none 0 0, .int .i64 0, .int .i64 0, .int .i64 0, .int .i64 0, .int .i64 0, .int .i64 0, .int .i64 0, .int .i64 0, .int .i64 0, .int .i64 0, .int .i64 0, .int .i64 0, .int .i64 0, .int .i64 0, .int .i64 0, .int .i64 0, .int .i64 0, .slice none 0 0, .int .i64 0, .int .i64 0, .int .i64 0, .slice none 0 0, .int .i64 0] 51)
      go_simp
      refine hK.out _ _ (FC.out _ (HN_.out.trans NX.out)) (fun hHeld => ?_)
      clear hK K
      try simp only [Act.put, List.setIfInBounds_toArray, List.set_cons_zero, List.set_cons_succ]
      rw [HG.out]
      exact L0101.out _ _ _ _ _ _ _ _ _ _ (HN_.out.trans NX.out) (own_kp O2_.out NX.out (fun _ _ x => x)) BX.out SZ_.out (fun g hg e => by have := TL_.out g hg; omega) _ (by kernel_rfl)
    have L0100 := Lib.hid key_
    clear key_
    have key_ : ∀ (u8 u56 u58 u60 u61 u63 u65 u66 : Value) (g1 : Nat) (w : World) (hN : Nw w1 w) (o1 : w.ownsRow w1.heap.size 2 1 (.slice (some ⟨g1, 0, none⟩) 0 0) 0 []) (lx : Array Bool) (hlx : lx = #[true, true, true, false, true, false, true, true, false, true, false, false, false, false]), G 7 lx { tmps := #[u0, u1, u2, u3, u4, u5, u6, u7, u8, u9, u10, u11, u12, u13, u14, u15, u16, u17, u18, u19, u20, u21, u22, u23, u24, u25, u26, u27, u28, u29, u30, u31, u32, u33, u34, u35, u36, u37, u38, u39, u40, u41, u42, u43, u44, u45, u46, u47, u48, u49, u50, u51, u52, u53, u54, .slice (some ⟨g1, 0, none⟩) 0 0, u56, .slice (some adc) nc cc, u58, .int .i64 (mn : Int), u60, u61, .int .i64 entry, u63, .slice xi ni ci, u65, u66, u67, u68, u69, u70, u71, u72, u73, u74, u75, u76, u77, u78, u79, u80, u81, u82, u83, u84, u85, u86], defers := [] } w := by
      intro u8 u56 u58 u60 u61 u63 u65 u66 g1 w hN o1 lx hlx
      subst hlx
      rw [← HG.out]
      have HN_ := Lib.hid hN
      have O1_ := Lib.hid o1
      have SZ_ := Lib.hid hN.size
      have RL_ := Lib.hid (fun g (h : Value.ownBlock (.slice (some ⟨g1, 0, none⟩) 0 0) = some g) => (o1.lt g h).2)
      clear hN o1
      refine wpAnyH_ready (rs := [3, 5, 8, 12]) (by kernel_rfl) (by simp) ?_
      refine AllReadyH.cons rfl (fun K hK => ?_) ?_
      · rw [if_pos (by rfl)]
        refine step_app (.tmp 55) (.tmp 57) 22 rfl w1.heap.size 2 it (.int .i64 0) 1 8 Try.underlying22 HI0.out HZ0.out HZ1.out HZ2.out rfl (by decide) _ 0 [] rfl O1_.out adc nc cc lc rfl HLC1.out (HCC.out w HN_.out) HONE.out H63.out HBY.out SZ_.out ?_
        intro x1 c1 w' ho hg hl
        rw [Nat.zero_add] at ho hl
        rw [List.nil_append] at ho
        have HG := Lib.hid hg
        have KX := Lib.hid (show Kp (fun x => x = g1) w w' from Kp.grown (S := fun x => x = g1) (Kp.refl _ w) hg (fun k hk _ => by have h1 : some g1 = some k := hk; injection h1 with h1; exact h1.symm))
        have NB := Lib.hid (show Nw w1 w' from Kp.trans HN_.out KX.out (fun x hx e => by have e : x = g1 := e; have := (O1_.out.lt g1 rfl).1; omega))
        have OX := Lib.hid ho
        have HX := Lib.hid (show ∀ g, (Value.slice x1 nc c1).ownBlock = some g → g = g1 ∨ g = w.heap.size from fun g hg => by rcases hl with e | e; exact .inl (by rw [e] at hg; injection hg with hg; exact hg.symm); exact .inr (by rw [e] at hg; injection hg with hg; exact hg.symm))
        clear ho hg hl HG
        simp only [Nat.zero_add]
        refine hK.out _ _ (FC.out _ NB.out) (fun hHeld => ?_)
        clear hK K
        try simp only [Act.put, List.setIfInBounds_toArray, List.set_cons_zero, List.set_cons_succ]
        rw [HG.out]
        exact L2000.out _ _ _ _ _ _ _ _ _ _ _ NB.out OX.out _ (by kernel_rfl)
      refine AllReadyH.cons rfl (fun K hK => ?_) ?_
      · rw [if_pos (by rfl)]
        have NX := Lib.hid (Nw.new w (.cells Zr 2))
        have BX := Lib.hid (show Blk (w.alloc (.cells Zr 2)) w.heap.size Zl 2 by rw [← HZ.out]; exact Blk.new w Zl 2)
        go_simp
        refine hK.out _ _ (FC.out _ (HN_.out.trans NX.out)) (fun hHeld => ?_)
        clear hK K
        try simp only [Act.put, List.setIfInBounds_toArray, List.set_cons_zero, List.set_cons_succ]
        rw [HG.out]
        exact L1010.out _ _ _ _ _ _ _ _ _ _ (HN_.out.trans NX.out) (own_kp O1_.out NX.out (fun _ _ x => x)) BX.out (by first | exact SZ_.out | (rw [hbm]; exact SZ_.out)) (fun g hg e => by have := RL_.out g hg; omega) _ (by kernel_rfl)
      refine AllReadyH.cons rfl (fun K hK => ?_) ?_
      · rw [if_pos (by rfl)]
        have NX := Lib.hid (Nw.new w (.cells #[] 5))
        have OX := Lib.hid (own_weaken (own_empty w 5) SZ_.out)
        go_simp
        refine hK.out _ _ (FC.out _ (HN_.out.trans NX.out)) (fun hHeld => ?_)
        clear hK K
        try simp only [Act.put, List.setIfInBounds_toArray, List.set_cons_zero, List.set_cons_succ]
        rw [HG.out]
        exact L1100.out _ _ _ _ _ _ _ _ _ _ (HN_.out.trans NX.out) (own_kp O1_.out NX.out (fun _ _ x => x)) OX.out (fun g g' hg hg' e => by have h1 : some w.heap.size = some g' := hg'; injection h1 with h1; have := RL_.out g hg; omega) _ (by kernel_rfl)
      refine AllReadyH.cons rfl (fun K hK => ?_) AllReadyH.nil
      rw [if_pos (by rfl)]
      have NX := Lib.hid (Nw.new w (.cells #[.slice none 0 0, .slice none 0 0, .int .i64 0, .int .i64 0, .int .i64 0, .int .i64 0, .int .i64 0, .int .i64 0, .int .i64 0, .int .i64 0, .int .i64 0, .int .i64 0, .int .i64 0, .int .i64 0, .int .i64 0, .int .i64 0, .int .i64 0, .int .i64 0, .int .i64 0, .slice none 0 0, .int .i64 0, .int .i64 0, .int .i64 0, .slice none 0 0, .int .i64 0] 51))
      have BX := Lib.hid (Blk.new w [.slice none 0 0, .slice none 0 0, .int .i64 0, .int .i64 0, .int .i64 0, .int .i64 0, .int .i64 0, .int .i64 0, .int .i64 0, .int .i64 0, .int .i64 0, .int .i64 0, .int .i64 0, .int .i64 0, .int .i64 0, .int .i64 0, .int .i64 0, .int .i64 0, .int .i64 0, .slice none 0 0, .int .i64 0, .int .i64 0, .int .i64 0, .slice none 0 0, .int .i64 0] 51)
      go_simp
      refine hK.out _ _ (FC.out _ (HN_.out.trans NX.out)) (fun hHeld => ?_)
      clear hK K
      try simp only [Act.put, List.setIfInBounds_toArray, List.set_cons_zero, List.set_cons_succ]
      rw [HG.out]
      exact L1001.out _ _ _ _ _ _ _ _ _ _ (HN_.out.trans NX.out) (own_kp O1_.out NX.out (fun _ _ x => x)) BX.out SZ_.out (fun g hg e => by have := RL_.out g hg; omega) _ (by kernel_rfl)
    have L1000 := Lib.hid key_
    clear key_
    have key_ : ∀ (u8 u55 u56 u58 u60 u61 u63 u65 u66 : Value)  (w : World) (hN : Nw w1 w) (lx : Array Bool) (hlx : lx = #[false, true, true, false, true, false, true, true, false, true, false, false, false, false]), G 8 lx { tmps := #[u0, u1, u2, u3, u4, u5, u6, u7, u8, u9, u10, u11, u12, u13, u14, u15, u16, u17, u18, u19, u20, u21, u22, u23, u24, u25, u26, u27, u28, u29, u30, u31, u32, u33, u34, u35, u36, u37, u38, u39, u40, u41, u42, u43, u44, u45, u46, u47, u48, u49, u50, u51, u52, u53, u54, u55, u56, .slice (some adc) nc cc, u58, .int .i64 (mn : Int), u60, u61, .int .i64 entry, u63, .slice xi ni ci, u65, u66, u67, u68, u69, u70, u71, u72, u73, u74, u75, u76, u77, u78, u79, u80, u81, u82, u83, u84, u85, u86], defers := [] } w := by
      intro u8 u55 u56 u58 u60 u61 u63 u65 u66  w hN lx hlx
      subst hlx
      rw [← HG.out]
      have HN_ := Lib.hid hN
      have SZ_ := Lib.hid hN.size
      clear hN
      refine wpAnyH_ready (rs := [0, 5, 8, 12]) (by kernel_rfl) (by simp) ?_
      refine AllReadyH.cons rfl (fun K hK => ?_) ?_
      · rw [if_pos (by rfl)]
        have NX := Lib.hid (Nw.new w (.cells #[] 2))
        have OX := Lib.hid (own_weaken (own_empty w 2) SZ_.out)
        go_simp
        refine hK.out _ _ (FC.out _ (HN_.out.trans NX.out)) (fun hHeld => ?_)
        clear hK K
        try simp only [Act.put, List.setIfInBounds_toArray, List.set_cons_zero, List.set_cons_succ]
        rw [HG.out]
        exact L1000.out _ _ _ _ _ _ _ _ _ _ (HN_.out.trans NX.out) OX.out _ (by kernel_rfl)
      refine AllReadyH.cons rfl (fun K hK => ?_) ?_
      · rw [if_pos (by rfl)]
        have NX := Lib.hid (Nw.new w (.cells Zr 2))
        have BX := Lib.hid (show Blk (w.alloc (.cells Zr 2)) w.heap.size Zl 2 by rw [← HZ.out]; exact Blk.new w Zl 2)
        go_simp
        refine hK.out _ _ (FC.out _ (HN_.out.trans NX.out)) (fun hHeld => ?_)
        clear hK K
        try simp only [Act.put, List.setIfInBounds_toArray, List.set_cons_zero, List.set_cons_succ]
        rw [HG.out]
        exact L0010.out _ _ _ _ _ _ _ _ _ _ (HN_.out.trans NX.out) BX.out (by first | exact SZ_.out | (rw [hbm]; exact SZ_.out)) _ (by kernel_rfl)
      refine AllReadyH.cons rfl (fun K hK => ?_) ?_
      · rw [if_pos (by rfl)]
        have NX := Lib.hid (Nw.new w (.cells #[] 5))
        have OX := Lib.hid (own_weaken (own_empty w 5) SZ_.out)
        go_simp
        refine hK.out _ _ (FC.out _ (HN_.out.trans NX.out)) (fun hHeld => ?_)
        clear hK K
        try simp only [Act.put, List.setIfInBounds_toArray, List.set_cons_zero, List.set_cons_succ]
        rw [HG.out]
        exact L0100.out _ _ _ _ _ _ _ _ _ _ (HN_.out.trans NX.out) OX.out _ (by kernel_rfl)
      refine AllReadyH.cons rfl (fun K hK => ?_) AllReadyH.nil
      rw [if_pos (by rfl)]
      have NX := Lib.hid (Nw.new w (.cells #[.slice none 0 0, .slice none 0 0, .int .i64 0, .int .i64 0, .int .i64 0, .int .i64 0, .int .i64 0, .int .i64 0, .int .i64 0, .int .i64 0, .int .i64 0, .int .i64 0, .int .i64 0, .int .i64 0, .int .i64 0, .int .i64 0, .int .i64 0, .int .i64 0, .int .i64 0, .slice none 0 0, .int .i64 0, .int .i64 0, .int .i64 0, .slice none 0 0, .int .i64 0] 51))
      have BX := Lib.hid (Blk.new w [.slice none 0 0, .slice none 0 0, .int .i64 0, .int .i64 0, .int .i64 0, .int .i64 0, .int .i64 0, .int .i64 0, .int .i64 0, .int .i64 0, .int .i64 0, .int .i64 0, .int .i64 0, .int .i64 0, .int .i64 0, .int .i64 0, .int .i64 0, .int .i64 0, .int .i64 0, .slice none 0 0, .int .i64 0, .int .i64 0, .int .i64 0, .slice none 0 0, .int .i64 0] 51)
      go_simp
      refine hK.out _ _ (FC.out _ (HN_.out.trans NX.out)) (fun hHeld => ?_)
      clear hK K
      try simp only [Act.put, List.setIfInBounds_toArray, List.set_cons_zero, List.set_cons_succ]
      rw [HG.out]
      exact L0001.out _ _ _ _ _ _ _ _ _ _ (HN_.out.trans NX.out) BX.out SZ_.out _ (by kernel_rfl)
    have L0000 := Lib.hid key_
    clear key_
    intro lx hlx u8 u55 u56 u58 u60 u61 u63 u65 u66
    exact L0000.out u8 u55 u56 u58 u60 u61 u63 u65 u66 _ (Nw.refl _).drew lx hlx
  case rest =>
    obtain ⟨p, bm, x1, x2, c1, c2, rfl, hbp, nm⟩ := hcut
    have BP := Lib.hid hbp
    have NM := Lib.hid nm
    have i1' := NM.out.nw.keeps i1
    have BQ5 := Lib.hid (BQ0.out.nw NM.out.nw)
    have hqp : ¬ p = q := fun e => by have h1 := NM.out.bp; have h2 := BQ0.out.lt; omega
    have hqm : ¬ bm = q := fun e => by have h1 := NM.out.bb; have h2 := BQ0.out.lt; omega
    have hbip : ¬ bi = p := fun e => by have h1 := NM.out.bp; have h2 := B0.out.lt; omega
    have hbim : ¬ bi = bm := fun e => by have h1 := NM.out.bb; have h2 := B0.out.lt; omega
    have hmp := NM.out.hmp
    have hpm : ¬ p = bm := fun e => hmp e.symm
    have B05 := Lib.hid (B0.out.nw NM.out.nw)
    clear hbp nm i0 i1 i2 i1'
    obtain ⟨dl, hdl⟩ : ∃ dl, dl = data := ⟨_, rfl⟩
    have HDL := Lib.hid hdl
    have HDN := Lib.hid (show dl.length = nd by rw [hdl, HND.out])
    have HW1 := Lib.hid (show ∀ b, R b → b < w1.heap.size from fun b hb => by have h1 := HRL.out b hb; have h2 := N0.out.size; have h3 := HBI0.out; omega)
    have HDW := Lib.hid (show WordsR R wc (.slice xd nd cd) dl from by rw [hdl]; exact HDA.out.kp (N0.out.trans NM.out.nw) (fun _ _ x => x))
    have HDC := Lib.hid (fun (wz : World) (kz : Kp (fun x => x = bm) wc wz) (j : Nat) (hj : j < nd) => (show ∃ bd od, xd = some ⟨bd, od, none⟩ ∧ bd ≠ bm ∧ bd ≠ p ∧ wz.cell? ⟨bd, od + j, none⟩ = some (.int .i64 (dl.getD j 0)) from by
      obtain ⟨x, cap, e, _, _, hc⟩ := HDW.out
      injection e with e1 e2 e3
      have hjl : j < dl.length := by rw [HDN.out]; exact hj
      obtain ⟨bd, od, e, hR, hcc⟩ := hc (by intro e; rw [e] at hjl; simp at hjl)
      have h1 := HW1.out bd hR
      have hbm : bd ≠ bm := fun e => by have := NM.out.bb; omega
      have hbp : bd ≠ p := fun e => by have := NM.out.bp; omega
      refine ⟨bd, od, e1.trans e, hbm, hbp, kz.keeps ?_ hbm⟩
      rw [hcc j hjl]
      simp [List.getD_eq_getElem?_getD, List.getElem?_eq_getElem hjl]))
    have hnd16 : nd ≤ 16384 := h3
    have hmn6 : (nd : Int) ≤ (mn : Int) := h6
    have hmn7 : (mn : Int) ≤ 262144 := h7
    have MB0 := Lib.hid (show MemAt wc bm (dl.take 0 ++ List.replicate (mn - 0) 0) from ⟨2, by
      have := NM.out.mem
      rw [HZL.out] at this
      simpa using this⟩)
    clear hdl d1 d2 d3 d4 d5 d6 d7 d8 q1 q2 q3 q8 h1 h2 h3 h4 h5 h6 h7 h8
    go_upto_region 7 with fail
    go_loopw [9] (fun i wr => ∃ j : Nat, i = .int .i64 (j : Int) ∧ j ≤ nd ∧ MemAt wr bm (dl.take j ++ List.replicate (mn - j) 0) ∧ Kp (fun x => x = bm) wc wr) (fun i _ => nd - (intOf i).toNat)
    case atStart => exact ⟨0, rfl, Nat.zero_le _, MB0.out, Kp.refl _ _⟩
    case round =>
      obtain ⟨j, rfl, hj, hmj, hkj⟩ := hrel
      have MJ := Lib.hid hmj
      have KJ := Lib.hid hkj
      have B0J := Lib.hid (B05.out.kp hkj hbim)
      have BPJ := Lib.hid (BP.out.kp hkj hpm)
      have BQJ := Lib.hid (BQ5.out.kp hkj (fun e => hqm e.symm))
      clear hmj hkj
      have i1 := B0J.out.cell 1
      have k1 := BPJ.out.cell 1
      simp only [mcs, List.getElem?_cons_zero, List.getElem?_cons_succ] at i1 k1
      by_cases hjn : j < nd
      · obtain ⟨bd, od, hxd, hdm, hdp, cd0⟩ := HDC.out wr KJ.out j hjn
        subst hxd
        have hq0 : (0 : Int) ≤ (j : Int) := by omega
        have hq1 : (j : Int) < (nd : Int) := by omega
        have hq2 : (j : Int) < (mn : Int) := by omega
        have hjl : j < (dl.take j ++ List.replicate (mn - j) 0).length := by
          rw [List.length_append, List.length_take, List.length_replicate, HDN.out]; omega
        have cm := MJ.out.cell hjl
        have zm := MJ.out.frozen j
        generalize (dl.take j ++ List.replicate (mn - j) 0).getD j 0 = om at cm
        generalize hdv : dl.getD j 0 = dv at *
        have NXT := Lib.hid (show MemAt (wr.setCell ⟨bm, j, none⟩ (.int .i64 dv)) bm (dl.take (j + 1) ++ List.replicate (mn - (j + 1)) 0) from by
          have h1 := MJ.out.set j dv
          have e : (dl.take j ++ List.replicate (mn - j) 0).set j dv = dl.take (j + 1) ++ List.replicate (mn - (j + 1)) 0 := by
            have hjl2 : j < dl.length := by rw [HDN.out]; exact hjn
            have hlen : (dl.take j).length = j := by rw [List.length_take]; omega
            rw [List.set_append_right _ _ (by omega), hlen, Nat.sub_self, show mn - j = (mn - (j + 1)) + 1 by omega, List.replicate_succ, List.set_cons_zero, List.take_succ_eq_append_getElem hjl2, List.append_assoc]
            congr 1
            rw [← hdv]
            simp [List.getD_eq_getElem?_getD, List.getElem?_eq_getElem hjl2]
          rw [e] at h1
          exact h1)
        have KN := Lib.hid (Kp.setCell (S := fun x => x = bm) KJ.out (p := ⟨bm, j, none⟩) (fun _ => rfl) (.int .i64 dv))
        clear hjl hdv
        go_wp2_with fail
        go_region
        have NX2 := Lib.hid (NXT.out.nw (Nw.refl _).drew)
        have KN2 := Lib.hid KN.out.drew
        clear cm zm i1 k1 cd0
        generalize (wr.setCell ⟨bm, j, none⟩ (.int .i64 dv)).drew = wn at *
        go_wp2_with fail
        go_roundw
        case rel => exact ⟨j + 1, by go_num, by omega, NX2.out, KN2.out⟩
        case measure => simp [intOf]; omega
      · obtain rfl : j = nd := by omega
        have k17 := BPJ.out.cell 17
        have z17 := BPJ.out.frozen 17
        simp only [mcs, List.getElem?_cons_zero, List.getElem?_cons_succ] at k17
        have B8 := Lib.hid (show Blk (wr.setCell ⟨p, 17, none⟩ (.int .i64 (mn : Int))) p (mcs (.slice x1 nc c1) (.slice (some ⟨bm, 0, none⟩) mn mn) (.int .i64 (mn : Int)) (.int .i64 entry) (.slice x2 ni c2)) 51 from BPJ.out.set 17 (.int .i64 (mn : Int)))
        have BQ8 := Lib.hid (BQJ.out.setOther (a := ⟨p, 17, none⟩) (fun e => hqp e.symm) (.int .i64 (mn : Int)))
        have M8 := Lib.hid (MJ.out.setOther (a := ⟨p, 17, none⟩) hmp (.int .i64 (mn : Int)))
        have K8 := Lib.hid (Kp.setCell (S := fun x => x = bm ∨ x = p) (KJ.out.mono (fun _ _ x => .inl x)) (p := ⟨p, 17, none⟩) (fun _ => .inr rfl) (.int .i64 (mn : Int)))
        go_upto_region 11 with fail
        clear k17 z17 i1 k1
        generalize wr.setCell ⟨p, 17, none⟩ (.int .i64 (mn : Int)) = w8 at *
        have FB := Lib.hid (Blk.over BQ8.out (mcs (.slice x1 nc c1) (.slice (some ⟨bm, 0, none⟩) mn mn) (.int .i64 (mn : Int)) (.int .i64 entry) (.slice x2 ni c2)) rfl)
        have KQ := Lib.hid ((Kp.refl (fun x => x = q) w8).sets (b := q) (fun _ => rfl) 0 (mcs (.slice x1 nc c1) (.slice (some ⟨bm, 0, none⟩) mn mn) (.int .i64 (mn : Int)) (.int .i64 entry) (.slice x2 ni c2)))
        have KT := Lib.hid (show Kp (fun x => x = bm ∨ x = p ∨ x = q) wc (lays w8 q 0 (mcs (.slice x1 nc c1) (.slice (some ⟨bm, 0, none⟩) mn mn) (.int .i64 (mn : Int)) (.int .i64 entry) (.slice x2 ni c2))) from Kp.trans (K8.out.mono (fun _ _ x => x.elim .inl (fun x => .inr (.inl x)))) (KQ.out.mono (fun _ _ x => .inr (.inr x))) (fun _ _ x => x))
        have hq1 : w1.heap.size = w.heap.size + 2 ∨ True := .inr trivial
        have FIN := Lib.hid (show NewV w (lays w8 q 0 (mcs (.slice x1 nc c1) (.slice (some ⟨bm, 0, none⟩) mn mn) (.int .i64 (mn : Int)) (.int .i64 entry) (.slice x2 ni c2))) code data (mn : Int) inp bm x1 x2 c1 c2 from by
          have hqw : q < w1.heap.size := BQ0.out.lt
          have hcl : (Value.slice x1 code.length c1) = Value.slice x1 nc c1 := by rw [HNC.out]
          have hil : (Value.slice x2 inp.length c2) = Value.slice x2 ni c2 := by rw [HNI.out]
          have hne : ∀ g, (w1.heap.size ≤ g) → g ≠ bm ∧ g ≠ p → ¬ (g = bm ∨ g = p ∨ g = q) := fun g h1 h2 e => by rcases e with e | e | e; exact h2.1 e; exact h2.2 e; omega
          refine ⟨?_, ?_, ?_, ?_, ?_, Nat.le_trans N0.out.size NM.out.bb, ?_⟩
          · have h1 := M8.out.kp KQ.out hqm
            have e : (Ms.new code data 0 (mn : Int) inp).mem = dl.take j ++ List.replicate (mn - j) 0 := by
              show data ++ List.replicate ((mn : Int).toNat - data.length) 0 = _
              rw [HDL.out, ← HND.out, List.take_of_length_le (by rw [← HND.out]; exact Nat.le_refl _)]
              simp
            rw [e]; exact h1
          · rw [hcl, ← HNC.out, ← HLC.out]
            exact own_weaken (own_kp NM.out.code KT.out (fun g hg e => hne g (NM.out.code.lt g hg).1 ⟨(NM.out.cp g hg).2, (NM.out.cp g hg).1⟩ e)) N0.out.size
          · rw [hil, ← HNI.out, ← HLI.out]
            exact own_weaken (own_kp NM.out.inp KT.out (fun g hg e => hne g (NM.out.inp.lt g hg).1 ⟨(NM.out.ip g hg).2, (NM.out.ip g hg).1⟩ e)) N0.out.size
          · rw [hcl]; exact fun g hg => (NM.out.cp g hg).2
          · rw [hil]; exact fun g hg => (NM.out.ip g hg).2
          · exact Kp.trans (N0.out.trans NM.out.nw) KT.out (fun x hx e => by have h1 := NM.out.bb; have h2 := NM.out.bp; have h3 := HQ.out; have h4 := N0.out.size; have h5 := HBI0.out; rcases e with e | e | e <;> omega))
        have E1 := Lib.hid (mcs_there BQ8.out rfl (.slice x1 nc c1) (.slice (some ⟨bm, 0, none⟩) mn mn) (.int .i64 (mn : Int)) (.int .i64 entry) (.slice x2 ni c2))
        have HONE2 := Lib.hid (mcs_one (.slice x1 nc c1) (.slice (some ⟨bm, 0, none⟩) mn mn) (.int .i64 (mn : Int)) (.int .i64 entry) (.slice x2 ni c2) rfl rfl rfl rfl rfl)
        have D1 := Lib.hid (B8.out.range)
        have FIN2 := Lib.hid (show ∀ wf, wf = lays w8 q 0 (mcs (.slice x1 nc c1) (.slice (some ⟨bm, 0, none⟩) mn mn) (.int .i64 (mn : Int)) (.int .i64 entry) (.slice x2 ni c2)) → Blk wf q (mcs (.slice x1 nc c1) (.slice (some ⟨bm, 0, none⟩) mn mn) (.int .i64 (mn : Int)) (.int .i64 entry) (.slice x2 ni c2)) 51 ∧ NewV w wf code data (mn : Int) inp bm x1 x2 c1 c2 from fun wf e => by rw [e]; exact ⟨FB.out, FIN.out⟩)
        clear FIN FB KQ KT B8 BQ8 M8 K8
        obtain ⟨cs, hcs⟩ : ∃ cs, cs = (mcs (.slice x1 nc c1) (.slice (some ⟨bm, 0, none⟩) mn mn) (.int .i64 (mn : Int)) (.int .i64 entry) (.slice x2 ni c2)) := ⟨_, rfl⟩
        rw [← hcs] at E1 HONE2 D1 FIN2
        have HSZ := Lib.hid (show (Try.prog.info? 51).map (·.size) = some cs.length by rw [hcs]; exact mcs_infol _ _ _ _ _)
        have HSY := Lib.hid (show (Try.prog.info? 51).map (·.size) = some cs.toArray.size by rw [hcs]; exact mcs_info _ _ _ _ _)
        have HCS := Lib.hid hcs
        have HCL := Lib.hid (show cs.length = 25 by rw [hcs]; rfl)
        clear hcs
        go_wp2_with (refine wpList_load_mid rfl 51 (.tmp 8) rfl p 0 rfl _ _ D1.out Try.underlying51 rfl HSZ.out ?_; (simp only [Act.put, List.setIfInBounds_toArray, List.set_cons_zero, List.set_cons_succ]); refine wpList_store_mid rfl 51 (.tmp 6) (.tmp 86) rfl q 0 _ rfl rfl E1.out HSY.out HONE2.out ?_; rw [setCells_lays, toL]; (simp only [Act.put, List.setIfInBounds_toArray, List.set_cons_zero, List.set_cons_succ]); (generalize hwf : lays w8 q 0 cs = wf); obtain ⟨hb9, hn9⟩ := FIN2.out wf hwf.symm; have FB := Lib.hid hb9; have FIN := Lib.hid hn9; clear hwf hb9 hn9 FIN2 HONE2)
        refine bodyPost_ret (v := .tuple #[.agg cs.toArray, .int .i64 0]) (dnew_res rfl rfl FB.out HCL.out) rfl ?_
        exact ⟨bm, x1, c1, x2, c2, by rw [HCS.out]; rfl, FIN.out⟩
end Go.Proofs.Ythlcoocboidnlaa
