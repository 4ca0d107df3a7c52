/- mach.New: the machine is made. -/
import Derived.Test.YthlcoocboidnlaaMach11
namespace Go.Proofs.Ythlcoocboidnlaa
open Go.RowKit
set_option linter.unusedSimpArgs false
set_option linter.unusedVariables false

theorem made_zeros (n : Nat) : (List.replicate n (Value.int .i64 0)).toArray = madeCells (Value.int .i64 0).cells (n * 1) := by
  apply Array.ext
  · simp [madeCells]
  · intro i h1 h2
    simp [madeCells, Value.cells, Nat.mod_one]
/-- the parts of a new machine, ahead of its data -/
structure NewM (w1 wx : World) (p bm mn nc ni : Nat) (x1 x2 : Option Addr) (c1 c2 : Nat) (lc lm : List Value) (li : List UInt8) : Prop where
  mem : Blk wx bm lm 2
  code : wx.ownsRow w1.heap.size 2 1 (.slice x1 nc c1) nc lc
  inp : wx.ownsRow w1.heap.size 5 1 (.slice x2 ni c2) ni (byteV li)
  hmp : bm ≠ p
  cp : ∀ g, (Value.slice x1 nc c1).ownBlock = some g → g ≠ p ∧ g ≠ bm
  ip : ∀ g, (Value.slice x2 ni c2).ownBlock = some g → g ≠ p ∧ g ≠ bm
  bp : w1.heap.size ≤ p
  bb : w1.heap.size ≤ bm
  nw : Nw w1 wx

theorem new_fin {w w1 wc w2 w3 : World} {p bm mn nc ni nd bi : Nat} {x1 x2 : Option Addr} {c1 c2 : Nat} {entry : Int} {lc Zl dc : List Value} {li : List UInt8} {code data : List Int} {inp : List UInt8}
    (hw0 : w.heap.size < w1.heap.size) (fw : Nw w w1) (nm : NewM w1 wc p bm mn nc ni x1 x2 c1 c2 lc Zl li) (bp : Blk wc p [.slice x1 nc c1, .slice (some ⟨bm, 0, none⟩) mn mn, .int .i64 0, .int .i64 0, .int .i64 0, .int .i64 0, .int .i64 0, .int .i64 0, .int .i64 0, .int .i64 0, .int .i64 0, .int .i64 0, .int .i64 0, .int .i64 0, .int .i64 0, .int .i64 0, .int .i64 0, .int .i64 0, .int .i64 entry, .slice x2 ni c2, .slice none 0 0, .int .i64 0, .int .i64 0, .int .i64 0, .slice none 0 0] 63)
    (b2 : Blk w2 bm (splice Zl 0 dc) 2) (k2 : Kp (fun x => x = bm) wc.drew w2) (bp3 : Blk w3 p (List.set [.slice x1 nc c1, .slice (some ⟨bm, 0, none⟩) mn mn, .int .i64 0, .int .i64 0, .int .i64 0, .int .i64 0, .int .i64 0, .int .i64 0, .int .i64 0, .int .i64 0, .int .i64 0, .int .i64 0, .int .i64 0, .int .i64 0, .int .i64 0, .int .i64 0, .int .i64 0, .int .i64 0, .int .i64 entry, .slice x2 ni c2, .slice none 0 0, .int .i64 0, .int .i64 0, .int .i64 0, .slice none 0 0] 17 (.int .i64 (mn : Int))) 63) (k3 : Kp (fun x => x = p) w2 w3)
    (hlc : lc = code.map (Value.int .i64)) (hli : li = inp) (hzl : Zl = List.replicate mn (Value.int .i64 0)) (hdc : dc = data.map (Value.int .i64)) (hnc : nc = code.length) (hnd : nd = data.length) (hni : ni = inp.length)
    (h2 : nc ≤ 65536) (h7 : mn ≤ 262144) (h8 : ni ≤ 4096) (h6 : nd ≤ mn) (h6' : (nd : Int) ≤ (mn : Int)) (hci : ∀ v ∈ code, -9223372036854775808 ≤ v ∧ v ≤ 9223372036854775807) :
    MAtL w.heap.size (fun x => (Value.slice x1 nc c1).ownBlock = some x ∨ (Value.slice x2 ni c2).ownBlock = some x ∨ x = w3.heap.size)
      ((w3.setCell ⟨p, 24, none⟩ (.slice (some ⟨w3.heap.size, 0, none⟩) 16 16)).alloc (.cells #[.func (.func 33) #[.pointer (some ⟨p, 0, none⟩)] #[], .func (.func 34) #[.pointer (some ⟨p, 0, none⟩)] #[], .func (.func 35) #[.pointer (some ⟨p, 0, none⟩)] #[], .func (.func 36) #[.pointer (some ⟨p, 0, none⟩)] #[], .func (.func 37) #[.pointer (some ⟨p, 0, none⟩)] #[], .func (.func 38) #[.pointer (some ⟨p, 0, none⟩)] #[], .func (.func 39) #[.pointer (some ⟨p, 0, none⟩)] #[], .func (.func 40) #[.pointer (some ⟨p, 0, none⟩)] #[], .func (.func 41) #[.pointer (some ⟨p, 0, none⟩)] #[], .func (.func 42) #[.pointer (some ⟨p, 0, none⟩)] #[], .func (.func 43) #[.pointer (some ⟨p, 0, none⟩)] #[], .func (.func 44) #[.pointer (some ⟨p, 0, none⟩)] #[], .func (.func 45) #[.pointer (some ⟨p, 0, none⟩)] #[], .func (.func 46) #[.pointer (some ⟨p, 0, none⟩)] #[], .func (.func 47) #[.pointer (some ⟨p, 0, none⟩)] #[], .func (.func 48) #[.pointer (some ⟨p, 0, none⟩)] #[]] 64)) p ⟨.slice x1 nc c1, .slice x2 ni c2, .slice none 0 0, .slice (some ⟨w3.heap.size, 0, none⟩) 16 16, bm, mn⟩ (Ms.new code data entry (mn : Int) inp) ∧
    Nw w ((w3.setCell ⟨p, 24, none⟩ (.slice (some ⟨w3.heap.size, 0, none⟩) 16 16)).alloc (.cells #[.func (.func 33) #[.pointer (some ⟨p, 0, none⟩)] #[], .func (.func 34) #[.pointer (some ⟨p, 0, none⟩)] #[], .func (.func 35) #[.pointer (some ⟨p, 0, none⟩)] #[], .func (.func 36) #[.pointer (some ⟨p, 0, none⟩)] #[], .func (.func 37) #[.pointer (some ⟨p, 0, none⟩)] #[], .func (.func 38) #[.pointer (some ⟨p, 0, none⟩)] #[], .func (.func 39) #[.pointer (some ⟨p, 0, none⟩)] #[], .func (.func 40) #[.pointer (some ⟨p, 0, none⟩)] #[], .func (.func 41) #[.pointer (some ⟨p, 0, none⟩)] #[], .func (.func 42) #[.pointer (some ⟨p, 0, none⟩)] #[], .func (.func 43) #[.pointer (some ⟨p, 0, none⟩)] #[], .func (.func 44) #[.pointer (some ⟨p, 0, none⟩)] #[], .func (.func 45) #[.pointer (some ⟨p, 0, none⟩)] #[], .func (.func 46) #[.pointer (some ⟨p, 0, none⟩)] #[], .func (.func 47) #[.pointer (some ⟨p, 0, none⟩)] #[], .func (.func 48) #[.pointer (some ⟨p, 0, none⟩)] #[]] 64)) ∧
    (∀ x, ((Value.slice x1 nc c1).ownBlock = some x ∨ (Value.slice x2 ni c2).ownBlock = some x ∨ x = w3.heap.size) → w.heap.size ≤ x) := by
  subst hlc hli hzl hdc hnc hnd hni
  obtain ⟨w4, hw4⟩ : ∃ w4, w4 = (w3.setCell ⟨p, 24, none⟩ (.slice (some ⟨w3.heap.size, 0, none⟩) 16 16)).alloc (.cells #[.func (.func 33) #[.pointer (some ⟨p, 0, none⟩)] #[], .func (.func 34) #[.pointer (some ⟨p, 0, none⟩)] #[], .func (.func 35) #[.pointer (some ⟨p, 0, none⟩)] #[], .func (.func 36) #[.pointer (some ⟨p, 0, none⟩)] #[], .func (.func 37) #[.pointer (some ⟨p, 0, none⟩)] #[], .func (.func 38) #[.pointer (some ⟨p, 0, none⟩)] #[], .func (.func 39) #[.pointer (some ⟨p, 0, none⟩)] #[], .func (.func 40) #[.pointer (some ⟨p, 0, none⟩)] #[], .func (.func 41) #[.pointer (some ⟨p, 0, none⟩)] #[], .func (.func 42) #[.pointer (some ⟨p, 0, none⟩)] #[], .func (.func 43) #[.pointer (some ⟨p, 0, none⟩)] #[], .func (.func 44) #[.pointer (some ⟨p, 0, none⟩)] #[], .func (.func 45) #[.pointer (some ⟨p, 0, none⟩)] #[], .func (.func 46) #[.pointer (some ⟨p, 0, none⟩)] #[], .func (.func 47) #[.pointer (some ⟨p, 0, none⟩)] #[], .func (.func 48) #[.pointer (some ⟨p, 0, none⟩)] #[]] 64) := ⟨_, rfl⟩
  have bp4 : Blk w4 p (List.set (List.set [.slice x1 code.length c1, .slice (some ⟨bm, 0, none⟩) mn mn, .int .i64 0, .int .i64 0, .int .i64 0, .int .i64 0, .int .i64 0, .int .i64 0, .int .i64 0, .int .i64 0, .int .i64 0, .int .i64 0, .int .i64 0, .int .i64 0, .int .i64 0, .int .i64 0, .int .i64 0, .int .i64 0, .int .i64 entry, .slice x2 li.length c2, .slice none 0 0, .int .i64 0, .int .i64 0, .int .i64 0, .slice none 0 0] 17 (.int .i64 (mn : Int))) 24 (.slice (some ⟨w3.heap.size, 0, none⟩) 16 16)) 63 := by rw [hw4]; exact (bp3.set 24 _).alloc _
  have bf : Blk w4 w3.heap.size [.func (.func 33) #[.pointer (some ⟨p, 0, none⟩)] #[], .func (.func 34) #[.pointer (some ⟨p, 0, none⟩)] #[], .func (.func 35) #[.pointer (some ⟨p, 0, none⟩)] #[], .func (.func 36) #[.pointer (some ⟨p, 0, none⟩)] #[], .func (.func 37) #[.pointer (some ⟨p, 0, none⟩)] #[], .func (.func 38) #[.pointer (some ⟨p, 0, none⟩)] #[], .func (.func 39) #[.pointer (some ⟨p, 0, none⟩)] #[], .func (.func 40) #[.pointer (some ⟨p, 0, none⟩)] #[], .func (.func 41) #[.pointer (some ⟨p, 0, none⟩)] #[], .func (.func 42) #[.pointer (some ⟨p, 0, none⟩)] #[], .func (.func 43) #[.pointer (some ⟨p, 0, none⟩)] #[], .func (.func 44) #[.pointer (some ⟨p, 0, none⟩)] #[], .func (.func 45) #[.pointer (some ⟨p, 0, none⟩)] #[], .func (.func 46) #[.pointer (some ⟨p, 0, none⟩)] #[], .func (.func 47) #[.pointer (some ⟨p, 0, none⟩)] #[], .func (.func 48) #[.pointer (some ⟨p, 0, none⟩)] #[]] 64 := by
    have := Blk.new (w3.setCell ⟨p, 24, none⟩ (.slice (some ⟨w3.heap.size, 0, none⟩) 16 16)) [.func (.func 33) #[.pointer (some ⟨p, 0, none⟩)] #[], .func (.func 34) #[.pointer (some ⟨p, 0, none⟩)] #[], .func (.func 35) #[.pointer (some ⟨p, 0, none⟩)] #[], .func (.func 36) #[.pointer (some ⟨p, 0, none⟩)] #[], .func (.func 37) #[.pointer (some ⟨p, 0, none⟩)] #[], .func (.func 38) #[.pointer (some ⟨p, 0, none⟩)] #[], .func (.func 39) #[.pointer (some ⟨p, 0, none⟩)] #[], .func (.func 40) #[.pointer (some ⟨p, 0, none⟩)] #[], .func (.func 41) #[.pointer (some ⟨p, 0, none⟩)] #[], .func (.func 42) #[.pointer (some ⟨p, 0, none⟩)] #[], .func (.func 43) #[.pointer (some ⟨p, 0, none⟩)] #[], .func (.func 44) #[.pointer (some ⟨p, 0, none⟩)] #[], .func (.func 45) #[.pointer (some ⟨p, 0, none⟩)] #[], .func (.func 46) #[.pointer (some ⟨p, 0, none⟩)] #[], .func (.func 47) #[.pointer (some ⟨p, 0, none⟩)] #[], .func (.func 48) #[.pointer (some ⟨p, 0, none⟩)] #[]] 64
    rw [hw4]
    have e : (w3.setCell ⟨p, 24, none⟩ (.slice (some ⟨w3.heap.size, 0, none⟩) 16 16)).heap.size = w3.heap.size := by simp [World.setCell]
    rw [e] at this
    exact this
  have k4 : Kp (fun x => x = p) w3 w4 := by rw [hw4]; exact (set_kp (p := p) (Nw.refl w3) 24 _).alloc _
  have kd : Nw wc wc.drew := (Nw.refl wc).drew
  have k24 : Kp (fun x => x = p) w2 w4 := k3.trans k4 (fun _ _ x => x)
  have kc4 : Kp (fun x => x = p ∨ x = bm) wc w4 := ((Kp.mono kd (fun _ _ x => x.elim)).trans (Kp.mono k2 (fun _ _ x => .inr x)) (fun _ _ x => x)).trans (Kp.mono k24 (fun _ _ x => .inl x)) (fun _ _ x => x)
  have s1 : w1.heap.size ≤ wc.heap.size := nm.nw.size
  have s4 : wc.heap.size ≤ w3.heap.size := Nat.le_trans k2.size k3.size
  have s5 : w3.heap.size < w4.heap.size := bf.lt
  have ml : (Ms.new code data entry (mn : Int) li).mem.length = mn := by
    show (data ++ List.replicate ((mn : Int).toNat - data.length) 0).length = mn
    simp; omega
  rw [← hw4]
  refine ⟨⟨⟨?_, rfl⟩, ?_, by rw [ml]; exact h7, nm.hmp, ⟨rfl, .inl ⟨rfl, rfl⟩⟩, Nat.zero_le _, by simp [Value.ownBlock], by simp [Value.ownBlock], ?_, ?_, h2, hci, ?_, ?_, Nat.le_trans (Nat.le_of_lt hw0) nm.bp, Nat.le_trans (Nat.le_of_lt hw0) nm.bb⟩, ?_, ?_⟩
  · have : (mcOf ⟨.slice x1 code.length c1, .slice x2 li.length c2, .slice none 0 0, .slice (some ⟨w3.heap.size, 0, none⟩) 16 16, bm, mn⟩ (Ms.new code data entry (mn : Int) li)).cells =
        List.set (List.set [.slice x1 code.length c1, .slice (some ⟨bm, 0, none⟩) mn mn, .int .i64 0, .int .i64 0, .int .i64 0, .int .i64 0, .int .i64 0, .int .i64 0, .int .i64 0, .int .i64 0, .int .i64 0, .int .i64 0, .int .i64 0, .int .i64 0, .int .i64 0, .int .i64 0, .int .i64 0, .int .i64 0, .int .i64 entry, .slice x2 li.length c2, .slice none 0 0, .int .i64 0, .int .i64 0, .int .i64 0, .slice none 0 0] 17 (.int .i64 (mn : Int))) 24 (.slice (some ⟨w3.heap.size, 0, none⟩) 16 16) := by
      unfold mcOf Mc.cells Mc.tail
      rw [ml]
      rfl
    rw [this]
    exact bp4
  · have e : splice (List.replicate mn (Value.int .i64 0)) 0 (data.map (Value.int .i64)) = (Ms.new code data entry (mn : Int) li).mem.map (Value.int .i64) := by
      show _ = (data ++ List.replicate ((mn : Int).toNat - data.length) 0).map (Value.int .i64)
      simp [splice]
    exact ⟨_, by rw [← e]; exact b2.kp k24 nm.hmp⟩
  · rintro x (hx | hx | hx)
    · have a := nm.code.lt x hx
      have b := nm.cp x hx
      exact ⟨by omega, b.1, b.2, by simp [Value.ownBlock]⟩
    · have a := nm.inp.lt x hx
      have b := nm.ip x hx
      exact ⟨by omega, b.1, b.2, by simp [Value.ownBlock]⟩
    · have a := bp.lt
      have b := nm.mem.lt
      have hx : x = w3.heap.size := hx
      have hbm : x ≠ bm := by omega
      exact ⟨by omega, by omega, hbm, by simp [Value.ownBlock]⟩
  · exact own_wordsR (own_kp nm.code kc4 (fun g hg e => by have := nm.cp g hg; rcases e with e | e; exact this.1 e; exact this.2 e)) (fun g hg => .inl hg)
  · exact own_bytesR (own_kp nm.inp kc4 (fun g hg e => by have := nm.ip g hg; rcases e with e | e; exact this.1 e; exact this.2 e)) (fun g hg => .inr (.inl hg))
  · refine ⟨w3.heap.size, 0, rfl, .inr (.inr rfl), fun i hi => ?_⟩
    rw [Nat.zero_add, bf.cell]
    have hcase : i = 0 ∨ i = 1 ∨ i = 2 ∨ i = 3 ∨ i = 4 ∨ i = 5 ∨ i = 6 ∨ i = 7 ∨ i = 8 ∨ i = 9 ∨ i = 10 ∨ i = 11 ∨ i = 12 ∨ i = 13 ∨ i = 14 ∨ i = 15 := by omega
    rcases hcase with rfl | rfl | rfl | rfl | rfl | rfl | rfl | rfl | rfl | rfl | rfl | rfl | rfl | rfl | rfl | rfl <;> rfl
  · exact Kp.trans (fw.trans nm.nw) kc4 (fun x hx e => by have := nm.bp; have := nm.bb; rcases e with e | e <;> omega)
  · rintro x (hx | hx | hx)
    · have a := nm.code.lt x hx
      omega
    · have a := nm.inp.lt x hx
      omega
    · omega

set_option maxRecDepth 100000 in
set_option maxHeartbeats 4000000 in
theorem new_okB (w : World) (R : Nat → Prop) (xc xd : Option Addr) (nc cc nd cd : Nat) (entry mem : Int) (vi : Value) (code data : List Int) (inp : List UInt8)
    (hco : WordsR R w (.slice xc nc cc) code) (hda : WordsR R w (.slice xd nd cd) data) (hin : BytesR R w vi inp) (hR : ∀ b, R b → b < w.heap.size) (hci : ∀ v ∈ code, -9223372036854775808 ≤ v ∧ v ≤ 9223372036854775807)
    (h1 : 1 ≤ code.length) (h2 : code.length ≤ 65536) (h3 : data.length ≤ 16384) (h4 : 0 ≤ entry) (h5 : entry < (code.length : Int)) (h6 : (data.length : Int) ≤ mem) (h7 : mem ≤ 262144) (h8 : inp.length ≤ 4096) :
    Calls Try.prog 13 #[.agg #[.slice xc nc cc, .slice xd nd cd, .int .i64 entry], .int .i64 mem, vi] w fun e w' => ∃ p R' L, e = .returned (.tuple #[.pointer (some ⟨p, 0, none⟩), .int .i64 0]) ∧ MAtL w.heap.size R' w' p L (Ms.new code data entry mem inp) ∧ Nw w w' ∧ ∀ x, R' x → w.heap.size ≤ x := by
  obtain ⟨xi, ci, rfl, hil, him, hic⟩ := hin
  have hin : BytesR R w (.slice xi inp.length ci) inp := ⟨xi, ci, rfl, hil, him, hic⟩
  obtain ⟨ni, hni⟩ : ∃ ni, ni = inp.length := ⟨_, rfl⟩
  have hncl : nc = code.length := by obtain ⟨_, _, e, _⟩ := hco; injection e
  have hndl : nd = data.length := by obtain ⟨_, _, e, _⟩ := hda; injection e
  obtain ⟨mn, hmn⟩ : ∃ mn : Nat, mem = (mn : Int) := ⟨mem.toNat, by omega⟩
  subst hmn
  obtain ⟨it, hi0, hz0, hz1, hz2⟩ := info_parts i64info
  obtain ⟨Zl, hZl⟩ : ∃ Zl, Zl = List.replicate mn (Value.int .i64 0) := ⟨_, rfl⟩
  obtain ⟨Zr, hZr⟩ : ∃ Zr, Zr = madeCells (Value.int .i64 0).cells (mn * 1) := ⟨_, rfl⟩
  have HZ := Lib.hid (show Zl.toArray = Zr by rw [hZl, hZr]; exact made_zeros mn)
  have hmk : ∀ (w : World), (Instr.makeSlice 22 (.int .i64 (mn : Int)) (.int .i64 (mn : Int))).run Try.prog w = .ok (.slice (some ⟨w.heap.size, 0, none⟩) mn mn) (w.alloc (.cells Zr 2)) := fun w => by
    have := run_make (P := Try.prog) w 22 2 it (.int .i64 0) Try.underlying22 hi0 hz0 .i64 .i64 (mn : Int) (mn : Int) (by omega) (Int.le_refl _) (by rw [hz2]; omega) (by omega)
    rw [hz1] at this
    simpa [hZr] using this
  have hmf : ∀ (fn : Fn) (first cap : Array Value) (w : World), (Instr.makeFunc fn first cap).run Try.prog w = .ok (.func fn first cap) w := fun _ _ _ _ => rfl
  have HZL := Lib.hid hZl
  obtain ⟨lc, hlc⟩ : ∃ lc, lc = code.map (Value.int .i64) := ⟨_, rfl⟩
  obtain ⟨li, hli⟩ : ∃ li, li = inp := ⟨_, rfl⟩
  have CLC0 := Lib.hid (fun (wz : World) (hz : Nw w wz) => wclone_R (hco.kp hz (fun _ _ x => x)) (by omega))
  have CLI0 := Lib.hid (fun (wz : World) (hz : Nw w wz) => bclone_R (hin.nw hz) (by omega))
  rw [← hncl, ← hlc] at CLC0
  rw [← hni] at CLI0
  rw [← hli] at CLI0
  have HLC := Lib.hid hlc
  have HLI := Lib.hid hli
  have HDA := Lib.hid hda
  have HR := Lib.hid hR
  have HCI := Lib.hid hci
  have HNI := Lib.hid hni
  have HNC := Lib.hid hncl
  have HND := Lib.hid hndl
  have N0 := Lib.hid (Nw.new w (.cells #[.slice xc nc cc, .slice xd nd cd, .int .i64 entry] 29))
  have B0 := Lib.hid (Blk.new w [.slice xc nc cc, .slice xd nd cd, .int .i64 entry] 29)
  rw [← hncl] at h1 h2 h5
  rw [← hndl] at h3 h6
  rw [← hni] at h8 ⊢
  have q1 : (1 : Int) ≤ (nc : Int) := by omega
  have q2 : (nc : Int) ≤ 65536 := by omega
  have q3 : (nd : Int) ≤ 16384 := by omega
  have q8 : (ni : Int) ≤ 4096 := by omega
  have hwc : IntKind.i64.wrap ((nc : Nat) : Int) = nc := IntWalk.i64_in _ (by omega)
  have hwd : IntKind.i64.wrap ((nd : Nat) : Int) = nd := IntWalk.i64_in _ (by omega)
  have hwi : IntKind.i64.wrap ((ni : Nat) : Int) = ni := IntWalk.i64_in _ (by omega)
  have d1 : decide ((nc : Int) < 1) = false := decide_eq_false (by omega)
  have d2 : decide ((65536 : Int) < (nc : Int)) = false := decide_eq_false (by omega)
  have d3 : decide ((16384 : Int) < (nd : Int)) = false := decide_eq_false (by omega)
  have d4 : decide (entry < 0) = false := decide_eq_false (by omega)
  have d5 : decide ((nc : Int) ≤ entry) = false := decide_eq_false (by omega)
  have d6 : decide (mn < nd) = false := decide_eq_false (by omega)
  have d7 : decide ((262144 : Int) < (mn : Int)) = false := decide_eq_false (by omega)
  have d8 : decide ((4096 : Int) < (ni : Int)) = false := decide_eq_false (by omega)
  clear hco hda hin hR hci hlc hli hncl hndl hZl hZr hil him hic hni hi0 hz0 hz1 hz2
  go_enter Try.func13, Try.ntmps13
  go_upto_region 1 with fail
  have HW0 := Lib.hid (show w.heap.size < (w.alloc (.cells #[.slice xc nc cc, .slice xd nd cd, .int .i64 entry] 29)).heap.size by simp)
  have FW := Lib.hid N0.out
  generalize w.alloc (.cells #[.slice xc nc cc, .slice xd nd cd, .int .i64 entry] 29) = w1 at *
  generalize hbi : w.heap.size = bi at *
  have HBI := Lib.hid hbi
  clear hbi
  have i0 := B0.out.cell 0
  have i1 := B0.out.cell 1
  have i2 := B0.out.cell 2
  simp only [List.getElem?_cons_zero, List.getElem?_cons_succ] at i0 i1 i2
  have FC := Lib.hid (fun (wz : World) (hz : Nw w1 wz) => (⟨hz, hz.keeps i0, hz.keeps i1, hz.keeps i2⟩ : _ ∧ _ ∧ _ ∧ _))
  have CLC := Lib.hid (fun (wz : World) (hz : Nw w1 wz) => CLC0.out wz (N0.out.trans hz))
  have CLI := Lib.hid (fun (wz : World) (hz : Nw w1 wz) => CLI0.out wz (N0.out.trans hz))
  clear CLC0 CLI0
  go_upto_region 5 with fail
  go_cut [8] from 52 to 62 (fun s8 wx => ∃ p bm x1 x2 c1 c2, s8 = .pointer (some ⟨p, 0, none⟩) ∧ Blk wx p [.slice x1 nc c1, .slice (some ⟨bm, 0, none⟩) mn mn, .int .i64 0, .int .i64 0, .int .i64 0, .int .i64 0, .int .i64 0, .int .i64 0, .int .i64 0, .int .i64 0, .int .i64 0, .int .i64 0, .int .i64 0, .int .i64 0, .int .i64 0, .int .i64 0, .int .i64 0, .int .i64 0, .int .i64 entry, .slice x2 ni c2, .slice none 0 0, .int .i64 0, .int .i64 0, .int .i64 0, .slice none 0 0] 63 ∧ NewM w1 wx p bm mn nc ni x1 x2 c1 c2 lc Zl li)
  case first =>
    refine wp_region_held_drew (S := fun wz => Nw w1 wz ∧ wz.cell? ⟨bi, 0, none⟩ = some (.slice xc nc cc) ∧ wz.cell? ⟨bi, 1, none⟩ = some (.slice xd nd cd) ∧ wz.cell? ⟨bi, 2, none⟩ = some (.int .i64 entry)) (by kernel_rfl) (FC.out _ (Nw.refl _).drew) (fun hHeld => ?_)
    have Nwb := Lib.hid (show Nw w1 w1.drew from (Nw.refl _).drew)
    have Z0 := Lib.hid (show w1.heap.size ≤ w1.drew.heap.size from Nat.le_refl _)
    clear i0 i1 i2
    generalize w1.drew = wb at *
    refine wpAnyH_take (i := 0) (v := (.pointer (some ⟨bi, 0, none⟩))) rfl (by kernel_rfl) (by kernel_rfl) (by kernel_rfl) (fun _ _ _ h => h) (Or.inl ⟨by rfl, ?_⟩) (by assumption) ?_
    · intro wq hSw
      (try dsimp only at hSw)
      go_simp
    try simp only [Act.put, List.setIfInBounds_toArray, List.set_cons_zero, List.set_cons_succ]
    refine wpAnyH_take (i := 1) (v := (.slice xc nc cc)) rfl (by kernel_rfl) (by kernel_rfl) (by kernel_rfl) (fun _ _ _ h => h) (Or.inl ⟨by rfl, ?_⟩) (by assumption) ?_
    · intro wq hSw
      (try dsimp only at hSw)
      go_simp
    try simp only [Act.put, List.setIfInBounds_toArray, List.set_cons_zero, List.set_cons_succ]
    refine wpAnyH_take (i := 3) (v := (.int .i64 (mn : Int))) rfl (by kernel_rfl) (by kernel_rfl) (by kernel_rfl) (fun _ _ _ h => h) (Or.inl ⟨by rfl, ?_⟩) (by assumption) ?_
    · intro wq hSw
      (try dsimp only at hSw)
      go_simp
    try simp only [Act.put, List.setIfInBounds_toArray, List.set_cons_zero, List.set_cons_succ]
    refine wpAnyH_take (i := 5) (v := (.pointer (some ⟨bi, 2, none⟩))) rfl (by kernel_rfl) (by kernel_rfl) (by kernel_rfl) (fun _ _ _ h => h) (Or.inl ⟨by rfl, ?_⟩) (by assumption) ?_
    · intro wq hSw
      (try dsimp only at hSw)
      go_simp
    try simp only [Act.put, List.setIfInBounds_toArray, List.set_cons_zero, List.set_cons_succ]
    refine wpAnyH_take (i := 6) (v := (.int .i64 entry)) rfl (by kernel_rfl) (by kernel_rfl) (by kernel_rfl) (fun _ _ _ h => h) (Or.inl ⟨by rfl, ?_⟩) (by assumption) ?_
    · intro wq hSw
      (try dsimp only at hSw)
      go_simp
    try simp only [Act.put, List.setIfInBounds_toArray, List.set_cons_zero, List.set_cons_succ]
    refine wpAnyH_take (i := 7) (v := (.slice xi ni ci)) rfl (by kernel_rfl) (by kernel_rfl) (by kernel_rfl) (fun _ _ _ h => h) (Or.inl ⟨by rfl, ?_⟩) (by assumption) ?_
    · intro wq hSw
      (try dsimp only at hSw)
      go_simp
    try simp only [Act.put, List.setIfInBounds_toArray, List.set_cons_zero, List.set_cons_succ]
    refine wpAnyH_ready (rs := [2, 4]) (by kernel_rfl) (by simp) ?_
    refine AllReadyH.cons rfl (fun K hK => ?_) ?_
    · skip
      rw [if_pos (by rfl)]
      go_simp
      refine (CLC.out wb Nwb.out).mono ?_
      rintro e1 v210 ⟨x1, c1, rfl, ho, hk⟩
      have Nv210 := Lib.hid (Nwb.out.trans hk)
      have Zv210 := Lib.hid hk.size
      have Cv210 := Lib.hid ho
      have CS := Lib.hid (fun g (hg : (Value.slice x1 nc c1).ownBlock = some g) => (show wb.heap.size ≤ g ∧ g < v210.heap.size from ho.lt g hg))
      clear ho
      clear hk hHeld
      show K _ _
      refine hK.out _ _ (FC.out _ Nv210.out) (fun hHeld => ?_)
      clear hK K
      try simp only [Act.put, List.setIfInBounds_toArray, List.set_cons_zero, List.set_cons_succ]
      refine wpAnyH_ready (rs := [4, 8]) (by kernel_rfl) (by simp) ?_
      refine AllReadyH.cons rfl (fun K hK => ?_) ?_
      · skip
        rw [if_pos (by rfl)]
        go_simp
        have hk := Nw.new v210 (.cells Zr 2)
        have hb := (show Blk (v210.alloc (.cells Zr 2)) v210.heap.size Zl 2 by rw [← HZ.out]; exact Blk.new v210 Zl 2)
        have hs : v210.heap.size < (v210.alloc (.cells Zr 2)).heap.size := by simp
        generalize v210.alloc (.cells Zr 2) = v420 at *
        obtain ⟨bm, hbm⟩ : ∃ bm, bm = v210.heap.size := ⟨_, rfl⟩
        rw [← hbm] at hb hs ⊢
        have MBv420 := Lib.hid hb
        have MSv420 := Lib.hid (show v210.heap.size ≤ bm ∧ bm < v420.heap.size from ⟨Nat.le_of_eq hbm.symm, hs⟩)
        clear hb hs hbm
        have Nv420 := Lib.hid (Nv210.out.trans hk)
        have Zv420 := Lib.hid hk.size
        have Cv420 := Lib.hid (own_kp Cv210.out hk (fun _ _ x => x))
        clear hk hHeld
        refine hK.out _ _ (FC.out _ Nv420.out) (fun hHeld => ?_)
        clear hK K
        try simp only [Act.put, List.setIfInBounds_toArray, List.set_cons_zero, List.set_cons_succ]
        refine wpAnyH_ready (rs := [8]) (by kernel_rfl) (by simp) ?_
        refine AllReadyH.cons rfl (fun K hK => ?_) AllReadyH.nil
        rw [if_pos (by rfl)]
        go_simp
        refine (CLI.out v420 Nv420.out).mono ?_
        rintro e3 v830 ⟨x2, c2, rfl, ho, hk⟩
        have Nv830 := Lib.hid (Nv420.out.trans hk)
        have Zv830 := Lib.hid hk.size
        have Cv830 := Lib.hid (own_kp Cv420.out hk (fun _ _ x => x))
        have MBv830 := Lib.hid (MBv420.out.nw hk)
        have Iv830 := Lib.hid ho
        have IS := Lib.hid (fun g (hg : (Value.slice x2 ni c2).ownBlock = some g) => (show v420.heap.size ≤ g ∧ g < v830.heap.size from ho.lt g hg))
        clear ho
        clear hk hHeld
        show K _ _
        refine hK.out _ _ (FC.out _ Nv830.out) (fun hHeld => ?_)
        clear hK K
        try simp only [Act.put, List.setIfInBounds_toArray, List.set_cons_zero, List.set_cons_succ]
        refine wpAnyH_take (i := 9) (v := (.agg #[.slice x1 nc c1, .slice (some ⟨bm, 0, none⟩) mn mn, .int .i64 0, .int .i64 0, .int .i64 0, .int .i64 0, .int .i64 0, .int .i64 0, .int .i64 0, .int .i64 0, .int .i64 0, .int .i64 0, .int .i64 0, .int .i64 0, .int .i64 0, .int .i64 0, .int .i64 0, .int .i64 0, .int .i64 entry, .slice x2 ni c2, .slice none 0 0, .int .i64 0, .int .i64 0, .int .i64 0, .slice none 0 0])) rfl (by kernel_rfl) (by kernel_rfl) (by kernel_rfl) (fun _ _ _ h => h) (Or.inl ⟨by rfl, ?_⟩) (by assumption) ?_
        · intro wq hSw
          (try dsimp only at hSw)
          go_simp
        try simp only [Act.put, List.setIfInBounds_toArray, List.set_cons_zero, List.set_cons_succ]
        refine wpAnyH_ready (rs := [10]) (by kernel_rfl) (by simp) ?_
        refine AllReadyH.cons rfl (fun K hK => ?_) AllReadyH.nil
        rw [if_pos (by rfl)]
        go_simp
        have hk := Nw.new v830 (.cells #[.slice x1 nc c1, .slice (some ⟨bm, 0, none⟩) mn mn, .int .i64 0, .int .i64 0, .int .i64 0, .int .i64 0, .int .i64 0, .int .i64 0, .int .i64 0, .int .i64 0, .int .i64 0, .int .i64 0, .int .i64 0, .int .i64 0, .int .i64 0, .int .i64 0, .int .i64 0, .int .i64 0, .int .i64 entry, .slice x2 ni c2, .slice none 0 0, .int .i64 0, .int .i64 0, .int .i64 0, .slice none 0 0] 63)
        have BP := Lib.hid (Blk.new v830 [.slice x1 nc c1, .slice (some ⟨bm, 0, none⟩) mn mn, .int .i64 0, .int .i64 0, .int .i64 0, .int .i64 0, .int .i64 0, .int .i64 0, .int .i64 0, .int .i64 0, .int .i64 0, .int .i64 0, .int .i64 0, .int .i64 0, .int .i64 0, .int .i64 0, .int .i64 0, .int .i64 0, .int .i64 entry, .slice x2 ni c2, .slice none 0 0, .int .i64 0, .int .i64 0, .int .i64 0, .slice none 0 0] 63)
        refine hK.out _ _ (FC.out _ (Nv830.out.trans hk)) (fun hHeld => ?_)
        clear hK K
        try simp only [Act.put, List.setIfInBounds_toArray, List.set_cons_zero, List.set_cons_succ]
        refine wpAnyH_take (i := 11) (v := (.pointer (some ⟨v830.heap.size, 0, none⟩))) rfl (by kernel_rfl) (by kernel_rfl) (by kernel_rfl) (fun _ _ _ h => h) (Or.inl ⟨by rfl, ?_⟩) (by assumption) ?_
        · intro wq hSw
          (try dsimp only at hSw)
          go_simp
        try simp only [Act.put, List.setIfInBounds_toArray, List.set_cons_zero, List.set_cons_succ]
        try simp only [List.getElem_toArray, List.getElem_cons_zero, List.getElem_cons_succ]
        try simp only [Act.put, List.setIfInBounds_toArray, List.set_cons_zero, List.set_cons_succ]
        refine wpAnyH_done (by kernel_rfl) ?_ _
        have hchain : w1.heap.size ≤ wb.heap.size ∧ wb.heap.size ≤ v210.heap.size ∧ v210.heap.size ≤ v420.heap.size ∧ v420.heap.size ≤ v830.heap.size := ⟨Z0.out, Zv210.out, Zv420.out, Zv830.out⟩
        have hms := MSv420.out
        have NM := Lib.hid (show NewM w1 (v830.alloc (.cells #[.slice x1 nc c1, .slice (some ⟨bm, 0, none⟩) mn mn, .int .i64 0, .int .i64 0, .int .i64 0, .int .i64 0, .int .i64 0, .int .i64 0, .int .i64 0, .int .i64 0, .int .i64 0, .int .i64 0, .int .i64 0, .int .i64 0, .int .i64 0, .int .i64 0, .int .i64 0, .int .i64 0, .int .i64 entry, .slice x2 ni c2, .slice none 0 0, .int .i64 0, .int .i64 0, .int .i64 0, .slice none 0 0] 63)) v830.heap.size bm mn nc ni x1 x2 c1 c2 lc Zl li from
          ⟨MBv830.out.nw hk, own_weaken (own_kp Cv830.out hk (fun _ _ x => x)) (by omega), own_weaken (own_kp Iv830.out hk (fun _ _ x => x)) (by omega), by omega,
           fun g hg => (by have := CS.out g hg; omega), fun g hg => (by have := IS.out g hg; omega), by omega, by omega, Nv830.out.trans hk⟩)
        clear hchain hms hk hHeld
        go_wp2_with fail
        go_meet
        exact ⟨_, bm, x1, x2, c1, c2, rfl, BP.out, NM.out⟩
      refine AllReadyH.cons rfl (fun K hK => ?_) AllReadyH.nil
      rw [if_pos (by rfl)]
      go_simp
      refine (CLI.out v210 Nv210.out).mono ?_
      rintro e2 v821 ⟨x2, c2, rfl, ho, hk⟩
      have Nv821 := Lib.hid (Nv210.out.trans hk)
      have Zv821 := Lib.hid hk.size
      have Cv821 := Lib.hid (own_kp Cv210.out hk (fun _ _ x => x))
      have Iv821 := Lib.hid ho
      have IS := Lib.hid (fun g (hg : (Value.slice x2 ni c2).ownBlock = some g) => (show v210.heap.size ≤ g ∧ g < v821.heap.size from ho.lt g hg))
      clear ho
      clear hk hHeld
      show K _ _
      refine hK.out _ _ (FC.out _ Nv821.out) (fun hHeld => ?_)
      clear hK K
      try simp only [Act.put, List.setIfInBounds_toArray, List.set_cons_zero, List.set_cons_succ]
      refine wpAnyH_ready (rs := [4]) (by kernel_rfl) (by simp) ?_
      refine AllReadyH.cons rfl (fun K hK => ?_) AllReadyH.nil
      rw [if_pos (by rfl)]
      go_simp
      have hk := Nw.new v821 (.cells Zr 2)
      have hb := (show Blk (v821.alloc (.cells Zr 2)) v821.heap.size Zl 2 by rw [← HZ.out]; exact Blk.new v821 Zl 2)
      have hs : v821.heap.size < (v821.alloc (.cells Zr 2)).heap.size := by simp
      generalize v821.alloc (.cells Zr 2) = v430 at *
      obtain ⟨bm, hbm⟩ : ∃ bm, bm = v821.heap.size := ⟨_, rfl⟩
      rw [← hbm] at hb hs ⊢
      have MBv430 := Lib.hid hb
      have MSv430 := Lib.hid (show v821.heap.size ≤ bm ∧ bm < v430.heap.size from ⟨Nat.le_of_eq hbm.symm, hs⟩)
      clear hb hs hbm
      have Nv430 := Lib.hid (Nv821.out.trans hk)
      have Zv430 := Lib.hid hk.size
      have Cv430 := Lib.hid (own_kp Cv821.out hk (fun _ _ x => x))
      have Iv430 := Lib.hid (own_kp Iv821.out hk (fun _ _ x => x))
      clear hk hHeld
      refine hK.out _ _ (FC.out _ Nv430.out) (fun hHeld => ?_)
      clear hK K
      try simp only [Act.put, List.setIfInBounds_toArray, List.set_cons_zero, List.set_cons_succ]
      refine wpAnyH_take (i := 9) (v := (.agg #[.slice x1 nc c1, .slice (some ⟨bm, 0, none⟩) mn mn, .int .i64 0, .int .i64 0, .int .i64 0, .int .i64 0, .int .i64 0, .int .i64 0, .int .i64 0, .int .i64 0, .int .i64 0, .int .i64 0, .int .i64 0, .int .i64 0, .int .i64 0, .int .i64 0, .int .i64 0, .int .i64 0, .int .i64 entry, .slice x2 ni c2, .slice none 0 0, .int .i64 0, .int .i64 0, .int .i64 0, .slice none 0 0])) rfl (by kernel_rfl) (by kernel_rfl) (by kernel_rfl) (fun _ _ _ h => h) (Or.inl ⟨by rfl, ?_⟩) (by assumption) ?_
      · intro wq hSw
        (try dsimp only at hSw)
        go_simp
      try simp only [Act.put, List.setIfInBounds_toArray, List.set_cons_zero, List.set_cons_succ]
      refine wpAnyH_ready (rs := [10]) (by kernel_rfl) (by simp) ?_
      refine AllReadyH.cons rfl (fun K hK => ?_) AllReadyH.nil
      rw [if_pos (by rfl)]
      go_simp
      have hk := Nw.new v430 (.cells #[.slice x1 nc c1, .slice (some ⟨bm, 0, none⟩) mn mn, .int .i64 0, .int .i64 0, .int .i64 0, .int .i64 0, .int .i64 0, .int .i64 0, .int .i64 0, .int .i64 0, .int .i64 0, .int .i64 0, .int .i64 0, .int .i64 0, .int .i64 0, .int .i64 0, .int .i64 0, .int .i64 0, .int .i64 entry, .slice x2 ni c2, .slice none 0 0, .int .i64 0, .int .i64 0, .int .i64 0, .slice none 0 0] 63)
      have BP := Lib.hid (Blk.new v430 [.slice x1 nc c1, .slice (some ⟨bm, 0, none⟩) mn mn, .int .i64 0, .int .i64 0, .int .i64 0, .int .i64 0, .int .i64 0, .int .i64 0, .int .i64 0, .int .i64 0, .int .i64 0, .int .i64 0, .int .i64 0, .int .i64 0, .int .i64 0, .int .i64 0, .int .i64 0, .int .i64 0, .int .i64 entry, .slice x2 ni c2, .slice none 0 0, .int .i64 0, .int .i64 0, .int .i64 0, .slice none 0 0] 63)
      refine hK.out _ _ (FC.out _ (Nv430.out.trans hk)) (fun hHeld => ?_)
      clear hK K
      try simp only [Act.put, List.setIfInBounds_toArray, List.set_cons_zero, List.set_cons_succ]
      refine wpAnyH_take (i := 11) (v := (.pointer (some ⟨v430.heap.size, 0, none⟩))) rfl (by kernel_rfl) (by kernel_rfl) (by kernel_rfl) (fun _ _ _ h => h) (Or.inl ⟨by rfl, ?_⟩) (by assumption) ?_
      · intro wq hSw
        (try dsimp only at hSw)
        go_simp
      try simp only [Act.put, List.setIfInBounds_toArray, List.set_cons_zero, List.set_cons_succ]
      try simp only [List.getElem_toArray, List.getElem_cons_zero, List.getElem_cons_succ]
      try simp only [Act.put, List.setIfInBounds_toArray, List.set_cons_zero, List.set_cons_succ]
      refine wpAnyH_done (by kernel_rfl) ?_ _
      have hchain : w1.heap.size ≤ wb.heap.size ∧ wb.heap.size ≤ v210.heap.size ∧ v210.heap.size ≤ v821.heap.size ∧ v821.heap.size ≤ v430.heap.size := ⟨Z0.out, Zv210.out, Zv821.out, Zv430.out⟩
      have hms := MSv430.out
      have NM := Lib.hid (show NewM w1 (v430.alloc (.cells #[.slice x1 nc c1, .slice (some ⟨bm, 0, none⟩) mn mn, .int .i64 0, .int .i64 0, .int .i64 0, .int .i64 0, .int .i64 0, .int .i64 0, .int .i64 0, .int .i64 0, .int .i64 0, .int .i64 0, .int .i64 0, .int .i64 0, .int .i64 0, .int .i64 0, .int .i64 0, .int .i64 0, .int .i64 entry, .slice x2 ni c2, .slice none 0 0, .int .i64 0, .int .i64 0, .int .i64 0, .slice none 0 0] 63)) v430.heap.size bm mn nc ni x1 x2 c1 c2 lc Zl li from
        ⟨MBv430.out.nw hk, own_weaken (own_kp Cv430.out hk (fun _ _ x => x)) (by omega), own_weaken (own_kp Iv430.out hk (fun _ _ x => x)) (by omega), by omega,
         fun g hg => (by have := CS.out g hg; omega), fun g hg => (by have := IS.out g hg; omega), by omega, by omega, Nv430.out.trans hk⟩)
      clear hchain hms hk hHeld
      go_wp2_with fail
      go_meet
      exact ⟨_, bm, x1, x2, c1, c2, rfl, BP.out, NM.out⟩
    refine AllReadyH.cons rfl (fun K hK => ?_) AllReadyH.nil
    rw [if_pos (by rfl)]
    go_simp
    have hk := Nw.new wb (.cells Zr 2)
    have hb := (show Blk (wb.alloc (.cells Zr 2)) wb.heap.size Zl 2 by rw [← HZ.out]; exact Blk.new wb Zl 2)
    have hs : wb.heap.size < (wb.alloc (.cells Zr 2)).heap.size := by simp
    generalize wb.alloc (.cells Zr 2) = v411 at *
    obtain ⟨bm, hbm⟩ : ∃ bm, bm = wb.heap.size := ⟨_, rfl⟩
    rw [← hbm] at hb hs ⊢
    have MBv411 := Lib.hid hb
    have MSv411 := Lib.hid (show wb.heap.size ≤ bm ∧ bm < v411.heap.size from ⟨Nat.le_of_eq hbm.symm, hs⟩)
    clear hb hs hbm
    have Nv411 := Lib.hid (Nwb.out.trans hk)
    have Zv411 := Lib.hid hk.size
    clear hk hHeld
    refine hK.out _ _ (FC.out _ Nv411.out) (fun hHeld => ?_)
    clear hK K
    try simp only [Act.put, List.setIfInBounds_toArray, List.set_cons_zero, List.set_cons_succ]
    refine wpAnyH_ready (rs := [2]) (by kernel_rfl) (by simp) ?_
    refine AllReadyH.cons rfl (fun K hK => ?_) AllReadyH.nil
    rw [if_pos (by rfl)]
    go_simp
    refine (CLC.out v411 Nv411.out).mono ?_
    rintro e2 v220 ⟨x1, c1, rfl, ho, hk⟩
    have Nv220 := Lib.hid (Nv411.out.trans hk)
    have Zv220 := Lib.hid hk.size
    have MBv220 := Lib.hid (MBv411.out.nw hk)
    have Cv220 := Lib.hid ho
    have CS := Lib.hid (fun g (hg : (Value.slice x1 nc c1).ownBlock = some g) => (show v411.heap.size ≤ g ∧ g < v220.heap.size from ho.lt g hg))
    clear ho
    clear hk hHeld
    show K _ _
    refine hK.out _ _ (FC.out _ Nv220.out) (fun hHeld => ?_)
    clear hK K
    try simp only [Act.put, List.setIfInBounds_toArray, List.set_cons_zero, List.set_cons_succ]
    refine wpAnyH_ready (rs := [8]) (by kernel_rfl) (by simp) ?_
    refine AllReadyH.cons rfl (fun K hK => ?_) AllReadyH.nil
    rw [if_pos (by rfl)]
    go_simp
    refine (CLI.out v220 Nv220.out).mono ?_
    rintro e3 v830 ⟨x2, c2, rfl, ho, hk⟩
    have Nv830 := Lib.hid (Nv220.out.trans hk)
    have Zv830 := Lib.hid hk.size
    have Cv830 := Lib.hid (own_kp Cv220.out hk (fun _ _ x => x))
    have MBv830 := Lib.hid (MBv220.out.nw hk)
    have Iv830 := Lib.hid ho
    have IS := Lib.hid (fun g (hg : (Value.slice x2 ni c2).ownBlock = some g) => (show v220.heap.size ≤ g ∧ g < v830.heap.size from ho.lt g hg))
    clear ho
    clear hk hHeld
    show K _ _
    refine hK.out _ _ (FC.out _ Nv830.out) (fun hHeld => ?_)
    clear hK K
    try simp only [Act.put, List.setIfInBounds_toArray, List.set_cons_zero, List.set_cons_succ]
    refine wpAnyH_take (i := 9) (v := (.agg #[.slice x1 nc c1, .slice (some ⟨bm, 0, none⟩) mn mn, .int .i64 0, .int .i64 0, .int .i64 0, .int .i64 0, .int .i64 0, .int .i64 0, .int .i64 0, .int .i64 0, .int .i64 0, .int .i64 0, .int .i64 0, .int .i64 0, .int .i64 0, .int .i64 0, .int .i64 0, .int .i64 0, .int .i64 entry, .slice x2 ni c2, .slice none 0 0, .int .i64 0, .int .i64 0, .int .i64 0, .slice none 0 0])) rfl (by kernel_rfl) (by kernel_rfl) (by kernel_rfl) (fun _ _ _ h => h) (Or.inl ⟨by rfl, ?_⟩) (by assumption) ?_
    · intro wq hSw
      (try dsimp only at hSw)
      go_simp
    try simp only [Act.put, List.setIfInBounds_toArray, List.set_cons_zero, List.set_cons_succ]
    refine wpAnyH_ready (rs := [10]) (by kernel_rfl) (by simp) ?_
    refine AllReadyH.cons rfl (fun K hK => ?_) AllReadyH.nil
    rw [if_pos (by rfl)]
    go_simp
    have hk := Nw.new v830 (.cells #[.slice x1 nc c1, .slice (some ⟨bm, 0, none⟩) mn mn, .int .i64 0, .int .i64 0, .int .i64 0, .int .i64 0, .int .i64 0, .int .i64 0, .int .i64 0, .int .i64 0, .int .i64 0, .int .i64 0, .int .i64 0, .int .i64 0, .int .i64 0, .int .i64 0, .int .i64 0, .int .i64 0, .int .i64 entry, .slice x2 ni c2, .slice none 0 0, .int .i64 0, .int .i64 0, .int .i64 0, .slice none 0 0] 63)
    have BP := Lib.hid (Blk.new v830 [.slice x1 nc c1, .slice (some ⟨bm, 0, none⟩) mn mn, .int .i64 0, .int .i64 0, .int .i64 0, .int .i64 0, .int .i64 0, .int .i64 0, .int .i64 0, .int .i64 0, .int .i64 0, .int .i64 0, .int .i64 0, .int .i64 0, .int .i64 0, .int .i64 0, .int .i64 0, .int .i64 0, .int .i64 entry, .slice x2 ni c2, .slice none 0 0, .int .i64 0, .int .i64 0, .int .i64 0, .slice none 0 0] 63)
    refine hK.out _ _ (FC.out _ (Nv830.out.trans hk)) (fun hHeld => ?_)
    clear hK K
    try simp only [Act.put, List.setIfInBounds_toArray, List.set_cons_zero, List.set_cons_succ]
    refine wpAnyH_take (i := 11) (v := (.pointer (some ⟨v830.heap.size, 0, none⟩))) rfl (by kernel_rfl) (by kernel_rfl) (by kernel_rfl) (fun _ _ _ h => h) (Or.inl ⟨by rfl, ?_⟩) (by assumption) ?_
    · intro wq hSw
      (try dsimp only at hSw)
      go_simp
    try simp only [Act.put, List.setIfInBounds_toArray, List.set_cons_zero, List.set_cons_succ]
    try simp only [List.getElem_toArray, List.getElem_cons_zero, List.getElem_cons_succ]
    try simp only [Act.put, List.setIfInBounds_toArray, List.set_cons_zero, List.set_cons_succ]
    refine wpAnyH_done (by kernel_rfl) ?_ _
    have hchain : w1.heap.size ≤ wb.heap.size ∧ wb.heap.size ≤ v411.heap.size ∧ v411.heap.size ≤ v220.heap.size ∧ v220.heap.size ≤ v830.heap.size := ⟨Z0.out, Zv411.out, Zv220.out, Zv830.out⟩
    have hms := MSv411.out
    have NM := Lib.hid (show NewM w1 (v830.alloc (.cells #[.slice x1 nc c1, .slice (some ⟨bm, 0, none⟩) mn mn, .int .i64 0, .int .i64 0, .int .i64 0, .int .i64 0, .int .i64 0, .int .i64 0, .int .i64 0, .int .i64 0, .int .i64 0, .int .i64 0, .int .i64 0, .int .i64 0, .int .i64 0, .int .i64 0, .int .i64 0, .int .i64 0, .int .i64 entry, .slice x2 ni c2, .slice none 0 0, .int .i64 0, .int .i64 0, .int .i64 0, .slice none 0 0] 63)) v830.heap.size bm mn nc ni x1 x2 c1 c2 lc Zl li from
      ⟨MBv830.out.nw hk, own_weaken (own_kp Cv830.out hk (fun _ _ x => x)) (by omega), own_weaken (own_kp Iv830.out hk (fun _ _ x => x)) (by omega), by omega,
       fun g hg => (by have := CS.out g hg; omega), fun g hg => (by have := IS.out g hg; omega), by omega, by omega, Nv830.out.trans hk⟩)
    clear hchain hms hk hHeld
    go_wp2_with fail
    go_meet
    exact ⟨_, bm, x1, x2, c1, c2, rfl, BP.out, NM.out⟩
  case rest =>
    obtain ⟨p, bm, x1, x2, c1, c2, rfl, hbp, nm⟩ := hcut
    have BP := Lib.hid hbp
    have NM := Lib.hid nm
    clear hbp nm
    have c1' := BP.out.cell 1
    simp only [List.getElem?_cons_zero, List.getElem?_cons_succ] at c1'
    have i1' := NM.out.nw.keeps i1
    clear i0 i1 i2
    obtain ⟨dc, hdc⟩ : ∃ dc, dc = data.map (Value.int .i64) := ⟨_, rfl⟩
    have HDC := Lib.hid hdc
    have hdl : dc.length = nd := by rw [hdc, List.length_map, HND.out]
    clear hdc
    have hmin : dc.length = Nat.min nd mn := by rw [hdl]; exact (Nat.min_eq_left (by omega)).symm
    have HMIN := Lib.hid hmin
    have HZN := Lib.hid (show Zl.length = mn by rw [HZL.out, List.length_replicate])
    have NW := Lib.hid (FW.out.trans NM.out.nw)
    have HPOS := Lib.hid (show 0 < dc.length → (some (⟨bm, 0, none⟩ : Addr)) = some ⟨bm, 0, none⟩ ∧ ∃ ad, xd = some ad ∧ ∀ (j : Nat) v, dc[j]? = some v → wc.drew.cell? (ad.add j) = some v from fun hp => by
      obtain ⟨x, cap, e, _, _, hc⟩ := HDA.out
      injection e with e1 e2 e3
      subst e1
      obtain ⟨b, o, e, _, hcc⟩ := hc (by intro e; rw [HDC.out, e] at hp; simp at hp)
      subst e
      refine ⟨rfl, _, rfl, fun j v hv => ?_⟩
      have hj : j < data.length := by
        have := (List.getElem?_eq_some_iff.1 hv).1
        rwa [HDC.out, List.length_map] at this
      have e5 : (⟨b, o, none⟩ : Addr).add j = ⟨b, o + j, none⟩ := by unfold Addr.add; split <;> simp_all
      rw [e5]
      have h6 : dc[j]? = some (.int .i64 data[j]) := by rw [HDC.out]; simp [hj]
      rw [← hv, h6]
      exact NW.out.drew.keeps (hcc j hj))
    have HFIT := Lib.hid (show 0 + dc.length ≤ Zl.length by rw [HZN.out, hdl]; omega)
    have HONE := Lib.hid (show ∀ v ∈ dc, v.oneCell' = true by
      rw [HDC.out]
      intro u hu
      simp only [List.mem_map] at hu
      obtain ⟨b, _, rfl⟩ := hu
      rfl)
    have HSZ := Lib.hid (show (Try.prog.info? 2).map (·.size) = some 1 by kernel_rfl)
    have MB := Lib.hid (show wc.drew.heap[bm]? = some (.cells Zl.toArray 2 (0, 0)) from NM.out.mem)
    clear hmin hdl hmk HZ
    go_wp2_with fail
    go_still_tail 6, (by kernel_rfl)
    change wpList _ _ _ _ _ wc.drew
    refine wpList_copy_kp rfl (.tmp 66) (.tmp 68) _ _ rfl 2 Try.underlying22 HSZ.out (some ⟨bm, 0, none⟩) xd mn mn nd cd rfl rfl bm 0 Zl 2 MB.out dc HMIN.out (fun hp => ⟨rfl, (HPOS.out hp).2⟩) HFIT.out HONE.out ?_
    intro w2 B2 K2
    have BP2 := Lib.hid (BP.out.drew.kp K2.out (fun e => NM.out.hmp e.symm))
    have a17 := BP2.out.cell 17
    have z17 := BP2.out.frozen 17
    have a24 := BP2.out.cell 24
    have z24 := BP2.out.frozen 24
    simp only [List.getElem?_cons_zero, List.getElem?_cons_succ] at a17 a24
    go_upto_region 8 with fail
    have N2 := Lib.hid NM.out
    have BP3 := Lib.hid (BP2.out.set 17 (.int .i64 (mn : Int)))
    have K3 := Lib.hid (set_kp (p := p) (Nw.refl w2) 17 (.int .i64 (mn : Int)))
    clear a17 z17 a24 z24 c1' i1'
    generalize w2.setCell ⟨p, 17, none⟩ (.int .i64 (mn : Int)) = w3 at *
    have a24 := BP3.out.cell 24
    have z24 := BP3.out.frozen 24
    have hp3 := BP3.out.lt
    simp only [List.set_cons_zero, List.set_cons_succ, List.getElem?_cons_zero, List.getElem?_cons_succ] at a24
    have FIN := Lib.hid (new_fin (code := code) (data := data) (inp := inp) (bi := 0) (show w.heap.size < w1.heap.size by rw [HBI.out]; exact HW0.out) FW.out NM.out BP.out B2.out K2.out BP3.out K3.out HLC.out HLI.out HZL.out HDC.out HNC.out HND.out HNI.out (by omega) (by omega) (by omega) (by omega) h6 HCI.out)
    clear N2 BP2 B2 K2 BP3 K3
    go_wp2_with fail
    go_returns
    exact ⟨p, _, _, rfl, FIN.out.1, FIN.out.2.1, FIN.out.2.2⟩

theorem new_ok (w : World) (R : Nat → Prop) (xc xd : Option Addr) (nc cc nd cd : Nat) (entry mem : Int) (vi : Value) (code data : List Int) (inp : List UInt8)
    (hco : WordsR R w (.slice xc nc cc) code) (hda : WordsR R w (.slice xd nd cd) data) (hin : BytesR R w vi inp) (hR : ∀ b, R b → b < w.heap.size) (hci : ∀ v ∈ code, -9223372036854775808 ≤ v ∧ v ≤ 9223372036854775807)
    (h1 : 1 ≤ code.length) (h2 : code.length ≤ 65536) (h3 : data.length ≤ 16384) (h4 : 0 ≤ entry) (h5 : entry < (code.length : Int)) (h6 : (data.length : Int) ≤ mem) (h7 : mem ≤ 262144) (h8 : inp.length ≤ 4096) :
    Calls Try.prog 13 #[.agg #[.slice xc nc cc, .slice xd nd cd, .int .i64 entry], .int .i64 mem, vi] w fun e w' => ∃ p R' L, e = .returned (.tuple #[.pointer (some ⟨p, 0, none⟩), .int .i64 0]) ∧ MAtL w.heap.size R' w' p L (Ms.new code data entry mem inp) ∧ Nw w w' := by
  refine (new_okB w R xc xd nc cc nd cd entry mem vi code data inp hco hda hin hR hci h1 h2 h3 h4 h5 h6 h7 h8).mono ?_
  rintro e w' ⟨p, R', L, q1, q2, q3, _⟩
  exact ⟨p, R', L, q1, q2, q3⟩
end Go.Proofs.Ythlcoocboidnlaa
