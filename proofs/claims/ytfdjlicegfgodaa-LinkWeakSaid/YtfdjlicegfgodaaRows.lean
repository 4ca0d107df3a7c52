/-
  No cell of these rows narrows 'for every input' (looked for: loops, veiled, ifaces, maps, wideKeys, modest, calm, conditions, laid).
  DERIVED. THE GIVEN ROWS OF THIS SEAT. 8 by the template 'for every input the law returns true; each argument reads behind the call as it read before'; 0 by the template 'total and deterministic' (their statements: YtfdjlicegfgodaaTotals.lean).
  GIVEN WITH THE SEED: the statements are not yours to turn. If you find one false, say at which input.
  Laid BY PROGRAM, IN A SANDBOX (cutbox-rows.mjs): the forced cells as the released guide's own fill.sh prints them over the translation 1eb0b9403e918277… (all of the seat's roots in one cut). By AI agents, Wed Nov 11 2026. No macro, syntax, notation, axiom, sorry.
-/
import Derived.Test.YtfdjlicegfgodaaChecked
import GoSem.Claim
import GoSem.ClaimJoined
import GoSem.ClaimMapViews
import Derived.JoinedTies
import Derived.KernelRfl
namespace Go.Proofs.Ytfdjlicegfgodaa
/- THE CELL 'sum', in the pinned program and in every row, IS THE sha256 OF THE DUMP (.gsa) THAT YtfdjlicegfgodaaProg.lean LOADS. Nothing in Lean hashes anything: it is a label: what it is worth is what the hold of that sum in a sandbox is worth. -/
noncomputable def Try.pinned : Pinned := { name := "ytfdjlicegfgodaa", sum := "1eb0b9403e9182776562a9e61565777c996eba85dd42542645cb1ba12c3a1a41", checked := Try.checked }
namespace Rows
def none {H : Type} : Left H := { results := [], args := [] }

/-- 'mortiselaw28.ObjectValids': WHATEVER THE INPUT: true; the input reads as it did. -/
def objectValidsSpec : ChangeSpec := { name := "objectValids", fn := fun _ => fun
  | [d] => { results := [.lit (.bool true)], args := [d] }
  | _ => none }
def objectValidsRow : OpenClaim := { program := "ytfdjlicegfgodaa", sum := "1eb0b9403e9182776562a9e61565777c996eba85dd42542645cb1ba12c3a1a41", func := "mortise/mortiselaw28.ObjectValids", spec := "objectValids", plainKeys := false, apart := false }
def ObjectValidsSaid : Prop := objectValidsRow.holds Try.pinned (OpenSpec.ofChange objectValidsSpec)

/-- ITS FALSE NEIGHBOUR: 'it returns false'. Refute it at one input. -/
def objectValidsWrong : ChangeSpec := { name := "objectValids", fn := fun _ => fun
  | [d] => { results := [.lit (.bool false)], args := [d] }
  | _ => none }
def ObjectValidsWrongFalsely : Prop := objectValidsRow.holds Try.pinned (OpenSpec.ofChange objectValidsWrong)

/-- 'mortiselaw28.ObjectEncodes': WHATEVER THE INPUT: true; the input reads as it did. -/
def objectEncodesSpec : ChangeSpec := { name := "objectEncodes", fn := fun _ => fun
  | [d] => { results := [.lit (.bool true)], args := [d] }
  | _ => none }
def objectEncodesRow : OpenClaim := { program := "ytfdjlicegfgodaa", sum := "1eb0b9403e9182776562a9e61565777c996eba85dd42542645cb1ba12c3a1a41", func := "mortise/mortiselaw28.ObjectEncodes", spec := "objectEncodes", plainKeys := false, apart := false }
def ObjectEncodesSaid : Prop := objectEncodesRow.holds Try.pinned (OpenSpec.ofChange objectEncodesSpec)

/-- ITS FALSE NEIGHBOUR: 'it returns false'. Refute it at one input. -/
def objectEncodesWrong : ChangeSpec := { name := "objectEncodes", fn := fun _ => fun
  | [d] => { results := [.lit (.bool false)], args := [d] }
  | _ => none }
def ObjectEncodesWrongFalsely : Prop := objectEncodesRow.holds Try.pinned (OpenSpec.ofChange objectEncodesWrong)

/-- 'mortiselaw28.ObjectReads': WHATEVER THE INPUT: true; the input reads as it did. -/
def objectReadsSpec : ChangeSpec := { name := "objectReads", fn := fun _ => fun
  | [d] => { results := [.lit (.bool true)], args := [d] }
  | _ => none }
def objectReadsRow : OpenClaim := { program := "ytfdjlicegfgodaa", sum := "1eb0b9403e9182776562a9e61565777c996eba85dd42542645cb1ba12c3a1a41", func := "mortise/mortiselaw28.ObjectReads", spec := "objectReads", unfollowed := true, recurses := true, plainKeys := false, apart := false }
def ObjectReadsSaid : Prop := objectReadsRow.holds Try.pinned (OpenSpec.ofChange objectReadsSpec)

/-- ITS FALSE NEIGHBOUR: 'it returns false'. Refute it at one input. -/
def objectReadsWrong : ChangeSpec := { name := "objectReads", fn := fun _ => fun
  | [d] => { results := [.lit (.bool false)], args := [d] }
  | _ => none }
def ObjectReadsWrongFalsely : Prop := objectReadsRow.holds Try.pinned (OpenSpec.ofChange objectReadsWrong)

/-- 'mortiselaw28.ObjectBack': WHATEVER THE INPUT: true; the input reads as it did. -/
def objectBackSpec : ChangeSpec := { name := "objectBack", fn := fun _ => fun
  | [d] => { results := [.lit (.bool true)], args := [d] }
  | _ => none }
def objectBackRow : OpenClaim := { program := "ytfdjlicegfgodaa", sum := "1eb0b9403e9182776562a9e61565777c996eba85dd42542645cb1ba12c3a1a41", func := "mortise/mortiselaw28.ObjectBack", spec := "objectBack", unfollowed := true, recurses := true, plainKeys := false, apart := false }
def ObjectBackSaid : Prop := objectBackRow.holds Try.pinned (OpenSpec.ofChange objectBackSpec)

/-- ITS FALSE NEIGHBOUR: 'it returns false'. Refute it at one input. -/
def objectBackWrong : ChangeSpec := { name := "objectBack", fn := fun _ => fun
  | [d] => { results := [.lit (.bool false)], args := [d] }
  | _ => none }
def ObjectBackWrongFalsely : Prop := objectBackRow.holds Try.pinned (OpenSpec.ofChange objectBackWrong)

/-- 'mortiselaw28.ObjectTurned': WHATEVER THE INPUT: true; the input reads as it did. -/
def objectTurnedSpec : ChangeSpec := { name := "objectTurned", fn := fun _ => fun
  | [d1, d2, d3, d4] => { results := [.lit (.bool true)], args := [d1, d2, d3, d4] }
  | _ => none }
def objectTurnedRow : OpenClaim := { program := "ytfdjlicegfgodaa", sum := "1eb0b9403e9182776562a9e61565777c996eba85dd42542645cb1ba12c3a1a41", func := "mortise/mortiselaw28.ObjectTurned", spec := "objectTurned", unfollowed := true, recurses := true, plainKeys := false, apart := false }
def ObjectTurnedSaid : Prop := objectTurnedRow.holds Try.pinned (OpenSpec.ofChange objectTurnedSpec)

/-- ITS FALSE NEIGHBOUR: 'it returns false'. Refute it at one input. -/
def objectTurnedWrong : ChangeSpec := { name := "objectTurned", fn := fun _ => fun
  | [d1, d2, d3, d4] => { results := [.lit (.bool false)], args := [d1, d2, d3, d4] }
  | _ => none }
def ObjectTurnedWrongFalsely : Prop := objectTurnedRow.holds Try.pinned (OpenSpec.ofChange objectTurnedWrong)

/-- 'mortiselaw30.LinkHashes': WHATEVER THE INPUT: true; the input reads as it did. -/
def linkHashesSpec : ChangeSpec := { name := "linkHashes", fn := fun _ => fun
  | [d1, d2, d3, d4] => { results := [.lit (.bool true)], args := [d1, d2, d3, d4] }
  | _ => none }
def linkHashesRow : OpenClaim := { program := "ytfdjlicegfgodaa", sum := "1eb0b9403e9182776562a9e61565777c996eba85dd42542645cb1ba12c3a1a41", func := "mortise/mortiselaw30.LinkHashes", spec := "linkHashes", unfollowed := true, recurses := true, plainKeys := false, apart := false }
def LinkHashesSaid : Prop := linkHashesRow.holds Try.pinned (OpenSpec.ofChange linkHashesSpec)

/-- ITS FALSE NEIGHBOUR: 'it returns false'. Refute it at one input. -/
def linkHashesWrong : ChangeSpec := { name := "linkHashes", fn := fun _ => fun
  | [d1, d2, d3, d4] => { results := [.lit (.bool false)], args := [d1, d2, d3, d4] }
  | _ => none }
def LinkHashesWrongFalsely : Prop := linkHashesRow.holds Try.pinned (OpenSpec.ofChange linkHashesWrong)

/-- 'mortiselaw30.LinkWeak': WHATEVER THE INPUT: true; the input reads as it did. -/
def linkWeakSpec : ChangeSpec := { name := "linkWeak", fn := fun _ => fun
  | [d1, d2] => { results := [.lit (.bool true)], args := [d1, d2] }
  | _ => none }
def linkWeakRow : OpenClaim := { program := "ytfdjlicegfgodaa", sum := "1eb0b9403e9182776562a9e61565777c996eba85dd42542645cb1ba12c3a1a41", func := "mortise/mortiselaw30.LinkWeak", spec := "linkWeak", unfollowed := true, recurses := true, plainKeys := false, apart := false }
def LinkWeakSaid : Prop := linkWeakRow.holds Try.pinned (OpenSpec.ofChange linkWeakSpec)

/-- ITS FALSE NEIGHBOUR: 'it returns false'. Refute it at one input. -/
def linkWeakWrong : ChangeSpec := { name := "linkWeak", fn := fun _ => fun
  | [d1, d2] => { results := [.lit (.bool false)], args := [d1, d2] }
  | _ => none }
def LinkWeakWrongFalsely : Prop := linkWeakRow.holds Try.pinned (OpenSpec.ofChange linkWeakWrong)

/-- 'mortiselaw30.LinkOnes': WHATEVER THE INPUT: true; the input reads as it did. -/
def linkOnesSpec : ChangeSpec := { name := "linkOnes", fn := fun _ => fun
  | [d1, d2] => { results := [.lit (.bool true)], args := [d1, d2] }
  | _ => none }
def linkOnesRow : OpenClaim := { program := "ytfdjlicegfgodaa", sum := "1eb0b9403e9182776562a9e61565777c996eba85dd42542645cb1ba12c3a1a41", func := "mortise/mortiselaw30.LinkOnes", spec := "linkOnes", unfollowed := true, recurses := true, plainKeys := false, apart := false }
def LinkOnesSaid : Prop := linkOnesRow.holds Try.pinned (OpenSpec.ofChange linkOnesSpec)

/-- ITS FALSE NEIGHBOUR: 'it returns false'. Refute it at one input. -/
def linkOnesWrong : ChangeSpec := { name := "linkOnes", fn := fun _ => fun
  | [d1, d2] => { results := [.lit (.bool false)], args := [d1, d2] }
  | _ => none }
def LinkOnesWrongFalsely : Prop := linkOnesRow.holds Try.pinned (OpenSpec.ofChange linkOnesWrong)

/- THE SECOND FORM. 'bulk': how many values and letters a reading holds, each counted each time it is reached (what is shared counts as often as it is met; a slice's spare places count too). A statement '..UptoSaid' is the law's where the arguments, and the package variables that the reading takes, are together of bulk at most 1048576: NARROWER than '..Said'. Prove '..Said' where nothing that the law and all that it calls make is longer than what came in: it says more and counts as full. Else prove '..UptoSaid'. A law counts once. -/
mutual
def uptoBulk {H : Type} : DataW H → Nat
  | .lit (.string bytes) => bytes.length + 1
  | .lit _ => 1
  | .nil => 1
  | .ptr d => uptoBulk d + 1
  | .slice elems spare => uptoBulkAll elems + uptoBulkAll spare + 1
  | .agg parts => uptoBulkAll parts + 1
  | .iface _ d => uptoBulk d + 1
  | .map entries => uptoBulkEntries entries + 1
  | .held _ => 1
def uptoBulkAll {H : Type} : List (DataW H) → Nat
  | [] => 0
  | d :: r => uptoBulk d + uptoBulkAll r
def uptoBulkEntries {H : Type} : List (Lit × DataW H) → Nat
  | [] => 0
  | x :: r => uptoBulkEntry x + uptoBulkEntries r
def uptoBulkEntry {H : Type} : Lit × DataW H → Nat
  | (.string bytes, d) => bytes.length + uptoBulk d + 1
  | (_, d) => uptoBulk d + 1
 end
def uptoSmall : (H : Type) → List (DataW H) → Bool := fun _ ds => decide (uptoBulkAll ds ≤ 1048576)
def OpenSpec.upto (s : _root_.Go.ChangeSpec) : _root_.Go.OpenSpec := { _root_.Go.OpenSpec.ofChange s with cond := some uptoSmall }

/-- 'mortiselaw28.ObjectValids', WHERE WHAT IT READS IS OF BULK AT MOST 1048576: true; the input reads as it did. -/
def objectValidsUptoRow : OpenClaim := { program := "ytfdjlicegfgodaa", sum := "1eb0b9403e9182776562a9e61565777c996eba85dd42542645cb1ba12c3a1a41", func := "mortise/mortiselaw28.ObjectValids", spec := "objectValids", plainKeys := false, apart := false, narrowed := true }
def ObjectValidsUptoSaid : Prop := objectValidsUptoRow.holds Try.pinned (OpenSpec.upto objectValidsSpec)

/-- 'mortiselaw28.ObjectEncodes', WHERE WHAT IT READS IS OF BULK AT MOST 1048576: true; the input reads as it did. -/
def objectEncodesUptoRow : OpenClaim := { program := "ytfdjlicegfgodaa", sum := "1eb0b9403e9182776562a9e61565777c996eba85dd42542645cb1ba12c3a1a41", func := "mortise/mortiselaw28.ObjectEncodes", spec := "objectEncodes", plainKeys := false, apart := false, narrowed := true }
def ObjectEncodesUptoSaid : Prop := objectEncodesUptoRow.holds Try.pinned (OpenSpec.upto objectEncodesSpec)

/-- 'mortiselaw28.ObjectReads', WHERE WHAT IT READS IS OF BULK AT MOST 1048576: true; the input reads as it did. -/
def objectReadsUptoRow : OpenClaim := { program := "ytfdjlicegfgodaa", sum := "1eb0b9403e9182776562a9e61565777c996eba85dd42542645cb1ba12c3a1a41", func := "mortise/mortiselaw28.ObjectReads", spec := "objectReads", unfollowed := true, recurses := true, plainKeys := false, apart := false, narrowed := true }
def ObjectReadsUptoSaid : Prop := objectReadsUptoRow.holds Try.pinned (OpenSpec.upto objectReadsSpec)

/-- 'mortiselaw28.ObjectBack', WHERE WHAT IT READS IS OF BULK AT MOST 1048576: true; the input reads as it did. -/
def objectBackUptoRow : OpenClaim := { program := "ytfdjlicegfgodaa", sum := "1eb0b9403e9182776562a9e61565777c996eba85dd42542645cb1ba12c3a1a41", func := "mortise/mortiselaw28.ObjectBack", spec := "objectBack", unfollowed := true, recurses := true, plainKeys := false, apart := false, narrowed := true }
def ObjectBackUptoSaid : Prop := objectBackUptoRow.holds Try.pinned (OpenSpec.upto objectBackSpec)

/-- 'mortiselaw28.ObjectTurned', WHERE WHAT IT READS IS OF BULK AT MOST 1048576: true; the input reads as it did. -/
def objectTurnedUptoRow : OpenClaim := { program := "ytfdjlicegfgodaa", sum := "1eb0b9403e9182776562a9e61565777c996eba85dd42542645cb1ba12c3a1a41", func := "mortise/mortiselaw28.ObjectTurned", spec := "objectTurned", unfollowed := true, recurses := true, plainKeys := false, apart := false, narrowed := true }
def ObjectTurnedUptoSaid : Prop := objectTurnedUptoRow.holds Try.pinned (OpenSpec.upto objectTurnedSpec)

/-- 'mortiselaw30.LinkHashes', WHERE WHAT IT READS IS OF BULK AT MOST 1048576: true; the input reads as it did. -/
def linkHashesUptoRow : OpenClaim := { program := "ytfdjlicegfgodaa", sum := "1eb0b9403e9182776562a9e61565777c996eba85dd42542645cb1ba12c3a1a41", func := "mortise/mortiselaw30.LinkHashes", spec := "linkHashes", unfollowed := true, recurses := true, plainKeys := false, apart := false, narrowed := true }
def LinkHashesUptoSaid : Prop := linkHashesUptoRow.holds Try.pinned (OpenSpec.upto linkHashesSpec)

/-- 'mortiselaw30.LinkWeak', WHERE WHAT IT READS IS OF BULK AT MOST 1048576: true; the input reads as it did. -/
def linkWeakUptoRow : OpenClaim := { program := "ytfdjlicegfgodaa", sum := "1eb0b9403e9182776562a9e61565777c996eba85dd42542645cb1ba12c3a1a41", func := "mortise/mortiselaw30.LinkWeak", spec := "linkWeak", unfollowed := true, recurses := true, plainKeys := false, apart := false, narrowed := true }
def LinkWeakUptoSaid : Prop := linkWeakUptoRow.holds Try.pinned (OpenSpec.upto linkWeakSpec)

/-- 'mortiselaw30.LinkOnes', WHERE WHAT IT READS IS OF BULK AT MOST 1048576: true; the input reads as it did. -/
def linkOnesUptoRow : OpenClaim := { program := "ytfdjlicegfgodaa", sum := "1eb0b9403e9182776562a9e61565777c996eba85dd42542645cb1ba12c3a1a41", func := "mortise/mortiselaw30.LinkOnes", spec := "linkOnes", unfollowed := true, recurses := true, plainKeys := false, apart := false, narrowed := true }
def LinkOnesUptoSaid : Prop := linkOnesUptoRow.holds Try.pinned (OpenSpec.upto linkOnesSpec)

end Rows
end Go.Proofs.Ytfdjlicegfgodaa
