/-
  No cell of these rows narrows 'for every input' (looked for: loops, veiled, ifaces, maps, wideKeys, modest, calm, conditions, laid).
  DERIVED. THE GIVEN ROWS OF THIS SEAT. 9 by the template 'for every input the law returns true; each argument reads behind the call as it read before'; 0 by the template 'total and deterministic' (their statements: YthlcoocboidnlaaTotals.lean).
  GIVEN WITH THE SEED: the statements are not yours to turn. If you find one false, say at which input.
  Laid BY PROGRAM, IN A SANDBOX (cutbox-rows.mjs): the forced cells as the released guide's own fill.sh prints them over the translation ec611b3ae8faf7ac… (all of the seat's roots in one cut). By AI agents, Wed Nov 11 2026. No macro, syntax, notation, axiom, sorry.
-/
import Derived.Test.YthlcoocboidnlaaChecked
import GoSem.Claim
import GoSem.ClaimJoined
import GoSem.ClaimMapViews
import Derived.JoinedTies
import Derived.KernelRfl
namespace Go.Proofs.Ythlcoocboidnlaa
/- THE CELL 'sum', in the pinned program and in every row, IS THE sha256 OF THE DUMP (.gsa) THAT YthlcoocboidnlaaProg.lean LOADS. Nothing in Lean hashes anything: it is a label: what it is worth is what the hold of that sum in a sandbox is worth. -/
noncomputable def Try.pinned : Pinned := { name := "ythlcoocboidnlaa", sum := "ec611b3ae8faf7ac7acbe72041058a276fef8833b0b51f3cab9f16ee11916686", checked := Try.checked }
namespace Rows
def none {H : Type} : Left H := { results := [], args := [] }

/-- 'mortiselaw3.MachNumbers': WHATEVER THE INPUT: true; the input reads as it did. -/
def machNumbersSpec : ChangeSpec := { name := "machNumbers", fn := fun _ => fun
  | [d] => { results := [.lit (.bool true)], args := [d] }
  | _ => none }
def machNumbersRow : OpenClaim := { program := "ythlcoocboidnlaa", sum := "ec611b3ae8faf7ac7acbe72041058a276fef8833b0b51f3cab9f16ee11916686", func := "mortise/mortiselaw3.MachNumbers", spec := "machNumbers", unfollowed := true, recurses := true, apart := false }
def MachNumbersSaid : Prop := machNumbersRow.holds Try.pinned (OpenSpec.ofChange machNumbersSpec)

/-- ITS FALSE NEIGHBOUR: 'it returns false'. Refute it at one input. -/
def machNumbersWrong : ChangeSpec := { name := "machNumbers", fn := fun _ => fun
  | [d] => { results := [.lit (.bool false)], args := [d] }
  | _ => none }
def MachNumbersWrongFalsely : Prop := machNumbersRow.holds Try.pinned (OpenSpec.ofChange machNumbersWrong)

/-- 'mortiselaw3.MachCalls': WHATEVER THE INPUT: true; the input reads as it did. -/
def machCallsSpec : ChangeSpec := { name := "machCalls", fn := fun _ => fun
  | [d1, d2] => { results := [.lit (.bool true)], args := [d1, d2] }
  | _ => none }
def machCallsRow : OpenClaim := { program := "ythlcoocboidnlaa", sum := "ec611b3ae8faf7ac7acbe72041058a276fef8833b0b51f3cab9f16ee11916686", func := "mortise/mortiselaw3.MachCalls", spec := "machCalls", unfollowed := true, recurses := true, apart := false }
def MachCallsSaid : Prop := machCallsRow.holds Try.pinned (OpenSpec.ofChange machCallsSpec)

/-- ITS FALSE NEIGHBOUR: 'it returns false'. Refute it at one input. -/
def machCallsWrong : ChangeSpec := { name := "machCalls", fn := fun _ => fun
  | [d1, d2] => { results := [.lit (.bool false)], args := [d1, d2] }
  | _ => none }
def MachCallsWrongFalsely : Prop := machCallsRow.holds Try.pinned (OpenSpec.ofChange machCallsWrong)

/-- 'mortiselaw3.MachRuns': WHATEVER THE INPUT: true; the input reads as it did. -/
def machRunsSpec : ChangeSpec := { name := "machRuns", fn := fun _ => fun
  | [d1, d2, d3, d4] => { results := [.lit (.bool true)], args := [d1, d2, d3, d4] }
  | _ => none }
def machRunsRow : OpenClaim := { program := "ythlcoocboidnlaa", sum := "ec611b3ae8faf7ac7acbe72041058a276fef8833b0b51f3cab9f16ee11916686", func := "mortise/mortiselaw3.MachRuns", spec := "machRuns", unfollowed := true, recurses := true, apart := false }
def MachRunsSaid : Prop := machRunsRow.holds Try.pinned (OpenSpec.ofChange machRunsSpec)

/-- ITS FALSE NEIGHBOUR: 'it returns false'. Refute it at one input. -/
def machRunsWrong : ChangeSpec := { name := "machRuns", fn := fun _ => fun
  | [d1, d2, d3, d4] => { results := [.lit (.bool false)], args := [d1, d2, d3, d4] }
  | _ => none }
def MachRunsWrongFalsely : Prop := machRunsRow.holds Try.pinned (OpenSpec.ofChange machRunsWrong)

/-- 'mortiselaw3.MachParts': WHATEVER THE INPUT: true; the input reads as it did. -/
def machPartsSpec : ChangeSpec := { name := "machParts", fn := fun _ => fun
  | [d1, d2, d3, d4, d5] => { results := [.lit (.bool true)], args := [d1, d2, d3, d4, d5] }
  | _ => none }
def machPartsRow : OpenClaim := { program := "ythlcoocboidnlaa", sum := "ec611b3ae8faf7ac7acbe72041058a276fef8833b0b51f3cab9f16ee11916686", func := "mortise/mortiselaw3.MachParts", spec := "machParts", unfollowed := true, recurses := true, apart := false }
def MachPartsSaid : Prop := machPartsRow.holds Try.pinned (OpenSpec.ofChange machPartsSpec)

/-- ITS FALSE NEIGHBOUR: 'it returns false'. Refute it at one input. -/
def machPartsWrong : ChangeSpec := { name := "machParts", fn := fun _ => fun
  | [d1, d2, d3, d4, d5] => { results := [.lit (.bool false)], args := [d1, d2, d3, d4, d5] }
  | _ => none }
def MachPartsWrongFalsely : Prop := machPartsRow.holds Try.pinned (OpenSpec.ofChange machPartsWrong)

/-- 'mortiselaw3.MachMore': WHATEVER THE INPUT: true; the input reads as it did. -/
def machMoreSpec : ChangeSpec := { name := "machMore", fn := fun _ => fun
  | [d1, d2, d3, d4, d5] => { results := [.lit (.bool true)], args := [d1, d2, d3, d4, d5] }
  | _ => none }
def machMoreRow : OpenClaim := { program := "ythlcoocboidnlaa", sum := "ec611b3ae8faf7ac7acbe72041058a276fef8833b0b51f3cab9f16ee11916686", func := "mortise/mortiselaw3.MachMore", spec := "machMore", unfollowed := true, recurses := true, apart := false }
def MachMoreSaid : Prop := machMoreRow.holds Try.pinned (OpenSpec.ofChange machMoreSpec)

/-- ITS FALSE NEIGHBOUR: 'it returns false'. Refute it at one input. -/
def machMoreWrong : ChangeSpec := { name := "machMore", fn := fun _ => fun
  | [d1, d2, d3, d4, d5] => { results := [.lit (.bool false)], args := [d1, d2, d3, d4, d5] }
  | _ => none }
def MachMoreWrongFalsely : Prop := machMoreRow.holds Try.pinned (OpenSpec.ofChange machMoreWrong)

/-- 'mortiselaw3.MachApart': WHATEVER THE INPUT: true; the input reads as it did. -/
def machApartSpec : ChangeSpec := { name := "machApart", fn := fun _ => fun
  | [d1, d2, d3, d4, d5] => { results := [.lit (.bool true)], args := [d1, d2, d3, d4, d5] }
  | _ => none }
def machApartRow : OpenClaim := { program := "ythlcoocboidnlaa", sum := "ec611b3ae8faf7ac7acbe72041058a276fef8833b0b51f3cab9f16ee11916686", func := "mortise/mortiselaw3.MachApart", spec := "machApart", unfollowed := true, recurses := true, apart := false }
def MachApartSaid : Prop := machApartRow.holds Try.pinned (OpenSpec.ofChange machApartSpec)

/-- ITS FALSE NEIGHBOUR: 'it returns false'. Refute it at one input. -/
def machApartWrong : ChangeSpec := { name := "machApart", fn := fun _ => fun
  | [d1, d2, d3, d4, d5] => { results := [.lit (.bool false)], args := [d1, d2, d3, d4, d5] }
  | _ => none }
def MachApartWrongFalsely : Prop := machApartRow.holds Try.pinned (OpenSpec.ofChange machApartWrong)

/-- 'mortiselaw3.MachNews': WHATEVER THE INPUT: true; the input reads as it did. -/
def machNewsSpec : ChangeSpec := { name := "machNews", fn := fun _ => fun
  | [d1, d2, d3] => { results := [.lit (.bool true)], args := [d1, d2, d3] }
  | _ => none }
def machNewsRow : OpenClaim := { program := "ythlcoocboidnlaa", sum := "ec611b3ae8faf7ac7acbe72041058a276fef8833b0b51f3cab9f16ee11916686", func := "mortise/mortiselaw3.MachNews", spec := "machNews", unfollowed := true, recurses := true, apart := false }
def MachNewsSaid : Prop := machNewsRow.holds Try.pinned (OpenSpec.ofChange machNewsSpec)

/-- ITS FALSE NEIGHBOUR: 'it returns false'. Refute it at one input. -/
def machNewsWrong : ChangeSpec := { name := "machNews", fn := fun _ => fun
  | [d1, d2, d3] => { results := [.lit (.bool false)], args := [d1, d2, d3] }
  | _ => none }
def MachNewsWrongFalsely : Prop := machNewsRow.holds Try.pinned (OpenSpec.ofChange machNewsWrong)

/-- 'mortiselaw3.MachSteps': WHATEVER THE INPUT: true; the input reads as it did. -/
def machStepsSpec : ChangeSpec := { name := "machSteps", fn := fun _ => fun
  | [d1, d2, d3, d4, d5] => { results := [.lit (.bool true)], args := [d1, d2, d3, d4, d5] }
  | _ => none }
def machStepsRow : OpenClaim := { program := "ythlcoocboidnlaa", sum := "ec611b3ae8faf7ac7acbe72041058a276fef8833b0b51f3cab9f16ee11916686", func := "mortise/mortiselaw3.MachSteps", spec := "machSteps", unfollowed := true, recurses := true, apart := false }
def MachStepsSaid : Prop := machStepsRow.holds Try.pinned (OpenSpec.ofChange machStepsSpec)

/-- ITS FALSE NEIGHBOUR: 'it returns false'. Refute it at one input. -/
def machStepsWrong : ChangeSpec := { name := "machSteps", fn := fun _ => fun
  | [d1, d2, d3, d4, d5] => { results := [.lit (.bool false)], args := [d1, d2, d3, d4, d5] }
  | _ => none }
def MachStepsWrongFalsely : Prop := machStepsRow.holds Try.pinned (OpenSpec.ofChange machStepsWrong)

/-- 'mortiselaw3.MachNil': WHATEVER THE INPUT: true; the input reads as it did. -/
def machNilSpec : ChangeSpec := { name := "machNil", fn := fun _ => fun
  | [d] => { results := [.lit (.bool true)], args := [d] }
  | _ => none }
def machNilRow : OpenClaim := { program := "ythlcoocboidnlaa", sum := "ec611b3ae8faf7ac7acbe72041058a276fef8833b0b51f3cab9f16ee11916686", func := "mortise/mortiselaw3.MachNil", spec := "machNil", unfollowed := true, recurses := true, apart := false }
def MachNilSaid : Prop := machNilRow.holds Try.pinned (OpenSpec.ofChange machNilSpec)

/-- ITS FALSE NEIGHBOUR: 'it returns false'. Refute it at one input. -/
def machNilWrong : ChangeSpec := { name := "machNil", fn := fun _ => fun
  | [d] => { results := [.lit (.bool false)], args := [d] }
  | _ => none }
def MachNilWrongFalsely : Prop := machNilRow.holds Try.pinned (OpenSpec.ofChange machNilWrong)

/- THE SECOND FORM. 'bulk': how many values and letters a reading holds, each counted each time it is reached (what is shared counts as often as it is met; a slice's spare places count too). A statement '..UptoSaid' is the law's where the arguments, and the package variables that the reading takes, are together of bulk at most 1048576: NARROWER than '..Said'. Prove '..Said' where nothing that the law and all that it calls make is longer than what came in: it says more and counts as full. Else prove '..UptoSaid'. A law counts once. -/
mutual
def uptoBulk {H : Type} : DataW H → Nat
  | .lit (.string bytes) => bytes.length + 1
  | .lit _ => 1
  | .nil => 1
  | .ptr d => uptoBulk d + 1
  | .slice elems spare => uptoBulkAll elems + uptoBulkAll spare + 1
  | .agg parts => uptoBulkAll parts + 1
  | .iface _ d => uptoBulk d + 1
  | .map entries => uptoBulkEntries entries + 1
  | .held _ => 1
def uptoBulkAll {H : Type} : List (DataW H) → Nat
  | [] => 0
  | d :: r => uptoBulk d + uptoBulkAll r
def uptoBulkEntries {H : Type} : List (Lit × DataW H) → Nat
  | [] => 0
  | x :: r => uptoBulkEntry x + uptoBulkEntries r
def uptoBulkEntry {H : Type} : Lit × DataW H → Nat
  | (.string bytes, d) => bytes.length + uptoBulk d + 1
  | (_, d) => uptoBulk d + 1
 end
def uptoSmall : (H : Type) → List (DataW H) → Bool := fun _ ds => decide (uptoBulkAll ds ≤ 1048576)
def OpenSpec.upto (s : _root_.Go.ChangeSpec) : _root_.Go.OpenSpec := { _root_.Go.OpenSpec.ofChange s with cond := some uptoSmall }

/-- 'mortiselaw3.MachNumbers', WHERE WHAT IT READS IS OF BULK AT MOST 1048576: true; the input reads as it did. -/
def machNumbersUptoRow : OpenClaim := { program := "ythlcoocboidnlaa", sum := "ec611b3ae8faf7ac7acbe72041058a276fef8833b0b51f3cab9f16ee11916686", func := "mortise/mortiselaw3.MachNumbers", spec := "machNumbers", unfollowed := true, recurses := true, apart := false, narrowed := true }
def MachNumbersUptoSaid : Prop := machNumbersUptoRow.holds Try.pinned (OpenSpec.upto machNumbersSpec)

/-- 'mortiselaw3.MachCalls', WHERE WHAT IT READS IS OF BULK AT MOST 1048576: true; the input reads as it did. -/
def machCallsUptoRow : OpenClaim := { program := "ythlcoocboidnlaa", sum := "ec611b3ae8faf7ac7acbe72041058a276fef8833b0b51f3cab9f16ee11916686", func := "mortise/mortiselaw3.MachCalls", spec := "machCalls", unfollowed := true, recurses := true, apart := false, narrowed := true }
def MachCallsUptoSaid : Prop := machCallsUptoRow.holds Try.pinned (OpenSpec.upto machCallsSpec)

/-- 'mortiselaw3.MachRuns', WHERE WHAT IT READS IS OF BULK AT MOST 1048576: true; the input reads as it did. -/
def machRunsUptoRow : OpenClaim := { program := "ythlcoocboidnlaa", sum := "ec611b3ae8faf7ac7acbe72041058a276fef8833b0b51f3cab9f16ee11916686", func := "mortise/mortiselaw3.MachRuns", spec := "machRuns", unfollowed := true, recurses := true, apart := false, narrowed := true }
def MachRunsUptoSaid : Prop := machRunsUptoRow.holds Try.pinned (OpenSpec.upto machRunsSpec)

/-- 'mortiselaw3.MachParts', WHERE WHAT IT READS IS OF BULK AT MOST 1048576: true; the input reads as it did. -/
def machPartsUptoRow : OpenClaim := { program := "ythlcoocboidnlaa", sum := "ec611b3ae8faf7ac7acbe72041058a276fef8833b0b51f3cab9f16ee11916686", func := "mortise/mortiselaw3.MachParts", spec := "machParts", unfollowed := true, recurses := true, apart := false, narrowed := true }
def MachPartsUptoSaid : Prop := machPartsUptoRow.holds Try.pinned (OpenSpec.upto machPartsSpec)

/-- 'mortiselaw3.MachMore', WHERE WHAT IT READS IS OF BULK AT MOST 1048576: true; the input reads as it did. -/
def machMoreUptoRow : OpenClaim := { program := "ythlcoocboidnlaa", sum := "ec611b3ae8faf7ac7acbe72041058a276fef8833b0b51f3cab9f16ee11916686", func := "mortise/mortiselaw3.MachMore", spec := "machMore", unfollowed := true, recurses := true, apart := false, narrowed := true }
def MachMoreUptoSaid : Prop := machMoreUptoRow.holds Try.pinned (OpenSpec.upto machMoreSpec)

/-- 'mortiselaw3.MachApart', WHERE WHAT IT READS IS OF BULK AT MOST 1048576: true; the input reads as it did. -/
def machApartUptoRow : OpenClaim := { program := "ythlcoocboidnlaa", sum := "ec611b3ae8faf7ac7acbe72041058a276fef8833b0b51f3cab9f16ee11916686", func := "mortise/mortiselaw3.MachApart", spec := "machApart", unfollowed := true, recurses := true, apart := false, narrowed := true }
def MachApartUptoSaid : Prop := machApartUptoRow.holds Try.pinned (OpenSpec.upto machApartSpec)

/-- 'mortiselaw3.MachNews', WHERE WHAT IT READS IS OF BULK AT MOST 1048576: true; the input reads as it did. -/
def machNewsUptoRow : OpenClaim := { program := "ythlcoocboidnlaa", sum := "ec611b3ae8faf7ac7acbe72041058a276fef8833b0b51f3cab9f16ee11916686", func := "mortise/mortiselaw3.MachNews", spec := "machNews", unfollowed := true, recurses := true, apart := false, narrowed := true }
def MachNewsUptoSaid : Prop := machNewsUptoRow.holds Try.pinned (OpenSpec.upto machNewsSpec)

/-- 'mortiselaw3.MachSteps', WHERE WHAT IT READS IS OF BULK AT MOST 1048576: true; the input reads as it did. -/
def machStepsUptoRow : OpenClaim := { program := "ythlcoocboidnlaa", sum := "ec611b3ae8faf7ac7acbe72041058a276fef8833b0b51f3cab9f16ee11916686", func := "mortise/mortiselaw3.MachSteps", spec := "machSteps", unfollowed := true, recurses := true, apart := false, narrowed := true }
def MachStepsUptoSaid : Prop := machStepsUptoRow.holds Try.pinned (OpenSpec.upto machStepsSpec)

/-- 'mortiselaw3.MachNil', WHERE WHAT IT READS IS OF BULK AT MOST 1048576: true; the input reads as it did. -/
def machNilUptoRow : OpenClaim := { program := "ythlcoocboidnlaa", sum := "ec611b3ae8faf7ac7acbe72041058a276fef8833b0b51f3cab9f16ee11916686", func := "mortise/mortiselaw3.MachNil", spec := "machNil", unfollowed := true, recurses := true, apart := false, narrowed := true }
def MachNilUptoSaid : Prop := machNilUptoRow.holds Try.pinned (OpenSpec.upto machNilSpec)

end Rows
end Go.Proofs.Ythlcoocboidnlaa
