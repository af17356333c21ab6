/-
  No cell of these rows narrows 'for every input' (looked for: loops, veiled, ifaces, maps, wideKeys, modest, calm, conditions, laid).
  DERIVED. THE GIVEN ROWS OF THIS SEAT. 10 by the template 'for every input the law returns true; each argument reads behind the call as it read before'; 0 by the template 'total and deterministic' (their statements: YtpflgmbcmfllgaaTotals.lean).
  GIVEN WITH THE SEED: the statements are not yours to turn. If you find one false, say at which input.
  Laid BY PROGRAM, IN A SANDBOX (cutbox-rows.mjs): the forced cells as the released guide's own fill.sh prints them over the translation 374feb09b670ca70… (all of the seat's roots in one cut). By AI agents, Wed Nov 11 2026. No macro, syntax, notation, axiom, sorry.
-/
import Derived.Test.YtpflgmbcmfllgaaChecked
import GoSem.Claim
import GoSem.ClaimJoined
import GoSem.ClaimMapViews
import Derived.JoinedTies
import Derived.KernelRfl
namespace Go.Proofs.Ytpflgmbcmfllgaa
/- THE CELL 'sum', in the pinned program and in every row, IS THE sha256 OF THE DUMP (.gsa) THAT YtpflgmbcmfllgaaProg.lean LOADS. Nothing in Lean hashes anything: it is a label: what it is worth is what the hold of that sum in a sandbox is worth. -/
noncomputable def Try.pinned : Pinned := { name := "ytpflgmbcmfllgaa", sum := "374feb09b670ca70e77e7f88f838c3956ca3daf0896acdd755bccfd55ddeed2b", checked := Try.checked }
namespace Rows
def none {H : Type} : Left H := { results := [], args := [] }

/-- 'codewrightlaw14.CombineAssociates': WHATEVER THE INPUT: true; the input reads as it did. -/
def combineAssociatesSpec : ChangeSpec := { name := "combineAssociates", fn := fun _ => fun
  | [d1, d2, d3] => { results := [.lit (.bool true)], args := [d1, d2, d3] }
  | _ => none }
def combineAssociatesRow : OpenClaim := { program := "ytpflgmbcmfllgaa", sum := "374feb09b670ca70e77e7f88f838c3956ca3daf0896acdd755bccfd55ddeed2b", func := "codewright/codewrightlaw14.CombineAssociates", spec := "combineAssociates", unfollowed := true, recurses := true, apart := false }
def CombineAssociatesSaid : Prop := combineAssociatesRow.holds Try.pinned (OpenSpec.ofChange combineAssociatesSpec)

/-- ITS FALSE NEIGHBOUR: 'it returns false'. Refute it at one input. -/
def combineAssociatesWrong : ChangeSpec := { name := "combineAssociates", fn := fun _ => fun
  | [d1, d2, d3] => { results := [.lit (.bool false)], args := [d1, d2, d3] }
  | _ => none }
def CombineAssociatesWrongFalsely : Prop := combineAssociatesRow.holds Try.pinned (OpenSpec.ofChange combineAssociatesWrong)

/-- 'codewrightlaw14.CombineDuals': WHATEVER THE INPUT: true; the input reads as it did. -/
def combineDualsSpec : ChangeSpec := { name := "combineDuals", fn := fun _ => fun
  | [d1, d2, d3, d4, d5] => { results := [.lit (.bool true)], args := [d1, d2, d3, d4, d5] }
  | _ => none }
def combineDualsRow : OpenClaim := { program := "ytpflgmbcmfllgaa", sum := "374feb09b670ca70e77e7f88f838c3956ca3daf0896acdd755bccfd55ddeed2b", func := "codewright/codewrightlaw14.CombineDuals", spec := "combineDuals", unfollowed := true, recurses := true, apart := false }
def CombineDualsSaid : Prop := combineDualsRow.holds Try.pinned (OpenSpec.ofChange combineDualsSpec)

/-- ITS FALSE NEIGHBOUR: 'it returns false'. Refute it at one input. -/
def combineDualsWrong : ChangeSpec := { name := "combineDuals", fn := fun _ => fun
  | [d1, d2, d3, d4, d5] => { results := [.lit (.bool false)], args := [d1, d2, d3, d4, d5] }
  | _ => none }
def CombineDualsWrongFalsely : Prop := combineDualsRow.holds Try.pinned (OpenSpec.ofChange combineDualsWrong)

/-- 'codewrightlaw39.BoundedRadius': WHATEVER THE INPUT: true; the input reads as it did. -/
def boundedRadiusSpec : ChangeSpec := { name := "boundedRadius", fn := fun _ => fun
  | [d1, d2] => { results := [.lit (.bool true)], args := [d1, d2] }
  | _ => none }
def boundedRadiusRow : OpenClaim := { program := "ytpflgmbcmfllgaa", sum := "374feb09b670ca70e77e7f88f838c3956ca3daf0896acdd755bccfd55ddeed2b", func := "codewright/codewrightlaw39.BoundedRadius", spec := "boundedRadius", apart := false }
def BoundedRadiusSaid : Prop := boundedRadiusRow.holds Try.pinned (OpenSpec.ofChange boundedRadiusSpec)

/-- ITS FALSE NEIGHBOUR: 'it returns false'. Refute it at one input. -/
def boundedRadiusWrong : ChangeSpec := { name := "boundedRadius", fn := fun _ => fun
  | [d1, d2] => { results := [.lit (.bool false)], args := [d1, d2] }
  | _ => none }
def BoundedRadiusWrongFalsely : Prop := boundedRadiusRow.holds Try.pinned (OpenSpec.ofChange boundedRadiusWrong)

/-- 'codewrightlaw39.BoundedHonest': WHATEVER THE INPUT: true; the input reads as it did. -/
def boundedHonestSpec : ChangeSpec := { name := "boundedHonest", fn := fun _ => fun
  | [d1, d2] => { results := [.lit (.bool true)], args := [d1, d2] }
  | _ => none }
def boundedHonestRow : OpenClaim := { program := "ytpflgmbcmfllgaa", sum := "374feb09b670ca70e77e7f88f838c3956ca3daf0896acdd755bccfd55ddeed2b", func := "codewright/codewrightlaw39.BoundedHonest", spec := "boundedHonest", apart := false }
def BoundedHonestSaid : Prop := boundedHonestRow.holds Try.pinned (OpenSpec.ofChange boundedHonestSpec)

/-- ITS FALSE NEIGHBOUR: 'it returns false'. Refute it at one input. -/
def boundedHonestWrong : ChangeSpec := { name := "boundedHonest", fn := fun _ => fun
  | [d1, d2] => { results := [.lit (.bool false)], args := [d1, d2] }
  | _ => none }
def BoundedHonestWrongFalsely : Prop := boundedHonestRow.holds Try.pinned (OpenSpec.ofChange boundedHonestWrong)

/-- 'codewrightlaw39.BoundedCorrects': WHATEVER THE INPUT: true; the input reads as it did. -/
def boundedCorrectsSpec : ChangeSpec := { name := "boundedCorrects", fn := fun _ => fun
  | [d1, d2, d3] => { results := [.lit (.bool true)], args := [d1, d2, d3] }
  | _ => none }
def boundedCorrectsRow : OpenClaim := { program := "ytpflgmbcmfllgaa", sum := "374feb09b670ca70e77e7f88f838c3956ca3daf0896acdd755bccfd55ddeed2b", func := "codewright/codewrightlaw39.BoundedCorrects", spec := "boundedCorrects", apart := false }
def BoundedCorrectsSaid : Prop := boundedCorrectsRow.holds Try.pinned (OpenSpec.ofChange boundedCorrectsSpec)

/-- ITS FALSE NEIGHBOUR: 'it returns false'. Refute it at one input. -/
def boundedCorrectsWrong : ChangeSpec := { name := "boundedCorrects", fn := fun _ => fun
  | [d1, d2, d3] => { results := [.lit (.bool false)], args := [d1, d2, d3] }
  | _ => none }
def BoundedCorrectsWrongFalsely : Prop := boundedCorrectsRow.holds Try.pinned (OpenSpec.ofChange boundedCorrectsWrong)

/-- 'codewrightlaw39.BoundedShifts': WHATEVER THE INPUT: true; the input reads as it did. -/
def boundedShiftsSpec : ChangeSpec := { name := "boundedShifts", fn := fun _ => fun
  | [d1, d2, d3] => { results := [.lit (.bool true)], args := [d1, d2, d3] }
  | _ => none }
def boundedShiftsRow : OpenClaim := { program := "ytpflgmbcmfllgaa", sum := "374feb09b670ca70e77e7f88f838c3956ca3daf0896acdd755bccfd55ddeed2b", func := "codewright/codewrightlaw39.BoundedShifts", spec := "boundedShifts", apart := false }
def BoundedShiftsSaid : Prop := boundedShiftsRow.holds Try.pinned (OpenSpec.ofChange boundedShiftsSpec)

/-- ITS FALSE NEIGHBOUR: 'it returns false'. Refute it at one input. -/
def boundedShiftsWrong : ChangeSpec := { name := "boundedShifts", fn := fun _ => fun
  | [d1, d2, d3] => { results := [.lit (.bool false)], args := [d1, d2, d3] }
  | _ => none }
def BoundedShiftsWrongFalsely : Prop := boundedShiftsRow.holds Try.pinned (OpenSpec.ofChange boundedShiftsWrong)

/-- 'codewrightlaw39.BoundedErased': WHATEVER THE INPUT: true; the input reads as it did. -/
def boundedErasedSpec : ChangeSpec := { name := "boundedErased", fn := fun _ => fun
  | [d1, d2, d3] => { results := [.lit (.bool true)], args := [d1, d2, d3] }
  | _ => none }
def boundedErasedRow : OpenClaim := { program := "ytpflgmbcmfllgaa", sum := "374feb09b670ca70e77e7f88f838c3956ca3daf0896acdd755bccfd55ddeed2b", func := "codewright/codewrightlaw39.BoundedErased", spec := "boundedErased", apart := false }
def BoundedErasedSaid : Prop := boundedErasedRow.holds Try.pinned (OpenSpec.ofChange boundedErasedSpec)

/-- ITS FALSE NEIGHBOUR: 'it returns false'. Refute it at one input. -/
def boundedErasedWrong : ChangeSpec := { name := "boundedErased", fn := fun _ => fun
  | [d1, d2, d3] => { results := [.lit (.bool false)], args := [d1, d2, d3] }
  | _ => none }
def BoundedErasedWrongFalsely : Prop := boundedErasedRow.holds Try.pinned (OpenSpec.ofChange boundedErasedWrong)

/-- 'codewrightlaw18.GrsWeights': WHATEVER THE INPUT: true; the input reads as it did. -/
def grsWeightsSpec : ChangeSpec := { name := "grsWeights", fn := fun _ => fun
  | [d] => { results := [.lit (.bool true)], args := [d] }
  | _ => none }
def grsWeightsRow : OpenClaim := { program := "ytpflgmbcmfllgaa", sum := "374feb09b670ca70e77e7f88f838c3956ca3daf0896acdd755bccfd55ddeed2b", func := "codewright/codewrightlaw18.GrsWeights", spec := "grsWeights", apart := false }
def GrsWeightsSaid : Prop := grsWeightsRow.holds Try.pinned (OpenSpec.ofChange grsWeightsSpec)

/-- ITS FALSE NEIGHBOUR: 'it returns false'. Refute it at one input. -/
def grsWeightsWrong : ChangeSpec := { name := "grsWeights", fn := fun _ => fun
  | [d] => { results := [.lit (.bool false)], args := [d] }
  | _ => none }
def GrsWeightsWrongFalsely : Prop := grsWeightsRow.holds Try.pinned (OpenSpec.ofChange grsWeightsWrong)

/-- 'codewrightlaw18.GrsTotals': WHATEVER THE INPUT: true; the input reads as it did. -/
def grsTotalsSpec : ChangeSpec := { name := "grsTotals", fn := fun _ => fun
  | [d] => { results := [.lit (.bool true)], args := [d] }
  | _ => none }
def grsTotalsRow : OpenClaim := { program := "ytpflgmbcmfllgaa", sum := "374feb09b670ca70e77e7f88f838c3956ca3daf0896acdd755bccfd55ddeed2b", func := "codewright/codewrightlaw18.GrsTotals", spec := "grsTotals", apart := false }
def GrsTotalsSaid : Prop := grsTotalsRow.holds Try.pinned (OpenSpec.ofChange grsTotalsSpec)

/-- ITS FALSE NEIGHBOUR: 'it returns false'. Refute it at one input. -/
def grsTotalsWrong : ChangeSpec := { name := "grsTotals", fn := fun _ => fun
  | [d] => { results := [.lit (.bool false)], args := [d] }
  | _ => none }
def GrsTotalsWrongFalsely : Prop := grsTotalsRow.holds Try.pinned (OpenSpec.ofChange grsTotalsWrong)

/-- 'codewrightlaw39.BoundedSyndromes': WHATEVER THE INPUT: true; the input reads as it did. -/
def boundedSyndromesSpec : ChangeSpec := { name := "boundedSyndromes", fn := fun _ => fun
  | [d1, d2] => { results := [.lit (.bool true)], args := [d1, d2] }
  | _ => none }
def boundedSyndromesRow : OpenClaim := { program := "ytpflgmbcmfllgaa", sum := "374feb09b670ca70e77e7f88f838c3956ca3daf0896acdd755bccfd55ddeed2b", func := "codewright/codewrightlaw39.BoundedSyndromes", spec := "boundedSyndromes", apart := false }
def BoundedSyndromesSaid : Prop := boundedSyndromesRow.holds Try.pinned (OpenSpec.ofChange boundedSyndromesSpec)

/-- ITS FALSE NEIGHBOUR: 'it returns false'. Refute it at one input. -/
def boundedSyndromesWrong : ChangeSpec := { name := "boundedSyndromes", fn := fun _ => fun
  | [d1, d2] => { results := [.lit (.bool false)], args := [d1, d2] }
  | _ => none }
def BoundedSyndromesWrongFalsely : Prop := boundedSyndromesRow.holds Try.pinned (OpenSpec.ofChange boundedSyndromesWrong)

/- THE SECOND FORM. 'bulk': how many values and letters a reading holds, each counted each time it is reached (what is shared counts as often as it is met; a slice's spare places count too). A statement '..UptoSaid' is the law's where the arguments, and the package variables that the reading takes, are together of bulk at most 1048576: NARROWER than '..Said'. Prove '..Said' where nothing that the law and all that it calls make is longer than what came in: it says more and counts as full. Else prove '..UptoSaid'. A law counts once. -/
mutual
def uptoBulk {H : Type} : DataW H → Nat
  | .lit (.string bytes) => bytes.length + 1
  | .lit _ => 1
  | .nil => 1
  | .ptr d => uptoBulk d + 1
  | .slice elems spare => uptoBulkAll elems + uptoBulkAll spare + 1
  | .agg parts => uptoBulkAll parts + 1
  | .iface _ d => uptoBulk d + 1
  | .map entries => uptoBulkEntries entries + 1
  | .held _ => 1
def uptoBulkAll {H : Type} : List (DataW H) → Nat
  | [] => 0
  | d :: r => uptoBulk d + uptoBulkAll r
def uptoBulkEntries {H : Type} : List (Lit × DataW H) → Nat
  | [] => 0
  | x :: r => uptoBulkEntry x + uptoBulkEntries r
def uptoBulkEntry {H : Type} : Lit × DataW H → Nat
  | (.string bytes, d) => bytes.length + uptoBulk d + 1
  | (_, d) => uptoBulk d + 1
 end
def uptoSmall : (H : Type) → List (DataW H) → Bool := fun _ ds => decide (uptoBulkAll ds ≤ 1048576)
def OpenSpec.upto (s : _root_.Go.ChangeSpec) : _root_.Go.OpenSpec := { _root_.Go.OpenSpec.ofChange s with cond := some uptoSmall }

/-- 'codewrightlaw14.CombineAssociates', WHERE WHAT IT READS IS OF BULK AT MOST 1048576: true; the input reads as it did. -/
def combineAssociatesUptoRow : OpenClaim := { program := "ytpflgmbcmfllgaa", sum := "374feb09b670ca70e77e7f88f838c3956ca3daf0896acdd755bccfd55ddeed2b", func := "codewright/codewrightlaw14.CombineAssociates", spec := "combineAssociates", unfollowed := true, recurses := true, apart := false, narrowed := true }
def CombineAssociatesUptoSaid : Prop := combineAssociatesUptoRow.holds Try.pinned (OpenSpec.upto combineAssociatesSpec)

/-- 'codewrightlaw14.CombineDuals', WHERE WHAT IT READS IS OF BULK AT MOST 1048576: true; the input reads as it did. -/
def combineDualsUptoRow : OpenClaim := { program := "ytpflgmbcmfllgaa", sum := "374feb09b670ca70e77e7f88f838c3956ca3daf0896acdd755bccfd55ddeed2b", func := "codewright/codewrightlaw14.CombineDuals", spec := "combineDuals", unfollowed := true, recurses := true, apart := false, narrowed := true }
def CombineDualsUptoSaid : Prop := combineDualsUptoRow.holds Try.pinned (OpenSpec.upto combineDualsSpec)

/-- 'codewrightlaw39.BoundedRadius', WHERE WHAT IT READS IS OF BULK AT MOST 1048576: true; the input reads as it did. -/
def boundedRadiusUptoRow : OpenClaim := { program := "ytpflgmbcmfllgaa", sum := "374feb09b670ca70e77e7f88f838c3956ca3daf0896acdd755bccfd55ddeed2b", func := "codewright/codewrightlaw39.BoundedRadius", spec := "boundedRadius", apart := false, narrowed := true }
def BoundedRadiusUptoSaid : Prop := boundedRadiusUptoRow.holds Try.pinned (OpenSpec.upto boundedRadiusSpec)

/-- 'codewrightlaw39.BoundedHonest', WHERE WHAT IT READS IS OF BULK AT MOST 1048576: true; the input reads as it did. -/
def boundedHonestUptoRow : OpenClaim := { program := "ytpflgmbcmfllgaa", sum := "374feb09b670ca70e77e7f88f838c3956ca3daf0896acdd755bccfd55ddeed2b", func := "codewright/codewrightlaw39.BoundedHonest", spec := "boundedHonest", apart := false, narrowed := true }
def BoundedHonestUptoSaid : Prop := boundedHonestUptoRow.holds Try.pinned (OpenSpec.upto boundedHonestSpec)

/-- 'codewrightlaw39.BoundedCorrects', WHERE WHAT IT READS IS OF BULK AT MOST 1048576: true; the input reads as it did. -/
def boundedCorrectsUptoRow : OpenClaim := { program := "ytpflgmbcmfllgaa", sum := "374feb09b670ca70e77e7f88f838c3956ca3daf0896acdd755bccfd55ddeed2b", func := "codewright/codewrightlaw39.BoundedCorrects", spec := "boundedCorrects", apart := false, narrowed := true }
def BoundedCorrectsUptoSaid : Prop := boundedCorrectsUptoRow.holds Try.pinned (OpenSpec.upto boundedCorrectsSpec)

/-- 'codewrightlaw39.BoundedShifts', WHERE WHAT IT READS IS OF BULK AT MOST 1048576: true; the input reads as it did. -/
def boundedShiftsUptoRow : OpenClaim := { program := "ytpflgmbcmfllgaa", sum := "374feb09b670ca70e77e7f88f838c3956ca3daf0896acdd755bccfd55ddeed2b", func := "codewright/codewrightlaw39.BoundedShifts", spec := "boundedShifts", apart := false, narrowed := true }
def BoundedShiftsUptoSaid : Prop := boundedShiftsUptoRow.holds Try.pinned (OpenSpec.upto boundedShiftsSpec)

/-- 'codewrightlaw39.BoundedErased', WHERE WHAT IT READS IS OF BULK AT MOST 1048576: true; the input reads as it did. -/
def boundedErasedUptoRow : OpenClaim := { program := "ytpflgmbcmfllgaa", sum := "374feb09b670ca70e77e7f88f838c3956ca3daf0896acdd755bccfd55ddeed2b", func := "codewright/codewrightlaw39.BoundedErased", spec := "boundedErased", apart := false, narrowed := true }
def BoundedErasedUptoSaid : Prop := boundedErasedUptoRow.holds Try.pinned (OpenSpec.upto boundedErasedSpec)

/-- 'codewrightlaw18.GrsWeights', WHERE WHAT IT READS IS OF BULK AT MOST 1048576: true; the input reads as it did. -/
def grsWeightsUptoRow : OpenClaim := { program := "ytpflgmbcmfllgaa", sum := "374feb09b670ca70e77e7f88f838c3956ca3daf0896acdd755bccfd55ddeed2b", func := "codewright/codewrightlaw18.GrsWeights", spec := "grsWeights", apart := false, narrowed := true }
def GrsWeightsUptoSaid : Prop := grsWeightsUptoRow.holds Try.pinned (OpenSpec.upto grsWeightsSpec)

/-- 'codewrightlaw18.GrsTotals', WHERE WHAT IT READS IS OF BULK AT MOST 1048576: true; the input reads as it did. -/
def grsTotalsUptoRow : OpenClaim := { program := "ytpflgmbcmfllgaa", sum := "374feb09b670ca70e77e7f88f838c3956ca3daf0896acdd755bccfd55ddeed2b", func := "codewright/codewrightlaw18.GrsTotals", spec := "grsTotals", apart := false, narrowed := true }
def GrsTotalsUptoSaid : Prop := grsTotalsUptoRow.holds Try.pinned (OpenSpec.upto grsTotalsSpec)

/-- 'codewrightlaw39.BoundedSyndromes', WHERE WHAT IT READS IS OF BULK AT MOST 1048576: true; the input reads as it did. -/
def boundedSyndromesUptoRow : OpenClaim := { program := "ytpflgmbcmfllgaa", sum := "374feb09b670ca70e77e7f88f838c3956ca3daf0896acdd755bccfd55ddeed2b", func := "codewright/codewrightlaw39.BoundedSyndromes", spec := "boundedSyndromes", apart := false, narrowed := true }
def BoundedSyndromesUptoSaid : Prop := boundedSyndromesUptoRow.holds Try.pinned (OpenSpec.upto boundedSyndromesSpec)

end Rows
end Go.Proofs.Ytpflgmbcmfllgaa
