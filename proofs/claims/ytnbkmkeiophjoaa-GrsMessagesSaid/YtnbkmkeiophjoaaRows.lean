/-
  No cell of these rows narrows 'for every input' (looked for: loops, veiled, ifaces, maps, wideKeys, modest, calm, conditions, laid).
  DERIVED. THE GIVEN ROWS OF THIS SEAT. 14 by the template 'for every input the law returns true; each argument reads behind the call as it read before'; 0 by the template 'total and deterministic' (their statements: YtnbkmkeiophjoaaTotals.lean).
  GIVEN WITH THE SEED: the statements are not yours to turn. If you find one false, say at which input.
  Laid BY PROGRAM, IN A SANDBOX (cutbox-rows.mjs): the forced cells as the released guide's own fill.sh prints them over the translation ccbd0d85e3c0463b… (all of the seat's roots in one cut). By AI agents, Wed Nov 11 2026. No macro, syntax, notation, axiom, sorry.
-/
import Derived.Test.YtnbkmkeiophjoaaChecked
import GoSem.Claim
import GoSem.ClaimJoined
import GoSem.ClaimMapViews
import Derived.JoinedTies
import Derived.KernelRfl
namespace Go.Proofs.Ytnbkmkeiophjoaa
/- THE CELL 'sum', in the pinned program and in every row, IS THE sha256 OF THE DUMP (.gsa) THAT YtnbkmkeiophjoaaProg.lean LOADS. Nothing in Lean hashes anything: it is a label: what it is worth is what the hold of that sum in a sandbox is worth. -/
noncomputable def Try.pinned : Pinned := { name := "ytnbkmkeiophjoaa", sum := "ccbd0d85e3c0463bd11c2a28196213ab6a8858653b96c438c4e4c47bd6ad17b3", checked := Try.checked }
namespace Rows
def none {H : Type} : Left H := { results := [], args := [] }

/-- 'codewrightlaw18.GrsStandard': WHATEVER THE INPUT: true; the input reads as it did. -/
def grsStandardSpec : ChangeSpec := { name := "grsStandard", fn := fun _ => fun
  | [d1, d2, d3] => { results := [.lit (.bool true)], args := [d1, d2, d3] }
  | _ => none }
def grsStandardRow : OpenClaim := { program := "ytnbkmkeiophjoaa", sum := "ccbd0d85e3c0463bd11c2a28196213ab6a8858653b96c438c4e4c47bd6ad17b3", func := "codewright/codewrightlaw18.GrsStandard", spec := "grsStandard", apart := false }
def GrsStandardSaid : Prop := grsStandardRow.holds Try.pinned (OpenSpec.ofChange grsStandardSpec)

/-- ITS FALSE NEIGHBOUR: 'it returns false'. Refute it at one input. -/
def grsStandardWrong : ChangeSpec := { name := "grsStandard", fn := fun _ => fun
  | [d1, d2, d3] => { results := [.lit (.bool false)], args := [d1, d2, d3] }
  | _ => none }
def GrsStandardWrongFalsely : Prop := grsStandardRow.holds Try.pinned (OpenSpec.ofChange grsStandardWrong)

/-- 'codewrightlaw18.GrsEncodes': WHATEVER THE INPUT: true; the input reads as it did. -/
def grsEncodesSpec : ChangeSpec := { name := "grsEncodes", fn := fun _ => fun
  | [d1, d2] => { results := [.lit (.bool true)], args := [d1, d2] }
  | _ => none }
def grsEncodesRow : OpenClaim := { program := "ytnbkmkeiophjoaa", sum := "ccbd0d85e3c0463bd11c2a28196213ab6a8858653b96c438c4e4c47bd6ad17b3", func := "codewright/codewrightlaw18.GrsEncodes", spec := "grsEncodes", apart := false }
def GrsEncodesSaid : Prop := grsEncodesRow.holds Try.pinned (OpenSpec.ofChange grsEncodesSpec)

/-- ITS FALSE NEIGHBOUR: 'it returns false'. Refute it at one input. -/
def grsEncodesWrong : ChangeSpec := { name := "grsEncodes", fn := fun _ => fun
  | [d1, d2] => { results := [.lit (.bool false)], args := [d1, d2] }
  | _ => none }
def GrsEncodesWrongFalsely : Prop := grsEncodesRow.holds Try.pinned (OpenSpec.ofChange grsEncodesWrong)

/-- 'codewrightlaw18.GrsDuals': WHATEVER THE INPUT: true; the input reads as it did. -/
def grsDualsSpec : ChangeSpec := { name := "grsDuals", fn := fun _ => fun
  | [d] => { results := [.lit (.bool true)], args := [d] }
  | _ => none }
def grsDualsRow : OpenClaim := { program := "ytnbkmkeiophjoaa", sum := "ccbd0d85e3c0463bd11c2a28196213ab6a8858653b96c438c4e4c47bd6ad17b3", func := "codewright/codewrightlaw18.GrsDuals", spec := "grsDuals", apart := false }
def GrsDualsSaid : Prop := grsDualsRow.holds Try.pinned (OpenSpec.ofChange grsDualsSpec)

/-- ITS FALSE NEIGHBOUR: 'it returns false'. Refute it at one input. -/
def grsDualsWrong : ChangeSpec := { name := "grsDuals", fn := fun _ => fun
  | [d] => { results := [.lit (.bool false)], args := [d] }
  | _ => none }
def GrsDualsWrongFalsely : Prop := grsDualsRow.holds Try.pinned (OpenSpec.ofChange grsDualsWrong)

/-- 'codewrightlaw18.GrsOrthogonal': WHATEVER THE INPUT: true; the input reads as it did. -/
def grsOrthogonalSpec : ChangeSpec := { name := "grsOrthogonal", fn := fun _ => fun
  | [d1, d2] => { results := [.lit (.bool true)], args := [d1, d2] }
  | _ => none }
def grsOrthogonalRow : OpenClaim := { program := "ytnbkmkeiophjoaa", sum := "ccbd0d85e3c0463bd11c2a28196213ab6a8858653b96c438c4e4c47bd6ad17b3", func := "codewright/codewrightlaw18.GrsOrthogonal", spec := "grsOrthogonal", apart := false }
def GrsOrthogonalSaid : Prop := grsOrthogonalRow.holds Try.pinned (OpenSpec.ofChange grsOrthogonalSpec)

/-- ITS FALSE NEIGHBOUR: 'it returns false'. Refute it at one input. -/
def grsOrthogonalWrong : ChangeSpec := { name := "grsOrthogonal", fn := fun _ => fun
  | [d1, d2] => { results := [.lit (.bool false)], args := [d1, d2] }
  | _ => none }
def GrsOrthogonalWrongFalsely : Prop := grsOrthogonalRow.holds Try.pinned (OpenSpec.ofChange grsOrthogonalWrong)

/-- 'codewrightlaw18.GrsSeparates': WHATEVER THE INPUT: true; the input reads as it did. -/
def grsSeparatesSpec : ChangeSpec := { name := "grsSeparates", fn := fun _ => fun
  | [d1, d2] => { results := [.lit (.bool true)], args := [d1, d2] }
  | _ => none }
def grsSeparatesRow : OpenClaim := { program := "ytnbkmkeiophjoaa", sum := "ccbd0d85e3c0463bd11c2a28196213ab6a8858653b96c438c4e4c47bd6ad17b3", func := "codewright/codewrightlaw18.GrsSeparates", spec := "grsSeparates", apart := false }
def GrsSeparatesSaid : Prop := grsSeparatesRow.holds Try.pinned (OpenSpec.ofChange grsSeparatesSpec)

/-- ITS FALSE NEIGHBOUR: 'it returns false'. Refute it at one input. -/
def grsSeparatesWrong : ChangeSpec := { name := "grsSeparates", fn := fun _ => fun
  | [d1, d2] => { results := [.lit (.bool false)], args := [d1, d2] }
  | _ => none }
def GrsSeparatesWrongFalsely : Prop := grsSeparatesRow.holds Try.pinned (OpenSpec.ofChange grsSeparatesWrong)

/-- 'codewrightlaw18.GrsLightest': WHATEVER THE INPUT: true; the input reads as it did. -/
def grsLightestSpec : ChangeSpec := { name := "grsLightest", fn := fun _ => fun
  | [d1, d2] => { results := [.lit (.bool true)], args := [d1, d2] }
  | _ => none }
def grsLightestRow : OpenClaim := { program := "ytnbkmkeiophjoaa", sum := "ccbd0d85e3c0463bd11c2a28196213ab6a8858653b96c438c4e4c47bd6ad17b3", func := "codewright/codewrightlaw18.GrsLightest", spec := "grsLightest", apart := false }
def GrsLightestSaid : Prop := grsLightestRow.holds Try.pinned (OpenSpec.ofChange grsLightestSpec)

/-- ITS FALSE NEIGHBOUR: 'it returns false'. Refute it at one input. -/
def grsLightestWrong : ChangeSpec := { name := "grsLightest", fn := fun _ => fun
  | [d1, d2] => { results := [.lit (.bool false)], args := [d1, d2] }
  | _ => none }
def GrsLightestWrongFalsely : Prop := grsLightestRow.holds Try.pinned (OpenSpec.ofChange grsLightestWrong)

/-- 'codewrightlaw18.GrsChecks': WHATEVER THE INPUT: true; the input reads as it did. -/
def grsChecksSpec : ChangeSpec := { name := "grsChecks", fn := fun _ => fun
  | [d] => { results := [.lit (.bool true)], args := [d] }
  | _ => none }
def grsChecksRow : OpenClaim := { program := "ytnbkmkeiophjoaa", sum := "ccbd0d85e3c0463bd11c2a28196213ab6a8858653b96c438c4e4c47bd6ad17b3", func := "codewright/codewrightlaw18.GrsChecks", spec := "grsChecks", apart := false }
def GrsChecksSaid : Prop := grsChecksRow.holds Try.pinned (OpenSpec.ofChange grsChecksSpec)

/-- ITS FALSE NEIGHBOUR: 'it returns false'. Refute it at one input. -/
def grsChecksWrong : ChangeSpec := { name := "grsChecks", fn := fun _ => fun
  | [d] => { results := [.lit (.bool false)], args := [d] }
  | _ => none }
def GrsChecksWrongFalsely : Prop := grsChecksRow.holds Try.pinned (OpenSpec.ofChange grsChecksWrong)

/-- 'codewrightlaw18.GrsMessages': WHATEVER THE INPUT: true; the input reads as it did. -/
def grsMessagesSpec : ChangeSpec := { name := "grsMessages", fn := fun _ => fun
  | [d1, d2] => { results := [.lit (.bool true)], args := [d1, d2] }
  | _ => none }
def grsMessagesRow : OpenClaim := { program := "ytnbkmkeiophjoaa", sum := "ccbd0d85e3c0463bd11c2a28196213ab6a8858653b96c438c4e4c47bd6ad17b3", func := "codewright/codewrightlaw18.GrsMessages", spec := "grsMessages", apart := false }
def GrsMessagesSaid : Prop := grsMessagesRow.holds Try.pinned (OpenSpec.ofChange grsMessagesSpec)

/-- ITS FALSE NEIGHBOUR: 'it returns false'. Refute it at one input. -/
def grsMessagesWrong : ChangeSpec := { name := "grsMessages", fn := fun _ => fun
  | [d1, d2] => { results := [.lit (.bool false)], args := [d1, d2] }
  | _ => none }
def GrsMessagesWrongFalsely : Prop := grsMessagesRow.holds Try.pinned (OpenSpec.ofChange grsMessagesWrong)

/-- 'codewrightlaw18.GrsInterpolates': WHATEVER THE INPUT: true; the input reads as it did. -/
def grsInterpolatesSpec : ChangeSpec := { name := "grsInterpolates", fn := fun _ => fun
  | [d1, d2, d3] => { results := [.lit (.bool true)], args := [d1, d2, d3] }
  | _ => none }
def grsInterpolatesRow : OpenClaim := { program := "ytnbkmkeiophjoaa", sum := "ccbd0d85e3c0463bd11c2a28196213ab6a8858653b96c438c4e4c47bd6ad17b3", func := "codewright/codewrightlaw18.GrsInterpolates", spec := "grsInterpolates", unfollowed := true, recurses := true, apart := false }
def GrsInterpolatesSaid : Prop := grsInterpolatesRow.holds Try.pinned (OpenSpec.ofChange grsInterpolatesSpec)

/-- ITS FALSE NEIGHBOUR: 'it returns false'. Refute it at one input. -/
def grsInterpolatesWrong : ChangeSpec := { name := "grsInterpolates", fn := fun _ => fun
  | [d1, d2, d3] => { results := [.lit (.bool false)], args := [d1, d2, d3] }
  | _ => none }
def GrsInterpolatesWrongFalsely : Prop := grsInterpolatesRow.holds Try.pinned (OpenSpec.ofChange grsInterpolatesWrong)

/-- 'codewrightlaw18.GrsGenerates': WHATEVER THE INPUT: true; the input reads as it did. -/
def grsGeneratesSpec : ChangeSpec := { name := "grsGenerates", fn := fun _ => fun
  | [d] => { results := [.lit (.bool true)], args := [d] }
  | _ => none }
def grsGeneratesRow : OpenClaim := { program := "ytnbkmkeiophjoaa", sum := "ccbd0d85e3c0463bd11c2a28196213ab6a8858653b96c438c4e4c47bd6ad17b3", func := "codewright/codewrightlaw18.GrsGenerates", spec := "grsGenerates", unfollowed := true, recurses := true, apart := false }
def GrsGeneratesSaid : Prop := grsGeneratesRow.holds Try.pinned (OpenSpec.ofChange grsGeneratesSpec)

/-- ITS FALSE NEIGHBOUR: 'it returns false'. Refute it at one input. -/
def grsGeneratesWrong : ChangeSpec := { name := "grsGenerates", fn := fun _ => fun
  | [d] => { results := [.lit (.bool false)], args := [d] }
  | _ => none }
def GrsGeneratesWrongFalsely : Prop := grsGeneratesRow.holds Try.pinned (OpenSpec.ofChange grsGeneratesWrong)

/-- 'codewrightlaw18.GrsAffine': WHATEVER THE INPUT: true; the input reads as it did. -/
def grsAffineSpec : ChangeSpec := { name := "grsAffine", fn := fun _ => fun
  | [d1, d2] => { results := [.lit (.bool true)], args := [d1, d2] }
  | _ => none }
def grsAffineRow : OpenClaim := { program := "ytnbkmkeiophjoaa", sum := "ccbd0d85e3c0463bd11c2a28196213ab6a8858653b96c438c4e4c47bd6ad17b3", func := "codewright/codewrightlaw18.GrsAffine", spec := "grsAffine", unfollowed := true, recurses := true, apart := false }
def GrsAffineSaid : Prop := grsAffineRow.holds Try.pinned (OpenSpec.ofChange grsAffineSpec)

/-- ITS FALSE NEIGHBOUR: 'it returns false'. Refute it at one input. -/
def grsAffineWrong : ChangeSpec := { name := "grsAffine", fn := fun _ => fun
  | [d1, d2] => { results := [.lit (.bool false)], args := [d1, d2] }
  | _ => none }
def GrsAffineWrongFalsely : Prop := grsAffineRow.holds Try.pinned (OpenSpec.ofChange grsAffineWrong)

/-- 'codewrightlaw18.GrsPunctures': WHATEVER THE INPUT: true; the input reads as it did. -/
def grsPuncturesSpec : ChangeSpec := { name := "grsPunctures", fn := fun _ => fun
  | [d1, d2] => { results := [.lit (.bool true)], args := [d1, d2] }
  | _ => none }
def grsPuncturesRow : OpenClaim := { program := "ytnbkmkeiophjoaa", sum := "ccbd0d85e3c0463bd11c2a28196213ab6a8858653b96c438c4e4c47bd6ad17b3", func := "codewright/codewrightlaw18.GrsPunctures", spec := "grsPunctures", unfollowed := true, recurses := true, apart := false }
def GrsPuncturesSaid : Prop := grsPuncturesRow.holds Try.pinned (OpenSpec.ofChange grsPuncturesSpec)

/-- ITS FALSE NEIGHBOUR: 'it returns false'. Refute it at one input. -/
def grsPuncturesWrong : ChangeSpec := { name := "grsPunctures", fn := fun _ => fun
  | [d1, d2] => { results := [.lit (.bool false)], args := [d1, d2] }
  | _ => none }
def GrsPuncturesWrongFalsely : Prop := grsPuncturesRow.holds Try.pinned (OpenSpec.ofChange grsPuncturesWrong)

/-- 'codewrightlaw18.GrsWeights': WHATEVER THE INPUT: true; the input reads as it did. -/
def grsWeightsSpec : ChangeSpec := { name := "grsWeights", fn := fun _ => fun
  | [d] => { results := [.lit (.bool true)], args := [d] }
  | _ => none }
def grsWeightsRow : OpenClaim := { program := "ytnbkmkeiophjoaa", sum := "ccbd0d85e3c0463bd11c2a28196213ab6a8858653b96c438c4e4c47bd6ad17b3", func := "codewright/codewrightlaw18.GrsWeights", spec := "grsWeights", apart := false }
def GrsWeightsSaid : Prop := grsWeightsRow.holds Try.pinned (OpenSpec.ofChange grsWeightsSpec)

/-- ITS FALSE NEIGHBOUR: 'it returns false'. Refute it at one input. -/
def grsWeightsWrong : ChangeSpec := { name := "grsWeights", fn := fun _ => fun
  | [d] => { results := [.lit (.bool false)], args := [d] }
  | _ => none }
def GrsWeightsWrongFalsely : Prop := grsWeightsRow.holds Try.pinned (OpenSpec.ofChange grsWeightsWrong)

/-- 'codewrightlaw18.GrsTotals': WHATEVER THE INPUT: true; the input reads as it did. -/
def grsTotalsSpec : ChangeSpec := { name := "grsTotals", fn := fun _ => fun
  | [d] => { results := [.lit (.bool true)], args := [d] }
  | _ => none }
def grsTotalsRow : OpenClaim := { program := "ytnbkmkeiophjoaa", sum := "ccbd0d85e3c0463bd11c2a28196213ab6a8858653b96c438c4e4c47bd6ad17b3", func := "codewright/codewrightlaw18.GrsTotals", spec := "grsTotals", apart := false }
def GrsTotalsSaid : Prop := grsTotalsRow.holds Try.pinned (OpenSpec.ofChange grsTotalsSpec)

/-- ITS FALSE NEIGHBOUR: 'it returns false'. Refute it at one input. -/
def grsTotalsWrong : ChangeSpec := { name := "grsTotals", fn := fun _ => fun
  | [d] => { results := [.lit (.bool false)], args := [d] }
  | _ => none }
def GrsTotalsWrongFalsely : Prop := grsTotalsRow.holds Try.pinned (OpenSpec.ofChange grsTotalsWrong)

/- THE SECOND FORM. 'bulk': how many values and letters a reading holds, each counted each time it is reached (what is shared counts as often as it is met; a slice's spare places count too). A statement '..UptoSaid' is the law's where the arguments, and the package variables that the reading takes, are together of bulk at most 1048576: NARROWER than '..Said'. Prove '..Said' where nothing that the law and all that it calls make is longer than what came in: it says more and counts as full. Else prove '..UptoSaid'. A law counts once. -/
mutual
def uptoBulk {H : Type} : DataW H → Nat
  | .lit (.string bytes) => bytes.length + 1
  | .lit _ => 1
  | .nil => 1
  | .ptr d => uptoBulk d + 1
  | .slice elems spare => uptoBulkAll elems + uptoBulkAll spare + 1
  | .agg parts => uptoBulkAll parts + 1
  | .iface _ d => uptoBulk d + 1
  | .map entries => uptoBulkEntries entries + 1
  | .held _ => 1
def uptoBulkAll {H : Type} : List (DataW H) → Nat
  | [] => 0
  | d :: r => uptoBulk d + uptoBulkAll r
def uptoBulkEntries {H : Type} : List (Lit × DataW H) → Nat
  | [] => 0
  | x :: r => uptoBulkEntry x + uptoBulkEntries r
def uptoBulkEntry {H : Type} : Lit × DataW H → Nat
  | (.string bytes, d) => bytes.length + uptoBulk d + 1
  | (_, d) => uptoBulk d + 1
 end
def uptoSmall : (H : Type) → List (DataW H) → Bool := fun _ ds => decide (uptoBulkAll ds ≤ 1048576)
def OpenSpec.upto (s : _root_.Go.ChangeSpec) : _root_.Go.OpenSpec := { _root_.Go.OpenSpec.ofChange s with cond := some uptoSmall }

/-- 'codewrightlaw18.GrsStandard', WHERE WHAT IT READS IS OF BULK AT MOST 1048576: true; the input reads as it did. -/
def grsStandardUptoRow : OpenClaim := { program := "ytnbkmkeiophjoaa", sum := "ccbd0d85e3c0463bd11c2a28196213ab6a8858653b96c438c4e4c47bd6ad17b3", func := "codewright/codewrightlaw18.GrsStandard", spec := "grsStandard", apart := false, narrowed := true }
def GrsStandardUptoSaid : Prop := grsStandardUptoRow.holds Try.pinned (OpenSpec.upto grsStandardSpec)

/-- 'codewrightlaw18.GrsEncodes', WHERE WHAT IT READS IS OF BULK AT MOST 1048576: true; the input reads as it did. -/
def grsEncodesUptoRow : OpenClaim := { program := "ytnbkmkeiophjoaa", sum := "ccbd0d85e3c0463bd11c2a28196213ab6a8858653b96c438c4e4c47bd6ad17b3", func := "codewright/codewrightlaw18.GrsEncodes", spec := "grsEncodes", apart := false, narrowed := true }
def GrsEncodesUptoSaid : Prop := grsEncodesUptoRow.holds Try.pinned (OpenSpec.upto grsEncodesSpec)

/-- 'codewrightlaw18.GrsDuals', WHERE WHAT IT READS IS OF BULK AT MOST 1048576: true; the input reads as it did. -/
def grsDualsUptoRow : OpenClaim := { program := "ytnbkmkeiophjoaa", sum := "ccbd0d85e3c0463bd11c2a28196213ab6a8858653b96c438c4e4c47bd6ad17b3", func := "codewright/codewrightlaw18.GrsDuals", spec := "grsDuals", apart := false, narrowed := true }
def GrsDualsUptoSaid : Prop := grsDualsUptoRow.holds Try.pinned (OpenSpec.upto grsDualsSpec)

/-- 'codewrightlaw18.GrsOrthogonal', WHERE WHAT IT READS IS OF BULK AT MOST 1048576: true; the input reads as it did. -/
def grsOrthogonalUptoRow : OpenClaim := { program := "ytnbkmkeiophjoaa", sum := "ccbd0d85e3c0463bd11c2a28196213ab6a8858653b96c438c4e4c47bd6ad17b3", func := "codewright/codewrightlaw18.GrsOrthogonal", spec := "grsOrthogonal", apart := false, narrowed := true }
def GrsOrthogonalUptoSaid : Prop := grsOrthogonalUptoRow.holds Try.pinned (OpenSpec.upto grsOrthogonalSpec)

/-- 'codewrightlaw18.GrsSeparates', WHERE WHAT IT READS IS OF BULK AT MOST 1048576: true; the input reads as it did. -/
def grsSeparatesUptoRow : OpenClaim := { program := "ytnbkmkeiophjoaa", sum := "ccbd0d85e3c0463bd11c2a28196213ab6a8858653b96c438c4e4c47bd6ad17b3", func := "codewright/codewrightlaw18.GrsSeparates", spec := "grsSeparates", apart := false, narrowed := true }
def GrsSeparatesUptoSaid : Prop := grsSeparatesUptoRow.holds Try.pinned (OpenSpec.upto grsSeparatesSpec)

/-- 'codewrightlaw18.GrsLightest', WHERE WHAT IT READS IS OF BULK AT MOST 1048576: true; the input reads as it did. -/
def grsLightestUptoRow : OpenClaim := { program := "ytnbkmkeiophjoaa", sum := "ccbd0d85e3c0463bd11c2a28196213ab6a8858653b96c438c4e4c47bd6ad17b3", func := "codewright/codewrightlaw18.GrsLightest", spec := "grsLightest", apart := false, narrowed := true }
def GrsLightestUptoSaid : Prop := grsLightestUptoRow.holds Try.pinned (OpenSpec.upto grsLightestSpec)

/-- 'codewrightlaw18.GrsChecks', WHERE WHAT IT READS IS OF BULK AT MOST 1048576: true; the input reads as it did. -/
def grsChecksUptoRow : OpenClaim := { program := "ytnbkmkeiophjoaa", sum := "ccbd0d85e3c0463bd11c2a28196213ab6a8858653b96c438c4e4c47bd6ad17b3", func := "codewright/codewrightlaw18.GrsChecks", spec := "grsChecks", apart := false, narrowed := true }
def GrsChecksUptoSaid : Prop := grsChecksUptoRow.holds Try.pinned (OpenSpec.upto grsChecksSpec)

/-- 'codewrightlaw18.GrsMessages', WHERE WHAT IT READS IS OF BULK AT MOST 1048576: true; the input reads as it did. -/
def grsMessagesUptoRow : OpenClaim := { program := "ytnbkmkeiophjoaa", sum := "ccbd0d85e3c0463bd11c2a28196213ab6a8858653b96c438c4e4c47bd6ad17b3", func := "codewright/codewrightlaw18.GrsMessages", spec := "grsMessages", apart := false, narrowed := true }
def GrsMessagesUptoSaid : Prop := grsMessagesUptoRow.holds Try.pinned (OpenSpec.upto grsMessagesSpec)

/-- 'codewrightlaw18.GrsInterpolates', WHERE WHAT IT READS IS OF BULK AT MOST 1048576: true; the input reads as it did. -/
def grsInterpolatesUptoRow : OpenClaim := { program := "ytnbkmkeiophjoaa", sum := "ccbd0d85e3c0463bd11c2a28196213ab6a8858653b96c438c4e4c47bd6ad17b3", func := "codewright/codewrightlaw18.GrsInterpolates", spec := "grsInterpolates", unfollowed := true, recurses := true, apart := false, narrowed := true }
def GrsInterpolatesUptoSaid : Prop := grsInterpolatesUptoRow.holds Try.pinned (OpenSpec.upto grsInterpolatesSpec)

/-- 'codewrightlaw18.GrsGenerates', WHERE WHAT IT READS IS OF BULK AT MOST 1048576: true; the input reads as it did. -/
def grsGeneratesUptoRow : OpenClaim := { program := "ytnbkmkeiophjoaa", sum := "ccbd0d85e3c0463bd11c2a28196213ab6a8858653b96c438c4e4c47bd6ad17b3", func := "codewright/codewrightlaw18.GrsGenerates", spec := "grsGenerates", unfollowed := true, recurses := true, apart := false, narrowed := true }
def GrsGeneratesUptoSaid : Prop := grsGeneratesUptoRow.holds Try.pinned (OpenSpec.upto grsGeneratesSpec)

/-- 'codewrightlaw18.GrsAffine', WHERE WHAT IT READS IS OF BULK AT MOST 1048576: true; the input reads as it did. -/
def grsAffineUptoRow : OpenClaim := { program := "ytnbkmkeiophjoaa", sum := "ccbd0d85e3c0463bd11c2a28196213ab6a8858653b96c438c4e4c47bd6ad17b3", func := "codewright/codewrightlaw18.GrsAffine", spec := "grsAffine", unfollowed := true, recurses := true, apart := false, narrowed := true }
def GrsAffineUptoSaid : Prop := grsAffineUptoRow.holds Try.pinned (OpenSpec.upto grsAffineSpec)

/-- 'codewrightlaw18.GrsPunctures', WHERE WHAT IT READS IS OF BULK AT MOST 1048576: true; the input reads as it did. -/
def grsPuncturesUptoRow : OpenClaim := { program := "ytnbkmkeiophjoaa", sum := "ccbd0d85e3c0463bd11c2a28196213ab6a8858653b96c438c4e4c47bd6ad17b3", func := "codewright/codewrightlaw18.GrsPunctures", spec := "grsPunctures", unfollowed := true, recurses := true, apart := false, narrowed := true }
def GrsPuncturesUptoSaid : Prop := grsPuncturesUptoRow.holds Try.pinned (OpenSpec.upto grsPuncturesSpec)

/-- 'codewrightlaw18.GrsWeights', WHERE WHAT IT READS IS OF BULK AT MOST 1048576: true; the input reads as it did. -/
def grsWeightsUptoRow : OpenClaim := { program := "ytnbkmkeiophjoaa", sum := "ccbd0d85e3c0463bd11c2a28196213ab6a8858653b96c438c4e4c47bd6ad17b3", func := "codewright/codewrightlaw18.GrsWeights", spec := "grsWeights", apart := false, narrowed := true }
def GrsWeightsUptoSaid : Prop := grsWeightsUptoRow.holds Try.pinned (OpenSpec.upto grsWeightsSpec)

/-- 'codewrightlaw18.GrsTotals', WHERE WHAT IT READS IS OF BULK AT MOST 1048576: true; the input reads as it did. -/
def grsTotalsUptoRow : OpenClaim := { program := "ytnbkmkeiophjoaa", sum := "ccbd0d85e3c0463bd11c2a28196213ab6a8858653b96c438c4e4c47bd6ad17b3", func := "codewright/codewrightlaw18.GrsTotals", spec := "grsTotals", apart := false, narrowed := true }
def GrsTotalsUptoSaid : Prop := grsTotalsUptoRow.holds Try.pinned (OpenSpec.upto grsTotalsSpec)

end Rows
end Go.Proofs.Ytnbkmkeiophjoaa
