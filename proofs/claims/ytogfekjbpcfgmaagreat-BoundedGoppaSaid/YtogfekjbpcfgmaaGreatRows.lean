/-
  No cell of these rows narrows 'for every input' (looked for: loops, veiled, ifaces, maps, wideKeys, modest, calm, conditions, laid).
  DERIVED. THE GIVEN ROWS OF THIS SEAT. 5 by the template 'for every input the law returns true; each argument reads behind the call as it read before'; 0 by the template 'total and deterministic' (their statements: YtogfekjbpcfgmaaGreatTotals.lean).
  GIVEN WITH THE SEED: the statements are not yours to turn. If you find one false, say at which input.
  Laid BY PROGRAM, IN A SANDBOX (cutbox-rows.mjs): the forced cells as the released guide's own fill.sh prints them over the translation 11cff2058e21cc8f… (all of the seat's roots in one cut). By AI agents, Wed Nov 11 2026. No macro, syntax, notation, axiom, sorry.
-/
import Derived.Test.YtogfekjbpcfgmaaGreatChecked
import GoSem.Claim
import GoSem.ClaimJoined
import GoSem.ClaimMapViews
import Derived.JoinedTies
import Derived.KernelRfl
namespace Go.Proofs.YtogfekjbpcfgmaaGreat
/- THE CELL 'sum', in the pinned program and in every row, IS THE sha256 OF THE DUMP (.gsa) THAT YtogfekjbpcfgmaaGreatProg.lean LOADS. Nothing in Lean hashes anything: it is a label: what it is worth is what the hold of that sum in a sandbox is worth. -/
noncomputable def Tryz.pinned : Pinned := { name := "ytogfekjbpcfgmaagreat", sum := "11cff2058e21cc8ff923711e9dca71b75cff007c33407ca1752531fb47aa0116", checked := Tryz.checked }
namespace Rows
def none {H : Type} : Left H := { results := [], args := [] }

/-- 'codewrightlaw14.CombineExtends': WHATEVER THE INPUT: true; the input reads as it did. -/
def combineExtendsSpec : ChangeSpec := { name := "combineExtends", fn := fun _ => fun
  | [d1, d2, d3] => { results := [.lit (.bool true)], args := [d1, d2, d3] }
  | _ => none }
def combineExtendsRow : OpenClaim := { program := "ytogfekjbpcfgmaagreat", sum := "11cff2058e21cc8ff923711e9dca71b75cff007c33407ca1752531fb47aa0116", func := "codewright/codewrightlaw14.CombineExtends", spec := "combineExtends", unfollowed := true, recurses := true, apart := false }
def CombineExtendsSaid : Prop := combineExtendsRow.holds Tryz.pinned (OpenSpec.ofChange combineExtendsSpec)

/-- ITS FALSE NEIGHBOUR: 'it returns false'. Refute it at one input. -/
def combineExtendsWrong : ChangeSpec := { name := "combineExtends", fn := fun _ => fun
  | [d1, d2, d3] => { results := [.lit (.bool false)], args := [d1, d2, d3] }
  | _ => none }
def CombineExtendsWrongFalsely : Prop := combineExtendsRow.holds Tryz.pinned (OpenSpec.ofChange combineExtendsWrong)

/-- 'codewrightlaw14.CombineTails': WHATEVER THE INPUT: true; the input reads as it did. -/
def combineTailsSpec : ChangeSpec := { name := "combineTails", fn := fun _ => fun
  | [d1, d2, d3, d4] => { results := [.lit (.bool true)], args := [d1, d2, d3, d4] }
  | _ => none }
def combineTailsRow : OpenClaim := { program := "ytogfekjbpcfgmaagreat", sum := "11cff2058e21cc8ff923711e9dca71b75cff007c33407ca1752531fb47aa0116", func := "codewright/codewrightlaw14.CombineTails", spec := "combineTails", unfollowed := true, recurses := true, apart := false }
def CombineTailsSaid : Prop := combineTailsRow.holds Tryz.pinned (OpenSpec.ofChange combineTailsSpec)

/-- ITS FALSE NEIGHBOUR: 'it returns false'. Refute it at one input. -/
def combineTailsWrong : ChangeSpec := { name := "combineTails", fn := fun _ => fun
  | [d1, d2, d3, d4] => { results := [.lit (.bool false)], args := [d1, d2, d3, d4] }
  | _ => none }
def CombineTailsWrongFalsely : Prop := combineTailsRow.holds Tryz.pinned (OpenSpec.ofChange combineTailsWrong)

/-- 'codewrightlaw14.CombineConcatenates': WHATEVER THE INPUT: true; the input reads as it did. -/
def combineConcatenatesSpec : ChangeSpec := { name := "combineConcatenates", fn := fun _ => fun
  | [d1, d2, d3] => { results := [.lit (.bool true)], args := [d1, d2, d3] }
  | _ => none }
def combineConcatenatesRow : OpenClaim := { program := "ytogfekjbpcfgmaagreat", sum := "11cff2058e21cc8ff923711e9dca71b75cff007c33407ca1752531fb47aa0116", func := "codewright/codewrightlaw14.CombineConcatenates", spec := "combineConcatenates", unfollowed := true, recurses := true, apart := false }
def CombineConcatenatesSaid : Prop := combineConcatenatesRow.holds Tryz.pinned (OpenSpec.ofChange combineConcatenatesSpec)

/-- ITS FALSE NEIGHBOUR: 'it returns false'. Refute it at one input. -/
def combineConcatenatesWrong : ChangeSpec := { name := "combineConcatenates", fn := fun _ => fun
  | [d1, d2, d3] => { results := [.lit (.bool false)], args := [d1, d2, d3] }
  | _ => none }
def CombineConcatenatesWrongFalsely : Prop := combineConcatenatesRow.holds Tryz.pinned (OpenSpec.ofChange combineConcatenatesWrong)

/-- 'codewrightlaw14.CombineWeights': WHATEVER THE INPUT: true; the input reads as it did. -/
def combineWeightsSpec : ChangeSpec := { name := "combineWeights", fn := fun _ => fun
  | [d1, d2, d3, d4] => { results := [.lit (.bool true)], args := [d1, d2, d3, d4] }
  | _ => none }
def combineWeightsRow : OpenClaim := { program := "ytogfekjbpcfgmaagreat", sum := "11cff2058e21cc8ff923711e9dca71b75cff007c33407ca1752531fb47aa0116", func := "codewright/codewrightlaw14.CombineWeights", spec := "combineWeights", unfollowed := true, recurses := true, apart := false }
def CombineWeightsSaid : Prop := combineWeightsRow.holds Tryz.pinned (OpenSpec.ofChange combineWeightsSpec)

/-- ITS FALSE NEIGHBOUR: 'it returns false'. Refute it at one input. -/
def combineWeightsWrong : ChangeSpec := { name := "combineWeights", fn := fun _ => fun
  | [d1, d2, d3, d4] => { results := [.lit (.bool false)], args := [d1, d2, d3, d4] }
  | _ => none }
def CombineWeightsWrongFalsely : Prop := combineWeightsRow.holds Tryz.pinned (OpenSpec.ofChange combineWeightsWrong)

/-- 'codewrightlaw39.BoundedGoppa': WHATEVER THE INPUT: true; the input reads as it did. -/
def boundedGoppaSpec : ChangeSpec := { name := "boundedGoppa", fn := fun _ => fun
  | [d1, d2] => { results := [.lit (.bool true)], args := [d1, d2] }
  | _ => none }
def boundedGoppaRow : OpenClaim := { program := "ytogfekjbpcfgmaagreat", sum := "11cff2058e21cc8ff923711e9dca71b75cff007c33407ca1752531fb47aa0116", func := "codewright/codewrightlaw39.BoundedGoppa", spec := "boundedGoppa", unfollowed := true, recurses := true, apart := false }
def BoundedGoppaSaid : Prop := boundedGoppaRow.holds Tryz.pinned (OpenSpec.ofChange boundedGoppaSpec)

/-- ITS FALSE NEIGHBOUR: 'it returns false'. Refute it at one input. -/
def boundedGoppaWrong : ChangeSpec := { name := "boundedGoppa", fn := fun _ => fun
  | [d1, d2] => { results := [.lit (.bool false)], args := [d1, d2] }
  | _ => none }
def BoundedGoppaWrongFalsely : Prop := boundedGoppaRow.holds Tryz.pinned (OpenSpec.ofChange boundedGoppaWrong)

/- THE SECOND FORM. 'bulk': how many values and letters a reading holds, each counted each time it is reached (what is shared counts as often as it is met; a slice's spare places count too). A statement '..UptoSaid' is the law's where the arguments, and the package variables that the reading takes, are together of bulk at most 1048576: NARROWER than '..Said'. Prove '..Said' where nothing that the law and all that it calls make is longer than what came in: it says more and counts as full. Else prove '..UptoSaid'. A law counts once. -/
mutual
def uptoBulk {H : Type} : DataW H → Nat
  | .lit (.string bytes) => bytes.length + 1
  | .lit _ => 1
  | .nil => 1
  | .ptr d => uptoBulk d + 1
  | .slice elems spare => uptoBulkAll elems + uptoBulkAll spare + 1
  | .agg parts => uptoBulkAll parts + 1
  | .iface _ d => uptoBulk d + 1
  | .map entries => uptoBulkEntries entries + 1
  | .held _ => 1
def uptoBulkAll {H : Type} : List (DataW H) → Nat
  | [] => 0
  | d :: r => uptoBulk d + uptoBulkAll r
def uptoBulkEntries {H : Type} : List (Lit × DataW H) → Nat
  | [] => 0
  | x :: r => uptoBulkEntry x + uptoBulkEntries r
def uptoBulkEntry {H : Type} : Lit × DataW H → Nat
  | (.string bytes, d) => bytes.length + uptoBulk d + 1
  | (_, d) => uptoBulk d + 1
 end
def uptoSmall : (H : Type) → List (DataW H) → Bool := fun _ ds => decide (uptoBulkAll ds ≤ 1048576)
def OpenSpec.upto (s : _root_.Go.ChangeSpec) : _root_.Go.OpenSpec := { _root_.Go.OpenSpec.ofChange s with cond := some uptoSmall }

/-- 'codewrightlaw14.CombineExtends', WHERE WHAT IT READS IS OF BULK AT MOST 1048576: true; the input reads as it did. -/
def combineExtendsUptoRow : OpenClaim := { program := "ytogfekjbpcfgmaagreat", sum := "11cff2058e21cc8ff923711e9dca71b75cff007c33407ca1752531fb47aa0116", func := "codewright/codewrightlaw14.CombineExtends", spec := "combineExtends", unfollowed := true, recurses := true, apart := false, narrowed := true }
def CombineExtendsUptoSaid : Prop := combineExtendsUptoRow.holds Tryz.pinned (OpenSpec.upto combineExtendsSpec)

/-- 'codewrightlaw14.CombineTails', WHERE WHAT IT READS IS OF BULK AT MOST 1048576: true; the input reads as it did. -/
def combineTailsUptoRow : OpenClaim := { program := "ytogfekjbpcfgmaagreat", sum := "11cff2058e21cc8ff923711e9dca71b75cff007c33407ca1752531fb47aa0116", func := "codewright/codewrightlaw14.CombineTails", spec := "combineTails", unfollowed := true, recurses := true, apart := false, narrowed := true }
def CombineTailsUptoSaid : Prop := combineTailsUptoRow.holds Tryz.pinned (OpenSpec.upto combineTailsSpec)

/-- 'codewrightlaw14.CombineConcatenates', WHERE WHAT IT READS IS OF BULK AT MOST 1048576: true; the input reads as it did. -/
def combineConcatenatesUptoRow : OpenClaim := { program := "ytogfekjbpcfgmaagreat", sum := "11cff2058e21cc8ff923711e9dca71b75cff007c33407ca1752531fb47aa0116", func := "codewright/codewrightlaw14.CombineConcatenates", spec := "combineConcatenates", unfollowed := true, recurses := true, apart := false, narrowed := true }
def CombineConcatenatesUptoSaid : Prop := combineConcatenatesUptoRow.holds Tryz.pinned (OpenSpec.upto combineConcatenatesSpec)

/-- 'codewrightlaw14.CombineWeights', WHERE WHAT IT READS IS OF BULK AT MOST 1048576: true; the input reads as it did. -/
def combineWeightsUptoRow : OpenClaim := { program := "ytogfekjbpcfgmaagreat", sum := "11cff2058e21cc8ff923711e9dca71b75cff007c33407ca1752531fb47aa0116", func := "codewright/codewrightlaw14.CombineWeights", spec := "combineWeights", unfollowed := true, recurses := true, apart := false, narrowed := true }
def CombineWeightsUptoSaid : Prop := combineWeightsUptoRow.holds Tryz.pinned (OpenSpec.upto combineWeightsSpec)

/-- 'codewrightlaw39.BoundedGoppa', WHERE WHAT IT READS IS OF BULK AT MOST 1048576: true; the input reads as it did. -/
def boundedGoppaUptoRow : OpenClaim := { program := "ytogfekjbpcfgmaagreat", sum := "11cff2058e21cc8ff923711e9dca71b75cff007c33407ca1752531fb47aa0116", func := "codewright/codewrightlaw39.BoundedGoppa", spec := "boundedGoppa", unfollowed := true, recurses := true, apart := false, narrowed := true }
def BoundedGoppaUptoSaid : Prop := boundedGoppaUptoRow.holds Tryz.pinned (OpenSpec.upto boundedGoppaSpec)

end Rows
end Go.Proofs.YtogfekjbpcfgmaaGreat
