/-
  No cell of these rows narrows 'for every input' (looked for: loops, veiled, ifaces, maps, wideKeys, modest, calm, conditions, laid).
  DERIVED. THE GIVEN ROWS OF THIS SEAT. 10 by the template 'for every input the law returns true; each argument reads behind the call as it read before'; 0 by the template 'total and deterministic' (their statements: YtjdoneanohhkmaaGreatTotals.lean).
  GIVEN WITH THE SEED: the statements are not yours to turn. If you find one false, say at which input.
  Laid BY PROGRAM, IN A SANDBOX (cutbox-rows.mjs): the forced cells as the released guide's own fill.sh prints them over the translation 419be9082f4364dd… (all of the seat's roots in one cut). By AI agents, Wed Nov 11 2026. No macro, syntax, notation, axiom, sorry.
-/
import Derived.Test.YtjdoneanohhkmaaGreatChecked
import GoSem.Claim
import GoSem.ClaimJoined
import GoSem.ClaimMapViews
import Derived.JoinedTies
import Derived.KernelRfl
namespace Go.Proofs.YtjdoneanohhkmaaGreat
/- THE CELL 'sum', in the pinned program and in every row, IS THE sha256 OF THE DUMP (.gsa) THAT YtjdoneanohhkmaaGreatProg.lean LOADS. Nothing in Lean hashes anything: it is a label: what it is worth is what the hold of that sum in a sandbox is worth. -/
noncomputable def Tryz.pinned : Pinned := { name := "ytjdoneanohhkmaagreat", sum := "419be9082f4364ddd5c2e7f2d5e30a838e3d3b6bb4f0257e131cc4003bf5370c", checked := Tryz.checked }
namespace Rows
def none {H : Type} : Left H := { results := [], args := [] }

/-- 'codewrightlaw14.CombineExtends': WHATEVER THE INPUT: true; the input reads as it did. -/
def combineExtendsSpec : ChangeSpec := { name := "combineExtends", fn := fun _ => fun
  | [d1, d2, d3] => { results := [.lit (.bool true)], args := [d1, d2, d3] }
  | _ => none }
def combineExtendsRow : OpenClaim := { program := "ytjdoneanohhkmaagreat", sum := "419be9082f4364ddd5c2e7f2d5e30a838e3d3b6bb4f0257e131cc4003bf5370c", func := "codewright/codewrightlaw14.CombineExtends", spec := "combineExtends", unfollowed := true, recurses := true, apart := false }
def CombineExtendsSaid : Prop := combineExtendsRow.holds Tryz.pinned (OpenSpec.ofChange combineExtendsSpec)

/-- ITS FALSE NEIGHBOUR: 'it returns false'. Refute it at one input. -/
def combineExtendsWrong : ChangeSpec := { name := "combineExtends", fn := fun _ => fun
  | [d1, d2, d3] => { results := [.lit (.bool false)], args := [d1, d2, d3] }
  | _ => none }
def CombineExtendsWrongFalsely : Prop := combineExtendsRow.holds Tryz.pinned (OpenSpec.ofChange combineExtendsWrong)

/-- 'codewrightlaw14.CombineTails': WHATEVER THE INPUT: true; the input reads as it did. -/
def combineTailsSpec : ChangeSpec := { name := "combineTails", fn := fun _ => fun
  | [d1, d2, d3, d4] => { results := [.lit (.bool true)], args := [d1, d2, d3, d4] }
  | _ => none }
def combineTailsRow : OpenClaim := { program := "ytjdoneanohhkmaagreat", sum := "419be9082f4364ddd5c2e7f2d5e30a838e3d3b6bb4f0257e131cc4003bf5370c", func := "codewright/codewrightlaw14.CombineTails", spec := "combineTails", unfollowed := true, recurses := true, apart := false }
def CombineTailsSaid : Prop := combineTailsRow.holds Tryz.pinned (OpenSpec.ofChange combineTailsSpec)

/-- ITS FALSE NEIGHBOUR: 'it returns false'. Refute it at one input. -/
def combineTailsWrong : ChangeSpec := { name := "combineTails", fn := fun _ => fun
  | [d1, d2, d3, d4] => { results := [.lit (.bool false)], args := [d1, d2, d3, d4] }
  | _ => none }
def CombineTailsWrongFalsely : Prop := combineTailsRow.holds Tryz.pinned (OpenSpec.ofChange combineTailsWrong)

/-- 'codewrightlaw14.CombineConcatenates': WHATEVER THE INPUT: true; the input reads as it did. -/
def combineConcatenatesSpec : ChangeSpec := { name := "combineConcatenates", fn := fun _ => fun
  | [d1, d2, d3] => { results := [.lit (.bool true)], args := [d1, d2, d3] }
  | _ => none }
def combineConcatenatesRow : OpenClaim := { program := "ytjdoneanohhkmaagreat", sum := "419be9082f4364ddd5c2e7f2d5e30a838e3d3b6bb4f0257e131cc4003bf5370c", func := "codewright/codewrightlaw14.CombineConcatenates", spec := "combineConcatenates", unfollowed := true, recurses := true, apart := false }
def CombineConcatenatesSaid : Prop := combineConcatenatesRow.holds Tryz.pinned (OpenSpec.ofChange combineConcatenatesSpec)

/-- ITS FALSE NEIGHBOUR: 'it returns false'. Refute it at one input. -/
def combineConcatenatesWrong : ChangeSpec := { name := "combineConcatenates", fn := fun _ => fun
  | [d1, d2, d3] => { results := [.lit (.bool false)], args := [d1, d2, d3] }
  | _ => none }
def CombineConcatenatesWrongFalsely : Prop := combineConcatenatesRow.holds Tryz.pinned (OpenSpec.ofChange combineConcatenatesWrong)

/-- 'codewrightlaw14.CombineWeights': WHATEVER THE INPUT: true; the input reads as it did. -/
def combineWeightsSpec : ChangeSpec := { name := "combineWeights", fn := fun _ => fun
  | [d1, d2, d3, d4] => { results := [.lit (.bool true)], args := [d1, d2, d3, d4] }
  | _ => none }
def combineWeightsRow : OpenClaim := { program := "ytjdoneanohhkmaagreat", sum := "419be9082f4364ddd5c2e7f2d5e30a838e3d3b6bb4f0257e131cc4003bf5370c", func := "codewright/codewrightlaw14.CombineWeights", spec := "combineWeights", unfollowed := true, recurses := true, apart := false }
def CombineWeightsSaid : Prop := combineWeightsRow.holds Tryz.pinned (OpenSpec.ofChange combineWeightsSpec)

/-- ITS FALSE NEIGHBOUR: 'it returns false'. Refute it at one input. -/
def combineWeightsWrong : ChangeSpec := { name := "combineWeights", fn := fun _ => fun
  | [d1, d2, d3, d4] => { results := [.lit (.bool false)], args := [d1, d2, d3, d4] }
  | _ => none }
def CombineWeightsWrongFalsely : Prop := combineWeightsRow.holds Tryz.pinned (OpenSpec.ofChange combineWeightsWrong)

/-- 'codewrightlaw19.AlternantParity': WHATEVER THE INPUT: true; the input reads as it did. -/
def alternantParitySpec : ChangeSpec := { name := "alternantParity", fn := fun _ => fun
  | [d1, d2] => { results := [.lit (.bool true)], args := [d1, d2] }
  | _ => none }
def alternantParityRow : OpenClaim := { program := "ytjdoneanohhkmaagreat", sum := "419be9082f4364ddd5c2e7f2d5e30a838e3d3b6bb4f0257e131cc4003bf5370c", func := "codewright/codewrightlaw19.AlternantParity", spec := "alternantParity", unfollowed := true, recurses := true, apart := false }
def AlternantParitySaid : Prop := alternantParityRow.holds Tryz.pinned (OpenSpec.ofChange alternantParitySpec)

/-- ITS FALSE NEIGHBOUR: 'it returns false'. Refute it at one input. -/
def alternantParityWrong : ChangeSpec := { name := "alternantParity", fn := fun _ => fun
  | [d1, d2] => { results := [.lit (.bool false)], args := [d1, d2] }
  | _ => none }
def AlternantParityWrongFalsely : Prop := alternantParityRow.holds Tryz.pinned (OpenSpec.ofChange alternantParityWrong)

/-- 'codewrightlaw19.AlternantSquares': WHATEVER THE INPUT: true; the input reads as it did. -/
def alternantSquaresSpec : ChangeSpec := { name := "alternantSquares", fn := fun _ => fun
  | [d] => { results := [.lit (.bool true)], args := [d] }
  | _ => none }
def alternantSquaresRow : OpenClaim := { program := "ytjdoneanohhkmaagreat", sum := "419be9082f4364ddd5c2e7f2d5e30a838e3d3b6bb4f0257e131cc4003bf5370c", func := "codewright/codewrightlaw19.AlternantSquares", spec := "alternantSquares", unfollowed := true, recurses := true, apart := false }
def AlternantSquaresSaid : Prop := alternantSquaresRow.holds Tryz.pinned (OpenSpec.ofChange alternantSquaresSpec)

/-- ITS FALSE NEIGHBOUR: 'it returns false'. Refute it at one input. -/
def alternantSquaresWrong : ChangeSpec := { name := "alternantSquares", fn := fun _ => fun
  | [d] => { results := [.lit (.bool false)], args := [d] }
  | _ => none }
def AlternantSquaresWrongFalsely : Prop := alternantSquaresRow.holds Tryz.pinned (OpenSpec.ofChange alternantSquaresWrong)

/-- 'codewrightlaw19.AlternantGoppa': WHATEVER THE INPUT: true; the input reads as it did. -/
def alternantGoppaSpec : ChangeSpec := { name := "alternantGoppa", fn := fun _ => fun
  | [d] => { results := [.lit (.bool true)], args := [d] }
  | _ => none }
def alternantGoppaRow : OpenClaim := { program := "ytjdoneanohhkmaagreat", sum := "419be9082f4364ddd5c2e7f2d5e30a838e3d3b6bb4f0257e131cc4003bf5370c", func := "codewright/codewrightlaw19.AlternantGoppa", spec := "alternantGoppa", unfollowed := true, recurses := true, apart := false }
def AlternantGoppaSaid : Prop := alternantGoppaRow.holds Tryz.pinned (OpenSpec.ofChange alternantGoppaSpec)

/-- ITS FALSE NEIGHBOUR: 'it returns false'. Refute it at one input. -/
def alternantGoppaWrong : ChangeSpec := { name := "alternantGoppa", fn := fun _ => fun
  | [d] => { results := [.lit (.bool false)], args := [d] }
  | _ => none }
def AlternantGoppaWrongFalsely : Prop := alternantGoppaRow.holds Tryz.pinned (OpenSpec.ofChange alternantGoppaWrong)

/-- 'codewrightlaw19.AlternantImages': WHATEVER THE INPUT: true; the input reads as it did. -/
def alternantImagesSpec : ChangeSpec := { name := "alternantImages", fn := fun _ => fun
  | [d1, d2, d3] => { results := [.lit (.bool true)], args := [d1, d2, d3] }
  | _ => none }
def alternantImagesRow : OpenClaim := { program := "ytjdoneanohhkmaagreat", sum := "419be9082f4364ddd5c2e7f2d5e30a838e3d3b6bb4f0257e131cc4003bf5370c", func := "codewright/codewrightlaw19.AlternantImages", spec := "alternantImages", unfollowed := true, recurses := true, apart := false }
def AlternantImagesSaid : Prop := alternantImagesRow.holds Tryz.pinned (OpenSpec.ofChange alternantImagesSpec)

/-- ITS FALSE NEIGHBOUR: 'it returns false'. Refute it at one input. -/
def alternantImagesWrong : ChangeSpec := { name := "alternantImages", fn := fun _ => fun
  | [d1, d2, d3] => { results := [.lit (.bool false)], args := [d1, d2, d3] }
  | _ => none }
def AlternantImagesWrongFalsely : Prop := alternantImagesRow.holds Tryz.pinned (OpenSpec.ofChange alternantImagesWrong)

/-- 'codewrightlaw39.BoundedAlternant': WHATEVER THE INPUT: true; the input reads as it did. -/
def boundedAlternantSpec : ChangeSpec := { name := "boundedAlternant", fn := fun _ => fun
  | [d1, d2, d3] => { results := [.lit (.bool true)], args := [d1, d2, d3] }
  | _ => none }
def boundedAlternantRow : OpenClaim := { program := "ytjdoneanohhkmaagreat", sum := "419be9082f4364ddd5c2e7f2d5e30a838e3d3b6bb4f0257e131cc4003bf5370c", func := "codewright/codewrightlaw39.BoundedAlternant", spec := "boundedAlternant", unfollowed := true, recurses := true, apart := false }
def BoundedAlternantSaid : Prop := boundedAlternantRow.holds Tryz.pinned (OpenSpec.ofChange boundedAlternantSpec)

/-- ITS FALSE NEIGHBOUR: 'it returns false'. Refute it at one input. -/
def boundedAlternantWrong : ChangeSpec := { name := "boundedAlternant", fn := fun _ => fun
  | [d1, d2, d3] => { results := [.lit (.bool false)], args := [d1, d2, d3] }
  | _ => none }
def BoundedAlternantWrongFalsely : Prop := boundedAlternantRow.holds Tryz.pinned (OpenSpec.ofChange boundedAlternantWrong)

/-- 'codewrightlaw39.BoundedGoppa': WHATEVER THE INPUT: true; the input reads as it did. -/
def boundedGoppaSpec : ChangeSpec := { name := "boundedGoppa", fn := fun _ => fun
  | [d1, d2] => { results := [.lit (.bool true)], args := [d1, d2] }
  | _ => none }
def boundedGoppaRow : OpenClaim := { program := "ytjdoneanohhkmaagreat", sum := "419be9082f4364ddd5c2e7f2d5e30a838e3d3b6bb4f0257e131cc4003bf5370c", func := "codewright/codewrightlaw39.BoundedGoppa", spec := "boundedGoppa", unfollowed := true, recurses := true, apart := false }
def BoundedGoppaSaid : Prop := boundedGoppaRow.holds Tryz.pinned (OpenSpec.ofChange boundedGoppaSpec)

/-- ITS FALSE NEIGHBOUR: 'it returns false'. Refute it at one input. -/
def boundedGoppaWrong : ChangeSpec := { name := "boundedGoppa", fn := fun _ => fun
  | [d1, d2] => { results := [.lit (.bool false)], args := [d1, d2] }
  | _ => none }
def BoundedGoppaWrongFalsely : Prop := boundedGoppaRow.holds Tryz.pinned (OpenSpec.ofChange boundedGoppaWrong)

/- THE SECOND FORM. 'bulk': how many values and letters a reading holds, each counted each time it is reached (what is shared counts as often as it is met; a slice's spare places count too). A statement '..UptoSaid' is the law's where the arguments, and the package variables that the reading takes, are together of bulk at most 1048576: NARROWER than '..Said'. Prove '..Said' where nothing that the law and all that it calls make is longer than what came in: it says more and counts as full. Else prove '..UptoSaid'. A law counts once. -/
mutual
def uptoBulk {H : Type} : DataW H → Nat
  | .lit (.string bytes) => bytes.length + 1
  | .lit _ => 1
  | .nil => 1
  | .ptr d => uptoBulk d + 1
  | .slice elems spare => uptoBulkAll elems + uptoBulkAll spare + 1
  | .agg parts => uptoBulkAll parts + 1
  | .iface _ d => uptoBulk d + 1
  | .map entries => uptoBulkEntries entries + 1
  | .held _ => 1
def uptoBulkAll {H : Type} : List (DataW H) → Nat
  | [] => 0
  | d :: r => uptoBulk d + uptoBulkAll r
def uptoBulkEntries {H : Type} : List (Lit × DataW H) → Nat
  | [] => 0
  | x :: r => uptoBulkEntry x + uptoBulkEntries r
def uptoBulkEntry {H : Type} : Lit × DataW H → Nat
  | (.string bytes, d) => bytes.length + uptoBulk d + 1
  | (_, d) => uptoBulk d + 1
 end
def uptoSmall : (H : Type) → List (DataW H) → Bool := fun _ ds => decide (uptoBulkAll ds ≤ 1048576)
def OpenSpec.upto (s : _root_.Go.ChangeSpec) : _root_.Go.OpenSpec := { _root_.Go.OpenSpec.ofChange s with cond := some uptoSmall }

/-- 'codewrightlaw14.CombineExtends', WHERE WHAT IT READS IS OF BULK AT MOST 1048576: true; the input reads as it did. -/
def combineExtendsUptoRow : OpenClaim := { program := "ytjdoneanohhkmaagreat", sum := "419be9082f4364ddd5c2e7f2d5e30a838e3d3b6bb4f0257e131cc4003bf5370c", func := "codewright/codewrightlaw14.CombineExtends", spec := "combineExtends", unfollowed := true, recurses := true, apart := false, narrowed := true }
def CombineExtendsUptoSaid : Prop := combineExtendsUptoRow.holds Tryz.pinned (OpenSpec.upto combineExtendsSpec)

/-- 'codewrightlaw14.CombineTails', WHERE WHAT IT READS IS OF BULK AT MOST 1048576: true; the input reads as it did. -/
def combineTailsUptoRow : OpenClaim := { program := "ytjdoneanohhkmaagreat", sum := "419be9082f4364ddd5c2e7f2d5e30a838e3d3b6bb4f0257e131cc4003bf5370c", func := "codewright/codewrightlaw14.CombineTails", spec := "combineTails", unfollowed := true, recurses := true, apart := false, narrowed := true }
def CombineTailsUptoSaid : Prop := combineTailsUptoRow.holds Tryz.pinned (OpenSpec.upto combineTailsSpec)

/-- 'codewrightlaw14.CombineConcatenates', WHERE WHAT IT READS IS OF BULK AT MOST 1048576: true; the input reads as it did. -/
def combineConcatenatesUptoRow : OpenClaim := { program := "ytjdoneanohhkmaagreat", sum := "419be9082f4364ddd5c2e7f2d5e30a838e3d3b6bb4f0257e131cc4003bf5370c", func := "codewright/codewrightlaw14.CombineConcatenates", spec := "combineConcatenates", unfollowed := true, recurses := true, apart := false, narrowed := true }
def CombineConcatenatesUptoSaid : Prop := combineConcatenatesUptoRow.holds Tryz.pinned (OpenSpec.upto combineConcatenatesSpec)

/-- 'codewrightlaw14.CombineWeights', WHERE WHAT IT READS IS OF BULK AT MOST 1048576: true; the input reads as it did. -/
def combineWeightsUptoRow : OpenClaim := { program := "ytjdoneanohhkmaagreat", sum := "419be9082f4364ddd5c2e7f2d5e30a838e3d3b6bb4f0257e131cc4003bf5370c", func := "codewright/codewrightlaw14.CombineWeights", spec := "combineWeights", unfollowed := true, recurses := true, apart := false, narrowed := true }
def CombineWeightsUptoSaid : Prop := combineWeightsUptoRow.holds Tryz.pinned (OpenSpec.upto combineWeightsSpec)

/-- 'codewrightlaw19.AlternantParity', WHERE WHAT IT READS IS OF BULK AT MOST 1048576: true; the input reads as it did. -/
def alternantParityUptoRow : OpenClaim := { program := "ytjdoneanohhkmaagreat", sum := "419be9082f4364ddd5c2e7f2d5e30a838e3d3b6bb4f0257e131cc4003bf5370c", func := "codewright/codewrightlaw19.AlternantParity", spec := "alternantParity", unfollowed := true, recurses := true, apart := false, narrowed := true }
def AlternantParityUptoSaid : Prop := alternantParityUptoRow.holds Tryz.pinned (OpenSpec.upto alternantParitySpec)

/-- 'codewrightlaw19.AlternantSquares', WHERE WHAT IT READS IS OF BULK AT MOST 1048576: true; the input reads as it did. -/
def alternantSquaresUptoRow : OpenClaim := { program := "ytjdoneanohhkmaagreat", sum := "419be9082f4364ddd5c2e7f2d5e30a838e3d3b6bb4f0257e131cc4003bf5370c", func := "codewright/codewrightlaw19.AlternantSquares", spec := "alternantSquares", unfollowed := true, recurses := true, apart := false, narrowed := true }
def AlternantSquaresUptoSaid : Prop := alternantSquaresUptoRow.holds Tryz.pinned (OpenSpec.upto alternantSquaresSpec)

/-- 'codewrightlaw19.AlternantGoppa', WHERE WHAT IT READS IS OF BULK AT MOST 1048576: true; the input reads as it did. -/
def alternantGoppaUptoRow : OpenClaim := { program := "ytjdoneanohhkmaagreat", sum := "419be9082f4364ddd5c2e7f2d5e30a838e3d3b6bb4f0257e131cc4003bf5370c", func := "codewright/codewrightlaw19.AlternantGoppa", spec := "alternantGoppa", unfollowed := true, recurses := true, apart := false, narrowed := true }
def AlternantGoppaUptoSaid : Prop := alternantGoppaUptoRow.holds Tryz.pinned (OpenSpec.upto alternantGoppaSpec)

/-- 'codewrightlaw19.AlternantImages', WHERE WHAT IT READS IS OF BULK AT MOST 1048576: true; the input reads as it did. -/
def alternantImagesUptoRow : OpenClaim := { program := "ytjdoneanohhkmaagreat", sum := "419be9082f4364ddd5c2e7f2d5e30a838e3d3b6bb4f0257e131cc4003bf5370c", func := "codewright/codewrightlaw19.AlternantImages", spec := "alternantImages", unfollowed := true, recurses := true, apart := false, narrowed := true }
def AlternantImagesUptoSaid : Prop := alternantImagesUptoRow.holds Tryz.pinned (OpenSpec.upto alternantImagesSpec)

/-- 'codewrightlaw39.BoundedAlternant', WHERE WHAT IT READS IS OF BULK AT MOST 1048576: true; the input reads as it did. -/
def boundedAlternantUptoRow : OpenClaim := { program := "ytjdoneanohhkmaagreat", sum := "419be9082f4364ddd5c2e7f2d5e30a838e3d3b6bb4f0257e131cc4003bf5370c", func := "codewright/codewrightlaw39.BoundedAlternant", spec := "boundedAlternant", unfollowed := true, recurses := true, apart := false, narrowed := true }
def BoundedAlternantUptoSaid : Prop := boundedAlternantUptoRow.holds Tryz.pinned (OpenSpec.upto boundedAlternantSpec)

/-- 'codewrightlaw39.BoundedGoppa', WHERE WHAT IT READS IS OF BULK AT MOST 1048576: true; the input reads as it did. -/
def boundedGoppaUptoRow : OpenClaim := { program := "ytjdoneanohhkmaagreat", sum := "419be9082f4364ddd5c2e7f2d5e30a838e3d3b6bb4f0257e131cc4003bf5370c", func := "codewright/codewrightlaw39.BoundedGoppa", spec := "boundedGoppa", unfollowed := true, recurses := true, apart := false, narrowed := true }
def BoundedGoppaUptoSaid : Prop := boundedGoppaUptoRow.holds Tryz.pinned (OpenSpec.upto boundedGoppaSpec)

end Rows
end Go.Proofs.YtjdoneanohhkmaaGreat
