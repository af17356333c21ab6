/-
  No cell of these rows narrows 'for every input' (looked for: loops, veiled, ifaces, maps, wideKeys, modest, calm, conditions, laid).
  DERIVED. THE GIVEN ROWS OF THIS SEAT. 11 by the template 'for every input the law returns true; each argument reads behind the call as it read before'; 0 by the template 'total and deterministic' (their statements: YtghgbjgoedlnjaaTotals.lean).
  GIVEN WITH THE SEED: the statements are not yours to turn. If you find one false, say at which input.
  Laid BY PROGRAM, IN A SANDBOX (cutbox-rows.mjs): the forced cells as the released guide's own fill.sh prints them over the translation bccd78dcd41d837a… (all of the seat's roots in one cut). By AI agents, Wed Nov 11 2026. No macro, syntax, notation, axiom, sorry.
-/
import Derived.Test.YtghgbjgoedlnjaaChecked
import GoSem.Claim
import GoSem.ClaimJoined
import GoSem.ClaimMapViews
import Derived.JoinedTies
import Derived.KernelRfl
namespace Go.Proofs.Ytghgbjgoedlnjaa
/- THE CELL 'sum', in the pinned program and in every row, IS THE sha256 OF THE DUMP (.gsa) THAT YtghgbjgoedlnjaaProg.lean LOADS. Nothing in Lean hashes anything: it is a label: what it is worth is what the hold of that sum in a sandbox is worth. -/
noncomputable def Try.pinned : Pinned := { name := "ytghgbjgoedlnjaa", sum := "bccd78dcd41d837acc775148d428db5ee2d3dca0628ed66f1087b4ae405973c1", checked := Try.checked }
namespace Rows
def none {H : Type} : Left H := { results := [], args := [] }

/-- 'codewrightlaw14.CombineInterleaves': WHATEVER THE INPUT: true; the input reads as it did. -/
def combineInterleavesSpec : ChangeSpec := { name := "combineInterleaves", fn := fun _ => fun
  | [d1, d2] => { results := [.lit (.bool true)], args := [d1, d2] }
  | _ => none }
def combineInterleavesRow : OpenClaim := { program := "ytghgbjgoedlnjaa", sum := "bccd78dcd41d837acc775148d428db5ee2d3dca0628ed66f1087b4ae405973c1", func := "codewright/codewrightlaw14.CombineInterleaves", spec := "combineInterleaves", unfollowed := true, recurses := true, apart := false }
def CombineInterleavesSaid : Prop := combineInterleavesRow.holds Try.pinned (OpenSpec.ofChange combineInterleavesSpec)

/-- ITS FALSE NEIGHBOUR: 'it returns false'. Refute it at one input. -/
def combineInterleavesWrong : ChangeSpec := { name := "combineInterleaves", fn := fun _ => fun
  | [d1, d2] => { results := [.lit (.bool false)], args := [d1, d2] }
  | _ => none }
def CombineInterleavesWrongFalsely : Prop := combineInterleavesRow.holds Try.pinned (OpenSpec.ofChange combineInterleavesWrong)

/-- 'codewrightlaw14.CombineBursts': WHATEVER THE INPUT: true; the input reads as it did. -/
def combineBurstsSpec : ChangeSpec := { name := "combineBursts", fn := fun _ => fun
  | [d1, d2, d3] => { results := [.lit (.bool true)], args := [d1, d2, d3] }
  | _ => none }
def combineBurstsRow : OpenClaim := { program := "ytghgbjgoedlnjaa", sum := "bccd78dcd41d837acc775148d428db5ee2d3dca0628ed66f1087b4ae405973c1", func := "codewright/codewrightlaw14.CombineBursts", spec := "combineBursts", unfollowed := true, recurses := true, apart := false }
def CombineBurstsSaid : Prop := combineBurstsRow.holds Try.pinned (OpenSpec.ofChange combineBurstsSpec)

/-- ITS FALSE NEIGHBOUR: 'it returns false'. Refute it at one input. -/
def combineBurstsWrong : ChangeSpec := { name := "combineBursts", fn := fun _ => fun
  | [d1, d2, d3] => { results := [.lit (.bool false)], args := [d1, d2, d3] }
  | _ => none }
def CombineBurstsWrongFalsely : Prop := combineBurstsRow.holds Try.pinned (OpenSpec.ofChange combineBurstsWrong)

/-- 'codewrightlaw14.CombineJuxtaposes': WHATEVER THE INPUT: true; the input reads as it did. -/
def combineJuxtaposesSpec : ChangeSpec := { name := "combineJuxtaposes", fn := fun _ => fun
  | [d1, d2] => { results := [.lit (.bool true)], args := [d1, d2] }
  | _ => none }
def combineJuxtaposesRow : OpenClaim := { program := "ytghgbjgoedlnjaa", sum := "bccd78dcd41d837acc775148d428db5ee2d3dca0628ed66f1087b4ae405973c1", func := "codewright/codewrightlaw14.CombineJuxtaposes", spec := "combineJuxtaposes", unfollowed := true, recurses := true, apart := false }
def CombineJuxtaposesSaid : Prop := combineJuxtaposesRow.holds Try.pinned (OpenSpec.ofChange combineJuxtaposesSpec)

/-- ITS FALSE NEIGHBOUR: 'it returns false'. Refute it at one input. -/
def combineJuxtaposesWrong : ChangeSpec := { name := "combineJuxtaposes", fn := fun _ => fun
  | [d1, d2] => { results := [.lit (.bool false)], args := [d1, d2] }
  | _ => none }
def CombineJuxtaposesWrongFalsely : Prop := combineJuxtaposesRow.holds Try.pinned (OpenSpec.ofChange combineJuxtaposesWrong)

/-- 'codewrightlaw14.CombineProducts': WHATEVER THE INPUT: true; the input reads as it did. -/
def combineProductsSpec : ChangeSpec := { name := "combineProducts", fn := fun _ => fun
  | [d1, d2] => { results := [.lit (.bool true)], args := [d1, d2] }
  | _ => none }
def combineProductsRow : OpenClaim := { program := "ytghgbjgoedlnjaa", sum := "bccd78dcd41d837acc775148d428db5ee2d3dca0628ed66f1087b4ae405973c1", func := "codewright/codewrightlaw14.CombineProducts", spec := "combineProducts", unfollowed := true, recurses := true, apart := false }
def CombineProductsSaid : Prop := combineProductsRow.holds Try.pinned (OpenSpec.ofChange combineProductsSpec)

/-- ITS FALSE NEIGHBOUR: 'it returns false'. Refute it at one input. -/
def combineProductsWrong : ChangeSpec := { name := "combineProducts", fn := fun _ => fun
  | [d1, d2] => { results := [.lit (.bool false)], args := [d1, d2] }
  | _ => none }
def CombineProductsWrongFalsely : Prop := combineProductsRow.holds Try.pinned (OpenSpec.ofChange combineProductsWrong)

/-- 'codewrightlaw14.CombineArrays': WHATEVER THE INPUT: true; the input reads as it did. -/
def combineArraysSpec : ChangeSpec := { name := "combineArrays", fn := fun _ => fun
  | [d1, d2, d3] => { results := [.lit (.bool true)], args := [d1, d2, d3] }
  | _ => none }
def combineArraysRow : OpenClaim := { program := "ytghgbjgoedlnjaa", sum := "bccd78dcd41d837acc775148d428db5ee2d3dca0628ed66f1087b4ae405973c1", func := "codewright/codewrightlaw14.CombineArrays", spec := "combineArrays", unfollowed := true, recurses := true, apart := false }
def CombineArraysSaid : Prop := combineArraysRow.holds Try.pinned (OpenSpec.ofChange combineArraysSpec)

/-- ITS FALSE NEIGHBOUR: 'it returns false'. Refute it at one input. -/
def combineArraysWrong : ChangeSpec := { name := "combineArrays", fn := fun _ => fun
  | [d1, d2, d3] => { results := [.lit (.bool false)], args := [d1, d2, d3] }
  | _ => none }
def CombineArraysWrongFalsely : Prop := combineArraysRow.holds Try.pinned (OpenSpec.ofChange combineArraysWrong)

/-- 'codewrightlaw14.CombineSums': WHATEVER THE INPUT: true; the input reads as it did. -/
def combineSumsSpec : ChangeSpec := { name := "combineSums", fn := fun _ => fun
  | [d1, d2] => { results := [.lit (.bool true)], args := [d1, d2] }
  | _ => none }
def combineSumsRow : OpenClaim := { program := "ytghgbjgoedlnjaa", sum := "bccd78dcd41d837acc775148d428db5ee2d3dca0628ed66f1087b4ae405973c1", func := "codewright/codewrightlaw14.CombineSums", spec := "combineSums", unfollowed := true, recurses := true, apart := false }
def CombineSumsSaid : Prop := combineSumsRow.holds Try.pinned (OpenSpec.ofChange combineSumsSpec)

/-- ITS FALSE NEIGHBOUR: 'it returns false'. Refute it at one input. -/
def combineSumsWrong : ChangeSpec := { name := "combineSums", fn := fun _ => fun
  | [d1, d2] => { results := [.lit (.bool false)], args := [d1, d2] }
  | _ => none }
def CombineSumsWrongFalsely : Prop := combineSumsRow.holds Try.pinned (OpenSpec.ofChange combineSumsWrong)

/-- 'codewrightlaw14.CombineAssociates': WHATEVER THE INPUT: true; the input reads as it did. -/
def combineAssociatesSpec : ChangeSpec := { name := "combineAssociates", fn := fun _ => fun
  | [d1, d2, d3] => { results := [.lit (.bool true)], args := [d1, d2, d3] }
  | _ => none }
def combineAssociatesRow : OpenClaim := { program := "ytghgbjgoedlnjaa", sum := "bccd78dcd41d837acc775148d428db5ee2d3dca0628ed66f1087b4ae405973c1", func := "codewright/codewrightlaw14.CombineAssociates", spec := "combineAssociates", unfollowed := true, recurses := true, apart := false }
def CombineAssociatesSaid : Prop := combineAssociatesRow.holds Try.pinned (OpenSpec.ofChange combineAssociatesSpec)

/-- ITS FALSE NEIGHBOUR: 'it returns false'. Refute it at one input. -/
def combineAssociatesWrong : ChangeSpec := { name := "combineAssociates", fn := fun _ => fun
  | [d1, d2, d3] => { results := [.lit (.bool false)], args := [d1, d2, d3] }
  | _ => none }
def CombineAssociatesWrongFalsely : Prop := combineAssociatesRow.holds Try.pinned (OpenSpec.ofChange combineAssociatesWrong)

/-- 'codewrightlaw14.CombineDuals': WHATEVER THE INPUT: true; the input reads as it did. -/
def combineDualsSpec : ChangeSpec := { name := "combineDuals", fn := fun _ => fun
  | [d1, d2, d3, d4, d5] => { results := [.lit (.bool true)], args := [d1, d2, d3, d4, d5] }
  | _ => none }
def combineDualsRow : OpenClaim := { program := "ytghgbjgoedlnjaa", sum := "bccd78dcd41d837acc775148d428db5ee2d3dca0628ed66f1087b4ae405973c1", func := "codewright/codewrightlaw14.CombineDuals", spec := "combineDuals", unfollowed := true, recurses := true, apart := false }
def CombineDualsSaid : Prop := combineDualsRow.holds Try.pinned (OpenSpec.ofChange combineDualsSpec)

/-- ITS FALSE NEIGHBOUR: 'it returns false'. Refute it at one input. -/
def combineDualsWrong : ChangeSpec := { name := "combineDuals", fn := fun _ => fun
  | [d1, d2, d3, d4, d5] => { results := [.lit (.bool false)], args := [d1, d2, d3, d4, d5] }
  | _ => none }
def CombineDualsWrongFalsely : Prop := combineDualsRow.holds Try.pinned (OpenSpec.ofChange combineDualsWrong)

/-- 'codewrightlaw14.CombineDistances': WHATEVER THE INPUT: true; the input reads as it did. -/
def combineDistancesSpec : ChangeSpec := { name := "combineDistances", fn := fun _ => fun
  | [d1, d2, d3] => { results := [.lit (.bool true)], args := [d1, d2, d3] }
  | _ => none }
def combineDistancesRow : OpenClaim := { program := "ytghgbjgoedlnjaa", sum := "bccd78dcd41d837acc775148d428db5ee2d3dca0628ed66f1087b4ae405973c1", func := "codewright/codewrightlaw14.CombineDistances", spec := "combineDistances", unfollowed := true, recurses := true, apart := false }
def CombineDistancesSaid : Prop := combineDistancesRow.holds Try.pinned (OpenSpec.ofChange combineDistancesSpec)

/-- ITS FALSE NEIGHBOUR: 'it returns false'. Refute it at one input. -/
def combineDistancesWrong : ChangeSpec := { name := "combineDistances", fn := fun _ => fun
  | [d1, d2, d3] => { results := [.lit (.bool false)], args := [d1, d2, d3] }
  | _ => none }
def CombineDistancesWrongFalsely : Prop := combineDistancesRow.holds Try.pinned (OpenSpec.ofChange combineDistancesWrong)

/-- 'codewrightlaw18.GrsWeights': WHATEVER THE INPUT: true; the input reads as it did. -/
def grsWeightsSpec : ChangeSpec := { name := "grsWeights", fn := fun _ => fun
  | [d] => { results := [.lit (.bool true)], args := [d] }
  | _ => none }
def grsWeightsRow : OpenClaim := { program := "ytghgbjgoedlnjaa", sum := "bccd78dcd41d837acc775148d428db5ee2d3dca0628ed66f1087b4ae405973c1", func := "codewright/codewrightlaw18.GrsWeights", spec := "grsWeights", apart := false }
def GrsWeightsSaid : Prop := grsWeightsRow.holds Try.pinned (OpenSpec.ofChange grsWeightsSpec)

/-- ITS FALSE NEIGHBOUR: 'it returns false'. Refute it at one input. -/
def grsWeightsWrong : ChangeSpec := { name := "grsWeights", fn := fun _ => fun
  | [d] => { results := [.lit (.bool false)], args := [d] }
  | _ => none }
def GrsWeightsWrongFalsely : Prop := grsWeightsRow.holds Try.pinned (OpenSpec.ofChange grsWeightsWrong)

/-- 'codewrightlaw18.GrsTotals': WHATEVER THE INPUT: true; the input reads as it did. -/
def grsTotalsSpec : ChangeSpec := { name := "grsTotals", fn := fun _ => fun
  | [d] => { results := [.lit (.bool true)], args := [d] }
  | _ => none }
def grsTotalsRow : OpenClaim := { program := "ytghgbjgoedlnjaa", sum := "bccd78dcd41d837acc775148d428db5ee2d3dca0628ed66f1087b4ae405973c1", func := "codewright/codewrightlaw18.GrsTotals", spec := "grsTotals", apart := false }
def GrsTotalsSaid : Prop := grsTotalsRow.holds Try.pinned (OpenSpec.ofChange grsTotalsSpec)

/-- ITS FALSE NEIGHBOUR: 'it returns false'. Refute it at one input. -/
def grsTotalsWrong : ChangeSpec := { name := "grsTotals", fn := fun _ => fun
  | [d] => { results := [.lit (.bool false)], args := [d] }
  | _ => none }
def GrsTotalsWrongFalsely : Prop := grsTotalsRow.holds Try.pinned (OpenSpec.ofChange grsTotalsWrong)

/- THE SECOND FORM. 'bulk': how many values and letters a reading holds, each counted each time it is reached (what is shared counts as often as it is met; a slice's spare places count too). A statement '..UptoSaid' is the law's where the arguments, and the package variables that the reading takes, are together of bulk at most 1048576: NARROWER than '..Said'. Prove '..Said' where nothing that the law and all that it calls make is longer than what came in: it says more and counts as full. Else prove '..UptoSaid'. A law counts once. -/
mutual
def uptoBulk {H : Type} : DataW H → Nat
  | .lit (.string bytes) => bytes.length + 1
  | .lit _ => 1
  | .nil => 1
  | .ptr d => uptoBulk d + 1
  | .slice elems spare => uptoBulkAll elems + uptoBulkAll spare + 1
  | .agg parts => uptoBulkAll parts + 1
  | .iface _ d => uptoBulk d + 1
  | .map entries => uptoBulkEntries entries + 1
  | .held _ => 1
def uptoBulkAll {H : Type} : List (DataW H) → Nat
  | [] => 0
  | d :: r => uptoBulk d + uptoBulkAll r
def uptoBulkEntries {H : Type} : List (Lit × DataW H) → Nat
  | [] => 0
  | x :: r => uptoBulkEntry x + uptoBulkEntries r
def uptoBulkEntry {H : Type} : Lit × DataW H → Nat
  | (.string bytes, d) => bytes.length + uptoBulk d + 1
  | (_, d) => uptoBulk d + 1
 end
def uptoSmall : (H : Type) → List (DataW H) → Bool := fun _ ds => decide (uptoBulkAll ds ≤ 1048576)
def OpenSpec.upto (s : _root_.Go.ChangeSpec) : _root_.Go.OpenSpec := { _root_.Go.OpenSpec.ofChange s with cond := some uptoSmall }

/-- 'codewrightlaw14.CombineInterleaves', WHERE WHAT IT READS IS OF BULK AT MOST 1048576: true; the input reads as it did. -/
def combineInterleavesUptoRow : OpenClaim := { program := "ytghgbjgoedlnjaa", sum := "bccd78dcd41d837acc775148d428db5ee2d3dca0628ed66f1087b4ae405973c1", func := "codewright/codewrightlaw14.CombineInterleaves", spec := "combineInterleaves", unfollowed := true, recurses := true, apart := false, narrowed := true }
def CombineInterleavesUptoSaid : Prop := combineInterleavesUptoRow.holds Try.pinned (OpenSpec.upto combineInterleavesSpec)

/-- 'codewrightlaw14.CombineBursts', WHERE WHAT IT READS IS OF BULK AT MOST 1048576: true; the input reads as it did. -/
def combineBurstsUptoRow : OpenClaim := { program := "ytghgbjgoedlnjaa", sum := "bccd78dcd41d837acc775148d428db5ee2d3dca0628ed66f1087b4ae405973c1", func := "codewright/codewrightlaw14.CombineBursts", spec := "combineBursts", unfollowed := true, recurses := true, apart := false, narrowed := true }
def CombineBurstsUptoSaid : Prop := combineBurstsUptoRow.holds Try.pinned (OpenSpec.upto combineBurstsSpec)

/-- 'codewrightlaw14.CombineJuxtaposes', WHERE WHAT IT READS IS OF BULK AT MOST 1048576: true; the input reads as it did. -/
def combineJuxtaposesUptoRow : OpenClaim := { program := "ytghgbjgoedlnjaa", sum := "bccd78dcd41d837acc775148d428db5ee2d3dca0628ed66f1087b4ae405973c1", func := "codewright/codewrightlaw14.CombineJuxtaposes", spec := "combineJuxtaposes", unfollowed := true, recurses := true, apart := false, narrowed := true }
def CombineJuxtaposesUptoSaid : Prop := combineJuxtaposesUptoRow.holds Try.pinned (OpenSpec.upto combineJuxtaposesSpec)

/-- 'codewrightlaw14.CombineProducts', WHERE WHAT IT READS IS OF BULK AT MOST 1048576: true; the input reads as it did. -/
def combineProductsUptoRow : OpenClaim := { program := "ytghgbjgoedlnjaa", sum := "bccd78dcd41d837acc775148d428db5ee2d3dca0628ed66f1087b4ae405973c1", func := "codewright/codewrightlaw14.CombineProducts", spec := "combineProducts", unfollowed := true, recurses := true, apart := false, narrowed := true }
def CombineProductsUptoSaid : Prop := combineProductsUptoRow.holds Try.pinned (OpenSpec.upto combineProductsSpec)

/-- 'codewrightlaw14.CombineArrays', WHERE WHAT IT READS IS OF BULK AT MOST 1048576: true; the input reads as it did. -/
def combineArraysUptoRow : OpenClaim := { program := "ytghgbjgoedlnjaa", sum := "bccd78dcd41d837acc775148d428db5ee2d3dca0628ed66f1087b4ae405973c1", func := "codewright/codewrightlaw14.CombineArrays", spec := "combineArrays", unfollowed := true, recurses := true, apart := false, narrowed := true }
def CombineArraysUptoSaid : Prop := combineArraysUptoRow.holds Try.pinned (OpenSpec.upto combineArraysSpec)

/-- 'codewrightlaw14.CombineSums', WHERE WHAT IT READS IS OF BULK AT MOST 1048576: true; the input reads as it did. -/
def combineSumsUptoRow : OpenClaim := { program := "ytghgbjgoedlnjaa", sum := "bccd78dcd41d837acc775148d428db5ee2d3dca0628ed66f1087b4ae405973c1", func := "codewright/codewrightlaw14.CombineSums", spec := "combineSums", unfollowed := true, recurses := true, apart := false, narrowed := true }
def CombineSumsUptoSaid : Prop := combineSumsUptoRow.holds Try.pinned (OpenSpec.upto combineSumsSpec)

/-- 'codewrightlaw14.CombineAssociates', WHERE WHAT IT READS IS OF BULK AT MOST 1048576: true; the input reads as it did. -/
def combineAssociatesUptoRow : OpenClaim := { program := "ytghgbjgoedlnjaa", sum := "bccd78dcd41d837acc775148d428db5ee2d3dca0628ed66f1087b4ae405973c1", func := "codewright/codewrightlaw14.CombineAssociates", spec := "combineAssociates", unfollowed := true, recurses := true, apart := false, narrowed := true }
def CombineAssociatesUptoSaid : Prop := combineAssociatesUptoRow.holds Try.pinned (OpenSpec.upto combineAssociatesSpec)

/-- 'codewrightlaw14.CombineDuals', WHERE WHAT IT READS IS OF BULK AT MOST 1048576: true; the input reads as it did. -/
def combineDualsUptoRow : OpenClaim := { program := "ytghgbjgoedlnjaa", sum := "bccd78dcd41d837acc775148d428db5ee2d3dca0628ed66f1087b4ae405973c1", func := "codewright/codewrightlaw14.CombineDuals", spec := "combineDuals", unfollowed := true, recurses := true, apart := false, narrowed := true }
def CombineDualsUptoSaid : Prop := combineDualsUptoRow.holds Try.pinned (OpenSpec.upto combineDualsSpec)

/-- 'codewrightlaw14.CombineDistances', WHERE WHAT IT READS IS OF BULK AT MOST 1048576: true; the input reads as it did. -/
def combineDistancesUptoRow : OpenClaim := { program := "ytghgbjgoedlnjaa", sum := "bccd78dcd41d837acc775148d428db5ee2d3dca0628ed66f1087b4ae405973c1", func := "codewright/codewrightlaw14.CombineDistances", spec := "combineDistances", unfollowed := true, recurses := true, apart := false, narrowed := true }
def CombineDistancesUptoSaid : Prop := combineDistancesUptoRow.holds Try.pinned (OpenSpec.upto combineDistancesSpec)

/-- 'codewrightlaw18.GrsWeights', WHERE WHAT IT READS IS OF BULK AT MOST 1048576: true; the input reads as it did. -/
def grsWeightsUptoRow : OpenClaim := { program := "ytghgbjgoedlnjaa", sum := "bccd78dcd41d837acc775148d428db5ee2d3dca0628ed66f1087b4ae405973c1", func := "codewright/codewrightlaw18.GrsWeights", spec := "grsWeights", apart := false, narrowed := true }
def GrsWeightsUptoSaid : Prop := grsWeightsUptoRow.holds Try.pinned (OpenSpec.upto grsWeightsSpec)

/-- 'codewrightlaw18.GrsTotals', WHERE WHAT IT READS IS OF BULK AT MOST 1048576: true; the input reads as it did. -/
def grsTotalsUptoRow : OpenClaim := { program := "ytghgbjgoedlnjaa", sum := "bccd78dcd41d837acc775148d428db5ee2d3dca0628ed66f1087b4ae405973c1", func := "codewright/codewrightlaw18.GrsTotals", spec := "grsTotals", apart := false, narrowed := true }
def GrsTotalsUptoSaid : Prop := grsTotalsUptoRow.holds Try.pinned (OpenSpec.upto grsTotalsSpec)

end Rows
end Go.Proofs.Ytghgbjgoedlnjaa
