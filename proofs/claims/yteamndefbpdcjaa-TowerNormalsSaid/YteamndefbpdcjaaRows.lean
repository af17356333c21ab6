/-
  No cell of these rows narrows 'for every input' (looked for: loops, veiled, ifaces, maps, wideKeys, modest, calm, conditions, laid).
  DERIVED. THE GIVEN ROWS OF THIS SEAT. 17 by the template 'for every input the law returns true; each argument reads behind the call as it read before'; 0 by the template 'total and deterministic' (their statements: YteamndefbpdcjaaTotals.lean).
  GIVEN WITH THE SEED: the statements are not yours to turn. If you find one false, say at which input.
  Laid BY PROGRAM, IN A SANDBOX (cutbox-rows.mjs): the forced cells as the released guide's own fill.sh prints them over the translation f5af8588cc546b9d… (all of the seat's roots in one cut). By AI agents, Wed Nov 11 2026. No macro, syntax, notation, axiom, sorry.
-/
import Derived.Test.YteamndefbpdcjaaChecked
import GoSem.Claim
import GoSem.ClaimJoined
import GoSem.ClaimMapViews
import Derived.JoinedTies
import Derived.KernelRfl
namespace Go.Proofs.Yteamndefbpdcjaa
/- THE CELL 'sum', in the pinned program and in every row, IS THE sha256 OF THE DUMP (.gsa) THAT YteamndefbpdcjaaProg.lean LOADS. Nothing in Lean hashes anything: it is a label: what it is worth is what the hold of that sum in a sandbox is worth. -/
noncomputable def Try.pinned : Pinned := { name := "yteamndefbpdcjaa", sum := "f5af8588cc546b9dcc882ed6ec236f3692ccc3465ac1798c98af36f466fbc91d", checked := Try.checked }
namespace Rows
def none {H : Type} : Left H := { results := [], args := [] }

/-- 'codewrightlaw07.TowerFrobenius': WHATEVER THE INPUT: true; the input reads as it did. -/
def towerFrobeniusSpec : ChangeSpec := { name := "towerFrobenius", fn := fun _ => fun
  | [d1, d2, d3] => { results := [.lit (.bool true)], args := [d1, d2, d3] }
  | _ => none }
def towerFrobeniusRow : OpenClaim := { program := "yteamndefbpdcjaa", sum := "f5af8588cc546b9dcc882ed6ec236f3692ccc3465ac1798c98af36f466fbc91d", func := "codewright/codewrightlaw07.TowerFrobenius", spec := "towerFrobenius", unfollowed := true, recurses := true, apart := false }
def TowerFrobeniusSaid : Prop := towerFrobeniusRow.holds Try.pinned (OpenSpec.ofChange towerFrobeniusSpec)

/-- ITS FALSE NEIGHBOUR: 'it returns false'. Refute it at one input. -/
def towerFrobeniusWrong : ChangeSpec := { name := "towerFrobenius", fn := fun _ => fun
  | [d1, d2, d3] => { results := [.lit (.bool false)], args := [d1, d2, d3] }
  | _ => none }
def TowerFrobeniusWrongFalsely : Prop := towerFrobeniusRow.holds Try.pinned (OpenSpec.ofChange towerFrobeniusWrong)

/-- 'codewrightlaw07.TowerAutomorphisms': WHATEVER THE INPUT: true; the input reads as it did. -/
def towerAutomorphismsSpec : ChangeSpec := { name := "towerAutomorphisms", fn := fun _ => fun
  | [d1, d2, d3] => { results := [.lit (.bool true)], args := [d1, d2, d3] }
  | _ => none }
def towerAutomorphismsRow : OpenClaim := { program := "yteamndefbpdcjaa", sum := "f5af8588cc546b9dcc882ed6ec236f3692ccc3465ac1798c98af36f466fbc91d", func := "codewright/codewrightlaw07.TowerAutomorphisms", spec := "towerAutomorphisms", unfollowed := true, recurses := true, apart := false }
def TowerAutomorphismsSaid : Prop := towerAutomorphismsRow.holds Try.pinned (OpenSpec.ofChange towerAutomorphismsSpec)

/-- ITS FALSE NEIGHBOUR: 'it returns false'. Refute it at one input. -/
def towerAutomorphismsWrong : ChangeSpec := { name := "towerAutomorphisms", fn := fun _ => fun
  | [d1, d2, d3] => { results := [.lit (.bool false)], args := [d1, d2, d3] }
  | _ => none }
def TowerAutomorphismsWrongFalsely : Prop := towerAutomorphismsRow.holds Try.pinned (OpenSpec.ofChange towerAutomorphismsWrong)

/-- 'codewrightlaw07.TowerSubfields': WHATEVER THE INPUT: true; the input reads as it did. -/
def towerSubfieldsSpec : ChangeSpec := { name := "towerSubfields", fn := fun _ => fun
  | [d1, d2] => { results := [.lit (.bool true)], args := [d1, d2] }
  | _ => none }
def towerSubfieldsRow : OpenClaim := { program := "yteamndefbpdcjaa", sum := "f5af8588cc546b9dcc882ed6ec236f3692ccc3465ac1798c98af36f466fbc91d", func := "codewright/codewrightlaw07.TowerSubfields", spec := "towerSubfields", unfollowed := true, recurses := true, apart := false }
def TowerSubfieldsSaid : Prop := towerSubfieldsRow.holds Try.pinned (OpenSpec.ofChange towerSubfieldsSpec)

/-- ITS FALSE NEIGHBOUR: 'it returns false'. Refute it at one input. -/
def towerSubfieldsWrong : ChangeSpec := { name := "towerSubfields", fn := fun _ => fun
  | [d1, d2] => { results := [.lit (.bool false)], args := [d1, d2] }
  | _ => none }
def TowerSubfieldsWrongFalsely : Prop := towerSubfieldsRow.holds Try.pinned (OpenSpec.ofChange towerSubfieldsWrong)

/-- 'codewrightlaw07.TowerClosed': WHATEVER THE INPUT: true; the input reads as it did. -/
def towerClosedSpec : ChangeSpec := { name := "towerClosed", fn := fun _ => fun
  | [d1, d2, d3] => { results := [.lit (.bool true)], args := [d1, d2, d3] }
  | _ => none }
def towerClosedRow : OpenClaim := { program := "yteamndefbpdcjaa", sum := "f5af8588cc546b9dcc882ed6ec236f3692ccc3465ac1798c98af36f466fbc91d", func := "codewright/codewrightlaw07.TowerClosed", spec := "towerClosed", unfollowed := true, recurses := true, apart := false }
def TowerClosedSaid : Prop := towerClosedRow.holds Try.pinned (OpenSpec.ofChange towerClosedSpec)

/-- ITS FALSE NEIGHBOUR: 'it returns false'. Refute it at one input. -/
def towerClosedWrong : ChangeSpec := { name := "towerClosed", fn := fun _ => fun
  | [d1, d2, d3] => { results := [.lit (.bool false)], args := [d1, d2, d3] }
  | _ => none }
def TowerClosedWrongFalsely : Prop := towerClosedRow.holds Try.pinned (OpenSpec.ofChange towerClosedWrong)

/-- 'codewrightlaw07.TowerDegrees': WHATEVER THE INPUT: true; the input reads as it did. -/
def towerDegreesSpec : ChangeSpec := { name := "towerDegrees", fn := fun _ => fun
  | [d1, d2, d3] => { results := [.lit (.bool true)], args := [d1, d2, d3] }
  | _ => none }
def towerDegreesRow : OpenClaim := { program := "yteamndefbpdcjaa", sum := "f5af8588cc546b9dcc882ed6ec236f3692ccc3465ac1798c98af36f466fbc91d", func := "codewright/codewrightlaw07.TowerDegrees", spec := "towerDegrees", unfollowed := true, recurses := true, apart := false }
def TowerDegreesSaid : Prop := towerDegreesRow.holds Try.pinned (OpenSpec.ofChange towerDegreesSpec)

/-- ITS FALSE NEIGHBOUR: 'it returns false'. Refute it at one input. -/
def towerDegreesWrong : ChangeSpec := { name := "towerDegrees", fn := fun _ => fun
  | [d1, d2, d3] => { results := [.lit (.bool false)], args := [d1, d2, d3] }
  | _ => none }
def TowerDegreesWrongFalsely : Prop := towerDegreesRow.holds Try.pinned (OpenSpec.ofChange towerDegreesWrong)

/-- 'codewrightlaw07.TowerTraces': WHATEVER THE INPUT: true; the input reads as it did. -/
def towerTracesSpec : ChangeSpec := { name := "towerTraces", fn := fun _ => fun
  | [d1, d2, d3] => { results := [.lit (.bool true)], args := [d1, d2, d3] }
  | _ => none }
def towerTracesRow : OpenClaim := { program := "yteamndefbpdcjaa", sum := "f5af8588cc546b9dcc882ed6ec236f3692ccc3465ac1798c98af36f466fbc91d", func := "codewright/codewrightlaw07.TowerTraces", spec := "towerTraces", unfollowed := true, recurses := true, apart := false }
def TowerTracesSaid : Prop := towerTracesRow.holds Try.pinned (OpenSpec.ofChange towerTracesSpec)

/-- ITS FALSE NEIGHBOUR: 'it returns false'. Refute it at one input. -/
def towerTracesWrong : ChangeSpec := { name := "towerTraces", fn := fun _ => fun
  | [d1, d2, d3] => { results := [.lit (.bool false)], args := [d1, d2, d3] }
  | _ => none }
def TowerTracesWrongFalsely : Prop := towerTracesRow.holds Try.pinned (OpenSpec.ofChange towerTracesWrong)

/-- 'codewrightlaw07.TowerConjugates': WHATEVER THE INPUT: true; the input reads as it did. -/
def towerConjugatesSpec : ChangeSpec := { name := "towerConjugates", fn := fun _ => fun
  | [d1, d2, d3] => { results := [.lit (.bool true)], args := [d1, d2, d3] }
  | _ => none }
def towerConjugatesRow : OpenClaim := { program := "yteamndefbpdcjaa", sum := "f5af8588cc546b9dcc882ed6ec236f3692ccc3465ac1798c98af36f466fbc91d", func := "codewright/codewrightlaw07.TowerConjugates", spec := "towerConjugates", unfollowed := true, recurses := true, apart := false }
def TowerConjugatesSaid : Prop := towerConjugatesRow.holds Try.pinned (OpenSpec.ofChange towerConjugatesSpec)

/-- ITS FALSE NEIGHBOUR: 'it returns false'. Refute it at one input. -/
def towerConjugatesWrong : ChangeSpec := { name := "towerConjugates", fn := fun _ => fun
  | [d1, d2, d3] => { results := [.lit (.bool false)], args := [d1, d2, d3] }
  | _ => none }
def TowerConjugatesWrongFalsely : Prop := towerConjugatesRow.holds Try.pinned (OpenSpec.ofChange towerConjugatesWrong)

/-- 'codewrightlaw07.TowerNorms': WHATEVER THE INPUT: true; the input reads as it did. -/
def towerNormsSpec : ChangeSpec := { name := "towerNorms", fn := fun _ => fun
  | [d1, d2, d3] => { results := [.lit (.bool true)], args := [d1, d2, d3] }
  | _ => none }
def towerNormsRow : OpenClaim := { program := "yteamndefbpdcjaa", sum := "f5af8588cc546b9dcc882ed6ec236f3692ccc3465ac1798c98af36f466fbc91d", func := "codewright/codewrightlaw07.TowerNorms", spec := "towerNorms", unfollowed := true, recurses := true, apart := false }
def TowerNormsSaid : Prop := towerNormsRow.holds Try.pinned (OpenSpec.ofChange towerNormsSpec)

/-- ITS FALSE NEIGHBOUR: 'it returns false'. Refute it at one input. -/
def towerNormsWrong : ChangeSpec := { name := "towerNorms", fn := fun _ => fun
  | [d1, d2, d3] => { results := [.lit (.bool false)], args := [d1, d2, d3] }
  | _ => none }
def TowerNormsWrongFalsely : Prop := towerNormsRow.holds Try.pinned (OpenSpec.ofChange towerNormsWrong)

/-- 'codewrightlaw07.TowerTransitive': WHATEVER THE INPUT: true; the input reads as it did. -/
def towerTransitiveSpec : ChangeSpec := { name := "towerTransitive", fn := fun _ => fun
  | [d1, d2, d3] => { results := [.lit (.bool true)], args := [d1, d2, d3] }
  | _ => none }
def towerTransitiveRow : OpenClaim := { program := "yteamndefbpdcjaa", sum := "f5af8588cc546b9dcc882ed6ec236f3692ccc3465ac1798c98af36f466fbc91d", func := "codewright/codewrightlaw07.TowerTransitive", spec := "towerTransitive", unfollowed := true, recurses := true, apart := false }
def TowerTransitiveSaid : Prop := towerTransitiveRow.holds Try.pinned (OpenSpec.ofChange towerTransitiveSpec)

/-- ITS FALSE NEIGHBOUR: 'it returns false'. Refute it at one input. -/
def towerTransitiveWrong : ChangeSpec := { name := "towerTransitive", fn := fun _ => fun
  | [d1, d2, d3] => { results := [.lit (.bool false)], args := [d1, d2, d3] }
  | _ => none }
def TowerTransitiveWrongFalsely : Prop := towerTransitiveRow.holds Try.pinned (OpenSpec.ofChange towerTransitiveWrong)

/-- 'codewrightlaw07.TowerHilbert': WHATEVER THE INPUT: true; the input reads as it did. -/
def towerHilbertSpec : ChangeSpec := { name := "towerHilbert", fn := fun _ => fun
  | [d1, d2, d3] => { results := [.lit (.bool true)], args := [d1, d2, d3] }
  | _ => none }
def towerHilbertRow : OpenClaim := { program := "yteamndefbpdcjaa", sum := "f5af8588cc546b9dcc882ed6ec236f3692ccc3465ac1798c98af36f466fbc91d", func := "codewright/codewrightlaw07.TowerHilbert", spec := "towerHilbert", unfollowed := true, recurses := true, apart := false }
def TowerHilbertSaid : Prop := towerHilbertRow.holds Try.pinned (OpenSpec.ofChange towerHilbertSpec)

/-- ITS FALSE NEIGHBOUR: 'it returns false'. Refute it at one input. -/
def towerHilbertWrong : ChangeSpec := { name := "towerHilbert", fn := fun _ => fun
  | [d1, d2, d3] => { results := [.lit (.bool false)], args := [d1, d2, d3] }
  | _ => none }
def TowerHilbertWrongFalsely : Prop := towerHilbertRow.holds Try.pinned (OpenSpec.ofChange towerHilbertWrong)

/-- 'codewrightlaw07.TowerMinimal': WHATEVER THE INPUT: true; the input reads as it did. -/
def towerMinimalSpec : ChangeSpec := { name := "towerMinimal", fn := fun _ => fun
  | [d1, d2, d3] => { results := [.lit (.bool true)], args := [d1, d2, d3] }
  | _ => none }
def towerMinimalRow : OpenClaim := { program := "yteamndefbpdcjaa", sum := "f5af8588cc546b9dcc882ed6ec236f3692ccc3465ac1798c98af36f466fbc91d", func := "codewright/codewrightlaw07.TowerMinimal", spec := "towerMinimal", unfollowed := true, recurses := true, apart := false }
def TowerMinimalSaid : Prop := towerMinimalRow.holds Try.pinned (OpenSpec.ofChange towerMinimalSpec)

/-- ITS FALSE NEIGHBOUR: 'it returns false'. Refute it at one input. -/
def towerMinimalWrong : ChangeSpec := { name := "towerMinimal", fn := fun _ => fun
  | [d1, d2, d3] => { results := [.lit (.bool false)], args := [d1, d2, d3] }
  | _ => none }
def TowerMinimalWrongFalsely : Prop := towerMinimalRow.holds Try.pinned (OpenSpec.ofChange towerMinimalWrong)

/-- 'codewrightlaw07.TowerEmbeds': WHATEVER THE INPUT: true; the input reads as it did. -/
def towerEmbedsSpec : ChangeSpec := { name := "towerEmbeds", fn := fun _ => fun
  | [d1, d2] => { results := [.lit (.bool true)], args := [d1, d2] }
  | _ => none }
def towerEmbedsRow : OpenClaim := { program := "yteamndefbpdcjaa", sum := "f5af8588cc546b9dcc882ed6ec236f3692ccc3465ac1798c98af36f466fbc91d", func := "codewright/codewrightlaw07.TowerEmbeds", spec := "towerEmbeds", unfollowed := true, recurses := true, apart := false }
def TowerEmbedsSaid : Prop := towerEmbedsRow.holds Try.pinned (OpenSpec.ofChange towerEmbedsSpec)

/-- ITS FALSE NEIGHBOUR: 'it returns false'. Refute it at one input. -/
def towerEmbedsWrong : ChangeSpec := { name := "towerEmbeds", fn := fun _ => fun
  | [d1, d2] => { results := [.lit (.bool false)], args := [d1, d2] }
  | _ => none }
def TowerEmbedsWrongFalsely : Prop := towerEmbedsRow.holds Try.pinned (OpenSpec.ofChange towerEmbedsWrong)

/-- 'codewrightlaw07.TowerHomomorphisms': WHATEVER THE INPUT: true; the input reads as it did. -/
def towerHomomorphismsSpec : ChangeSpec := { name := "towerHomomorphisms", fn := fun _ => fun
  | [d1, d2, d3] => { results := [.lit (.bool true)], args := [d1, d2, d3] }
  | _ => none }
def towerHomomorphismsRow : OpenClaim := { program := "yteamndefbpdcjaa", sum := "f5af8588cc546b9dcc882ed6ec236f3692ccc3465ac1798c98af36f466fbc91d", func := "codewright/codewrightlaw07.TowerHomomorphisms", spec := "towerHomomorphisms", unfollowed := true, recurses := true, apart := false }
def TowerHomomorphismsSaid : Prop := towerHomomorphismsRow.holds Try.pinned (OpenSpec.ofChange towerHomomorphismsSpec)

/-- ITS FALSE NEIGHBOUR: 'it returns false'. Refute it at one input. -/
def towerHomomorphismsWrong : ChangeSpec := { name := "towerHomomorphisms", fn := fun _ => fun
  | [d1, d2, d3] => { results := [.lit (.bool false)], args := [d1, d2, d3] }
  | _ => none }
def TowerHomomorphismsWrongFalsely : Prop := towerHomomorphismsRow.holds Try.pinned (OpenSpec.ofChange towerHomomorphismsWrong)

/-- 'codewrightlaw07.TowerBases': WHATEVER THE INPUT: true; the input reads as it did. -/
def towerBasesSpec : ChangeSpec := { name := "towerBases", fn := fun _ => fun
  | [d1, d2, d3] => { results := [.lit (.bool true)], args := [d1, d2, d3] }
  | _ => none }
def towerBasesRow : OpenClaim := { program := "yteamndefbpdcjaa", sum := "f5af8588cc546b9dcc882ed6ec236f3692ccc3465ac1798c98af36f466fbc91d", func := "codewright/codewrightlaw07.TowerBases", spec := "towerBases", unfollowed := true, recurses := true, apart := false }
def TowerBasesSaid : Prop := towerBasesRow.holds Try.pinned (OpenSpec.ofChange towerBasesSpec)

/-- ITS FALSE NEIGHBOUR: 'it returns false'. Refute it at one input. -/
def towerBasesWrong : ChangeSpec := { name := "towerBases", fn := fun _ => fun
  | [d1, d2, d3] => { results := [.lit (.bool false)], args := [d1, d2, d3] }
  | _ => none }
def TowerBasesWrongFalsely : Prop := towerBasesRow.holds Try.pinned (OpenSpec.ofChange towerBasesWrong)

/-- 'codewrightlaw07.TowerCoordinates': WHATEVER THE INPUT: true; the input reads as it did. -/
def towerCoordinatesSpec : ChangeSpec := { name := "towerCoordinates", fn := fun _ => fun
  | [d1, d2, d3] => { results := [.lit (.bool true)], args := [d1, d2, d3] }
  | _ => none }
def towerCoordinatesRow : OpenClaim := { program := "yteamndefbpdcjaa", sum := "f5af8588cc546b9dcc882ed6ec236f3692ccc3465ac1798c98af36f466fbc91d", func := "codewright/codewrightlaw07.TowerCoordinates", spec := "towerCoordinates", unfollowed := true, recurses := true, apart := false }
def TowerCoordinatesSaid : Prop := towerCoordinatesRow.holds Try.pinned (OpenSpec.ofChange towerCoordinatesSpec)

/-- ITS FALSE NEIGHBOUR: 'it returns false'. Refute it at one input. -/
def towerCoordinatesWrong : ChangeSpec := { name := "towerCoordinates", fn := fun _ => fun
  | [d1, d2, d3] => { results := [.lit (.bool false)], args := [d1, d2, d3] }
  | _ => none }
def TowerCoordinatesWrongFalsely : Prop := towerCoordinatesRow.holds Try.pinned (OpenSpec.ofChange towerCoordinatesWrong)

/-- 'codewrightlaw07.TowerDuals': WHATEVER THE INPUT: true; the input reads as it did. -/
def towerDualsSpec : ChangeSpec := { name := "towerDuals", fn := fun _ => fun
  | [d1, d2, d3] => { results := [.lit (.bool true)], args := [d1, d2, d3] }
  | _ => none }
def towerDualsRow : OpenClaim := { program := "yteamndefbpdcjaa", sum := "f5af8588cc546b9dcc882ed6ec236f3692ccc3465ac1798c98af36f466fbc91d", func := "codewright/codewrightlaw07.TowerDuals", spec := "towerDuals", unfollowed := true, recurses := true, apart := false }
def TowerDualsSaid : Prop := towerDualsRow.holds Try.pinned (OpenSpec.ofChange towerDualsSpec)

/-- ITS FALSE NEIGHBOUR: 'it returns false'. Refute it at one input. -/
def towerDualsWrong : ChangeSpec := { name := "towerDuals", fn := fun _ => fun
  | [d1, d2, d3] => { results := [.lit (.bool false)], args := [d1, d2, d3] }
  | _ => none }
def TowerDualsWrongFalsely : Prop := towerDualsRow.holds Try.pinned (OpenSpec.ofChange towerDualsWrong)

/-- 'codewrightlaw07.TowerNormals': WHATEVER THE INPUT: true; the input reads as it did. -/
def towerNormalsSpec : ChangeSpec := { name := "towerNormals", fn := fun _ => fun
  | [d1, d2] => { results := [.lit (.bool true)], args := [d1, d2] }
  | _ => none }
def towerNormalsRow : OpenClaim := { program := "yteamndefbpdcjaa", sum := "f5af8588cc546b9dcc882ed6ec236f3692ccc3465ac1798c98af36f466fbc91d", func := "codewright/codewrightlaw07.TowerNormals", spec := "towerNormals", unfollowed := true, recurses := true, apart := false }
def TowerNormalsSaid : Prop := towerNormalsRow.holds Try.pinned (OpenSpec.ofChange towerNormalsSpec)

/-- ITS FALSE NEIGHBOUR: 'it returns false'. Refute it at one input. -/
def towerNormalsWrong : ChangeSpec := { name := "towerNormals", fn := fun _ => fun
  | [d1, d2] => { results := [.lit (.bool false)], args := [d1, d2] }
  | _ => none }
def TowerNormalsWrongFalsely : Prop := towerNormalsRow.holds Try.pinned (OpenSpec.ofChange towerNormalsWrong)

/- THE SECOND FORM. 'bulk': how many values and letters a reading holds, each counted each time it is reached (what is shared counts as often as it is met; a slice's spare places count too). A statement '..UptoSaid' is the law's where the arguments, and the package variables that the reading takes, are together of bulk at most 1048576: NARROWER than '..Said'. Prove '..Said' where nothing that the law and all that it calls make is longer than what came in: it says more and counts as full. Else prove '..UptoSaid'. A law counts once. -/
mutual
def uptoBulk {H : Type} : DataW H → Nat
  | .lit (.string bytes) => bytes.length + 1
  | .lit _ => 1
  | .nil => 1
  | .ptr d => uptoBulk d + 1
  | .slice elems spare => uptoBulkAll elems + uptoBulkAll spare + 1
  | .agg parts => uptoBulkAll parts + 1
  | .iface _ d => uptoBulk d + 1
  | .map entries => uptoBulkEntries entries + 1
  | .held _ => 1
def uptoBulkAll {H : Type} : List (DataW H) → Nat
  | [] => 0
  | d :: r => uptoBulk d + uptoBulkAll r
def uptoBulkEntries {H : Type} : List (Lit × DataW H) → Nat
  | [] => 0
  | x :: r => uptoBulkEntry x + uptoBulkEntries r
def uptoBulkEntry {H : Type} : Lit × DataW H → Nat
  | (.string bytes, d) => bytes.length + uptoBulk d + 1
  | (_, d) => uptoBulk d + 1
 end
def uptoSmall : (H : Type) → List (DataW H) → Bool := fun _ ds => decide (uptoBulkAll ds ≤ 1048576)
def OpenSpec.upto (s : _root_.Go.ChangeSpec) : _root_.Go.OpenSpec := { _root_.Go.OpenSpec.ofChange s with cond := some uptoSmall }

/-- 'codewrightlaw07.TowerFrobenius', WHERE WHAT IT READS IS OF BULK AT MOST 1048576: true; the input reads as it did. -/
def towerFrobeniusUptoRow : OpenClaim := { program := "yteamndefbpdcjaa", sum := "f5af8588cc546b9dcc882ed6ec236f3692ccc3465ac1798c98af36f466fbc91d", func := "codewright/codewrightlaw07.TowerFrobenius", spec := "towerFrobenius", unfollowed := true, recurses := true, apart := false, narrowed := true }
def TowerFrobeniusUptoSaid : Prop := towerFrobeniusUptoRow.holds Try.pinned (OpenSpec.upto towerFrobeniusSpec)

/-- 'codewrightlaw07.TowerAutomorphisms', WHERE WHAT IT READS IS OF BULK AT MOST 1048576: true; the input reads as it did. -/
def towerAutomorphismsUptoRow : OpenClaim := { program := "yteamndefbpdcjaa", sum := "f5af8588cc546b9dcc882ed6ec236f3692ccc3465ac1798c98af36f466fbc91d", func := "codewright/codewrightlaw07.TowerAutomorphisms", spec := "towerAutomorphisms", unfollowed := true, recurses := true, apart := false, narrowed := true }
def TowerAutomorphismsUptoSaid : Prop := towerAutomorphismsUptoRow.holds Try.pinned (OpenSpec.upto towerAutomorphismsSpec)

/-- 'codewrightlaw07.TowerSubfields', WHERE WHAT IT READS IS OF BULK AT MOST 1048576: true; the input reads as it did. -/
def towerSubfieldsUptoRow : OpenClaim := { program := "yteamndefbpdcjaa", sum := "f5af8588cc546b9dcc882ed6ec236f3692ccc3465ac1798c98af36f466fbc91d", func := "codewright/codewrightlaw07.TowerSubfields", spec := "towerSubfields", unfollowed := true, recurses := true, apart := false, narrowed := true }
def TowerSubfieldsUptoSaid : Prop := towerSubfieldsUptoRow.holds Try.pinned (OpenSpec.upto towerSubfieldsSpec)

/-- 'codewrightlaw07.TowerClosed', WHERE WHAT IT READS IS OF BULK AT MOST 1048576: true; the input reads as it did. -/
def towerClosedUptoRow : OpenClaim := { program := "yteamndefbpdcjaa", sum := "f5af8588cc546b9dcc882ed6ec236f3692ccc3465ac1798c98af36f466fbc91d", func := "codewright/codewrightlaw07.TowerClosed", spec := "towerClosed", unfollowed := true, recurses := true, apart := false, narrowed := true }
def TowerClosedUptoSaid : Prop := towerClosedUptoRow.holds Try.pinned (OpenSpec.upto towerClosedSpec)

/-- 'codewrightlaw07.TowerDegrees', WHERE WHAT IT READS IS OF BULK AT MOST 1048576: true; the input reads as it did. -/
def towerDegreesUptoRow : OpenClaim := { program := "yteamndefbpdcjaa", sum := "f5af8588cc546b9dcc882ed6ec236f3692ccc3465ac1798c98af36f466fbc91d", func := "codewright/codewrightlaw07.TowerDegrees", spec := "towerDegrees", unfollowed := true, recurses := true, apart := false, narrowed := true }
def TowerDegreesUptoSaid : Prop := towerDegreesUptoRow.holds Try.pinned (OpenSpec.upto towerDegreesSpec)

/-- 'codewrightlaw07.TowerTraces', WHERE WHAT IT READS IS OF BULK AT MOST 1048576: true; the input reads as it did. -/
def towerTracesUptoRow : OpenClaim := { program := "yteamndefbpdcjaa", sum := "f5af8588cc546b9dcc882ed6ec236f3692ccc3465ac1798c98af36f466fbc91d", func := "codewright/codewrightlaw07.TowerTraces", spec := "towerTraces", unfollowed := true, recurses := true, apart := false, narrowed := true }
def TowerTracesUptoSaid : Prop := towerTracesUptoRow.holds Try.pinned (OpenSpec.upto towerTracesSpec)

/-- 'codewrightlaw07.TowerConjugates', WHERE WHAT IT READS IS OF BULK AT MOST 1048576: true; the input reads as it did. -/
def towerConjugatesUptoRow : OpenClaim := { program := "yteamndefbpdcjaa", sum := "f5af8588cc546b9dcc882ed6ec236f3692ccc3465ac1798c98af36f466fbc91d", func := "codewright/codewrightlaw07.TowerConjugates", spec := "towerConjugates", unfollowed := true, recurses := true, apart := false, narrowed := true }
def TowerConjugatesUptoSaid : Prop := towerConjugatesUptoRow.holds Try.pinned (OpenSpec.upto towerConjugatesSpec)

/-- 'codewrightlaw07.TowerNorms', WHERE WHAT IT READS IS OF BULK AT MOST 1048576: true; the input reads as it did. -/
def towerNormsUptoRow : OpenClaim := { program := "yteamndefbpdcjaa", sum := "f5af8588cc546b9dcc882ed6ec236f3692ccc3465ac1798c98af36f466fbc91d", func := "codewright/codewrightlaw07.TowerNorms", spec := "towerNorms", unfollowed := true, recurses := true, apart := false, narrowed := true }
def TowerNormsUptoSaid : Prop := towerNormsUptoRow.holds Try.pinned (OpenSpec.upto towerNormsSpec)

/-- 'codewrightlaw07.TowerTransitive', WHERE WHAT IT READS IS OF BULK AT MOST 1048576: true; the input reads as it did. -/
def towerTransitiveUptoRow : OpenClaim := { program := "yteamndefbpdcjaa", sum := "f5af8588cc546b9dcc882ed6ec236f3692ccc3465ac1798c98af36f466fbc91d", func := "codewright/codewrightlaw07.TowerTransitive", spec := "towerTransitive", unfollowed := true, recurses := true, apart := false, narrowed := true }
def TowerTransitiveUptoSaid : Prop := towerTransitiveUptoRow.holds Try.pinned (OpenSpec.upto towerTransitiveSpec)

/-- 'codewrightlaw07.TowerHilbert', WHERE WHAT IT READS IS OF BULK AT MOST 1048576: true; the input reads as it did. -/
def towerHilbertUptoRow : OpenClaim := { program := "yteamndefbpdcjaa", sum := "f5af8588cc546b9dcc882ed6ec236f3692ccc3465ac1798c98af36f466fbc91d", func := "codewright/codewrightlaw07.TowerHilbert", spec := "towerHilbert", unfollowed := true, recurses := true, apart := false, narrowed := true }
def TowerHilbertUptoSaid : Prop := towerHilbertUptoRow.holds Try.pinned (OpenSpec.upto towerHilbertSpec)

/-- 'codewrightlaw07.TowerMinimal', WHERE WHAT IT READS IS OF BULK AT MOST 1048576: true; the input reads as it did. -/
def towerMinimalUptoRow : OpenClaim := { program := "yteamndefbpdcjaa", sum := "f5af8588cc546b9dcc882ed6ec236f3692ccc3465ac1798c98af36f466fbc91d", func := "codewright/codewrightlaw07.TowerMinimal", spec := "towerMinimal", unfollowed := true, recurses := true, apart := false, narrowed := true }
def TowerMinimalUptoSaid : Prop := towerMinimalUptoRow.holds Try.pinned (OpenSpec.upto towerMinimalSpec)

/-- 'codewrightlaw07.TowerEmbeds', WHERE WHAT IT READS IS OF BULK AT MOST 1048576: true; the input reads as it did. -/
def towerEmbedsUptoRow : OpenClaim := { program := "yteamndefbpdcjaa", sum := "f5af8588cc546b9dcc882ed6ec236f3692ccc3465ac1798c98af36f466fbc91d", func := "codewright/codewrightlaw07.TowerEmbeds", spec := "towerEmbeds", unfollowed := true, recurses := true, apart := false, narrowed := true }
def TowerEmbedsUptoSaid : Prop := towerEmbedsUptoRow.holds Try.pinned (OpenSpec.upto towerEmbedsSpec)

/-- 'codewrightlaw07.TowerHomomorphisms', WHERE WHAT IT READS IS OF BULK AT MOST 1048576: true; the input reads as it did. -/
def towerHomomorphismsUptoRow : OpenClaim := { program := "yteamndefbpdcjaa", sum := "f5af8588cc546b9dcc882ed6ec236f3692ccc3465ac1798c98af36f466fbc91d", func := "codewright/codewrightlaw07.TowerHomomorphisms", spec := "towerHomomorphisms", unfollowed := true, recurses := true, apart := false, narrowed := true }
def TowerHomomorphismsUptoSaid : Prop := towerHomomorphismsUptoRow.holds Try.pinned (OpenSpec.upto towerHomomorphismsSpec)

/-- 'codewrightlaw07.TowerBases', WHERE WHAT IT READS IS OF BULK AT MOST 1048576: true; the input reads as it did. -/
def towerBasesUptoRow : OpenClaim := { program := "yteamndefbpdcjaa", sum := "f5af8588cc546b9dcc882ed6ec236f3692ccc3465ac1798c98af36f466fbc91d", func := "codewright/codewrightlaw07.TowerBases", spec := "towerBases", unfollowed := true, recurses := true, apart := false, narrowed := true }
def TowerBasesUptoSaid : Prop := towerBasesUptoRow.holds Try.pinned (OpenSpec.upto towerBasesSpec)

/-- 'codewrightlaw07.TowerCoordinates', WHERE WHAT IT READS IS OF BULK AT MOST 1048576: true; the input reads as it did. -/
def towerCoordinatesUptoRow : OpenClaim := { program := "yteamndefbpdcjaa", sum := "f5af8588cc546b9dcc882ed6ec236f3692ccc3465ac1798c98af36f466fbc91d", func := "codewright/codewrightlaw07.TowerCoordinates", spec := "towerCoordinates", unfollowed := true, recurses := true, apart := false, narrowed := true }
def TowerCoordinatesUptoSaid : Prop := towerCoordinatesUptoRow.holds Try.pinned (OpenSpec.upto towerCoordinatesSpec)

/-- 'codewrightlaw07.TowerDuals', WHERE WHAT IT READS IS OF BULK AT MOST 1048576: true; the input reads as it did. -/
def towerDualsUptoRow : OpenClaim := { program := "yteamndefbpdcjaa", sum := "f5af8588cc546b9dcc882ed6ec236f3692ccc3465ac1798c98af36f466fbc91d", func := "codewright/codewrightlaw07.TowerDuals", spec := "towerDuals", unfollowed := true, recurses := true, apart := false, narrowed := true }
def TowerDualsUptoSaid : Prop := towerDualsUptoRow.holds Try.pinned (OpenSpec.upto towerDualsSpec)

/-- 'codewrightlaw07.TowerNormals', WHERE WHAT IT READS IS OF BULK AT MOST 1048576: true; the input reads as it did. -/
def towerNormalsUptoRow : OpenClaim := { program := "yteamndefbpdcjaa", sum := "f5af8588cc546b9dcc882ed6ec236f3692ccc3465ac1798c98af36f466fbc91d", func := "codewright/codewrightlaw07.TowerNormals", spec := "towerNormals", unfollowed := true, recurses := true, apart := false, narrowed := true }
def TowerNormalsUptoSaid : Prop := towerNormalsUptoRow.holds Try.pinned (OpenSpec.upto towerNormalsSpec)

end Rows
end Go.Proofs.Yteamndefbpdcjaa
