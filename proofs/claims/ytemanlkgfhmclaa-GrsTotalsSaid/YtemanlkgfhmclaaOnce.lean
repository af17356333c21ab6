/- Closed facts of the program that cost a minute each: asked once. -/
import Derived.Test.YtemanlkgfhmclaaP2
namespace Go.Proofs.Ytemanlkgfhmclaa
open Go.ChangeShapes Go.WideShapes Go.ChangeAt Go.RowKit Go.Joins
def aRow : OpenClaim := { program := "", sum := "", func := "", spec := "", unfollowed := true, recurses := true, apart := false }
theorem once_all : (Try.prog.mayEnter && (aRow.lifted == Try.prog.liftsFinal) && (Try.prog.make == some aRow.make)) = true := by kernel_rfl
theorem once_enter : Try.prog.mayEnter = true := by
  have h := once_all
  simp only [Bool.and_eq_true] at h
  exact h.1.1
theorem once_lift : (aRow.lifted == Try.prog.liftsFinal) = true := by
  have h := once_all
  simp only [Bool.and_eq_true] at h
  exact h.1.2
theorem once_make : (Try.prog.make == some aRow.make) = true := by
  have h := once_all
  simp only [Bool.and_eq_true] at h
  exact h.2
end Go.Proofs.Ytemanlkgfhmclaa
