/- Layer 18: good (the law's own), the reference's inner product. -/
import Derived.Test.YtemanlkgfhmclaaGrsS
import Derived.Test.YtemanlkgfhmclaaDot4
namespace Go.Proofs.Ytemanlkgfhmclaa
open Go.RowKit Cw
attribute [local go_sem] Oper.semAt_some

/-- Does a description describe a code of a length of at most 24? -/
def goodB (D : Desc) (K : Int) (pts mul : List Int) : Bool := decide (pts.length ≤ 24 ∧ gchkD D K pts mul = 0)

end Go.Proofs.Ytemanlkgfhmclaa
