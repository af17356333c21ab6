/- Layer 18: the reference's Elements. -/
import Derived.Test.YtemanlkgfhmclaaGrsE
namespace Go.Proofs.Ytemanlkgfhmclaa
open Go.RowKit Cw

end Go.Proofs.Ytemanlkgfhmclaa
