/- The reference's inner product. -/
import Derived.Test.YtemanlkgfhmclaaEv5
namespace Go.Proofs.Ytemanlkgfhmclaa
open Go.RowKit Cw
attribute [local go_sem] Oper.semAt_some

end Go.Proofs.Ytemanlkgfhmclaa
