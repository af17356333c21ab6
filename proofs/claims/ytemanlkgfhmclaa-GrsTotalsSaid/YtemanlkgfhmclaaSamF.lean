/- The reference: equal fields. -/
import Derived.Test.YtemanlkgfhmclaaRF
namespace Go.Proofs.Ytemanlkgfhmclaa
open Go.RowKit Cw
attribute [local go_sem] Oper.semAt_some

end Go.Proofs.Ytemanlkgfhmclaa
