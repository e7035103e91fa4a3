/- Contracts of the reference's Join. -/
import Derived.Test.YtgbjckokhonkgaaDoorWAtR
import Derived.Test.YtgbjckokhonkgaaDoorMJoin
namespace Go.Proofs.YtgbjckokhonkgaaDoor
open Go.RowKit

end Go.Proofs.YtgbjckokhonkgaaDoor
