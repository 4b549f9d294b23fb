/- The walks of the reference's small functions over series: sane, the same; what a series counts as; a clone. -/
import Derived.Test.YtidfiiogjfpfmaaSerA
namespace Go.Proofs.Ytidfiiogjfpfmaa.SerW
open Go.RowKit

end Go.Proofs.Ytidfiiogjfpfmaa.SerW
