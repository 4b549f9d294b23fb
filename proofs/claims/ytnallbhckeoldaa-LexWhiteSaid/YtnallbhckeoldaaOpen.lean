/- What every row's proof of this seat takes: two closed facts of the program. -/
import Derived.Test.YtnallbhckeoldaaRows
import Derived.Test.YtnallbhckeoldaaRow
import Derived.ChangeMaps5
namespace Go.Proofs.Ytnallbhckeoldaa
open Go.RowKit Go.WideShapes Go.ChangeShapes Go.Joins Go.Deep

theorem Tryown : ownKnob Try.prog.godebug = none := by kernel_rfl
theorem TrylaidOut : laidOutB Try.prog = true := by kernel_rfl
end Go.Proofs.Ytnallbhckeoldaa
