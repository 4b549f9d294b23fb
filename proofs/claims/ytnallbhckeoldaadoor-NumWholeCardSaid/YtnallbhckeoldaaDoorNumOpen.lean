/- What every row's proof of this seat takes: two closed facts; what the listed variables give; a world in which they lie. -/
import Derived.Test.YtnallbhckeoldaaDoorRows
import Derived.Test.YtnallbhckeoldaaDoorRow
import Derived.Test.YtnallbhckeoldaaDoorNumD
import Derived.ChangeMaps5
import Derived.ProofKit
import Derived.LaidMore
import Derived.Lay
import Derived.OpenShut
import Derived.LaidLaws
import Derived.LaidHandle
import Derived.Stop.Joined
import Derived.Stop.LaidErr
namespace Go.Proofs.YtnallbhckeoldaaDoor
open Go.RowKit Go.WideShapes Go.ChangeShapes Go.Joins Go.Deep

theorem Trydown : ownKnob Tryd.prog.godebug = none := by kernel_rfl
theorem TrydlaidOut : laidOutB Tryd.prog = true := by kernel_rfl
theorem gPow : Tryd.prog.globalNamed "internal/strconv.uint64pow10" = some 0 := by kernel_rfl
theorem tPow : (Tryd.prog.globals[0]?).map (·.type) = some 59 := by kernel_rfl
theorem cU64 : Tryd.prog.cellsOf 51 = 1 := by kernel_rfl
theorem cPow : Tryd.prog.cellsOf 59 = 20 := by kernel_rfl

abbrev laid4 : List (String × DataW Unit) := [("math/bits.deBruijn32tab", Rows.laid_math_bits_deBruijn32tab), ("math/bits.deBruijn64tab", Rows.laid_math_bits_deBruijn64tab), ("internal/strconv.uint64pow10", Rows.laid_internal_strconv_uint64pow10), ("unicode/utf8.acceptRanges", Rows.laid_unicode_utf8_acceptRanges), ("unicode/utf8.first", Rows.laid_unicode_utf8_first)]

set_option maxRecDepth 100000 in
/-- A world in which the listed variables lie meets the condition. -/
theorem door_met (os : Os) (args : Array Value) : laidMetH Tryd.prog laid4 ((World.laidAll Tryd.prog os laid4).forCall (fun _ _ => 0) ⟨#[], args, []⟩).memory := by
  rw [MakeChecks.laidMetH_plain _ _ _ (by kernel_rfl)]
  exact laidMet_laidAll _ (by kernel_rfl) (by kernel_rfl)

/-- what the condition gives the walks -/
theorem glob_of_laid {W : World} (h : laidMetH Tryd.prog laid4 W) : Glob W := by
  rw [MakeChecks.laidMetH_plain _ _ _ (by kernel_rfl)] at h
  exact Lib.tabIs_of_head gPow tPow Tryd.underlying59 Tryd.underlying51 cU64 cPow (laidMet.tail (laidMet.tail h))
end Go.Proofs.YtnallbhckeoldaaDoor
