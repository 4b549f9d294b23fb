/-
  NARROWER THAN 'FOR EVERY INPUT', by the rows' own cells (each row's printed sentence says how): DurIs: laid · DurBack: laid · DurOnce: laid · DurParts: laid · DurUnits: laid · DurOrder: laid.
  DERIVED. THE GIVEN ROWS OF THIS SEAT. 6 by the template 'for every input the law returns true; each argument reads behind the call as it read before'; 0 by the template 'total and deterministic' (their statements: YtanacoollaajkaaDoorTotals.lean).
  GIVEN WITH THE SEED: the statements are not yours to turn. If you find one false, say at which input.
  Laid BY PROGRAM, IN A SANDBOX (cutbox-rows.mjs): the forced cells as the released guide's own fill.sh prints them over the translation 82edde2229effdb6… (all of the seat's roots in one cut). By AI agents, Wed Nov 11 2026. No macro, syntax, notation, axiom, sorry.
-/
import Derived.Test.YtanacoollaajkaaDoorChecked
import GoSem.Claim
import GoSem.ClaimJoined
import GoSem.ClaimMapViews
import Derived.JoinedTies
import Derived.KernelRfl
namespace Go.Proofs.YtanacoollaajkaaDoor
/- THE CELL 'sum', in the pinned program and in every row, IS THE sha256 OF THE DUMP (.gsa) THAT YtanacoollaajkaaDoorProg.lean LOADS. Nothing in Lean hashes anything: it is a label: what it is worth is what the hold of that sum in a sandbox is worth. -/
noncomputable def Tryd.pinned : Pinned := { name := "ytanacoollaajkaadoor", sum := "82edde2229effdb61c727075d3ac26ef92405f83264f926b2cdd7df9b52e1bde", checked := Tryd.checked }
namespace Rows
def none {H : Type} : Left H := { results := [], args := [] }

/- WHAT THE LISTED PACKAGE-LEVEL VARIABLES READ AS WHEN THE CALL BEGINS. Each datum BY PROGRAM (the guide's laid-datum.mjs) off the statement by which the dump's own 'gosem.cut.vars' lays the variable. In a bare row this is a premise. The card (YtanacoollaajkaaDoorCards.lean) ties it to the program's text. -/
def laid_math_bits_deBruijn32tab {H : Type} : DataW H := .agg [.lit (.int .u8 0), .lit (.int .u8 1), .lit (.int .u8 28), .lit (.int .u8 2), .lit (.int .u8 29), .lit (.int .u8 14), .lit (.int .u8 24), .lit (.int .u8 3), .lit (.int .u8 30), .lit (.int .u8 22), .lit (.int .u8 20), .lit (.int .u8 15), .lit (.int .u8 25), .lit (.int .u8 17), .lit (.int .u8 4), .lit (.int .u8 8), .lit (.int .u8 31), .lit (.int .u8 27), .lit (.int .u8 13), .lit (.int .u8 23), .lit (.int .u8 21), .lit (.int .u8 19), .lit (.int .u8 16), .lit (.int .u8 7), .lit (.int .u8 26), .lit (.int .u8 12), .lit (.int .u8 18), .lit (.int .u8 6), .lit (.int .u8 11), .lit (.int .u8 5), .lit (.int .u8 10), .lit (.int .u8 9)]
def laid_math_bits_deBruijn64tab {H : Type} : DataW H := .agg [.lit (.int .u8 0), .lit (.int .u8 1), .lit (.int .u8 56), .lit (.int .u8 2), .lit (.int .u8 57), .lit (.int .u8 49), .lit (.int .u8 28), .lit (.int .u8 3), .lit (.int .u8 61), .lit (.int .u8 58), .lit (.int .u8 42), .lit (.int .u8 50), .lit (.int .u8 38), .lit (.int .u8 29), .lit (.int .u8 17), .lit (.int .u8 4), .lit (.int .u8 62), .lit (.int .u8 47), .lit (.int .u8 59), .lit (.int .u8 36), .lit (.int .u8 45), .lit (.int .u8 43), .lit (.int .u8 51), .lit (.int .u8 22), .lit (.int .u8 53), .lit (.int .u8 39), .lit (.int .u8 33), .lit (.int .u8 30), .lit (.int .u8 24), .lit (.int .u8 18), .lit (.int .u8 12), .lit (.int .u8 5), .lit (.int .u8 63), .lit (.int .u8 55), .lit (.int .u8 48), .lit (.int .u8 27), .lit (.int .u8 60), .lit (.int .u8 41), .lit (.int .u8 37), .lit (.int .u8 16), .lit (.int .u8 46), .lit (.int .u8 35), .lit (.int .u8 44), .lit (.int .u8 21), .lit (.int .u8 52), .lit (.int .u8 32), .lit (.int .u8 23), .lit (.int .u8 11), .lit (.int .u8 54), .lit (.int .u8 26), .lit (.int .u8 40), .lit (.int .u8 15), .lit (.int .u8 34), .lit (.int .u8 20), .lit (.int .u8 31), .lit (.int .u8 10), .lit (.int .u8 25), .lit (.int .u8 14), .lit (.int .u8 19), .lit (.int .u8 9), .lit (.int .u8 13), .lit (.int .u8 8), .lit (.int .u8 7), .lit (.int .u8 6)]
def laid_internal_strconv_uint64pow10 {H : Type} : DataW H := .agg [.lit (.int .u64 1), .lit (.int .u64 10), .lit (.int .u64 100), .lit (.int .u64 1000), .lit (.int .u64 10000), .lit (.int .u64 100000), .lit (.int .u64 1000000), .lit (.int .u64 10000000), .lit (.int .u64 100000000), .lit (.int .u64 1000000000), .lit (.int .u64 10000000000), .lit (.int .u64 100000000000), .lit (.int .u64 1000000000000), .lit (.int .u64 10000000000000), .lit (.int .u64 100000000000000), .lit (.int .u64 1000000000000000), .lit (.int .u64 10000000000000000), .lit (.int .u64 100000000000000000), .lit (.int .u64 1000000000000000000), .lit (.int .u64 10000000000000000000)]
def laid_watchtower_dur_units {H : Type} : DataW H := .agg [.agg [.lit (.string [100]), .lit (.int .i64 86400000)], .agg [.lit (.string [104]), .lit (.int .i64 3600000)], .agg [.lit (.string [109]), .lit (.int .i64 60000)], .agg [.lit (.string [115]), .lit (.int .i64 1000)], .agg [.lit (.string [109, 115]), .lit (.int .i64 1)]]

/-- 'watchtowerlaw02.DurIs': WHATEVER THE INPUT: true; the input reads as it did. -/
def durIsSpec : ChangeSpec := { name := "durIs", fn := fun _ => fun
  | [d1, d2] => { results := [.lit (.bool true)], args := [d1, d2] }
  | _ => none }
def durIsRow : OpenClaim := { program := "ytanacoollaajkaadoor", sum := "82edde2229effdb61c727075d3ac26ef92405f83264f926b2cdd7df9b52e1bde", func := "watchtower/watchtowerlaw02.DurIs", spec := "durIs", recurses := true, named := ["watchtower/dur.units", "internal/strconv.uint64pow10", "math/bits.deBruijn32tab", "math/bits.deBruijn64tab"], apart := false, laid := [("math/bits.deBruijn32tab", laid_math_bits_deBruijn32tab), ("math/bits.deBruijn64tab", laid_math_bits_deBruijn64tab), ("internal/strconv.uint64pow10", laid_internal_strconv_uint64pow10), ("watchtower/dur.units", laid_watchtower_dur_units)] }
def DurIsSaid : Prop := durIsRow.holds Tryd.pinned (OpenSpec.ofChange durIsSpec)

/-- ITS FALSE NEIGHBOUR: 'it returns false'. Refute it at one input. -/
def durIsWrong : ChangeSpec := { name := "durIs", fn := fun _ => fun
  | [d1, d2] => { results := [.lit (.bool false)], args := [d1, d2] }
  | _ => none }
def DurIsWrongFalsely : Prop := durIsRow.holds Tryd.pinned (OpenSpec.ofChange durIsWrong)

/-- 'watchtowerlaw02.DurBack': WHATEVER THE INPUT: true; the input reads as it did. -/
def durBackSpec : ChangeSpec := { name := "durBack", fn := fun _ => fun
  | [d] => { results := [.lit (.bool true)], args := [d] }
  | _ => none }
def durBackRow : OpenClaim := { program := "ytanacoollaajkaadoor", sum := "82edde2229effdb61c727075d3ac26ef92405f83264f926b2cdd7df9b52e1bde", func := "watchtower/watchtowerlaw02.DurBack", spec := "durBack", named := ["watchtower/dur.units", "internal/strconv.uint64pow10", "math/bits.deBruijn32tab", "math/bits.deBruijn64tab"], apart := false, laid := [("math/bits.deBruijn32tab", laid_math_bits_deBruijn32tab), ("math/bits.deBruijn64tab", laid_math_bits_deBruijn64tab), ("internal/strconv.uint64pow10", laid_internal_strconv_uint64pow10), ("watchtower/dur.units", laid_watchtower_dur_units)] }
def DurBackSaid : Prop := durBackRow.holds Tryd.pinned (OpenSpec.ofChange durBackSpec)

/-- ITS FALSE NEIGHBOUR: 'it returns false'. Refute it at one input. -/
def durBackWrong : ChangeSpec := { name := "durBack", fn := fun _ => fun
  | [d] => { results := [.lit (.bool false)], args := [d] }
  | _ => none }
def DurBackWrongFalsely : Prop := durBackRow.holds Tryd.pinned (OpenSpec.ofChange durBackWrong)

/-- 'watchtowerlaw02.DurOnce': WHATEVER THE INPUT: true; the input reads as it did. -/
def durOnceSpec : ChangeSpec := { name := "durOnce", fn := fun _ => fun
  | [d] => { results := [.lit (.bool true)], args := [d] }
  | _ => none }
def durOnceRow : OpenClaim := { program := "ytanacoollaajkaadoor", sum := "82edde2229effdb61c727075d3ac26ef92405f83264f926b2cdd7df9b52e1bde", func := "watchtower/watchtowerlaw02.DurOnce", spec := "durOnce", named := ["watchtower/dur.units", "internal/strconv.uint64pow10", "math/bits.deBruijn32tab", "math/bits.deBruijn64tab"], apart := false, laid := [("math/bits.deBruijn32tab", laid_math_bits_deBruijn32tab), ("math/bits.deBruijn64tab", laid_math_bits_deBruijn64tab), ("internal/strconv.uint64pow10", laid_internal_strconv_uint64pow10), ("watchtower/dur.units", laid_watchtower_dur_units)] }
def DurOnceSaid : Prop := durOnceRow.holds Tryd.pinned (OpenSpec.ofChange durOnceSpec)

/-- ITS FALSE NEIGHBOUR: 'it returns false'. Refute it at one input. -/
def durOnceWrong : ChangeSpec := { name := "durOnce", fn := fun _ => fun
  | [d] => { results := [.lit (.bool false)], args := [d] }
  | _ => none }
def DurOnceWrongFalsely : Prop := durOnceRow.holds Tryd.pinned (OpenSpec.ofChange durOnceWrong)

/-- 'watchtowerlaw02.DurParts': WHATEVER THE INPUT: true; the input reads as it did. -/
def durPartsSpec : ChangeSpec := { name := "durParts", fn := fun _ => fun
  | [d] => { results := [.lit (.bool true)], args := [d] }
  | _ => none }
def durPartsRow : OpenClaim := { program := "ytanacoollaajkaadoor", sum := "82edde2229effdb61c727075d3ac26ef92405f83264f926b2cdd7df9b52e1bde", func := "watchtower/watchtowerlaw02.DurParts", spec := "durParts", named := ["watchtower/dur.units", "internal/strconv.uint64pow10", "math/bits.deBruijn32tab", "math/bits.deBruijn64tab"], apart := false, laid := [("math/bits.deBruijn32tab", laid_math_bits_deBruijn32tab), ("math/bits.deBruijn64tab", laid_math_bits_deBruijn64tab), ("internal/strconv.uint64pow10", laid_internal_strconv_uint64pow10), ("watchtower/dur.units", laid_watchtower_dur_units)] }
def DurPartsSaid : Prop := durPartsRow.holds Tryd.pinned (OpenSpec.ofChange durPartsSpec)

/-- ITS FALSE NEIGHBOUR: 'it returns false'. Refute it at one input. -/
def durPartsWrong : ChangeSpec := { name := "durParts", fn := fun _ => fun
  | [d] => { results := [.lit (.bool false)], args := [d] }
  | _ => none }
def DurPartsWrongFalsely : Prop := durPartsRow.holds Tryd.pinned (OpenSpec.ofChange durPartsWrong)

/-- 'watchtowerlaw02.DurUnits': WHATEVER THE INPUT: true; the input reads as it did. -/
def durUnitsSpec : ChangeSpec := { name := "durUnits", fn := fun _ => fun
  | [d] => { results := [.lit (.bool true)], args := [d] }
  | _ => none }
def durUnitsRow : OpenClaim := { program := "ytanacoollaajkaadoor", sum := "82edde2229effdb61c727075d3ac26ef92405f83264f926b2cdd7df9b52e1bde", func := "watchtower/watchtowerlaw02.DurUnits", spec := "durUnits", recurses := true, named := ["watchtower/dur.units", "internal/strconv.uint64pow10", "math/bits.deBruijn32tab", "math/bits.deBruijn64tab"], apart := false, laid := [("math/bits.deBruijn32tab", laid_math_bits_deBruijn32tab), ("math/bits.deBruijn64tab", laid_math_bits_deBruijn64tab), ("internal/strconv.uint64pow10", laid_internal_strconv_uint64pow10), ("watchtower/dur.units", laid_watchtower_dur_units)] }
def DurUnitsSaid : Prop := durUnitsRow.holds Tryd.pinned (OpenSpec.ofChange durUnitsSpec)

/-- ITS FALSE NEIGHBOUR: 'it returns false'. Refute it at one input. -/
def durUnitsWrong : ChangeSpec := { name := "durUnits", fn := fun _ => fun
  | [d] => { results := [.lit (.bool false)], args := [d] }
  | _ => none }
def DurUnitsWrongFalsely : Prop := durUnitsRow.holds Tryd.pinned (OpenSpec.ofChange durUnitsWrong)

/-- 'watchtowerlaw02.DurOrder': WHATEVER THE INPUT: true; the input reads as it did. -/
def durOrderSpec : ChangeSpec := { name := "durOrder", fn := fun _ => fun
  | [d1, d2, d3, d4] => { results := [.lit (.bool true)], args := [d1, d2, d3, d4] }
  | _ => none }
def durOrderRow : OpenClaim := { program := "ytanacoollaajkaadoor", sum := "82edde2229effdb61c727075d3ac26ef92405f83264f926b2cdd7df9b52e1bde", func := "watchtower/watchtowerlaw02.DurOrder", spec := "durOrder", recurses := true, named := ["watchtower/dur.units", "internal/strconv.uint64pow10", "math/bits.deBruijn32tab", "math/bits.deBruijn64tab"], apart := false, laid := [("math/bits.deBruijn32tab", laid_math_bits_deBruijn32tab), ("math/bits.deBruijn64tab", laid_math_bits_deBruijn64tab), ("internal/strconv.uint64pow10", laid_internal_strconv_uint64pow10), ("watchtower/dur.units", laid_watchtower_dur_units)] }
def DurOrderSaid : Prop := durOrderRow.holds Tryd.pinned (OpenSpec.ofChange durOrderSpec)

/-- ITS FALSE NEIGHBOUR: 'it returns false'. Refute it at one input. -/
def durOrderWrong : ChangeSpec := { name := "durOrder", fn := fun _ => fun
  | [d1, d2, d3, d4] => { results := [.lit (.bool false)], args := [d1, d2, d3, d4] }
  | _ => none }
def DurOrderWrongFalsely : Prop := durOrderRow.holds Tryd.pinned (OpenSpec.ofChange durOrderWrong)

/- THE SECOND FORM. 'bulk': how many values and letters a reading holds, each counted each time it is reached (what is shared counts as often as it is met; a slice's spare places count too). A statement '..UptoSaid' is the law's where the arguments, and the package variables that the reading takes, are together of bulk at most 1048576: NARROWER than '..Said'. Prove '..Said' where nothing that the law and all that it calls make is longer than what came in: it says more and counts as full. Else prove '..UptoSaid'. A law counts once. -/
mutual
def uptoBulk {H : Type} : DataW H → Nat
  | .lit (.string bytes) => bytes.length + 1
  | .lit _ => 1
  | .nil => 1
  | .ptr d => uptoBulk d + 1
  | .slice elems spare => uptoBulkAll elems + uptoBulkAll spare + 1
  | .agg parts => uptoBulkAll parts + 1
  | .iface _ d => uptoBulk d + 1
  | .map entries => uptoBulkEntries entries + 1
  | .held _ => 1
def uptoBulkAll {H : Type} : List (DataW H) → Nat
  | [] => 0
  | d :: r => uptoBulk d + uptoBulkAll r
def uptoBulkEntries {H : Type} : List (Lit × DataW H) → Nat
  | [] => 0
  | x :: r => uptoBulkEntry x + uptoBulkEntries r
def uptoBulkEntry {H : Type} : Lit × DataW H → Nat
  | (.string bytes, d) => bytes.length + uptoBulk d + 1
  | (_, d) => uptoBulk d + 1
 end
def uptoSmall : (H : Type) → List (DataW H) → Bool := fun _ ds => decide (uptoBulkAll ds ≤ 1048576)
def OpenSpec.upto (s : _root_.Go.ChangeSpec) : _root_.Go.OpenSpec := { _root_.Go.OpenSpec.ofChange s with cond := some uptoSmall }

/-- 'watchtowerlaw02.DurIs', WHERE WHAT IT READS IS OF BULK AT MOST 1048576: true; the input reads as it did. -/
def durIsUptoRow : OpenClaim := { program := "ytanacoollaajkaadoor", sum := "82edde2229effdb61c727075d3ac26ef92405f83264f926b2cdd7df9b52e1bde", func := "watchtower/watchtowerlaw02.DurIs", spec := "durIs", recurses := true, named := ["watchtower/dur.units", "internal/strconv.uint64pow10", "math/bits.deBruijn32tab", "math/bits.deBruijn64tab"], apart := false, laid := [("math/bits.deBruijn32tab", laid_math_bits_deBruijn32tab), ("math/bits.deBruijn64tab", laid_math_bits_deBruijn64tab), ("internal/strconv.uint64pow10", laid_internal_strconv_uint64pow10), ("watchtower/dur.units", laid_watchtower_dur_units)], narrowed := true }
def DurIsUptoSaid : Prop := durIsUptoRow.holds Tryd.pinned (OpenSpec.upto durIsSpec)

/-- 'watchtowerlaw02.DurBack', WHERE WHAT IT READS IS OF BULK AT MOST 1048576: true; the input reads as it did. -/
def durBackUptoRow : OpenClaim := { program := "ytanacoollaajkaadoor", sum := "82edde2229effdb61c727075d3ac26ef92405f83264f926b2cdd7df9b52e1bde", func := "watchtower/watchtowerlaw02.DurBack", spec := "durBack", named := ["watchtower/dur.units", "internal/strconv.uint64pow10", "math/bits.deBruijn32tab", "math/bits.deBruijn64tab"], apart := false, laid := [("math/bits.deBruijn32tab", laid_math_bits_deBruijn32tab), ("math/bits.deBruijn64tab", laid_math_bits_deBruijn64tab), ("internal/strconv.uint64pow10", laid_internal_strconv_uint64pow10), ("watchtower/dur.units", laid_watchtower_dur_units)], narrowed := true }
def DurBackUptoSaid : Prop := durBackUptoRow.holds Tryd.pinned (OpenSpec.upto durBackSpec)

/-- 'watchtowerlaw02.DurOnce', WHERE WHAT IT READS IS OF BULK AT MOST 1048576: true; the input reads as it did. -/
def durOnceUptoRow : OpenClaim := { program := "ytanacoollaajkaadoor", sum := "82edde2229effdb61c727075d3ac26ef92405f83264f926b2cdd7df9b52e1bde", func := "watchtower/watchtowerlaw02.DurOnce", spec := "durOnce", named := ["watchtower/dur.units", "internal/strconv.uint64pow10", "math/bits.deBruijn32tab", "math/bits.deBruijn64tab"], apart := false, laid := [("math/bits.deBruijn32tab", laid_math_bits_deBruijn32tab), ("math/bits.deBruijn64tab", laid_math_bits_deBruijn64tab), ("internal/strconv.uint64pow10", laid_internal_strconv_uint64pow10), ("watchtower/dur.units", laid_watchtower_dur_units)], narrowed := true }
def DurOnceUptoSaid : Prop := durOnceUptoRow.holds Tryd.pinned (OpenSpec.upto durOnceSpec)

/-- 'watchtowerlaw02.DurParts', WHERE WHAT IT READS IS OF BULK AT MOST 1048576: true; the input reads as it did. -/
def durPartsUptoRow : OpenClaim := { program := "ytanacoollaajkaadoor", sum := "82edde2229effdb61c727075d3ac26ef92405f83264f926b2cdd7df9b52e1bde", func := "watchtower/watchtowerlaw02.DurParts", spec := "durParts", named := ["watchtower/dur.units", "internal/strconv.uint64pow10", "math/bits.deBruijn32tab", "math/bits.deBruijn64tab"], apart := false, laid := [("math/bits.deBruijn32tab", laid_math_bits_deBruijn32tab), ("math/bits.deBruijn64tab", laid_math_bits_deBruijn64tab), ("internal/strconv.uint64pow10", laid_internal_strconv_uint64pow10), ("watchtower/dur.units", laid_watchtower_dur_units)], narrowed := true }
def DurPartsUptoSaid : Prop := durPartsUptoRow.holds Tryd.pinned (OpenSpec.upto durPartsSpec)

/-- 'watchtowerlaw02.DurUnits', WHERE WHAT IT READS IS OF BULK AT MOST 1048576: true; the input reads as it did. -/
def durUnitsUptoRow : OpenClaim := { program := "ytanacoollaajkaadoor", sum := "82edde2229effdb61c727075d3ac26ef92405f83264f926b2cdd7df9b52e1bde", func := "watchtower/watchtowerlaw02.DurUnits", spec := "durUnits", recurses := true, named := ["watchtower/dur.units", "internal/strconv.uint64pow10", "math/bits.deBruijn32tab", "math/bits.deBruijn64tab"], apart := false, laid := [("math/bits.deBruijn32tab", laid_math_bits_deBruijn32tab), ("math/bits.deBruijn64tab", laid_math_bits_deBruijn64tab), ("internal/strconv.uint64pow10", laid_internal_strconv_uint64pow10), ("watchtower/dur.units", laid_watchtower_dur_units)], narrowed := true }
def DurUnitsUptoSaid : Prop := durUnitsUptoRow.holds Tryd.pinned (OpenSpec.upto durUnitsSpec)

/-- 'watchtowerlaw02.DurOrder', WHERE WHAT IT READS IS OF BULK AT MOST 1048576: true; the input reads as it did. -/
def durOrderUptoRow : OpenClaim := { program := "ytanacoollaajkaadoor", sum := "82edde2229effdb61c727075d3ac26ef92405f83264f926b2cdd7df9b52e1bde", func := "watchtower/watchtowerlaw02.DurOrder", spec := "durOrder", recurses := true, named := ["watchtower/dur.units", "internal/strconv.uint64pow10", "math/bits.deBruijn32tab", "math/bits.deBruijn64tab"], apart := false, laid := [("math/bits.deBruijn32tab", laid_math_bits_deBruijn32tab), ("math/bits.deBruijn64tab", laid_math_bits_deBruijn64tab), ("internal/strconv.uint64pow10", laid_internal_strconv_uint64pow10), ("watchtower/dur.units", laid_watchtower_dur_units)], narrowed := true }
def DurOrderUptoSaid : Prop := durOrderUptoRow.holds Tryd.pinned (OpenSpec.upto durOrderSpec)

end Rows
end Go.Proofs.YtanacoollaajkaaDoor
