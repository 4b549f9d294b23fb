/-
  No cell of these rows narrows 'for every input' (looked for: loops, veiled, ifaces, maps, wideKeys, modest, calm, conditions, laid).
  DERIVED. THE GIVEN ROWS OF THIS SEAT. 6 by the template 'for every input the law returns true; each argument reads behind the call as it read before'; 0 by the template 'total and deterministic' (their statements: YtjoaafekhleocaaTotals.lean).
  GIVEN WITH THE SEED: the statements are not yours to turn. If you find one false, say at which input.
  Laid BY PROGRAM, IN A SANDBOX (cutbox-rows.mjs): the forced cells as the released guide's own fill.sh prints them over the translation 9698b00cad63b825… (all of the seat's roots in one cut). By AI agents, Wed Nov 11 2026. No macro, syntax, notation, axiom, sorry.
-/
import Derived.Test.YtjoaafekhleocaaChecked
import GoSem.Claim
import GoSem.ClaimJoined
import GoSem.ClaimMapViews
import Derived.JoinedTies
import Derived.KernelRfl
namespace Go.Proofs.Ytjoaafekhleocaa
/- THE CELL 'sum', in the pinned program and in every row, IS THE sha256 OF THE DUMP (.gsa) THAT YtjoaafekhleocaaProg.lean LOADS. Nothing in Lean hashes anything: it is a label: what it is worth is what the hold of that sum in a sandbox is worth. -/
noncomputable def Try.pinned : Pinned := { name := "ytjoaafekhleocaa", sum := "9698b00cad63b825197a3ab29621dfcc492c537df6b8be5135f35284a711ebba", checked := Try.checked }
namespace Rows
def none {H : Type} : Left H := { results := [], args := [] }

/-- 'watchtowerlaw13.SeriesIs': WHATEVER THE INPUT: true; the input reads as it did. -/
def seriesIsSpec : ChangeSpec := { name := "seriesIs", fn := fun _ => fun
  | [d1, d2, d3, d4] => { results := [.lit (.bool true)], args := [d1, d2, d3, d4] }
  | _ => none }
def seriesIsRow : OpenClaim := { program := "ytjoaafekhleocaa", sum := "9698b00cad63b825197a3ab29621dfcc492c537df6b8be5135f35284a711ebba", func := "watchtower/watchtowerlaw13.SeriesIs", spec := "seriesIs", unfollowed := true, recurses := true, apart := false }
def SeriesIsSaid : Prop := seriesIsRow.holds Try.pinned (OpenSpec.ofChange seriesIsSpec)

/-- ITS FALSE NEIGHBOUR: 'it returns false'. Refute it at one input. -/
def seriesIsWrong : ChangeSpec := { name := "seriesIs", fn := fun _ => fun
  | [d1, d2, d3, d4] => { results := [.lit (.bool false)], args := [d1, d2, d3, d4] }
  | _ => none }
def SeriesIsWrongFalsely : Prop := seriesIsRow.holds Try.pinned (OpenSpec.ofChange seriesIsWrong)

/-- 'watchtowerlaw13.SeriesGrows': WHATEVER THE INPUT: true; the input reads as it did. -/
def seriesGrowsSpec : ChangeSpec := { name := "seriesGrows", fn := fun _ => fun
  | [d1, d2] => { results := [.lit (.bool true)], args := [d1, d2] }
  | _ => none }
def seriesGrowsRow : OpenClaim := { program := "ytjoaafekhleocaa", sum := "9698b00cad63b825197a3ab29621dfcc492c537df6b8be5135f35284a711ebba", func := "watchtower/watchtowerlaw13.SeriesGrows", spec := "seriesGrows", unfollowed := true, recurses := true, apart := false }
def SeriesGrowsSaid : Prop := seriesGrowsRow.holds Try.pinned (OpenSpec.ofChange seriesGrowsSpec)

/-- ITS FALSE NEIGHBOUR: 'it returns false'. Refute it at one input. -/
def seriesGrowsWrong : ChangeSpec := { name := "seriesGrows", fn := fun _ => fun
  | [d1, d2] => { results := [.lit (.bool false)], args := [d1, d2] }
  | _ => none }
def SeriesGrowsWrongFalsely : Prop := seriesGrowsRow.holds Try.pinned (OpenSpec.ofChange seriesGrowsWrong)

/-- 'watchtowerlaw13.SeriesStays': WHATEVER THE INPUT: true; the input reads as it did. -/
def seriesStaysSpec : ChangeSpec := { name := "seriesStays", fn := fun _ => fun
  | [d1, d2, d3, d4] => { results := [.lit (.bool true)], args := [d1, d2, d3, d4] }
  | _ => none }
def seriesStaysRow : OpenClaim := { program := "ytjoaafekhleocaa", sum := "9698b00cad63b825197a3ab29621dfcc492c537df6b8be5135f35284a711ebba", func := "watchtower/watchtowerlaw13.SeriesStays", spec := "seriesStays", unfollowed := true, recurses := true, apart := false }
def SeriesStaysSaid : Prop := seriesStaysRow.holds Try.pinned (OpenSpec.ofChange seriesStaysSpec)

/-- ITS FALSE NEIGHBOUR: 'it returns false'. Refute it at one input. -/
def seriesStaysWrong : ChangeSpec := { name := "seriesStays", fn := fun _ => fun
  | [d1, d2, d3, d4] => { results := [.lit (.bool false)], args := [d1, d2, d3, d4] }
  | _ => none }
def SeriesStaysWrongFalsely : Prop := seriesStaysRow.holds Try.pinned (OpenSpec.ofChange seriesStaysWrong)

/-- 'watchtowerlaw13.SeriesLast': WHATEVER THE INPUT: true; the input reads as it did. -/
def seriesLastSpec : ChangeSpec := { name := "seriesLast", fn := fun _ => fun
  | [d1, d2, d3] => { results := [.lit (.bool true)], args := [d1, d2, d3] }
  | _ => none }
def seriesLastRow : OpenClaim := { program := "ytjoaafekhleocaa", sum := "9698b00cad63b825197a3ab29621dfcc492c537df6b8be5135f35284a711ebba", func := "watchtower/watchtowerlaw13.SeriesLast", spec := "seriesLast", unfollowed := true, recurses := true, apart := false }
def SeriesLastSaid : Prop := seriesLastRow.holds Try.pinned (OpenSpec.ofChange seriesLastSpec)

/-- ITS FALSE NEIGHBOUR: 'it returns false'. Refute it at one input. -/
def seriesLastWrong : ChangeSpec := { name := "seriesLast", fn := fun _ => fun
  | [d1, d2, d3] => { results := [.lit (.bool false)], args := [d1, d2, d3] }
  | _ => none }
def SeriesLastWrongFalsely : Prop := seriesLastRow.holds Try.pinned (OpenSpec.ofChange seriesLastWrong)

/-- 'watchtowerlaw13.SeriesParts': WHATEVER THE INPUT: true; the input reads as it did. -/
def seriesPartsSpec : ChangeSpec := { name := "seriesParts", fn := fun _ => fun
  | [d1, d2, d3, d4] => { results := [.lit (.bool true)], args := [d1, d2, d3, d4] }
  | _ => none }
def seriesPartsRow : OpenClaim := { program := "ytjoaafekhleocaa", sum := "9698b00cad63b825197a3ab29621dfcc492c537df6b8be5135f35284a711ebba", func := "watchtower/watchtowerlaw13.SeriesParts", spec := "seriesParts", unfollowed := true, recurses := true, apart := false }
def SeriesPartsSaid : Prop := seriesPartsRow.holds Try.pinned (OpenSpec.ofChange seriesPartsSpec)

/-- ITS FALSE NEIGHBOUR: 'it returns false'. Refute it at one input. -/
def seriesPartsWrong : ChangeSpec := { name := "seriesParts", fn := fun _ => fun
  | [d1, d2, d3, d4] => { results := [.lit (.bool false)], args := [d1, d2, d3, d4] }
  | _ => none }
def SeriesPartsWrongFalsely : Prop := seriesPartsRow.holds Try.pinned (OpenSpec.ofChange seriesPartsWrong)

/-- 'watchtowerlaw13.SeriesWindow': WHATEVER THE INPUT: true; the input reads as it did. -/
def seriesWindowSpec : ChangeSpec := { name := "seriesWindow", fn := fun _ => fun
  | [d1, d2, d3, d4] => { results := [.lit (.bool true)], args := [d1, d2, d3, d4] }
  | _ => none }
def seriesWindowRow : OpenClaim := { program := "ytjoaafekhleocaa", sum := "9698b00cad63b825197a3ab29621dfcc492c537df6b8be5135f35284a711ebba", func := "watchtower/watchtowerlaw13.SeriesWindow", spec := "seriesWindow", unfollowed := true, recurses := true, apart := false }
def SeriesWindowSaid : Prop := seriesWindowRow.holds Try.pinned (OpenSpec.ofChange seriesWindowSpec)

/-- ITS FALSE NEIGHBOUR: 'it returns false'. Refute it at one input. -/
def seriesWindowWrong : ChangeSpec := { name := "seriesWindow", fn := fun _ => fun
  | [d1, d2, d3, d4] => { results := [.lit (.bool false)], args := [d1, d2, d3, d4] }
  | _ => none }
def SeriesWindowWrongFalsely : Prop := seriesWindowRow.holds Try.pinned (OpenSpec.ofChange seriesWindowWrong)

/- THE SECOND FORM. 'bulk': how many values and letters a reading holds, each counted each time it is reached (what is shared counts as often as it is met; a slice's spare places count too). A statement '..UptoSaid' is the law's where the arguments, and the package variables that the reading takes, are together of bulk at most 1048576: NARROWER than '..Said'. Prove '..Said' where nothing that the law and all that it calls make is longer than what came in: it says more and counts as full. Else prove '..UptoSaid'. A law counts once. -/
mutual
def uptoBulk {H : Type} : DataW H → Nat
  | .lit (.string bytes) => bytes.length + 1
  | .lit _ => 1
  | .nil => 1
  | .ptr d => uptoBulk d + 1
  | .slice elems spare => uptoBulkAll elems + uptoBulkAll spare + 1
  | .agg parts => uptoBulkAll parts + 1
  | .iface _ d => uptoBulk d + 1
  | .map entries => uptoBulkEntries entries + 1
  | .held _ => 1
def uptoBulkAll {H : Type} : List (DataW H) → Nat
  | [] => 0
  | d :: r => uptoBulk d + uptoBulkAll r
def uptoBulkEntries {H : Type} : List (Lit × DataW H) → Nat
  | [] => 0
  | x :: r => uptoBulkEntry x + uptoBulkEntries r
def uptoBulkEntry {H : Type} : Lit × DataW H → Nat
  | (.string bytes, d) => bytes.length + uptoBulk d + 1
  | (_, d) => uptoBulk d + 1
 end
def uptoSmall : (H : Type) → List (DataW H) → Bool := fun _ ds => decide (uptoBulkAll ds ≤ 1048576)
def OpenSpec.upto (s : _root_.Go.ChangeSpec) : _root_.Go.OpenSpec := { _root_.Go.OpenSpec.ofChange s with cond := some uptoSmall }

/-- 'watchtowerlaw13.SeriesIs', WHERE WHAT IT READS IS OF BULK AT MOST 1048576: true; the input reads as it did. -/
def seriesIsUptoRow : OpenClaim := { program := "ytjoaafekhleocaa", sum := "9698b00cad63b825197a3ab29621dfcc492c537df6b8be5135f35284a711ebba", func := "watchtower/watchtowerlaw13.SeriesIs", spec := "seriesIs", unfollowed := true, recurses := true, apart := false, narrowed := true }
def SeriesIsUptoSaid : Prop := seriesIsUptoRow.holds Try.pinned (OpenSpec.upto seriesIsSpec)

/-- 'watchtowerlaw13.SeriesGrows', WHERE WHAT IT READS IS OF BULK AT MOST 1048576: true; the input reads as it did. -/
def seriesGrowsUptoRow : OpenClaim := { program := "ytjoaafekhleocaa", sum := "9698b00cad63b825197a3ab29621dfcc492c537df6b8be5135f35284a711ebba", func := "watchtower/watchtowerlaw13.SeriesGrows", spec := "seriesGrows", unfollowed := true, recurses := true, apart := false, narrowed := true }
def SeriesGrowsUptoSaid : Prop := seriesGrowsUptoRow.holds Try.pinned (OpenSpec.upto seriesGrowsSpec)

/-- 'watchtowerlaw13.SeriesStays', WHERE WHAT IT READS IS OF BULK AT MOST 1048576: true; the input reads as it did. -/
def seriesStaysUptoRow : OpenClaim := { program := "ytjoaafekhleocaa", sum := "9698b00cad63b825197a3ab29621dfcc492c537df6b8be5135f35284a711ebba", func := "watchtower/watchtowerlaw13.SeriesStays", spec := "seriesStays", unfollowed := true, recurses := true, apart := false, narrowed := true }
def SeriesStaysUptoSaid : Prop := seriesStaysUptoRow.holds Try.pinned (OpenSpec.upto seriesStaysSpec)

/-- 'watchtowerlaw13.SeriesLast', WHERE WHAT IT READS IS OF BULK AT MOST 1048576: true; the input reads as it did. -/
def seriesLastUptoRow : OpenClaim := { program := "ytjoaafekhleocaa", sum := "9698b00cad63b825197a3ab29621dfcc492c537df6b8be5135f35284a711ebba", func := "watchtower/watchtowerlaw13.SeriesLast", spec := "seriesLast", unfollowed := true, recurses := true, apart := false, narrowed := true }
def SeriesLastUptoSaid : Prop := seriesLastUptoRow.holds Try.pinned (OpenSpec.upto seriesLastSpec)

/-- 'watchtowerlaw13.SeriesParts', WHERE WHAT IT READS IS OF BULK AT MOST 1048576: true; the input reads as it did. -/
def seriesPartsUptoRow : OpenClaim := { program := "ytjoaafekhleocaa", sum := "9698b00cad63b825197a3ab29621dfcc492c537df6b8be5135f35284a711ebba", func := "watchtower/watchtowerlaw13.SeriesParts", spec := "seriesParts", unfollowed := true, recurses := true, apart := false, narrowed := true }
def SeriesPartsUptoSaid : Prop := seriesPartsUptoRow.holds Try.pinned (OpenSpec.upto seriesPartsSpec)

/-- 'watchtowerlaw13.SeriesWindow', WHERE WHAT IT READS IS OF BULK AT MOST 1048576: true; the input reads as it did. -/
def seriesWindowUptoRow : OpenClaim := { program := "ytjoaafekhleocaa", sum := "9698b00cad63b825197a3ab29621dfcc492c537df6b8be5135f35284a711ebba", func := "watchtower/watchtowerlaw13.SeriesWindow", spec := "seriesWindow", unfollowed := true, recurses := true, apart := false, narrowed := true }
def SeriesWindowUptoSaid : Prop := seriesWindowUptoRow.holds Try.pinned (OpenSpec.upto seriesWindowSpec)

end Rows
end Go.Proofs.Ytjoaafekhleocaa
