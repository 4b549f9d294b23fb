/-
  No cell of these rows narrows 'for every input' (looked for: loops, veiled, ifaces, maps, wideKeys, modest, calm, conditions, laid).
  DERIVED. THE GIVEN ROWS OF THIS SEAT. 6 by the template 'for every input the law returns true; each argument reads behind the call as it read before'; 0 by the template 'total and deterministic' (their statements: YthjnhifaejoigaaTotals.lean).
  GIVEN WITH THE SEED: the statements are not yours to turn. If you find one false, say at which input.
  Laid BY PROGRAM, IN A SANDBOX (cutbox-rows.mjs): the forced cells as the released guide's own fill.sh prints them over the translation 4d2ae6196ed80484… (all of the seat's roots in one cut). By AI agents, Wed Nov 11 2026. No macro, syntax, notation, axiom, sorry.
-/
import Derived.Test.YthjnhifaejoigaaChecked
import GoSem.Claim
import GoSem.ClaimJoined
import GoSem.ClaimMapViews
import Derived.JoinedTies
import Derived.KernelRfl
namespace Go.Proofs.Ythjnhifaejoigaa
/- THE CELL 'sum', in the pinned program and in every row, IS THE sha256 OF THE DUMP (.gsa) THAT YthjnhifaejoigaaProg.lean LOADS. Nothing in Lean hashes anything: it is a label: what it is worth is what the hold of that sum in a sandbox is worth. -/
noncomputable def Try.pinned : Pinned := { name := "ythjnhifaejoigaa", sum := "4d2ae6196ed8048472c118e56458d5db58f184be79a1ee1a9f2237068c9ea13c", checked := Try.checked }
namespace Rows
def none {H : Type} : Left H := { results := [], args := [] }

/-- 'watchtowerlaw18.SchedIs': WHATEVER THE INPUT: true; the input reads as it did. -/
def schedIsSpec : ChangeSpec := { name := "schedIs", fn := fun _ => fun
  | [d1, d2, d3, d4, d5] => { results := [.lit (.bool true)], args := [d1, d2, d3, d4, d5] }
  | _ => none }
def schedIsRow : OpenClaim := { program := "ythjnhifaejoigaa", sum := "4d2ae6196ed8048472c118e56458d5db58f184be79a1ee1a9f2237068c9ea13c", func := "watchtower/watchtowerlaw18.SchedIs", spec := "schedIs", apart := false }
def SchedIsSaid : Prop := schedIsRow.holds Try.pinned (OpenSpec.ofChange schedIsSpec)

/-- ITS FALSE NEIGHBOUR: 'it returns false'. Refute it at one input. -/
def schedIsWrong : ChangeSpec := { name := "schedIs", fn := fun _ => fun
  | [d1, d2, d3, d4, d5] => { results := [.lit (.bool false)], args := [d1, d2, d3, d4, d5] }
  | _ => none }
def SchedIsWrongFalsely : Prop := schedIsRow.holds Try.pinned (OpenSpec.ofChange schedIsWrong)

/-- 'watchtowerlaw18.SchedAligned': WHATEVER THE INPUT: true; the input reads as it did. -/
def schedAlignedSpec : ChangeSpec := { name := "schedAligned", fn := fun _ => fun
  | [d1, d2, d3] => { results := [.lit (.bool true)], args := [d1, d2, d3] }
  | _ => none }
def schedAlignedRow : OpenClaim := { program := "ythjnhifaejoigaa", sum := "4d2ae6196ed8048472c118e56458d5db58f184be79a1ee1a9f2237068c9ea13c", func := "watchtower/watchtowerlaw18.SchedAligned", spec := "schedAligned", apart := false }
def SchedAlignedSaid : Prop := schedAlignedRow.holds Try.pinned (OpenSpec.ofChange schedAlignedSpec)

/-- ITS FALSE NEIGHBOUR: 'it returns false'. Refute it at one input. -/
def schedAlignedWrong : ChangeSpec := { name := "schedAligned", fn := fun _ => fun
  | [d1, d2, d3] => { results := [.lit (.bool false)], args := [d1, d2, d3] }
  | _ => none }
def SchedAlignedWrongFalsely : Prop := schedAlignedRow.holds Try.pinned (OpenSpec.ofChange schedAlignedWrong)

/-- 'watchtowerlaw18.SchedWalk': WHATEVER THE INPUT: true; the input reads as it did. -/
def schedWalkSpec : ChangeSpec := { name := "schedWalk", fn := fun _ => fun
  | [d1, d2] => { results := [.lit (.bool true)], args := [d1, d2] }
  | _ => none }
def schedWalkRow : OpenClaim := { program := "ythjnhifaejoigaa", sum := "4d2ae6196ed8048472c118e56458d5db58f184be79a1ee1a9f2237068c9ea13c", func := "watchtower/watchtowerlaw18.SchedWalk", spec := "schedWalk", apart := false }
def SchedWalkSaid : Prop := schedWalkRow.holds Try.pinned (OpenSpec.ofChange schedWalkSpec)

/-- ITS FALSE NEIGHBOUR: 'it returns false'. Refute it at one input. -/
def schedWalkWrong : ChangeSpec := { name := "schedWalk", fn := fun _ => fun
  | [d1, d2] => { results := [.lit (.bool false)], args := [d1, d2] }
  | _ => none }
def SchedWalkWrongFalsely : Prop := schedWalkRow.holds Try.pinned (OpenSpec.ofChange schedWalkWrong)

/-- 'watchtowerlaw18.SchedTimes': WHATEVER THE INPUT: true; the input reads as it did. -/
def schedTimesSpec : ChangeSpec := { name := "schedTimes", fn := fun _ => fun
  | [d1, d2, d3] => { results := [.lit (.bool true)], args := [d1, d2, d3] }
  | _ => none }
def schedTimesRow : OpenClaim := { program := "ythjnhifaejoigaa", sum := "4d2ae6196ed8048472c118e56458d5db58f184be79a1ee1a9f2237068c9ea13c", func := "watchtower/watchtowerlaw18.SchedTimes", spec := "schedTimes", apart := false }
def SchedTimesSaid : Prop := schedTimesRow.holds Try.pinned (OpenSpec.ofChange schedTimesSpec)

/-- ITS FALSE NEIGHBOUR: 'it returns false'. Refute it at one input. -/
def schedTimesWrong : ChangeSpec := { name := "schedTimes", fn := fun _ => fun
  | [d1, d2, d3] => { results := [.lit (.bool false)], args := [d1, d2, d3] }
  | _ => none }
def SchedTimesWrongFalsely : Prop := schedTimesRow.holds Try.pinned (OpenSpec.ofChange schedTimesWrong)

/-- 'watchtowerlaw18.SchedNext': WHATEVER THE INPUT: true; the input reads as it did. -/
def schedNextSpec : ChangeSpec := { name := "schedNext", fn := fun _ => fun
  | [d1, d2] => { results := [.lit (.bool true)], args := [d1, d2] }
  | _ => none }
def schedNextRow : OpenClaim := { program := "ythjnhifaejoigaa", sum := "4d2ae6196ed8048472c118e56458d5db58f184be79a1ee1a9f2237068c9ea13c", func := "watchtower/watchtowerlaw18.SchedNext", spec := "schedNext", apart := false }
def SchedNextSaid : Prop := schedNextRow.holds Try.pinned (OpenSpec.ofChange schedNextSpec)

/-- ITS FALSE NEIGHBOUR: 'it returns false'. Refute it at one input. -/
def schedNextWrong : ChangeSpec := { name := "schedNext", fn := fun _ => fun
  | [d1, d2] => { results := [.lit (.bool false)], args := [d1, d2] }
  | _ => none }
def SchedNextWrongFalsely : Prop := schedNextRow.holds Try.pinned (OpenSpec.ofChange schedNextWrong)

/-- 'watchtowerlaw18.SchedAll': WHATEVER THE INPUT: true; the input reads as it did. -/
def schedAllSpec : ChangeSpec := { name := "schedAll", fn := fun _ => fun
  | [d1, d2, d3] => { results := [.lit (.bool true)], args := [d1, d2, d3] }
  | _ => none }
def schedAllRow : OpenClaim := { program := "ythjnhifaejoigaa", sum := "4d2ae6196ed8048472c118e56458d5db58f184be79a1ee1a9f2237068c9ea13c", func := "watchtower/watchtowerlaw18.SchedAll", spec := "schedAll", apart := false }
def SchedAllSaid : Prop := schedAllRow.holds Try.pinned (OpenSpec.ofChange schedAllSpec)

/-- ITS FALSE NEIGHBOUR: 'it returns false'. Refute it at one input. -/
def schedAllWrong : ChangeSpec := { name := "schedAll", fn := fun _ => fun
  | [d1, d2, d3] => { results := [.lit (.bool false)], args := [d1, d2, d3] }
  | _ => none }
def SchedAllWrongFalsely : Prop := schedAllRow.holds Try.pinned (OpenSpec.ofChange schedAllWrong)

/- THE SECOND FORM. 'bulk': how many values and letters a reading holds, each counted each time it is reached (what is shared counts as often as it is met; a slice's spare places count too). A statement '..UptoSaid' is the law's where the arguments, and the package variables that the reading takes, are together of bulk at most 1048576: NARROWER than '..Said'. Prove '..Said' where nothing that the law and all that it calls make is longer than what came in: it says more and counts as full. Else prove '..UptoSaid'. A law counts once. -/
mutual
def uptoBulk {H : Type} : DataW H → Nat
  | .lit (.string bytes) => bytes.length + 1
  | .lit _ => 1
  | .nil => 1
  | .ptr d => uptoBulk d + 1
  | .slice elems spare => uptoBulkAll elems + uptoBulkAll spare + 1
  | .agg parts => uptoBulkAll parts + 1
  | .iface _ d => uptoBulk d + 1
  | .map entries => uptoBulkEntries entries + 1
  | .held _ => 1
def uptoBulkAll {H : Type} : List (DataW H) → Nat
  | [] => 0
  | d :: r => uptoBulk d + uptoBulkAll r
def uptoBulkEntries {H : Type} : List (Lit × DataW H) → Nat
  | [] => 0
  | x :: r => uptoBulkEntry x + uptoBulkEntries r
def uptoBulkEntry {H : Type} : Lit × DataW H → Nat
  | (.string bytes, d) => bytes.length + uptoBulk d + 1
  | (_, d) => uptoBulk d + 1
 end
def uptoSmall : (H : Type) → List (DataW H) → Bool := fun _ ds => decide (uptoBulkAll ds ≤ 1048576)
def OpenSpec.upto (s : _root_.Go.ChangeSpec) : _root_.Go.OpenSpec := { _root_.Go.OpenSpec.ofChange s with cond := some uptoSmall }

/-- 'watchtowerlaw18.SchedIs', WHERE WHAT IT READS IS OF BULK AT MOST 1048576: true; the input reads as it did. -/
def schedIsUptoRow : OpenClaim := { program := "ythjnhifaejoigaa", sum := "4d2ae6196ed8048472c118e56458d5db58f184be79a1ee1a9f2237068c9ea13c", func := "watchtower/watchtowerlaw18.SchedIs", spec := "schedIs", apart := false, narrowed := true }
def SchedIsUptoSaid : Prop := schedIsUptoRow.holds Try.pinned (OpenSpec.upto schedIsSpec)

/-- 'watchtowerlaw18.SchedAligned', WHERE WHAT IT READS IS OF BULK AT MOST 1048576: true; the input reads as it did. -/
def schedAlignedUptoRow : OpenClaim := { program := "ythjnhifaejoigaa", sum := "4d2ae6196ed8048472c118e56458d5db58f184be79a1ee1a9f2237068c9ea13c", func := "watchtower/watchtowerlaw18.SchedAligned", spec := "schedAligned", apart := false, narrowed := true }
def SchedAlignedUptoSaid : Prop := schedAlignedUptoRow.holds Try.pinned (OpenSpec.upto schedAlignedSpec)

/-- 'watchtowerlaw18.SchedWalk', WHERE WHAT IT READS IS OF BULK AT MOST 1048576: true; the input reads as it did. -/
def schedWalkUptoRow : OpenClaim := { program := "ythjnhifaejoigaa", sum := "4d2ae6196ed8048472c118e56458d5db58f184be79a1ee1a9f2237068c9ea13c", func := "watchtower/watchtowerlaw18.SchedWalk", spec := "schedWalk", apart := false, narrowed := true }
def SchedWalkUptoSaid : Prop := schedWalkUptoRow.holds Try.pinned (OpenSpec.upto schedWalkSpec)

/-- 'watchtowerlaw18.SchedTimes', WHERE WHAT IT READS IS OF BULK AT MOST 1048576: true; the input reads as it did. -/
def schedTimesUptoRow : OpenClaim := { program := "ythjnhifaejoigaa", sum := "4d2ae6196ed8048472c118e56458d5db58f184be79a1ee1a9f2237068c9ea13c", func := "watchtower/watchtowerlaw18.SchedTimes", spec := "schedTimes", apart := false, narrowed := true }
def SchedTimesUptoSaid : Prop := schedTimesUptoRow.holds Try.pinned (OpenSpec.upto schedTimesSpec)

/-- 'watchtowerlaw18.SchedNext', WHERE WHAT IT READS IS OF BULK AT MOST 1048576: true; the input reads as it did. -/
def schedNextUptoRow : OpenClaim := { program := "ythjnhifaejoigaa", sum := "4d2ae6196ed8048472c118e56458d5db58f184be79a1ee1a9f2237068c9ea13c", func := "watchtower/watchtowerlaw18.SchedNext", spec := "schedNext", apart := false, narrowed := true }
def SchedNextUptoSaid : Prop := schedNextUptoRow.holds Try.pinned (OpenSpec.upto schedNextSpec)

/-- 'watchtowerlaw18.SchedAll', WHERE WHAT IT READS IS OF BULK AT MOST 1048576: true; the input reads as it did. -/
def schedAllUptoRow : OpenClaim := { program := "ythjnhifaejoigaa", sum := "4d2ae6196ed8048472c118e56458d5db58f184be79a1ee1a9f2237068c9ea13c", func := "watchtower/watchtowerlaw18.SchedAll", spec := "schedAll", apart := false, narrowed := true }
def SchedAllUptoSaid : Prop := schedAllUptoRow.holds Try.pinned (OpenSpec.upto schedAllSpec)

end Rows
end Go.Proofs.Ythjnhifaejoigaa
