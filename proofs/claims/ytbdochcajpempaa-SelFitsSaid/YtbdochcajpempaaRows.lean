/-
  No cell of these rows narrows 'for every input' (looked for: loops, veiled, ifaces, maps, wideKeys, modest, calm, conditions, laid).
  DERIVED. THE GIVEN ROWS OF THIS SEAT. 5 by the template 'for every input the law returns true; each argument reads behind the call as it read before'; 0 by the template 'total and deterministic' (their statements: YtbdochcajpempaaTotals.lean).
  GIVEN WITH THE SEED: the statements are not yours to turn. If you find one false, say at which input.
  Laid BY PROGRAM, IN A SANDBOX (cutbox-rows.mjs): the forced cells as the released guide's own fill.sh prints them over the translation da84fb7628dc11c6… (all of the seat's roots in one cut). By AI agents, Wed Nov 11 2026. No macro, syntax, notation, axiom, sorry.
-/
import Derived.Test.YtbdochcajpempaaChecked
import GoSem.Claim
import GoSem.ClaimJoined
import GoSem.ClaimMapViews
import Derived.JoinedTies
import Derived.KernelRfl
namespace Go.Proofs.Ytbdochcajpempaa
/- THE CELL 'sum', in the pinned program and in every row, IS THE sha256 OF THE DUMP (.gsa) THAT YtbdochcajpempaaProg.lean LOADS. Nothing in Lean hashes anything: it is a label: what it is worth is what the hold of that sum in a sandbox is worth. -/
noncomputable def Try.pinned : Pinned := { name := "ytbdochcajpempaa", sum := "da84fb7628dc11c6a6b1c955ae0757005943a0baf01fce45ae7c65e17c1c15c9", checked := Try.checked }
namespace Rows
def none {H : Type} : Left H := { results := [], args := [] }

/-- 'watchtowerlaw08.SelIs': WHATEVER THE INPUT: true; the input reads as it did. -/
def selIsSpec : ChangeSpec := { name := "selIs", fn := fun _ => fun
  | [d1, d2, d3, d4] => { results := [.lit (.bool true)], args := [d1, d2, d3, d4] }
  | _ => none }
def selIsRow : OpenClaim := { program := "ytbdochcajpempaa", sum := "da84fb7628dc11c6a6b1c955ae0757005943a0baf01fce45ae7c65e17c1c15c9", func := "watchtower/watchtowerlaw08.SelIs", spec := "selIs", inPlace := ["internal/bytealg.IndexByteString"], unfollowed := true, recurses := true, apart := false }
def SelIsSaid : Prop := selIsRow.holds Try.pinned (OpenSpec.ofChange selIsSpec)

/-- ITS FALSE NEIGHBOUR: 'it returns false'. Refute it at one input. -/
def selIsWrong : ChangeSpec := { name := "selIs", fn := fun _ => fun
  | [d1, d2, d3, d4] => { results := [.lit (.bool false)], args := [d1, d2, d3, d4] }
  | _ => none }
def SelIsWrongFalsely : Prop := selIsRow.holds Try.pinned (OpenSpec.ofChange selIsWrong)

/-- 'watchtowerlaw08.SelBack': WHATEVER THE INPUT: true; the input reads as it did. -/
def selBackSpec : ChangeSpec := { name := "selBack", fn := fun _ => fun
  | [d1, d2, d3] => { results := [.lit (.bool true)], args := [d1, d2, d3] }
  | _ => none }
def selBackRow : OpenClaim := { program := "ytbdochcajpempaa", sum := "da84fb7628dc11c6a6b1c955ae0757005943a0baf01fce45ae7c65e17c1c15c9", func := "watchtower/watchtowerlaw08.SelBack", spec := "selBack", inPlace := ["internal/bytealg.IndexByteString"], unfollowed := true, recurses := true, apart := false }
def SelBackSaid : Prop := selBackRow.holds Try.pinned (OpenSpec.ofChange selBackSpec)

/-- ITS FALSE NEIGHBOUR: 'it returns false'. Refute it at one input. -/
def selBackWrong : ChangeSpec := { name := "selBack", fn := fun _ => fun
  | [d1, d2, d3] => { results := [.lit (.bool false)], args := [d1, d2, d3] }
  | _ => none }
def SelBackWrongFalsely : Prop := selBackRow.holds Try.pinned (OpenSpec.ofChange selBackWrong)

/-- 'watchtowerlaw08.SelParsed': WHATEVER THE INPUT: true; the input reads as it did. -/
def selParsedSpec : ChangeSpec := { name := "selParsed", fn := fun _ => fun
  | [d1, d2] => { results := [.lit (.bool true)], args := [d1, d2] }
  | _ => none }
def selParsedRow : OpenClaim := { program := "ytbdochcajpempaa", sum := "da84fb7628dc11c6a6b1c955ae0757005943a0baf01fce45ae7c65e17c1c15c9", func := "watchtower/watchtowerlaw08.SelParsed", spec := "selParsed", inPlace := ["internal/bytealg.IndexByteString"], unfollowed := true, recurses := true, apart := false }
def SelParsedSaid : Prop := selParsedRow.holds Try.pinned (OpenSpec.ofChange selParsedSpec)

/-- ITS FALSE NEIGHBOUR: 'it returns false'. Refute it at one input. -/
def selParsedWrong : ChangeSpec := { name := "selParsed", fn := fun _ => fun
  | [d1, d2] => { results := [.lit (.bool false)], args := [d1, d2] }
  | _ => none }
def SelParsedWrongFalsely : Prop := selParsedRow.holds Try.pinned (OpenSpec.ofChange selParsedWrong)

/-- 'watchtowerlaw08.SelFits': WHATEVER THE INPUT: true; the input reads as it did. -/
def selFitsSpec : ChangeSpec := { name := "selFits", fn := fun _ => fun
  | [d1, d2, d3] => { results := [.lit (.bool true)], args := [d1, d2, d3] }
  | _ => none }
def selFitsRow : OpenClaim := { program := "ytbdochcajpempaa", sum := "da84fb7628dc11c6a6b1c955ae0757005943a0baf01fce45ae7c65e17c1c15c9", func := "watchtower/watchtowerlaw08.SelFits", spec := "selFits", inPlace := ["internal/bytealg.IndexByteString"], unfollowed := true, recurses := true, apart := false }
def SelFitsSaid : Prop := selFitsRow.holds Try.pinned (OpenSpec.ofChange selFitsSpec)

/-- ITS FALSE NEIGHBOUR: 'it returns false'. Refute it at one input. -/
def selFitsWrong : ChangeSpec := { name := "selFits", fn := fun _ => fun
  | [d1, d2, d3] => { results := [.lit (.bool false)], args := [d1, d2, d3] }
  | _ => none }
def SelFitsWrongFalsely : Prop := selFitsRow.holds Try.pinned (OpenSpec.ofChange selFitsWrong)

/-- 'watchtowerlaw08.SelApart': WHATEVER THE INPUT: true; the input reads as it did. -/
def selApartSpec : ChangeSpec := { name := "selApart", fn := fun _ => fun
  | [d1, d2] => { results := [.lit (.bool true)], args := [d1, d2] }
  | _ => none }
def selApartRow : OpenClaim := { program := "ytbdochcajpempaa", sum := "da84fb7628dc11c6a6b1c955ae0757005943a0baf01fce45ae7c65e17c1c15c9", func := "watchtower/watchtowerlaw08.SelApart", spec := "selApart", inPlace := ["internal/bytealg.IndexByteString"], unfollowed := true, recurses := true, apart := false }
def SelApartSaid : Prop := selApartRow.holds Try.pinned (OpenSpec.ofChange selApartSpec)

/-- ITS FALSE NEIGHBOUR: 'it returns false'. Refute it at one input. -/
def selApartWrong : ChangeSpec := { name := "selApart", fn := fun _ => fun
  | [d1, d2] => { results := [.lit (.bool false)], args := [d1, d2] }
  | _ => none }
def SelApartWrongFalsely : Prop := selApartRow.holds Try.pinned (OpenSpec.ofChange selApartWrong)

/- THE SECOND FORM. 'bulk': how many values and letters a reading holds, each counted each time it is reached (what is shared counts as often as it is met; a slice's spare places count too). A statement '..UptoSaid' is the law's where the arguments, and the package variables that the reading takes, are together of bulk at most 1048576: NARROWER than '..Said'. Prove '..Said' where nothing that the law and all that it calls make is longer than what came in: it says more and counts as full. Else prove '..UptoSaid'. A law counts once. -/
mutual
def uptoBulk {H : Type} : DataW H → Nat
  | .lit (.string bytes) => bytes.length + 1
  | .lit _ => 1
  | .nil => 1
  | .ptr d => uptoBulk d + 1
  | .slice elems spare => uptoBulkAll elems + uptoBulkAll spare + 1
  | .agg parts => uptoBulkAll parts + 1
  | .iface _ d => uptoBulk d + 1
  | .map entries => uptoBulkEntries entries + 1
  | .held _ => 1
def uptoBulkAll {H : Type} : List (DataW H) → Nat
  | [] => 0
  | d :: r => uptoBulk d + uptoBulkAll r
def uptoBulkEntries {H : Type} : List (Lit × DataW H) → Nat
  | [] => 0
  | x :: r => uptoBulkEntry x + uptoBulkEntries r
def uptoBulkEntry {H : Type} : Lit × DataW H → Nat
  | (.string bytes, d) => bytes.length + uptoBulk d + 1
  | (_, d) => uptoBulk d + 1
 end
def uptoSmall : (H : Type) → List (DataW H) → Bool := fun _ ds => decide (uptoBulkAll ds ≤ 1048576)
def OpenSpec.upto (s : _root_.Go.ChangeSpec) : _root_.Go.OpenSpec := { _root_.Go.OpenSpec.ofChange s with cond := some uptoSmall }

/-- 'watchtowerlaw08.SelIs', WHERE WHAT IT READS IS OF BULK AT MOST 1048576: true; the input reads as it did. -/
def selIsUptoRow : OpenClaim := { program := "ytbdochcajpempaa", sum := "da84fb7628dc11c6a6b1c955ae0757005943a0baf01fce45ae7c65e17c1c15c9", func := "watchtower/watchtowerlaw08.SelIs", spec := "selIs", inPlace := ["internal/bytealg.IndexByteString"], unfollowed := true, recurses := true, apart := false, narrowed := true }
def SelIsUptoSaid : Prop := selIsUptoRow.holds Try.pinned (OpenSpec.upto selIsSpec)

/-- 'watchtowerlaw08.SelBack', WHERE WHAT IT READS IS OF BULK AT MOST 1048576: true; the input reads as it did. -/
def selBackUptoRow : OpenClaim := { program := "ytbdochcajpempaa", sum := "da84fb7628dc11c6a6b1c955ae0757005943a0baf01fce45ae7c65e17c1c15c9", func := "watchtower/watchtowerlaw08.SelBack", spec := "selBack", inPlace := ["internal/bytealg.IndexByteString"], unfollowed := true, recurses := true, apart := false, narrowed := true }
def SelBackUptoSaid : Prop := selBackUptoRow.holds Try.pinned (OpenSpec.upto selBackSpec)

/-- 'watchtowerlaw08.SelParsed', WHERE WHAT IT READS IS OF BULK AT MOST 1048576: true; the input reads as it did. -/
def selParsedUptoRow : OpenClaim := { program := "ytbdochcajpempaa", sum := "da84fb7628dc11c6a6b1c955ae0757005943a0baf01fce45ae7c65e17c1c15c9", func := "watchtower/watchtowerlaw08.SelParsed", spec := "selParsed", inPlace := ["internal/bytealg.IndexByteString"], unfollowed := true, recurses := true, apart := false, narrowed := true }
def SelParsedUptoSaid : Prop := selParsedUptoRow.holds Try.pinned (OpenSpec.upto selParsedSpec)

/-- 'watchtowerlaw08.SelFits', WHERE WHAT IT READS IS OF BULK AT MOST 1048576: true; the input reads as it did. -/
def selFitsUptoRow : OpenClaim := { program := "ytbdochcajpempaa", sum := "da84fb7628dc11c6a6b1c955ae0757005943a0baf01fce45ae7c65e17c1c15c9", func := "watchtower/watchtowerlaw08.SelFits", spec := "selFits", inPlace := ["internal/bytealg.IndexByteString"], unfollowed := true, recurses := true, apart := false, narrowed := true }
def SelFitsUptoSaid : Prop := selFitsUptoRow.holds Try.pinned (OpenSpec.upto selFitsSpec)

/-- 'watchtowerlaw08.SelApart', WHERE WHAT IT READS IS OF BULK AT MOST 1048576: true; the input reads as it did. -/
def selApartUptoRow : OpenClaim := { program := "ytbdochcajpempaa", sum := "da84fb7628dc11c6a6b1c955ae0757005943a0baf01fce45ae7c65e17c1c15c9", func := "watchtower/watchtowerlaw08.SelApart", spec := "selApart", inPlace := ["internal/bytealg.IndexByteString"], unfollowed := true, recurses := true, apart := false, narrowed := true }
def SelApartUptoSaid : Prop := selApartUptoRow.holds Try.pinned (OpenSpec.upto selApartSpec)

end Rows
end Go.Proofs.Ytbdochcajpempaa
