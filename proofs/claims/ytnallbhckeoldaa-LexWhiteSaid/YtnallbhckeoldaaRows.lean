/-
  No cell of these rows narrows 'for every input' (looked for: loops, veiled, ifaces, maps, wideKeys, modest, calm, conditions, laid).
  DERIVED. THE GIVEN ROWS OF THIS SEAT. 5 by the template 'for every input the law returns true; each argument reads behind the call as it read before'; 0 by the template 'total and deterministic' (their statements: YtnallbhckeoldaaTotals.lean).
  GIVEN WITH THE SEED: the statements are not yours to turn. If you find one false, say at which input.
  Laid BY PROGRAM, IN A SANDBOX (cutbox-rows.mjs): the forced cells as the released guide's own fill.sh prints them over the translation 087d7cf060a77d2e… (all of the seat's roots in one cut). By AI agents, Wed Nov 11 2026. No macro, syntax, notation, axiom, sorry.
-/
import Derived.Test.YtnallbhckeoldaaChecked
import GoSem.Claim
import GoSem.ClaimJoined
import GoSem.ClaimMapViews
import Derived.JoinedTies
import Derived.KernelRfl
namespace Go.Proofs.Ytnallbhckeoldaa
/- THE CELL 'sum', in the pinned program and in every row, IS THE sha256 OF THE DUMP (.gsa) THAT YtnallbhckeoldaaProg.lean LOADS. Nothing in Lean hashes anything: it is a label: what it is worth is what the hold of that sum in a sandbox is worth. -/
noncomputable def Try.pinned : Pinned := { name := "ytnallbhckeoldaa", sum := "087d7cf060a77d2e3979b31dbde30f6a78f9b06c114adb5c95e90b443c10be74", checked := Try.checked }
namespace Rows
def none {H : Type} : Left H := { results := [], args := [] }

/-- 'watchtowerlaw07.LexJoined': WHATEVER THE INPUT: true; the input reads as it did. -/
def lexJoinedSpec : ChangeSpec := { name := "lexJoined", fn := fun _ => fun
  | [d] => { results := [.lit (.bool true)], args := [d] }
  | _ => none }
def lexJoinedRow : OpenClaim := { program := "ytnallbhckeoldaa", sum := "087d7cf060a77d2e3979b31dbde30f6a78f9b06c114adb5c95e90b443c10be74", func := "watchtower/watchtowerlaw07.LexJoined", spec := "lexJoined", inPlace := ["internal/bytealg.IndexByteString", "internal/abi.NoEscape"], apart := false }
def LexJoinedSaid : Prop := lexJoinedRow.holds Try.pinned (OpenSpec.ofChange lexJoinedSpec)

/-- ITS FALSE NEIGHBOUR: 'it returns false'. Refute it at one input. -/
def lexJoinedWrong : ChangeSpec := { name := "lexJoined", fn := fun _ => fun
  | [d] => { results := [.lit (.bool false)], args := [d] }
  | _ => none }
def LexJoinedWrongFalsely : Prop := lexJoinedRow.holds Try.pinned (OpenSpec.ofChange lexJoinedWrong)

/-- 'watchtowerlaw07.LexPlaces': WHATEVER THE INPUT: true; the input reads as it did. -/
def lexPlacesSpec : ChangeSpec := { name := "lexPlaces", fn := fun _ => fun
  | [d] => { results := [.lit (.bool true)], args := [d] }
  | _ => none }
def lexPlacesRow : OpenClaim := { program := "ytnallbhckeoldaa", sum := "087d7cf060a77d2e3979b31dbde30f6a78f9b06c114adb5c95e90b443c10be74", func := "watchtower/watchtowerlaw07.LexPlaces", spec := "lexPlaces", inPlace := ["internal/bytealg.IndexByteString", "internal/abi.NoEscape"], apart := false }
def LexPlacesSaid : Prop := lexPlacesRow.holds Try.pinned (OpenSpec.ofChange lexPlacesSpec)

/-- ITS FALSE NEIGHBOUR: 'it returns false'. Refute it at one input. -/
def lexPlacesWrong : ChangeSpec := { name := "lexPlaces", fn := fun _ => fun
  | [d] => { results := [.lit (.bool false)], args := [d] }
  | _ => none }
def LexPlacesWrongFalsely : Prop := lexPlacesRow.holds Try.pinned (OpenSpec.ofChange lexPlacesWrong)

/-- 'watchtowerlaw07.LexQuote': WHATEVER THE INPUT: true; the input reads as it did. -/
def lexQuoteSpec : ChangeSpec := { name := "lexQuote", fn := fun _ => fun
  | [d1, d2] => { results := [.lit (.bool true)], args := [d1, d2] }
  | _ => none }
def lexQuoteRow : OpenClaim := { program := "ytnallbhckeoldaa", sum := "087d7cf060a77d2e3979b31dbde30f6a78f9b06c114adb5c95e90b443c10be74", func := "watchtower/watchtowerlaw07.LexQuote", spec := "lexQuote", inPlace := ["internal/bytealg.IndexByteString", "internal/abi.NoEscape"], apart := false }
def LexQuoteSaid : Prop := lexQuoteRow.holds Try.pinned (OpenSpec.ofChange lexQuoteSpec)

/-- ITS FALSE NEIGHBOUR: 'it returns false'. Refute it at one input. -/
def lexQuoteWrong : ChangeSpec := { name := "lexQuote", fn := fun _ => fun
  | [d1, d2] => { results := [.lit (.bool false)], args := [d1, d2] }
  | _ => none }
def LexQuoteWrongFalsely : Prop := lexQuoteRow.holds Try.pinned (OpenSpec.ofChange lexQuoteWrong)

/-- 'watchtowerlaw07.LexParts': WHATEVER THE INPUT: true; the input reads as it did. -/
def lexPartsSpec : ChangeSpec := { name := "lexParts", fn := fun _ => fun
  | [d1, d2] => { results := [.lit (.bool true)], args := [d1, d2] }
  | _ => none }
def lexPartsRow : OpenClaim := { program := "ytnallbhckeoldaa", sum := "087d7cf060a77d2e3979b31dbde30f6a78f9b06c114adb5c95e90b443c10be74", func := "watchtower/watchtowerlaw07.LexParts", spec := "lexParts", inPlace := ["internal/bytealg.IndexByteString", "internal/abi.NoEscape"], apart := false }
def LexPartsSaid : Prop := lexPartsRow.holds Try.pinned (OpenSpec.ofChange lexPartsSpec)

/-- ITS FALSE NEIGHBOUR: 'it returns false'. Refute it at one input. -/
def lexPartsWrong : ChangeSpec := { name := "lexParts", fn := fun _ => fun
  | [d1, d2] => { results := [.lit (.bool false)], args := [d1, d2] }
  | _ => none }
def LexPartsWrongFalsely : Prop := lexPartsRow.holds Try.pinned (OpenSpec.ofChange lexPartsWrong)

/-- 'watchtowerlaw07.LexWhite': WHATEVER THE INPUT: true; the input reads as it did. -/
def lexWhiteSpec : ChangeSpec := { name := "lexWhite", fn := fun _ => fun
  | [d1, d2] => { results := [.lit (.bool true)], args := [d1, d2] }
  | _ => none }
def lexWhiteRow : OpenClaim := { program := "ytnallbhckeoldaa", sum := "087d7cf060a77d2e3979b31dbde30f6a78f9b06c114adb5c95e90b443c10be74", func := "watchtower/watchtowerlaw07.LexWhite", spec := "lexWhite", inPlace := ["internal/bytealg.IndexByteString", "internal/abi.NoEscape"], apart := false }
def LexWhiteSaid : Prop := lexWhiteRow.holds Try.pinned (OpenSpec.ofChange lexWhiteSpec)

/-- ITS FALSE NEIGHBOUR: 'it returns false'. Refute it at one input. -/
def lexWhiteWrong : ChangeSpec := { name := "lexWhite", fn := fun _ => fun
  | [d1, d2] => { results := [.lit (.bool false)], args := [d1, d2] }
  | _ => none }
def LexWhiteWrongFalsely : Prop := lexWhiteRow.holds Try.pinned (OpenSpec.ofChange lexWhiteWrong)

/- THE SECOND FORM. 'bulk': how many values and letters a reading holds, each counted each time it is reached (what is shared counts as often as it is met; a slice's spare places count too). A statement '..UptoSaid' is the law's where the arguments, and the package variables that the reading takes, are together of bulk at most 1048576: NARROWER than '..Said'. Prove '..Said' where nothing that the law and all that it calls make is longer than what came in: it says more and counts as full. Else prove '..UptoSaid'. A law counts once. -/
mutual
def uptoBulk {H : Type} : DataW H → Nat
  | .lit (.string bytes) => bytes.length + 1
  | .lit _ => 1
  | .nil => 1
  | .ptr d => uptoBulk d + 1
  | .slice elems spare => uptoBulkAll elems + uptoBulkAll spare + 1
  | .agg parts => uptoBulkAll parts + 1
  | .iface _ d => uptoBulk d + 1
  | .map entries => uptoBulkEntries entries + 1
  | .held _ => 1
def uptoBulkAll {H : Type} : List (DataW H) → Nat
  | [] => 0
  | d :: r => uptoBulk d + uptoBulkAll r
def uptoBulkEntries {H : Type} : List (Lit × DataW H) → Nat
  | [] => 0
  | x :: r => uptoBulkEntry x + uptoBulkEntries r
def uptoBulkEntry {H : Type} : Lit × DataW H → Nat
  | (.string bytes, d) => bytes.length + uptoBulk d + 1
  | (_, d) => uptoBulk d + 1
 end
def uptoSmall : (H : Type) → List (DataW H) → Bool := fun _ ds => decide (uptoBulkAll ds ≤ 1048576)
def OpenSpec.upto (s : _root_.Go.ChangeSpec) : _root_.Go.OpenSpec := { _root_.Go.OpenSpec.ofChange s with cond := some uptoSmall }

/-- 'watchtowerlaw07.LexJoined', WHERE WHAT IT READS IS OF BULK AT MOST 1048576: true; the input reads as it did. -/
def lexJoinedUptoRow : OpenClaim := { program := "ytnallbhckeoldaa", sum := "087d7cf060a77d2e3979b31dbde30f6a78f9b06c114adb5c95e90b443c10be74", func := "watchtower/watchtowerlaw07.LexJoined", spec := "lexJoined", inPlace := ["internal/bytealg.IndexByteString", "internal/abi.NoEscape"], apart := false, narrowed := true }
def LexJoinedUptoSaid : Prop := lexJoinedUptoRow.holds Try.pinned (OpenSpec.upto lexJoinedSpec)

/-- 'watchtowerlaw07.LexPlaces', WHERE WHAT IT READS IS OF BULK AT MOST 1048576: true; the input reads as it did. -/
def lexPlacesUptoRow : OpenClaim := { program := "ytnallbhckeoldaa", sum := "087d7cf060a77d2e3979b31dbde30f6a78f9b06c114adb5c95e90b443c10be74", func := "watchtower/watchtowerlaw07.LexPlaces", spec := "lexPlaces", inPlace := ["internal/bytealg.IndexByteString", "internal/abi.NoEscape"], apart := false, narrowed := true }
def LexPlacesUptoSaid : Prop := lexPlacesUptoRow.holds Try.pinned (OpenSpec.upto lexPlacesSpec)

/-- 'watchtowerlaw07.LexQuote', WHERE WHAT IT READS IS OF BULK AT MOST 1048576: true; the input reads as it did. -/
def lexQuoteUptoRow : OpenClaim := { program := "ytnallbhckeoldaa", sum := "087d7cf060a77d2e3979b31dbde30f6a78f9b06c114adb5c95e90b443c10be74", func := "watchtower/watchtowerlaw07.LexQuote", spec := "lexQuote", inPlace := ["internal/bytealg.IndexByteString", "internal/abi.NoEscape"], apart := false, narrowed := true }
def LexQuoteUptoSaid : Prop := lexQuoteUptoRow.holds Try.pinned (OpenSpec.upto lexQuoteSpec)

/-- 'watchtowerlaw07.LexParts', WHERE WHAT IT READS IS OF BULK AT MOST 1048576: true; the input reads as it did. -/
def lexPartsUptoRow : OpenClaim := { program := "ytnallbhckeoldaa", sum := "087d7cf060a77d2e3979b31dbde30f6a78f9b06c114adb5c95e90b443c10be74", func := "watchtower/watchtowerlaw07.LexParts", spec := "lexParts", inPlace := ["internal/bytealg.IndexByteString", "internal/abi.NoEscape"], apart := false, narrowed := true }
def LexPartsUptoSaid : Prop := lexPartsUptoRow.holds Try.pinned (OpenSpec.upto lexPartsSpec)

/-- 'watchtowerlaw07.LexWhite', WHERE WHAT IT READS IS OF BULK AT MOST 1048576: true; the input reads as it did. -/
def lexWhiteUptoRow : OpenClaim := { program := "ytnallbhckeoldaa", sum := "087d7cf060a77d2e3979b31dbde30f6a78f9b06c114adb5c95e90b443c10be74", func := "watchtower/watchtowerlaw07.LexWhite", spec := "lexWhite", inPlace := ["internal/bytealg.IndexByteString", "internal/abi.NoEscape"], apart := false, narrowed := true }
def LexWhiteUptoSaid : Prop := lexWhiteUptoRow.holds Try.pinned (OpenSpec.upto lexWhiteSpec)

end Rows
end Go.Proofs.Ytnallbhckeoldaa
