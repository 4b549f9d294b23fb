/-
  DERIVED. GIVEN WITH THE SEED: THE CARDS: each row of YtnallbhckeoldaaDoorRows.lean that lists a variable, with what it lists TIED to the program's text (the seventh form; the later family's looks); each row that meets fmt, with fmt's text TOLD by the authors' own Lean function (tested against real Go, not proved from fmt's source: count such statements apart). THE CARD IS WHAT COUNTS. Prove the row's statement (the work); the ties are given (YtnallbhckeoldaaDoorTie.lean); close each card by the builder's one call (the guide's Derived/Test/ToyasCard.lean, 'card_holds'). Laid BY PROGRAM, IN A SANDBOX (cutbox-door.mjs). By AI agents, Wed Nov 11 2026. No macro, syntax, notation, axiom, sorry.
-/
import Derived.Test.YtnallbhckeoldaaDoorRows
import GoSem.ClaimSeven
namespace Go.Proofs.YtnallbhckeoldaaDoor
namespace Rows

/-- THE TIED CARD OF 'watchtowerlaw01.NumIs'. -/
def numIsCard : Claim7 := { stood := { row := numIsRow, standIns := [], harness := (true, "112b5151a8bb152a0741c858def9206ad8a7ee5a8f4555e4cb72faae17dea68b"), looks := false }, kinds := [], alts := [], laidByText := true, laidKinds := [.data, .data, .data, .data, .pinned], laidTests := true, laidLooks := .later }
def NumIsCardSaid : Prop := Claim7.holds Tryd.pinned (.plain (OpenSpec.ofChange numIsSpec)) numIsCard

/-- THE TIED CARD OF 'watchtowerlaw01.NumBack'. -/
def numBackCard : Claim7 := { stood := { row := numBackRow, standIns := [], harness := (true, "112b5151a8bb152a0741c858def9206ad8a7ee5a8f4555e4cb72faae17dea68b"), looks := false }, kinds := [], alts := [], laidByText := true, laidKinds := [.data, .data, .data, .data, .pinned], laidTests := true, laidLooks := .later }
def NumBackCardSaid : Prop := Claim7.holds Tryd.pinned (.plain (OpenSpec.ofChange numBackSpec)) numBackCard

/-- THE TIED CARD OF 'watchtowerlaw01.NumOnce'. -/
def numOnceCard : Claim7 := { stood := { row := numOnceRow, standIns := [], harness := (true, "112b5151a8bb152a0741c858def9206ad8a7ee5a8f4555e4cb72faae17dea68b"), looks := false }, kinds := [], alts := [], laidByText := true, laidKinds := [.data, .data, .data, .data, .pinned], laidTests := true, laidLooks := .later }
def NumOnceCardSaid : Prop := Claim7.holds Tryd.pinned (.plain (OpenSpec.ofChange numOnceSpec)) numOnceCard

/-- THE TIED CARD OF 'watchtowerlaw01.NumNeg'. -/
def numNegCard : Claim7 := { stood := { row := numNegRow, standIns := [], harness := (true, "112b5151a8bb152a0741c858def9206ad8a7ee5a8f4555e4cb72faae17dea68b"), looks := false }, kinds := [], alts := [], laidByText := true, laidKinds := [.data, .data, .data, .data, .pinned], laidTests := true, laidLooks := .later }
def NumNegCardSaid : Prop := Claim7.holds Tryd.pinned (.plain (OpenSpec.ofChange numNegSpec)) numNegCard

/-- THE TIED CARD OF 'watchtowerlaw01.NumWhole'. -/
def numWholeCard : Claim7 := { stood := { row := numWholeRow, standIns := [], harness := (true, "112b5151a8bb152a0741c858def9206ad8a7ee5a8f4555e4cb72faae17dea68b"), looks := false }, kinds := [], alts := [], laidByText := true, laidKinds := [.data, .data, .data, .data, .pinned], laidTests := true, laidLooks := .later }
def NumWholeCardSaid : Prop := Claim7.holds Tryd.pinned (.plain (OpenSpec.ofChange numWholeSpec)) numWholeCard

/-- THE TIED CARD OF 'watchtowerlaw01.NumJoin'. -/
def numJoinCard : Claim7 := { stood := { row := numJoinRow, standIns := [], harness := (true, "112b5151a8bb152a0741c858def9206ad8a7ee5a8f4555e4cb72faae17dea68b"), looks := false }, kinds := [], alts := [], laidByText := true, laidKinds := [.data, .data, .data, .data, .pinned], laidTests := true, laidLooks := .later }
def NumJoinCardSaid : Prop := Claim7.holds Tryd.pinned (.plain (OpenSpec.ofChange numJoinSpec)) numJoinCard

/-- THE SECOND FORM's CARD OF 'watchtowerlaw01.NumIs'. -/
def numIsUptoCard : Claim7 := { stood := { row := numIsUptoRow, standIns := [], harness := (true, "112b5151a8bb152a0741c858def9206ad8a7ee5a8f4555e4cb72faae17dea68b"), looks := false }, kinds := [], alts := [], laidByText := true, laidKinds := [.data, .data, .data, .data, .pinned], laidTests := true, laidLooks := .later }
def NumIsUptoCardSaid : Prop := Claim7.holds Tryd.pinned (.plain (OpenSpec.upto numIsSpec)) numIsUptoCard

/-- THE SECOND FORM's CARD OF 'watchtowerlaw01.NumBack'. -/
def numBackUptoCard : Claim7 := { stood := { row := numBackUptoRow, standIns := [], harness := (true, "112b5151a8bb152a0741c858def9206ad8a7ee5a8f4555e4cb72faae17dea68b"), looks := false }, kinds := [], alts := [], laidByText := true, laidKinds := [.data, .data, .data, .data, .pinned], laidTests := true, laidLooks := .later }
def NumBackUptoCardSaid : Prop := Claim7.holds Tryd.pinned (.plain (OpenSpec.upto numBackSpec)) numBackUptoCard

/-- THE SECOND FORM's CARD OF 'watchtowerlaw01.NumOnce'. -/
def numOnceUptoCard : Claim7 := { stood := { row := numOnceUptoRow, standIns := [], harness := (true, "112b5151a8bb152a0741c858def9206ad8a7ee5a8f4555e4cb72faae17dea68b"), looks := false }, kinds := [], alts := [], laidByText := true, laidKinds := [.data, .data, .data, .data, .pinned], laidTests := true, laidLooks := .later }
def NumOnceUptoCardSaid : Prop := Claim7.holds Tryd.pinned (.plain (OpenSpec.upto numOnceSpec)) numOnceUptoCard

/-- THE SECOND FORM's CARD OF 'watchtowerlaw01.NumNeg'. -/
def numNegUptoCard : Claim7 := { stood := { row := numNegUptoRow, standIns := [], harness := (true, "112b5151a8bb152a0741c858def9206ad8a7ee5a8f4555e4cb72faae17dea68b"), looks := false }, kinds := [], alts := [], laidByText := true, laidKinds := [.data, .data, .data, .data, .pinned], laidTests := true, laidLooks := .later }
def NumNegUptoCardSaid : Prop := Claim7.holds Tryd.pinned (.plain (OpenSpec.upto numNegSpec)) numNegUptoCard

/-- THE SECOND FORM's CARD OF 'watchtowerlaw01.NumWhole'. -/
def numWholeUptoCard : Claim7 := { stood := { row := numWholeUptoRow, standIns := [], harness := (true, "112b5151a8bb152a0741c858def9206ad8a7ee5a8f4555e4cb72faae17dea68b"), looks := false }, kinds := [], alts := [], laidByText := true, laidKinds := [.data, .data, .data, .data, .pinned], laidTests := true, laidLooks := .later }
def NumWholeUptoCardSaid : Prop := Claim7.holds Tryd.pinned (.plain (OpenSpec.upto numWholeSpec)) numWholeUptoCard

/-- THE SECOND FORM's CARD OF 'watchtowerlaw01.NumJoin'. -/
def numJoinUptoCard : Claim7 := { stood := { row := numJoinUptoRow, standIns := [], harness := (true, "112b5151a8bb152a0741c858def9206ad8a7ee5a8f4555e4cb72faae17dea68b"), looks := false }, kinds := [], alts := [], laidByText := true, laidKinds := [.data, .data, .data, .data, .pinned], laidTests := true, laidLooks := .later }
def NumJoinUptoCardSaid : Prop := Claim7.holds Tryd.pinned (.plain (OpenSpec.upto numJoinSpec)) numJoinUptoCard
end Rows
end Go.Proofs.YtnallbhckeoldaaDoor
