/-
  DERIVED. GIVEN WITH THE SEED: THE CARDS: each row of YtanacoollaajkaaDoorRows.lean that lists a variable, with what it lists TIED to the program's text (the seventh form; the later family's looks); each row that meets fmt, with fmt's text TOLD by the authors' own Lean function (tested against real Go, not proved from fmt's source: count such statements apart). THE CARD IS WHAT COUNTS. Prove the row's statement (the work); the ties are given (YtanacoollaajkaaDoorTie.lean); close each card by the builder's one call (the guide's Derived/Test/ToyasCard.lean, 'card_holds'). Laid BY PROGRAM, IN A SANDBOX (cutbox-door.mjs). By AI agents, Wed Nov 11 2026. No macro, syntax, notation, axiom, sorry.
-/
import Derived.Test.YtanacoollaajkaaDoorRows
import GoSem.ClaimSeven
namespace Go.Proofs.YtanacoollaajkaaDoor
namespace Rows

/-- THE TIED CARD OF 'watchtowerlaw02.DurIs'. -/
def durIsCard : Claim7 := { stood := { row := durIsRow, standIns := [], harness := (true, "1dd0c4a8aae3ee0777dfec261d80cd08694d01222b8f7fbbf036678eaa55299e"), looks := false }, kinds := [], alts := [], laidByText := true, laidKinds := [.data, .data, .data, .data], laidTests := true, laidLooks := .later }
def DurIsCardSaid : Prop := Claim7.holds Tryd.pinned (.plain (OpenSpec.ofChange durIsSpec)) durIsCard

/-- THE TIED CARD OF 'watchtowerlaw02.DurBack'. -/
def durBackCard : Claim7 := { stood := { row := durBackRow, standIns := [], harness := (true, "1dd0c4a8aae3ee0777dfec261d80cd08694d01222b8f7fbbf036678eaa55299e"), looks := false }, kinds := [], alts := [], laidByText := true, laidKinds := [.data, .data, .data, .data], laidTests := true, laidLooks := .later }
def DurBackCardSaid : Prop := Claim7.holds Tryd.pinned (.plain (OpenSpec.ofChange durBackSpec)) durBackCard

/-- THE TIED CARD OF 'watchtowerlaw02.DurOnce'. -/
def durOnceCard : Claim7 := { stood := { row := durOnceRow, standIns := [], harness := (true, "1dd0c4a8aae3ee0777dfec261d80cd08694d01222b8f7fbbf036678eaa55299e"), looks := false }, kinds := [], alts := [], laidByText := true, laidKinds := [.data, .data, .data, .data], laidTests := true, laidLooks := .later }
def DurOnceCardSaid : Prop := Claim7.holds Tryd.pinned (.plain (OpenSpec.ofChange durOnceSpec)) durOnceCard

/-- THE TIED CARD OF 'watchtowerlaw02.DurParts'. -/
def durPartsCard : Claim7 := { stood := { row := durPartsRow, standIns := [], harness := (true, "1dd0c4a8aae3ee0777dfec261d80cd08694d01222b8f7fbbf036678eaa55299e"), looks := false }, kinds := [], alts := [], laidByText := true, laidKinds := [.data, .data, .data, .data], laidTests := true, laidLooks := .later }
def DurPartsCardSaid : Prop := Claim7.holds Tryd.pinned (.plain (OpenSpec.ofChange durPartsSpec)) durPartsCard

/-- THE TIED CARD OF 'watchtowerlaw02.DurUnits'. -/
def durUnitsCard : Claim7 := { stood := { row := durUnitsRow, standIns := [], harness := (true, "1dd0c4a8aae3ee0777dfec261d80cd08694d01222b8f7fbbf036678eaa55299e"), looks := false }, kinds := [], alts := [], laidByText := true, laidKinds := [.data, .data, .data, .data], laidTests := true, laidLooks := .later }
def DurUnitsCardSaid : Prop := Claim7.holds Tryd.pinned (.plain (OpenSpec.ofChange durUnitsSpec)) durUnitsCard

/-- THE TIED CARD OF 'watchtowerlaw02.DurOrder'. -/
def durOrderCard : Claim7 := { stood := { row := durOrderRow, standIns := [], harness := (true, "1dd0c4a8aae3ee0777dfec261d80cd08694d01222b8f7fbbf036678eaa55299e"), looks := false }, kinds := [], alts := [], laidByText := true, laidKinds := [.data, .data, .data, .data], laidTests := true, laidLooks := .later }
def DurOrderCardSaid : Prop := Claim7.holds Tryd.pinned (.plain (OpenSpec.ofChange durOrderSpec)) durOrderCard

/-- THE SECOND FORM's CARD OF 'watchtowerlaw02.DurIs'. -/
def durIsUptoCard : Claim7 := { stood := { row := durIsUptoRow, standIns := [], harness := (true, "1dd0c4a8aae3ee0777dfec261d80cd08694d01222b8f7fbbf036678eaa55299e"), looks := false }, kinds := [], alts := [], laidByText := true, laidKinds := [.data, .data, .data, .data], laidTests := true, laidLooks := .later }
def DurIsUptoCardSaid : Prop := Claim7.holds Tryd.pinned (.plain (OpenSpec.upto durIsSpec)) durIsUptoCard

/-- THE SECOND FORM's CARD OF 'watchtowerlaw02.DurBack'. -/
def durBackUptoCard : Claim7 := { stood := { row := durBackUptoRow, standIns := [], harness := (true, "1dd0c4a8aae3ee0777dfec261d80cd08694d01222b8f7fbbf036678eaa55299e"), looks := false }, kinds := [], alts := [], laidByText := true, laidKinds := [.data, .data, .data, .data], laidTests := true, laidLooks := .later }
def DurBackUptoCardSaid : Prop := Claim7.holds Tryd.pinned (.plain (OpenSpec.upto durBackSpec)) durBackUptoCard

/-- THE SECOND FORM's CARD OF 'watchtowerlaw02.DurOnce'. -/
def durOnceUptoCard : Claim7 := { stood := { row := durOnceUptoRow, standIns := [], harness := (true, "1dd0c4a8aae3ee0777dfec261d80cd08694d01222b8f7fbbf036678eaa55299e"), looks := false }, kinds := [], alts := [], laidByText := true, laidKinds := [.data, .data, .data, .data], laidTests := true, laidLooks := .later }
def DurOnceUptoCardSaid : Prop := Claim7.holds Tryd.pinned (.plain (OpenSpec.upto durOnceSpec)) durOnceUptoCard

/-- THE SECOND FORM's CARD OF 'watchtowerlaw02.DurParts'. -/
def durPartsUptoCard : Claim7 := { stood := { row := durPartsUptoRow, standIns := [], harness := (true, "1dd0c4a8aae3ee0777dfec261d80cd08694d01222b8f7fbbf036678eaa55299e"), looks := false }, kinds := [], alts := [], laidByText := true, laidKinds := [.data, .data, .data, .data], laidTests := true, laidLooks := .later }
def DurPartsUptoCardSaid : Prop := Claim7.holds Tryd.pinned (.plain (OpenSpec.upto durPartsSpec)) durPartsUptoCard

/-- THE SECOND FORM's CARD OF 'watchtowerlaw02.DurUnits'. -/
def durUnitsUptoCard : Claim7 := { stood := { row := durUnitsUptoRow, standIns := [], harness := (true, "1dd0c4a8aae3ee0777dfec261d80cd08694d01222b8f7fbbf036678eaa55299e"), looks := false }, kinds := [], alts := [], laidByText := true, laidKinds := [.data, .data, .data, .data], laidTests := true, laidLooks := .later }
def DurUnitsUptoCardSaid : Prop := Claim7.holds Tryd.pinned (.plain (OpenSpec.upto durUnitsSpec)) durUnitsUptoCard

/-- THE SECOND FORM's CARD OF 'watchtowerlaw02.DurOrder'. -/
def durOrderUptoCard : Claim7 := { stood := { row := durOrderUptoRow, standIns := [], harness := (true, "1dd0c4a8aae3ee0777dfec261d80cd08694d01222b8f7fbbf036678eaa55299e"), looks := false }, kinds := [], alts := [], laidByText := true, laidKinds := [.data, .data, .data, .data], laidTests := true, laidLooks := .later }
def DurOrderUptoCardSaid : Prop := Claim7.holds Tryd.pinned (.plain (OpenSpec.upto durOrderSpec)) durOrderUptoCard
end Rows
end Go.Proofs.YtanacoollaajkaaDoor
