/-
  DERIVED. GIVEN WITH THE SEED: THE CARDS: each row of YtbdochcajpempaaDoorRows.lean that lists a variable, with what it lists TIED to the program's text (the seventh form; the later family's looks); each row that meets fmt, with fmt's text TOLD by the authors' own Lean function (tested against real Go, not proved from fmt's source: count such statements apart). THE CARD IS WHAT COUNTS. Prove the row's statement (the work); the ties are given (YtbdochcajpempaaDoorTie.lean); close each card by the builder's one call (the guide's Derived/Test/ToyasCard.lean, 'card_holds'). Laid BY PROGRAM, IN A SANDBOX (cutbox-door.mjs). By AI agents, Wed Nov 11 2026. No macro, syntax, notation, axiom, sorry.
-/
import Derived.Test.YtbdochcajpempaaDoorRows
import GoSem.ClaimSeven
namespace Go.Proofs.YtbdochcajpempaaDoor
namespace Rows

/-- THE TIED CARD OF 'watchtowerlaw09.CondIs'. -/
def condIsCard : Claim7 := { stood := { row := condIsRow, standIns := [], harness := (true, "56c9c7903e90f2a9617de1fdd5206c0a48f911933f5edebc56f96c9e50fe88b5"), looks := false }, kinds := [], alts := [], laidByText := true, laidKinds := [.data, .data, .data, .data, .data, .pinned], laidTests := true, laidLooks := .later }
def CondIsCardSaid : Prop := Claim7.holds Tryd.pinned (.plain (OpenSpec.ofChange condIsSpec)) condIsCard

/-- THE TIED CARD OF 'watchtowerlaw09.CondNot'. -/
def condNotCard : Claim7 := { stood := { row := condNotRow, standIns := [], harness := (true, "56c9c7903e90f2a9617de1fdd5206c0a48f911933f5edebc56f96c9e50fe88b5"), looks := false }, kinds := [], alts := [], laidByText := true, laidKinds := [.data, .data, .data, .data, .data, .pinned], laidTests := true, laidLooks := .later }
def CondNotCardSaid : Prop := Claim7.holds Tryd.pinned (.plain (OpenSpec.ofChange condNotSpec)) condNotCard

/-- THE TIED CARD OF 'watchtowerlaw09.CondBack'. -/
def condBackCard : Claim7 := { stood := { row := condBackRow, standIns := [], harness := (true, "56c9c7903e90f2a9617de1fdd5206c0a48f911933f5edebc56f96c9e50fe88b5"), looks := false }, kinds := [], alts := [], laidByText := true, laidKinds := [.data, .data, .data, .data, .data, .pinned], laidTests := true, laidLooks := .later }
def CondBackCardSaid : Prop := Claim7.holds Tryd.pinned (.plain (OpenSpec.ofChange condBackSpec)) condBackCard

/-- THE TIED CARD OF 'watchtowerlaw09.CondParsed'. -/
def condParsedCard : Claim7 := { stood := { row := condParsedRow, standIns := [], harness := (true, "56c9c7903e90f2a9617de1fdd5206c0a48f911933f5edebc56f96c9e50fe88b5"), looks := false }, kinds := [], alts := [], laidByText := true, laidKinds := [.data, .data, .data, .data, .data, .pinned], laidTests := true, laidLooks := .later }
def CondParsedCardSaid : Prop := Claim7.holds Tryd.pinned (.plain (OpenSpec.ofChange condParsedSpec)) condParsedCard

/-- THE TIED CARD OF 'watchtowerlaw09.CondOrder'. -/
def condOrderCard : Claim7 := { stood := { row := condOrderRow, standIns := [], harness := (true, "56c9c7903e90f2a9617de1fdd5206c0a48f911933f5edebc56f96c9e50fe88b5"), looks := false }, kinds := [], alts := [], laidByText := true, laidKinds := [.data, .data, .data, .data, .data, .pinned], laidTests := true, laidLooks := .later }
def CondOrderCardSaid : Prop := Claim7.holds Tryd.pinned (.plain (OpenSpec.ofChange condOrderSpec)) condOrderCard

/-- THE SECOND FORM's CARD OF 'watchtowerlaw09.CondIs'. -/
def condIsUptoCard : Claim7 := { stood := { row := condIsUptoRow, standIns := [], harness := (true, "56c9c7903e90f2a9617de1fdd5206c0a48f911933f5edebc56f96c9e50fe88b5"), looks := false }, kinds := [], alts := [], laidByText := true, laidKinds := [.data, .data, .data, .data, .data, .pinned], laidTests := true, laidLooks := .later }
def CondIsUptoCardSaid : Prop := Claim7.holds Tryd.pinned (.plain (OpenSpec.upto condIsSpec)) condIsUptoCard

/-- THE SECOND FORM's CARD OF 'watchtowerlaw09.CondNot'. -/
def condNotUptoCard : Claim7 := { stood := { row := condNotUptoRow, standIns := [], harness := (true, "56c9c7903e90f2a9617de1fdd5206c0a48f911933f5edebc56f96c9e50fe88b5"), looks := false }, kinds := [], alts := [], laidByText := true, laidKinds := [.data, .data, .data, .data, .data, .pinned], laidTests := true, laidLooks := .later }
def CondNotUptoCardSaid : Prop := Claim7.holds Tryd.pinned (.plain (OpenSpec.upto condNotSpec)) condNotUptoCard

/-- THE SECOND FORM's CARD OF 'watchtowerlaw09.CondBack'. -/
def condBackUptoCard : Claim7 := { stood := { row := condBackUptoRow, standIns := [], harness := (true, "56c9c7903e90f2a9617de1fdd5206c0a48f911933f5edebc56f96c9e50fe88b5"), looks := false }, kinds := [], alts := [], laidByText := true, laidKinds := [.data, .data, .data, .data, .data, .pinned], laidTests := true, laidLooks := .later }
def CondBackUptoCardSaid : Prop := Claim7.holds Tryd.pinned (.plain (OpenSpec.upto condBackSpec)) condBackUptoCard

/-- THE SECOND FORM's CARD OF 'watchtowerlaw09.CondParsed'. -/
def condParsedUptoCard : Claim7 := { stood := { row := condParsedUptoRow, standIns := [], harness := (true, "56c9c7903e90f2a9617de1fdd5206c0a48f911933f5edebc56f96c9e50fe88b5"), looks := false }, kinds := [], alts := [], laidByText := true, laidKinds := [.data, .data, .data, .data, .data, .pinned], laidTests := true, laidLooks := .later }
def CondParsedUptoCardSaid : Prop := Claim7.holds Tryd.pinned (.plain (OpenSpec.upto condParsedSpec)) condParsedUptoCard

/-- THE SECOND FORM's CARD OF 'watchtowerlaw09.CondOrder'. -/
def condOrderUptoCard : Claim7 := { stood := { row := condOrderUptoRow, standIns := [], harness := (true, "56c9c7903e90f2a9617de1fdd5206c0a48f911933f5edebc56f96c9e50fe88b5"), looks := false }, kinds := [], alts := [], laidByText := true, laidKinds := [.data, .data, .data, .data, .data, .pinned], laidTests := true, laidLooks := .later }
def CondOrderUptoCardSaid : Prop := Claim7.holds Tryd.pinned (.plain (OpenSpec.upto condOrderSpec)) condOrderUptoCard
end Rows
end Go.Proofs.YtbdochcajpempaaDoor
