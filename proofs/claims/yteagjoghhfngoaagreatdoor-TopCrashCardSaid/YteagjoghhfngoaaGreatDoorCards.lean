/-
  DERIVED. GIVEN WITH THE SEED: THE CARDS: each row of YteagjoghhfngoaaGreatDoorRows.lean that lists a variable, with what it lists TIED to the program's text (the seventh form; the later family's looks); each row that meets fmt, with fmt's text TOLD by the authors' own Lean function (tested against real Go, not proved from fmt's source: count such statements apart). THE CARD IS WHAT COUNTS. Prove the row's statement (the work); the ties are given (YteagjoghhfngoaaGreatDoorTie.lean); close each card by the builder's one call (the guide's Derived/Test/ToyasCard.lean, 'card_holds'). Laid BY PROGRAM, IN A SANDBOX (cutbox-door.mjs). By AI agents, Wed Nov 11 2026. No macro, syntax, notation, axiom, sorry.
-/
import Derived.Test.YteagjoghhfngoaaGreatDoorRows
import GoSem.ClaimSeven
namespace Go.Proofs.YteagjoghhfngoaaGreatDoor
namespace Rows

/-- THE TIED CARD OF 'watchtowertop.TopCrash'. -/
def topCrashCard : Claim7 := { stood := { row := topCrashRow, standIns := [], harness := (true, "88225edda99f1ff35034eb8379b4ed4452bf49e21db2c3d0cf6f1a5170050cd0"), looks := true }, kinds := [], alts := [], laidByText := true, laidKinds := [.data, .data, .data, .data, .data, .data, .data, .pinned], laidTests := true, laidLooks := .later }
def TopCrashCardSaid : Prop := Claim7.holds Tryz.pinned (.plain (OpenSpec.ofChange topCrashSpec)) topCrashCard

/-- THE TIED CARD OF 'watchtowertop.TopSends'. -/
def topSendsCard : Claim7 := { stood := { row := topSendsRow, standIns := [], harness := (true, "88225edda99f1ff35034eb8379b4ed4452bf49e21db2c3d0cf6f1a5170050cd0"), looks := true }, kinds := [], alts := [], laidByText := true, laidKinds := [.data, .data, .data, .data, .data, .data, .data, .pinned], laidTests := true, laidLooks := .later }
def TopSendsCardSaid : Prop := Claim7.holds Tryz.pinned (.plain (OpenSpec.ofChange topSendsSpec)) topSendsCard

/-- THE TIED CARD OF 'watchtowertop.TopSnaps'. -/
def topSnapsCard : Claim7 := { stood := { row := topSnapsRow, standIns := [], harness := (true, "88225edda99f1ff35034eb8379b4ed4452bf49e21db2c3d0cf6f1a5170050cd0"), looks := true }, kinds := [], alts := [], laidByText := true, laidKinds := [.data, .data, .data, .data, .data, .data, .data, .pinned], laidTests := true, laidLooks := .later }
def TopSnapsCardSaid : Prop := Claim7.holds Tryz.pinned (.plain (OpenSpec.ofChange topSnapsSpec)) topSnapsCard

/-- THE SECOND FORM's CARD OF 'watchtowertop.TopCrash'. -/
def topCrashUptoCard : Claim7 := { stood := { row := topCrashUptoRow, standIns := [], harness := (true, "88225edda99f1ff35034eb8379b4ed4452bf49e21db2c3d0cf6f1a5170050cd0"), looks := true }, kinds := [], alts := [], laidByText := true, laidKinds := [.data, .data, .data, .data, .data, .data, .data, .pinned], laidTests := true, laidLooks := .later }
def TopCrashUptoCardSaid : Prop := Claim7.holds Tryz.pinned (.plain (OpenSpec.upto topCrashSpec)) topCrashUptoCard

/-- THE SECOND FORM's CARD OF 'watchtowertop.TopSends'. -/
def topSendsUptoCard : Claim7 := { stood := { row := topSendsUptoRow, standIns := [], harness := (true, "88225edda99f1ff35034eb8379b4ed4452bf49e21db2c3d0cf6f1a5170050cd0"), looks := true }, kinds := [], alts := [], laidByText := true, laidKinds := [.data, .data, .data, .data, .data, .data, .data, .pinned], laidTests := true, laidLooks := .later }
def TopSendsUptoCardSaid : Prop := Claim7.holds Tryz.pinned (.plain (OpenSpec.upto topSendsSpec)) topSendsUptoCard

/-- THE SECOND FORM's CARD OF 'watchtowertop.TopSnaps'. -/
def topSnapsUptoCard : Claim7 := { stood := { row := topSnapsUptoRow, standIns := [], harness := (true, "88225edda99f1ff35034eb8379b4ed4452bf49e21db2c3d0cf6f1a5170050cd0"), looks := true }, kinds := [], alts := [], laidByText := true, laidKinds := [.data, .data, .data, .data, .data, .data, .data, .pinned], laidTests := true, laidLooks := .later }
def TopSnapsUptoCardSaid : Prop := Claim7.holds Tryz.pinned (.plain (OpenSpec.upto topSnapsSpec)) topSnapsUptoCard
end Rows
end Go.Proofs.YteagjoghhfngoaaGreatDoor
