/-
  DERIVED. GIVEN WITH THE SEED: THE CARDS: each row of YtjebaagkomejaaaGreatDoorRows.lean that lists a variable, with what it lists TIED to the program's text (the seventh form; the later family's looks); each row that meets fmt, with fmt's text TOLD by the authors' own Lean function (tested against real Go, not proved from fmt's source: count such statements apart). THE CARD IS WHAT COUNTS. Prove the row's statement (the work); the ties are given (YtjebaagkomejaaaGreatDoorTie.lean); close each card by the builder's one call (the guide's Derived/Test/ToyasCard.lean, 'card_holds'). Laid BY PROGRAM, IN A SANDBOX (cutbox-door.mjs). By AI agents, Wed Nov 11 2026. No macro, syntax, notation, axiom, sorry.
-/
import Derived.Test.YtjebaagkomejaaaGreatDoorRows
import GoSem.ClaimSeven
namespace Go.Proofs.YtjebaagkomejaaaGreatDoor
namespace Rows

/-- THE TIED CARD OF 'captionerlaw16.HistorySteps'. -/
def historyStepsCard : Claim7 := { stood := { row := historyStepsRow, standIns := [], harness := (true, "1312924dd16481c805476f67ac305bab4eecb95085fafc1e2ba58fd30aa5dff5"), looks := false }, kinds := [], alts := [], laidByText := true, laidKinds := [.data, .pinned], laidTests := true, laidLooks := .later }
def HistoryStepsCardSaid : Prop := Claim7.holds Tryz.pinned (.plain (OpenSpec.ofChange historyStepsSpec)) historyStepsCard

/-- THE TIED CARD OF 'captionerlaw16.HistoryReturns'. -/
def historyReturnsCard : Claim7 := { stood := { row := historyReturnsRow, standIns := [], harness := (true, "1312924dd16481c805476f67ac305bab4eecb95085fafc1e2ba58fd30aa5dff5"), looks := false }, kinds := [], alts := [], laidByText := true, laidKinds := [.data, .pinned], laidTests := true, laidLooks := .later }
def HistoryReturnsCardSaid : Prop := Claim7.holds Tryz.pinned (.plain (OpenSpec.ofChange historyReturnsSpec)) historyReturnsCard

/-- THE TIED CARD OF 'captionerlaw16.HistoryPlays'. -/
def historyPlaysCard : Claim7 := { stood := { row := historyPlaysRow, standIns := [], harness := (true, "1312924dd16481c805476f67ac305bab4eecb95085fafc1e2ba58fd30aa5dff5"), looks := false }, kinds := [], alts := [], laidByText := true, laidKinds := [.data, .pinned], laidTests := true, laidLooks := .later }
def HistoryPlaysCardSaid : Prop := Claim7.holds Tryz.pinned (.plain (OpenSpec.ofChange historyPlaysSpec)) historyPlaysCard

/-- THE TIED CARD OF 'captionerlaw16.HistoryKeeps'. -/
def historyKeepsCard : Claim7 := { stood := { row := historyKeepsRow, standIns := [], harness := (true, "1312924dd16481c805476f67ac305bab4eecb95085fafc1e2ba58fd30aa5dff5"), looks := false }, kinds := [], alts := [], laidByText := true, laidKinds := [.data, .pinned], laidTests := true, laidLooks := .later }
def HistoryKeepsCardSaid : Prop := Claim7.holds Tryz.pinned (.plain (OpenSpec.ofChange historyKeepsSpec)) historyKeepsCard

/-- THE SECOND FORM's CARD OF 'captionerlaw16.HistorySteps'. -/
def historyStepsUptoCard : Claim7 := { stood := { row := historyStepsUptoRow, standIns := [], harness := (true, "1312924dd16481c805476f67ac305bab4eecb95085fafc1e2ba58fd30aa5dff5"), looks := false }, kinds := [], alts := [], laidByText := true, laidKinds := [.data, .pinned], laidTests := true, laidLooks := .later }
def HistoryStepsUptoCardSaid : Prop := Claim7.holds Tryz.pinned (.plain (OpenSpec.upto historyStepsSpec)) historyStepsUptoCard

/-- THE SECOND FORM's CARD OF 'captionerlaw16.HistoryReturns'. -/
def historyReturnsUptoCard : Claim7 := { stood := { row := historyReturnsUptoRow, standIns := [], harness := (true, "1312924dd16481c805476f67ac305bab4eecb95085fafc1e2ba58fd30aa5dff5"), looks := false }, kinds := [], alts := [], laidByText := true, laidKinds := [.data, .pinned], laidTests := true, laidLooks := .later }
def HistoryReturnsUptoCardSaid : Prop := Claim7.holds Tryz.pinned (.plain (OpenSpec.upto historyReturnsSpec)) historyReturnsUptoCard

/-- THE SECOND FORM's CARD OF 'captionerlaw16.HistoryPlays'. -/
def historyPlaysUptoCard : Claim7 := { stood := { row := historyPlaysUptoRow, standIns := [], harness := (true, "1312924dd16481c805476f67ac305bab4eecb95085fafc1e2ba58fd30aa5dff5"), looks := false }, kinds := [], alts := [], laidByText := true, laidKinds := [.data, .pinned], laidTests := true, laidLooks := .later }
def HistoryPlaysUptoCardSaid : Prop := Claim7.holds Tryz.pinned (.plain (OpenSpec.upto historyPlaysSpec)) historyPlaysUptoCard

/-- THE SECOND FORM's CARD OF 'captionerlaw16.HistoryKeeps'. -/
def historyKeepsUptoCard : Claim7 := { stood := { row := historyKeepsUptoRow, standIns := [], harness := (true, "1312924dd16481c805476f67ac305bab4eecb95085fafc1e2ba58fd30aa5dff5"), looks := false }, kinds := [], alts := [], laidByText := true, laidKinds := [.data, .pinned], laidTests := true, laidLooks := .later }
def HistoryKeepsUptoCardSaid : Prop := Claim7.holds Tryz.pinned (.plain (OpenSpec.upto historyKeepsSpec)) historyKeepsUptoCard
end Rows
end Go.Proofs.YtjebaagkomejaaaGreatDoor
