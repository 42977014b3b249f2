/-
  DERIVED. GIVEN WITH THE SEED: THE CARDS: each row of YtdgakmpopgpijaaGreatDoorRows.lean that lists a variable, with what it lists TIED to the program's text (the seventh form; the later family's looks); each row that meets fmt, with fmt's text TOLD by the authors' own Lean function (tested against real Go, not proved from fmt's source: count such statements apart). THE CARD IS WHAT COUNTS. Prove the row's statement (the work); the ties are given (YtdgakmpopgpijaaGreatDoorTie.lean); close each card by the builder's one call (the guide's Derived/Test/ToyasCard.lean, 'card_holds'). Laid BY PROGRAM, IN A SANDBOX (cutbox-door.mjs). By AI agents, Wed Nov 11 2026. No macro, syntax, notation, axiom, sorry.
-/
import Derived.Test.YtdgakmpopgpijaaGreatDoorRows
import GoSem.ClaimSeven
namespace Go.Proofs.YtdgakmpopgpijaaGreatDoor
namespace Rows

/-- THE TIED CARD OF 'captionerlaw52.AlignUpdates'. -/
def alignUpdatesCard : Claim7 := { stood := { row := alignUpdatesRow, standIns := [], harness := (true, "0dcf7d2aaa23041fec6389e6c1076494941030b0ed8a8eb3dcda25ee0677e30f"), looks := false }, kinds := [], alts := [], laidByText := true, laidKinds := [.data, .pinned], laidTests := true, laidLooks := .later }
def AlignUpdatesCardSaid : Prop := Claim7.holds Tryz.pinned (.plain (OpenSpec.ofChange alignUpdatesSpec)) alignUpdatesCard

/-- THE TIED CARD OF 'captionerlaw52.AlignStays'. -/
def alignStaysCard : Claim7 := { stood := { row := alignStaysRow, standIns := [], harness := (true, "0dcf7d2aaa23041fec6389e6c1076494941030b0ed8a8eb3dcda25ee0677e30f"), looks := false }, kinds := [], alts := [], laidByText := true, laidKinds := [.data, .pinned], laidTests := true, laidLooks := .later }
def AlignStaysCardSaid : Prop := Claim7.holds Tryz.pinned (.plain (OpenSpec.ofChange alignStaysSpec)) alignStaysCard

/-- THE TIED CARD OF 'captionerlaw52.AlignChecks'. -/
def alignChecksCard : Claim7 := { stood := { row := alignChecksRow, standIns := [], harness := (true, "0dcf7d2aaa23041fec6389e6c1076494941030b0ed8a8eb3dcda25ee0677e30f"), looks := false }, kinds := [], alts := [], laidByText := true, laidKinds := [.data, .pinned], laidTests := true, laidLooks := .later }
def AlignChecksCardSaid : Prop := Claim7.holds Tryz.pinned (.plain (OpenSpec.ofChange alignChecksSpec)) alignChecksCard

/-- THE TIED CARD OF 'captionerlaw52.AlignSets'. -/
def alignSetsCard : Claim7 := { stood := { row := alignSetsRow, standIns := [], harness := (true, "0dcf7d2aaa23041fec6389e6c1076494941030b0ed8a8eb3dcda25ee0677e30f"), looks := false }, kinds := [], alts := [], laidByText := true, laidKinds := [.data, .pinned], laidTests := true, laidLooks := .later }
def AlignSetsCardSaid : Prop := Claim7.holds Tryz.pinned (.plain (OpenSpec.ofChange alignSetsSpec)) alignSetsCard

/-- THE SECOND FORM's CARD OF 'captionerlaw52.AlignUpdates'. -/
def alignUpdatesUptoCard : Claim7 := { stood := { row := alignUpdatesUptoRow, standIns := [], harness := (true, "0dcf7d2aaa23041fec6389e6c1076494941030b0ed8a8eb3dcda25ee0677e30f"), looks := false }, kinds := [], alts := [], laidByText := true, laidKinds := [.data, .pinned], laidTests := true, laidLooks := .later }
def AlignUpdatesUptoCardSaid : Prop := Claim7.holds Tryz.pinned (.plain (OpenSpec.upto alignUpdatesSpec)) alignUpdatesUptoCard

/-- THE SECOND FORM's CARD OF 'captionerlaw52.AlignStays'. -/
def alignStaysUptoCard : Claim7 := { stood := { row := alignStaysUptoRow, standIns := [], harness := (true, "0dcf7d2aaa23041fec6389e6c1076494941030b0ed8a8eb3dcda25ee0677e30f"), looks := false }, kinds := [], alts := [], laidByText := true, laidKinds := [.data, .pinned], laidTests := true, laidLooks := .later }
def AlignStaysUptoCardSaid : Prop := Claim7.holds Tryz.pinned (.plain (OpenSpec.upto alignStaysSpec)) alignStaysUptoCard

/-- THE SECOND FORM's CARD OF 'captionerlaw52.AlignChecks'. -/
def alignChecksUptoCard : Claim7 := { stood := { row := alignChecksUptoRow, standIns := [], harness := (true, "0dcf7d2aaa23041fec6389e6c1076494941030b0ed8a8eb3dcda25ee0677e30f"), looks := false }, kinds := [], alts := [], laidByText := true, laidKinds := [.data, .pinned], laidTests := true, laidLooks := .later }
def AlignChecksUptoCardSaid : Prop := Claim7.holds Tryz.pinned (.plain (OpenSpec.upto alignChecksSpec)) alignChecksUptoCard

/-- THE SECOND FORM's CARD OF 'captionerlaw52.AlignSets'. -/
def alignSetsUptoCard : Claim7 := { stood := { row := alignSetsUptoRow, standIns := [], harness := (true, "0dcf7d2aaa23041fec6389e6c1076494941030b0ed8a8eb3dcda25ee0677e30f"), looks := false }, kinds := [], alts := [], laidByText := true, laidKinds := [.data, .pinned], laidTests := true, laidLooks := .later }
def AlignSetsUptoCardSaid : Prop := Claim7.holds Tryz.pinned (.plain (OpenSpec.upto alignSetsSpec)) alignSetsUptoCard
end Rows
end Go.Proofs.YtdgakmpopgpijaaGreatDoor
