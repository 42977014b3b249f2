/-
  DERIVED. GIVEN WITH THE SEED: THE CARDS: each row of YtnlnmbcaongehaaGreatDoorRows.lean that lists a variable, with what it lists TIED to the program's text (the seventh form; the later family's looks); each row that meets fmt, with fmt's text TOLD by the authors' own Lean function (tested against real Go, not proved from fmt's source: count such statements apart). THE CARD IS WHAT COUNTS. Prove the row's statement (the work); the ties are given (YtnlnmbcaongehaaGreatDoorTie.lean); close each card by the builder's one call (the guide's Derived/Test/ToyasCard.lean, 'card_holds'). Laid BY PROGRAM, IN A SANDBOX (cutbox-door.mjs). By AI agents, Wed Nov 11 2026. No macro, syntax, notation, axiom, sorry.
-/
import Derived.Test.YtnlnmbcaongehaaGreatDoorRows
import GoSem.ClaimSeven
namespace Go.Proofs.YtnlnmbcaongehaaGreatDoor
namespace Rows

/-- THE TIED CARD OF 'captionerlaw17.DiffLists'. -/
def diffListsCard : Claim7 := { stood := { row := diffListsRow, standIns := [], harness := (true, "92d32308d99abb401abc92568bdfc297ea975f5f54e078d80446b411a309d896"), looks := false }, kinds := [], alts := [], laidByText := true, laidKinds := [.data, .data, .data, .data, .pinned], laidTests := true, laidLooks := .later }
def DiffListsCardSaid : Prop := Claim7.holds Tryz.pinned (.plain (OpenSpec.ofChange diffListsSpec)) diffListsCard

/-- THE TIED CARD OF 'captionerlaw17.DiffApplies'. -/
def diffAppliesCard : Claim7 := { stood := { row := diffAppliesRow, standIns := [], harness := (true, "92d32308d99abb401abc92568bdfc297ea975f5f54e078d80446b411a309d896"), looks := false }, kinds := [], alts := [], laidByText := true, laidKinds := [.data, .data, .data, .data, .pinned], laidTests := true, laidLooks := .later }
def DiffAppliesCardSaid : Prop := Claim7.holds Tryz.pinned (.plain (OpenSpec.ofChange diffAppliesSpec)) diffAppliesCard

/-- THE TIED CARD OF 'captionerlaw17.DiffLeads'. -/
def diffLeadsCard : Claim7 := { stood := { row := diffLeadsRow, standIns := [], harness := (true, "92d32308d99abb401abc92568bdfc297ea975f5f54e078d80446b411a309d896"), looks := false }, kinds := [], alts := [], laidByText := true, laidKinds := [.data, .data, .data, .data, .pinned], laidTests := true, laidLooks := .later }
def DiffLeadsCardSaid : Prop := Claim7.holds Tryz.pinned (.plain (OpenSpec.ofChange diffLeadsSpec)) diffLeadsCard

/-- THE TIED CARD OF 'captionerlaw17.DiffTexts'. -/
def diffTextsCard : Claim7 := { stood := { row := diffTextsRow, standIns := [], harness := (true, "92d32308d99abb401abc92568bdfc297ea975f5f54e078d80446b411a309d896"), looks := false }, kinds := [], alts := [], laidByText := true, laidKinds := [.data, .data, .data, .data, .pinned], laidTests := true, laidLooks := .later }
def DiffTextsCardSaid : Prop := Claim7.holds Tryz.pinned (.plain (OpenSpec.ofChange diffTextsSpec)) diffTextsCard

/-- THE TIED CARD OF 'captionerlaw18.MergeUnchanged'. -/
def mergeUnchangedCard : Claim7 := { stood := { row := mergeUnchangedRow, standIns := [], harness := (true, "92d32308d99abb401abc92568bdfc297ea975f5f54e078d80446b411a309d896"), looks := false }, kinds := [], alts := [], laidByText := true, laidKinds := [.data, .pinned], laidTests := true, laidLooks := .later }
def MergeUnchangedCardSaid : Prop := Claim7.holds Tryz.pinned (.plain (OpenSpec.ofChange mergeUnchangedSpec)) mergeUnchangedCard

/-- THE TIED CARD OF 'captionerlaw18.MergeKeeps'. -/
def mergeKeepsCard : Claim7 := { stood := { row := mergeKeepsRow, standIns := [], harness := (true, "92d32308d99abb401abc92568bdfc297ea975f5f54e078d80446b411a309d896"), looks := false }, kinds := [], alts := [], laidByText := true, laidKinds := [.data, .pinned], laidTests := true, laidLooks := .later }
def MergeKeepsCardSaid : Prop := Claim7.holds Tryz.pinned (.plain (OpenSpec.ofChange mergeKeepsSpec)) mergeKeepsCard

/-- THE TIED CARD OF 'captionerlaw18.MergeReports'. -/
def mergeReportsCard : Claim7 := { stood := { row := mergeReportsRow, standIns := [], harness := (true, "92d32308d99abb401abc92568bdfc297ea975f5f54e078d80446b411a309d896"), looks := false }, kinds := [], alts := [], laidByText := true, laidKinds := [.data, .data, .data, .data, .pinned], laidTests := true, laidLooks := .later }
def MergeReportsCardSaid : Prop := Claim7.holds Tryz.pinned (.plain (OpenSpec.ofChange mergeReportsSpec)) mergeReportsCard

/-- THE SECOND FORM's CARD OF 'captionerlaw17.DiffLists'. -/
def diffListsUptoCard : Claim7 := { stood := { row := diffListsUptoRow, standIns := [], harness := (true, "92d32308d99abb401abc92568bdfc297ea975f5f54e078d80446b411a309d896"), looks := false }, kinds := [], alts := [], laidByText := true, laidKinds := [.data, .data, .data, .data, .pinned], laidTests := true, laidLooks := .later }
def DiffListsUptoCardSaid : Prop := Claim7.holds Tryz.pinned (.plain (OpenSpec.upto diffListsSpec)) diffListsUptoCard

/-- THE SECOND FORM's CARD OF 'captionerlaw17.DiffApplies'. -/
def diffAppliesUptoCard : Claim7 := { stood := { row := diffAppliesUptoRow, standIns := [], harness := (true, "92d32308d99abb401abc92568bdfc297ea975f5f54e078d80446b411a309d896"), looks := false }, kinds := [], alts := [], laidByText := true, laidKinds := [.data, .data, .data, .data, .pinned], laidTests := true, laidLooks := .later }
def DiffAppliesUptoCardSaid : Prop := Claim7.holds Tryz.pinned (.plain (OpenSpec.upto diffAppliesSpec)) diffAppliesUptoCard

/-- THE SECOND FORM's CARD OF 'captionerlaw17.DiffLeads'. -/
def diffLeadsUptoCard : Claim7 := { stood := { row := diffLeadsUptoRow, standIns := [], harness := (true, "92d32308d99abb401abc92568bdfc297ea975f5f54e078d80446b411a309d896"), looks := false }, kinds := [], alts := [], laidByText := true, laidKinds := [.data, .data, .data, .data, .pinned], laidTests := true, laidLooks := .later }
def DiffLeadsUptoCardSaid : Prop := Claim7.holds Tryz.pinned (.plain (OpenSpec.upto diffLeadsSpec)) diffLeadsUptoCard

/-- THE SECOND FORM's CARD OF 'captionerlaw17.DiffTexts'. -/
def diffTextsUptoCard : Claim7 := { stood := { row := diffTextsUptoRow, standIns := [], harness := (true, "92d32308d99abb401abc92568bdfc297ea975f5f54e078d80446b411a309d896"), looks := false }, kinds := [], alts := [], laidByText := true, laidKinds := [.data, .data, .data, .data, .pinned], laidTests := true, laidLooks := .later }
def DiffTextsUptoCardSaid : Prop := Claim7.holds Tryz.pinned (.plain (OpenSpec.upto diffTextsSpec)) diffTextsUptoCard

/-- THE SECOND FORM's CARD OF 'captionerlaw18.MergeUnchanged'. -/
def mergeUnchangedUptoCard : Claim7 := { stood := { row := mergeUnchangedUptoRow, standIns := [], harness := (true, "92d32308d99abb401abc92568bdfc297ea975f5f54e078d80446b411a309d896"), looks := false }, kinds := [], alts := [], laidByText := true, laidKinds := [.data, .pinned], laidTests := true, laidLooks := .later }
def MergeUnchangedUptoCardSaid : Prop := Claim7.holds Tryz.pinned (.plain (OpenSpec.upto mergeUnchangedSpec)) mergeUnchangedUptoCard

/-- THE SECOND FORM's CARD OF 'captionerlaw18.MergeKeeps'. -/
def mergeKeepsUptoCard : Claim7 := { stood := { row := mergeKeepsUptoRow, standIns := [], harness := (true, "92d32308d99abb401abc92568bdfc297ea975f5f54e078d80446b411a309d896"), looks := false }, kinds := [], alts := [], laidByText := true, laidKinds := [.data, .pinned], laidTests := true, laidLooks := .later }
def MergeKeepsUptoCardSaid : Prop := Claim7.holds Tryz.pinned (.plain (OpenSpec.upto mergeKeepsSpec)) mergeKeepsUptoCard

/-- THE SECOND FORM's CARD OF 'captionerlaw18.MergeReports'. -/
def mergeReportsUptoCard : Claim7 := { stood := { row := mergeReportsUptoRow, standIns := [], harness := (true, "92d32308d99abb401abc92568bdfc297ea975f5f54e078d80446b411a309d896"), looks := false }, kinds := [], alts := [], laidByText := true, laidKinds := [.data, .data, .data, .data, .pinned], laidTests := true, laidLooks := .later }
def MergeReportsUptoCardSaid : Prop := Claim7.holds Tryz.pinned (.plain (OpenSpec.upto mergeReportsSpec)) mergeReportsUptoCard
end Rows
end Go.Proofs.YtnlnmbcaongehaaGreatDoor
