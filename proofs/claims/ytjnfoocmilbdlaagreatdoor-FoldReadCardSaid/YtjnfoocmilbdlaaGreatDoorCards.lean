/-
  DERIVED. GIVEN WITH THE SEED: THE CARDS: each row of YtjnfoocmilbdlaaGreatDoorRows.lean that lists a variable, with what it lists TIED to the program's text (the seventh form; the later family's looks); each row that meets fmt, with fmt's text TOLD by the authors' own Lean function (tested against real Go, not proved from fmt's source: count such statements apart). THE CARD IS WHAT COUNTS. Prove the row's statement (the work); the ties are given (YtjnfoocmilbdlaaGreatDoorTie.lean); close each card by the builder's one call (the guide's Derived/Test/ToyasCard.lean, 'card_holds'). Laid BY PROGRAM, IN A SANDBOX (cutbox-door.mjs). By AI agents, Wed Nov 11 2026. No macro, syntax, notation, axiom, sorry.
-/
import Derived.Test.YtjnfoocmilbdlaaGreatDoorRows
import GoSem.ClaimSeven
namespace Go.Proofs.YtjnfoocmilbdlaaGreatDoor
namespace Rows

/-- THE TIED CARD OF 'latinerlaw15.FoldLines'. -/
def foldLinesCard : Claim7 := { stood := { row := foldLinesRow, standIns := [], harness := (true, "870f776ea1bc55f5988374c7bdd9748ac6d33f177da84dd6820110c03ec6df15"), looks := true }, kinds := [], alts := [], laidByText := true, laidKinds := [.data, .handle, .sentinel, .sentinel, .sentinel, .sentinel, .sentinel, .pinned], laidTests := true, laidLooks := .later }
def FoldLinesCardSaid : Prop := Claim7.holds Tryz.pinned (.plain (OpenSpec.ofChange foldLinesSpec)) foldLinesCard

/-- THE TIED CARD OF 'latinerlaw15.FoldItems'. -/
def foldItemsCard : Claim7 := { stood := { row := foldItemsRow, standIns := [], harness := (true, "870f776ea1bc55f5988374c7bdd9748ac6d33f177da84dd6820110c03ec6df15"), looks := true }, kinds := [], alts := [], laidByText := true, laidKinds := [.data, .handle, .sentinel, .sentinel, .sentinel, .sentinel, .sentinel, .pinned], laidTests := true, laidLooks := .later }
def FoldItemsCardSaid : Prop := Claim7.holds Tryz.pinned (.plain (OpenSpec.ofChange foldItemsSpec)) foldItemsCard

/-- THE TIED CARD OF 'latinerlaw15.FoldBack'. -/
def foldBackCard : Claim7 := { stood := { row := foldBackRow, standIns := [], harness := (true, "870f776ea1bc55f5988374c7bdd9748ac6d33f177da84dd6820110c03ec6df15"), looks := true }, kinds := [], alts := [], laidByText := true, laidKinds := [.data, .handle, .sentinel, .sentinel, .sentinel, .sentinel, .sentinel, .pinned], laidTests := true, laidLooks := .later }
def FoldBackCardSaid : Prop := Claim7.holds Tryz.pinned (.plain (OpenSpec.ofChange foldBackSpec)) foldBackCard

/-- THE TIED CARD OF 'latinerlaw15.FoldRead'. -/
def foldReadCard : Claim7 := { stood := { row := foldReadRow, standIns := [], harness := (true, "870f776ea1bc55f5988374c7bdd9748ac6d33f177da84dd6820110c03ec6df15"), looks := true }, kinds := [], alts := [], laidByText := true, laidKinds := [.data, .handle, .sentinel, .sentinel, .sentinel, .sentinel, .sentinel, .pinned], laidTests := true, laidLooks := .later }
def FoldReadCardSaid : Prop := Claim7.holds Tryz.pinned (.plain (OpenSpec.ofChange foldReadSpec)) foldReadCard

/-- THE TIED CARD OF 'latinerlaw15.FoldJoins'. -/
def foldJoinsCard : Claim7 := { stood := { row := foldJoinsRow, standIns := [], harness := (true, "870f776ea1bc55f5988374c7bdd9748ac6d33f177da84dd6820110c03ec6df15"), looks := true }, kinds := [], alts := [], laidByText := true, laidKinds := [.data, .handle, .sentinel, .sentinel, .sentinel, .sentinel, .sentinel, .pinned], laidTests := true, laidLooks := .later }
def FoldJoinsCardSaid : Prop := Claim7.holds Tryz.pinned (.plain (OpenSpec.ofChange foldJoinsSpec)) foldJoinsCard

/-- THE TIED CARD OF 'latinerlaw15.FoldReturns'. -/
def foldReturnsCard : Claim7 := { stood := { row := foldReturnsRow, standIns := [], harness := (true, "870f776ea1bc55f5988374c7bdd9748ac6d33f177da84dd6820110c03ec6df15"), looks := true }, kinds := [], alts := [], laidByText := true, laidKinds := [.data, .handle, .sentinel, .sentinel, .sentinel, .sentinel, .sentinel, .pinned], laidTests := true, laidLooks := .later }
def FoldReturnsCardSaid : Prop := Claim7.holds Tryz.pinned (.plain (OpenSpec.ofChange foldReturnsSpec)) foldReturnsCard

/-- THE TIED CARD OF 'latinerlaw15.FoldNotes'. -/
def foldNotesCard : Claim7 := { stood := { row := foldNotesRow, standIns := [], harness := (true, "870f776ea1bc55f5988374c7bdd9748ac6d33f177da84dd6820110c03ec6df15"), looks := true }, kinds := [], alts := [], laidByText := true, laidKinds := [.data, .handle, .sentinel, .sentinel, .sentinel, .sentinel, .sentinel, .pinned], laidTests := true, laidLooks := .later }
def FoldNotesCardSaid : Prop := Claim7.holds Tryz.pinned (.plain (OpenSpec.ofChange foldNotesSpec)) foldNotesCard

/-- THE TIED CARD OF 'latinerlaw15.FoldBase'. -/
def foldBaseCard : Claim7 := { stood := { row := foldBaseRow, standIns := [], harness := (true, "870f776ea1bc55f5988374c7bdd9748ac6d33f177da84dd6820110c03ec6df15"), looks := true }, kinds := [], alts := [], laidByText := true, laidKinds := [.data, .handle, .sentinel, .sentinel, .sentinel, .sentinel, .sentinel, .pinned], laidTests := true, laidLooks := .later }
def FoldBaseCardSaid : Prop := Claim7.holds Tryz.pinned (.plain (OpenSpec.ofChange foldBaseSpec)) foldBaseCard

/-- THE SECOND FORM's CARD OF 'latinerlaw15.FoldLines'. -/
def foldLinesUptoCard : Claim7 := { stood := { row := foldLinesUptoRow, standIns := [], harness := (true, "870f776ea1bc55f5988374c7bdd9748ac6d33f177da84dd6820110c03ec6df15"), looks := true }, kinds := [], alts := [], laidByText := true, laidKinds := [.data, .handle, .sentinel, .sentinel, .sentinel, .sentinel, .sentinel, .pinned], laidTests := true, laidLooks := .later }
def FoldLinesUptoCardSaid : Prop := Claim7.holds Tryz.pinned (.plain (OpenSpec.upto foldLinesSpec)) foldLinesUptoCard

/-- THE SECOND FORM's CARD OF 'latinerlaw15.FoldItems'. -/
def foldItemsUptoCard : Claim7 := { stood := { row := foldItemsUptoRow, standIns := [], harness := (true, "870f776ea1bc55f5988374c7bdd9748ac6d33f177da84dd6820110c03ec6df15"), looks := true }, kinds := [], alts := [], laidByText := true, laidKinds := [.data, .handle, .sentinel, .sentinel, .sentinel, .sentinel, .sentinel, .pinned], laidTests := true, laidLooks := .later }
def FoldItemsUptoCardSaid : Prop := Claim7.holds Tryz.pinned (.plain (OpenSpec.upto foldItemsSpec)) foldItemsUptoCard

/-- THE SECOND FORM's CARD OF 'latinerlaw15.FoldBack'. -/
def foldBackUptoCard : Claim7 := { stood := { row := foldBackUptoRow, standIns := [], harness := (true, "870f776ea1bc55f5988374c7bdd9748ac6d33f177da84dd6820110c03ec6df15"), looks := true }, kinds := [], alts := [], laidByText := true, laidKinds := [.data, .handle, .sentinel, .sentinel, .sentinel, .sentinel, .sentinel, .pinned], laidTests := true, laidLooks := .later }
def FoldBackUptoCardSaid : Prop := Claim7.holds Tryz.pinned (.plain (OpenSpec.upto foldBackSpec)) foldBackUptoCard

/-- THE SECOND FORM's CARD OF 'latinerlaw15.FoldRead'. -/
def foldReadUptoCard : Claim7 := { stood := { row := foldReadUptoRow, standIns := [], harness := (true, "870f776ea1bc55f5988374c7bdd9748ac6d33f177da84dd6820110c03ec6df15"), looks := true }, kinds := [], alts := [], laidByText := true, laidKinds := [.data, .handle, .sentinel, .sentinel, .sentinel, .sentinel, .sentinel, .pinned], laidTests := true, laidLooks := .later }
def FoldReadUptoCardSaid : Prop := Claim7.holds Tryz.pinned (.plain (OpenSpec.upto foldReadSpec)) foldReadUptoCard

/-- THE SECOND FORM's CARD OF 'latinerlaw15.FoldJoins'. -/
def foldJoinsUptoCard : Claim7 := { stood := { row := foldJoinsUptoRow, standIns := [], harness := (true, "870f776ea1bc55f5988374c7bdd9748ac6d33f177da84dd6820110c03ec6df15"), looks := true }, kinds := [], alts := [], laidByText := true, laidKinds := [.data, .handle, .sentinel, .sentinel, .sentinel, .sentinel, .sentinel, .pinned], laidTests := true, laidLooks := .later }
def FoldJoinsUptoCardSaid : Prop := Claim7.holds Tryz.pinned (.plain (OpenSpec.upto foldJoinsSpec)) foldJoinsUptoCard

/-- THE SECOND FORM's CARD OF 'latinerlaw15.FoldReturns'. -/
def foldReturnsUptoCard : Claim7 := { stood := { row := foldReturnsUptoRow, standIns := [], harness := (true, "870f776ea1bc55f5988374c7bdd9748ac6d33f177da84dd6820110c03ec6df15"), looks := true }, kinds := [], alts := [], laidByText := true, laidKinds := [.data, .handle, .sentinel, .sentinel, .sentinel, .sentinel, .sentinel, .pinned], laidTests := true, laidLooks := .later }
def FoldReturnsUptoCardSaid : Prop := Claim7.holds Tryz.pinned (.plain (OpenSpec.upto foldReturnsSpec)) foldReturnsUptoCard

/-- THE SECOND FORM's CARD OF 'latinerlaw15.FoldNotes'. -/
def foldNotesUptoCard : Claim7 := { stood := { row := foldNotesUptoRow, standIns := [], harness := (true, "870f776ea1bc55f5988374c7bdd9748ac6d33f177da84dd6820110c03ec6df15"), looks := true }, kinds := [], alts := [], laidByText := true, laidKinds := [.data, .handle, .sentinel, .sentinel, .sentinel, .sentinel, .sentinel, .pinned], laidTests := true, laidLooks := .later }
def FoldNotesUptoCardSaid : Prop := Claim7.holds Tryz.pinned (.plain (OpenSpec.upto foldNotesSpec)) foldNotesUptoCard

/-- THE SECOND FORM's CARD OF 'latinerlaw15.FoldBase'. -/
def foldBaseUptoCard : Claim7 := { stood := { row := foldBaseUptoRow, standIns := [], harness := (true, "870f776ea1bc55f5988374c7bdd9748ac6d33f177da84dd6820110c03ec6df15"), looks := true }, kinds := [], alts := [], laidByText := true, laidKinds := [.data, .handle, .sentinel, .sentinel, .sentinel, .sentinel, .sentinel, .pinned], laidTests := true, laidLooks := .later }
def FoldBaseUptoCardSaid : Prop := Claim7.holds Tryz.pinned (.plain (OpenSpec.upto foldBaseSpec)) foldBaseUptoCard
end Rows
end Go.Proofs.YtjnfoocmilbdlaaGreatDoor
