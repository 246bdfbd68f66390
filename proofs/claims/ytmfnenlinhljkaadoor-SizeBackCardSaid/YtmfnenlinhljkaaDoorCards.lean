/-
  DERIVED. GIVEN WITH THE SEED: THE CARDS: each row of YtmfnenlinhljkaaDoorRows.lean that lists a variable, with what it lists TIED to the program's text (the seventh form; the later family's looks); each row that meets fmt, with fmt's text TOLD by the authors' own Lean function (tested against real Go, not proved from fmt's source: count such statements apart). THE CARD IS WHAT COUNTS. Prove the row's statement (the work); the ties are given (YtmfnenlinhljkaaDoorTie.lean); close each card by the builder's one call (the guide's Derived/Test/ToyasCard.lean, 'card_holds'). Laid BY PROGRAM, IN A SANDBOX (cutbox-door.mjs). By AI agents, Wed Nov 11 2026. No macro, syntax, notation, axiom, sorry.
-/
import Derived.Test.YtmfnenlinhljkaaDoorRows
import GoSem.ClaimSeven
namespace Go.Proofs.YtmfnenlinhljkaaDoor
namespace Rows

/-- THE TIED CARD OF 'latinerlaw03.PrimCodes'. -/
def primCodesCard : Claim7 := { stood := { row := primCodesRow, standIns := [], harness := (true, "7b7540a9efc1189e0a552fe6be02a4ad799f75d07bd57182886e90a2d5c21bee"), looks := true }, kinds := [], alts := [], laidByText := true, laidKinds := [.handle, .sentinel, .sentinel], laidTests := true, laidLooks := .later }
def PrimCodesCardSaid : Prop := Claim7.holds Tryd.pinned (.plain (OpenSpec.ofChange primCodesSpec)) primCodesCard

/-- THE TIED CARD OF 'latinerlaw03.PrimBack'. -/
def primBackCard : Claim7 := { stood := { row := primBackRow, standIns := [], harness := (true, "7b7540a9efc1189e0a552fe6be02a4ad799f75d07bd57182886e90a2d5c21bee"), looks := true }, kinds := [], alts := [], laidByText := true, laidKinds := [.handle, .sentinel, .sentinel], laidTests := true, laidLooks := .later }
def PrimBackCardSaid : Prop := Claim7.holds Tryd.pinned (.plain (OpenSpec.ofChange primBackSpec)) primBackCard

/-- THE TIED CARD OF 'latinerlaw03.PrimOrder'. -/
def primOrderCard : Claim7 := { stood := { row := primOrderRow, standIns := [], harness := (true, "7b7540a9efc1189e0a552fe6be02a4ad799f75d07bd57182886e90a2d5c21bee"), looks := true }, kinds := [], alts := [], laidByText := true, laidKinds := [.handle, .sentinel, .sentinel], laidTests := true, laidLooks := .later }
def PrimOrderCardSaid : Prop := Claim7.holds Tryd.pinned (.plain (OpenSpec.ofChange primOrderSpec)) primOrderCard

/-- THE TIED CARD OF 'latinerlaw03.PrimSizes'. -/
def primSizesCard : Claim7 := { stood := { row := primSizesRow, standIns := [], harness := (true, "7b7540a9efc1189e0a552fe6be02a4ad799f75d07bd57182886e90a2d5c21bee"), looks := true }, kinds := [], alts := [], laidByText := true, laidKinds := [.handle, .sentinel, .sentinel], laidTests := true, laidLooks := .later }
def PrimSizesCardSaid : Prop := Claim7.holds Tryd.pinned (.plain (OpenSpec.ofChange primSizesSpec)) primSizesCard

/-- THE TIED CARD OF 'latinerlaw03.PrimLonger'. -/
def primLongerCard : Claim7 := { stood := { row := primLongerRow, standIns := [], harness := (true, "7b7540a9efc1189e0a552fe6be02a4ad799f75d07bd57182886e90a2d5c21bee"), looks := true }, kinds := [], alts := [], laidByText := true, laidKinds := [.handle, .sentinel, .sentinel], laidTests := true, laidLooks := .later }
def PrimLongerCardSaid : Prop := Claim7.holds Tryd.pinned (.plain (OpenSpec.ofChange primLongerSpec)) primLongerCard

/-- THE TIED CARD OF 'latinerlaw03.PrimTrue'. -/
def primTrueCard : Claim7 := { stood := { row := primTrueRow, standIns := [], harness := (true, "7b7540a9efc1189e0a552fe6be02a4ad799f75d07bd57182886e90a2d5c21bee"), looks := true }, kinds := [], alts := [], laidByText := true, laidKinds := [.handle, .sentinel, .sentinel], laidTests := true, laidLooks := .later }
def PrimTrueCardSaid : Prop := Claim7.holds Tryd.pinned (.plain (OpenSpec.ofChange primTrueSpec)) primTrueCard

/-- THE TIED CARD OF 'latinerlaw01.SizeCodes'. -/
def sizeCodesCard : Claim7 := { stood := { row := sizeCodesRow, standIns := [], harness := (true, "7b7540a9efc1189e0a552fe6be02a4ad799f75d07bd57182886e90a2d5c21bee"), looks := true }, kinds := [], alts := [], laidByText := true, laidKinds := [.handle, .sentinel, .sentinel, .sentinel], laidTests := true, laidLooks := .later }
def SizeCodesCardSaid : Prop := Claim7.holds Tryd.pinned (.plain (OpenSpec.ofChange sizeCodesSpec)) sizeCodesCard

/-- THE TIED CARD OF 'latinerlaw01.SizeBack'. -/
def sizeBackCard : Claim7 := { stood := { row := sizeBackRow, standIns := [], harness := (true, "7b7540a9efc1189e0a552fe6be02a4ad799f75d07bd57182886e90a2d5c21bee"), looks := true }, kinds := [], alts := [], laidByText := true, laidKinds := [.handle, .sentinel, .sentinel, .sentinel], laidTests := true, laidLooks := .later }
def SizeBackCardSaid : Prop := Claim7.holds Tryd.pinned (.plain (OpenSpec.ofChange sizeBackSpec)) sizeBackCard

/-- THE TIED CARD OF 'latinerlaw01.SizeLeast'. -/
def sizeLeastCard : Claim7 := { stood := { row := sizeLeastRow, standIns := [], harness := (true, "7b7540a9efc1189e0a552fe6be02a4ad799f75d07bd57182886e90a2d5c21bee"), looks := true }, kinds := [], alts := [], laidByText := true, laidKinds := [.handle, .sentinel, .sentinel, .sentinel], laidTests := true, laidLooks := .later }
def SizeLeastCardSaid : Prop := Claim7.holds Tryd.pinned (.plain (OpenSpec.ofChange sizeLeastSpec)) sizeLeastCard

/-- THE TIED CARD OF 'latinerlaw01.SizeOrder'. -/
def sizeOrderCard : Claim7 := { stood := { row := sizeOrderRow, standIns := [], harness := (true, "7b7540a9efc1189e0a552fe6be02a4ad799f75d07bd57182886e90a2d5c21bee"), looks := true }, kinds := [], alts := [], laidByText := true, laidKinds := [.handle, .sentinel, .sentinel, .sentinel], laidTests := true, laidLooks := .later }
def SizeOrderCardSaid : Prop := Claim7.holds Tryd.pinned (.plain (OpenSpec.ofChange sizeOrderSpec)) sizeOrderCard

/-- THE TIED CARD OF 'latinerlaw01.SizeCuts'. -/
def sizeCutsCard : Claim7 := { stood := { row := sizeCutsRow, standIns := [], harness := (true, "7b7540a9efc1189e0a552fe6be02a4ad799f75d07bd57182886e90a2d5c21bee"), looks := true }, kinds := [], alts := [], laidByText := true, laidKinds := [.handle, .sentinel, .sentinel, .sentinel], laidTests := true, laidLooks := .later }
def SizeCutsCardSaid : Prop := Claim7.holds Tryd.pinned (.plain (OpenSpec.ofChange sizeCutsSpec)) sizeCutsCard

/-- THE TIED CARD OF 'latinerlaw01.SizeLong'. -/
def sizeLongCard : Claim7 := { stood := { row := sizeLongRow, standIns := [], harness := (true, "7b7540a9efc1189e0a552fe6be02a4ad799f75d07bd57182886e90a2d5c21bee"), looks := true }, kinds := [], alts := [], laidByText := true, laidKinds := [.handle, .sentinel, .sentinel, .sentinel], laidTests := true, laidLooks := .later }
def SizeLongCardSaid : Prop := Claim7.holds Tryd.pinned (.plain (OpenSpec.ofChange sizeLongSpec)) sizeLongCard

/-- THE SECOND FORM's CARD OF 'latinerlaw03.PrimCodes'. -/
def primCodesUptoCard : Claim7 := { stood := { row := primCodesUptoRow, standIns := [], harness := (true, "7b7540a9efc1189e0a552fe6be02a4ad799f75d07bd57182886e90a2d5c21bee"), looks := true }, kinds := [], alts := [], laidByText := true, laidKinds := [.handle, .sentinel, .sentinel], laidTests := true, laidLooks := .later }
def PrimCodesUptoCardSaid : Prop := Claim7.holds Tryd.pinned (.plain (OpenSpec.upto primCodesSpec)) primCodesUptoCard

/-- THE SECOND FORM's CARD OF 'latinerlaw03.PrimBack'. -/
def primBackUptoCard : Claim7 := { stood := { row := primBackUptoRow, standIns := [], harness := (true, "7b7540a9efc1189e0a552fe6be02a4ad799f75d07bd57182886e90a2d5c21bee"), looks := true }, kinds := [], alts := [], laidByText := true, laidKinds := [.handle, .sentinel, .sentinel], laidTests := true, laidLooks := .later }
def PrimBackUptoCardSaid : Prop := Claim7.holds Tryd.pinned (.plain (OpenSpec.upto primBackSpec)) primBackUptoCard

/-- THE SECOND FORM's CARD OF 'latinerlaw03.PrimOrder'. -/
def primOrderUptoCard : Claim7 := { stood := { row := primOrderUptoRow, standIns := [], harness := (true, "7b7540a9efc1189e0a552fe6be02a4ad799f75d07bd57182886e90a2d5c21bee"), looks := true }, kinds := [], alts := [], laidByText := true, laidKinds := [.handle, .sentinel, .sentinel], laidTests := true, laidLooks := .later }
def PrimOrderUptoCardSaid : Prop := Claim7.holds Tryd.pinned (.plain (OpenSpec.upto primOrderSpec)) primOrderUptoCard

/-- THE SECOND FORM's CARD OF 'latinerlaw03.PrimSizes'. -/
def primSizesUptoCard : Claim7 := { stood := { row := primSizesUptoRow, standIns := [], harness := (true, "7b7540a9efc1189e0a552fe6be02a4ad799f75d07bd57182886e90a2d5c21bee"), looks := true }, kinds := [], alts := [], laidByText := true, laidKinds := [.handle, .sentinel, .sentinel], laidTests := true, laidLooks := .later }
def PrimSizesUptoCardSaid : Prop := Claim7.holds Tryd.pinned (.plain (OpenSpec.upto primSizesSpec)) primSizesUptoCard

/-- THE SECOND FORM's CARD OF 'latinerlaw03.PrimLonger'. -/
def primLongerUptoCard : Claim7 := { stood := { row := primLongerUptoRow, standIns := [], harness := (true, "7b7540a9efc1189e0a552fe6be02a4ad799f75d07bd57182886e90a2d5c21bee"), looks := true }, kinds := [], alts := [], laidByText := true, laidKinds := [.handle, .sentinel, .sentinel], laidTests := true, laidLooks := .later }
def PrimLongerUptoCardSaid : Prop := Claim7.holds Tryd.pinned (.plain (OpenSpec.upto primLongerSpec)) primLongerUptoCard

/-- THE SECOND FORM's CARD OF 'latinerlaw03.PrimTrue'. -/
def primTrueUptoCard : Claim7 := { stood := { row := primTrueUptoRow, standIns := [], harness := (true, "7b7540a9efc1189e0a552fe6be02a4ad799f75d07bd57182886e90a2d5c21bee"), looks := true }, kinds := [], alts := [], laidByText := true, laidKinds := [.handle, .sentinel, .sentinel], laidTests := true, laidLooks := .later }
def PrimTrueUptoCardSaid : Prop := Claim7.holds Tryd.pinned (.plain (OpenSpec.upto primTrueSpec)) primTrueUptoCard

/-- THE SECOND FORM's CARD OF 'latinerlaw01.SizeCodes'. -/
def sizeCodesUptoCard : Claim7 := { stood := { row := sizeCodesUptoRow, standIns := [], harness := (true, "7b7540a9efc1189e0a552fe6be02a4ad799f75d07bd57182886e90a2d5c21bee"), looks := true }, kinds := [], alts := [], laidByText := true, laidKinds := [.handle, .sentinel, .sentinel, .sentinel], laidTests := true, laidLooks := .later }
def SizeCodesUptoCardSaid : Prop := Claim7.holds Tryd.pinned (.plain (OpenSpec.upto sizeCodesSpec)) sizeCodesUptoCard

/-- THE SECOND FORM's CARD OF 'latinerlaw01.SizeBack'. -/
def sizeBackUptoCard : Claim7 := { stood := { row := sizeBackUptoRow, standIns := [], harness := (true, "7b7540a9efc1189e0a552fe6be02a4ad799f75d07bd57182886e90a2d5c21bee"), looks := true }, kinds := [], alts := [], laidByText := true, laidKinds := [.handle, .sentinel, .sentinel, .sentinel], laidTests := true, laidLooks := .later }
def SizeBackUptoCardSaid : Prop := Claim7.holds Tryd.pinned (.plain (OpenSpec.upto sizeBackSpec)) sizeBackUptoCard

/-- THE SECOND FORM's CARD OF 'latinerlaw01.SizeLeast'. -/
def sizeLeastUptoCard : Claim7 := { stood := { row := sizeLeastUptoRow, standIns := [], harness := (true, "7b7540a9efc1189e0a552fe6be02a4ad799f75d07bd57182886e90a2d5c21bee"), looks := true }, kinds := [], alts := [], laidByText := true, laidKinds := [.handle, .sentinel, .sentinel, .sentinel], laidTests := true, laidLooks := .later }
def SizeLeastUptoCardSaid : Prop := Claim7.holds Tryd.pinned (.plain (OpenSpec.upto sizeLeastSpec)) sizeLeastUptoCard

/-- THE SECOND FORM's CARD OF 'latinerlaw01.SizeOrder'. -/
def sizeOrderUptoCard : Claim7 := { stood := { row := sizeOrderUptoRow, standIns := [], harness := (true, "7b7540a9efc1189e0a552fe6be02a4ad799f75d07bd57182886e90a2d5c21bee"), looks := true }, kinds := [], alts := [], laidByText := true, laidKinds := [.handle, .sentinel, .sentinel, .sentinel], laidTests := true, laidLooks := .later }
def SizeOrderUptoCardSaid : Prop := Claim7.holds Tryd.pinned (.plain (OpenSpec.upto sizeOrderSpec)) sizeOrderUptoCard

/-- THE SECOND FORM's CARD OF 'latinerlaw01.SizeCuts'. -/
def sizeCutsUptoCard : Claim7 := { stood := { row := sizeCutsUptoRow, standIns := [], harness := (true, "7b7540a9efc1189e0a552fe6be02a4ad799f75d07bd57182886e90a2d5c21bee"), looks := true }, kinds := [], alts := [], laidByText := true, laidKinds := [.handle, .sentinel, .sentinel, .sentinel], laidTests := true, laidLooks := .later }
def SizeCutsUptoCardSaid : Prop := Claim7.holds Tryd.pinned (.plain (OpenSpec.upto sizeCutsSpec)) sizeCutsUptoCard

/-- THE SECOND FORM's CARD OF 'latinerlaw01.SizeLong'. -/
def sizeLongUptoCard : Claim7 := { stood := { row := sizeLongUptoRow, standIns := [], harness := (true, "7b7540a9efc1189e0a552fe6be02a4ad799f75d07bd57182886e90a2d5c21bee"), looks := true }, kinds := [], alts := [], laidByText := true, laidKinds := [.handle, .sentinel, .sentinel, .sentinel], laidTests := true, laidLooks := .later }
def SizeLongUptoCardSaid : Prop := Claim7.holds Tryd.pinned (.plain (OpenSpec.upto sizeLongSpec)) sizeLongUptoCard
end Rows
end Go.Proofs.YtmfnenlinhljkaaDoor
