/-
  DERIVED. GIVEN WITH THE SEED: THE CARDS: each row of YtckfglcihelofaaDoorRows.lean that lists a variable, with what it lists TIED to the program's text (the seventh form; the later family's looks); each row that meets fmt, with fmt's text TOLD by the authors' own Lean function (tested against real Go, not proved from fmt's source: count such statements apart). THE CARD IS WHAT COUNTS. Prove the row's statement (the work); the ties are given (YtckfglcihelofaaDoorTie.lean); close each card by the builder's one call (the guide's Derived/Test/ToyasCard.lean, 'card_holds'). Laid BY PROGRAM, IN A SANDBOX (cutbox-door.mjs). By AI agents, Wed Nov 11 2026. No macro, syntax, notation, axiom, sorry.
-/
import Derived.Test.YtckfglcihelofaaDoorRows
import GoSem.ClaimSeven
namespace Go.Proofs.YtckfglcihelofaaDoor
namespace Rows

/-- THE TIED CARD OF 'latinerlaw06.EscTells'. -/
def escTellsCard : Claim7 := { stood := { row := escTellsRow, standIns := [], harness := (true, "9c1e535ad2a7c9a02ed21f1249c29a50aa1868f17e81c7f85e1aef092632214a"), looks := true }, kinds := [], alts := [], laidByText := true, laidKinds := [.data, .handle, .sentinel, .sentinel, .pinned], laidTests := true, laidLooks := .later }
def EscTellsCardSaid : Prop := Claim7.holds Tryd.pinned (.plain (OpenSpec.ofChange escTellsSpec)) escTellsCard

/-- THE TIED CARD OF 'latinerlaw06.EscBack'. -/
def escBackCard : Claim7 := { stood := { row := escBackRow, standIns := [], harness := (true, "9c1e535ad2a7c9a02ed21f1249c29a50aa1868f17e81c7f85e1aef092632214a"), looks := true }, kinds := [], alts := [], laidByText := true, laidKinds := [.data, .handle, .sentinel, .sentinel, .pinned], laidTests := true, laidLooks := .later }
def EscBackCardSaid : Prop := Claim7.holds Tryd.pinned (.plain (OpenSpec.ofChange escBackSpec)) escBackCard

/-- THE TIED CARD OF 'latinerlaw06.EscAgain'. -/
def escAgainCard : Claim7 := { stood := { row := escAgainRow, standIns := [], harness := (true, "9c1e535ad2a7c9a02ed21f1249c29a50aa1868f17e81c7f85e1aef092632214a"), looks := true }, kinds := [], alts := [], laidByText := true, laidKinds := [.data, .handle, .sentinel, .sentinel, .pinned], laidTests := true, laidLooks := .later }
def EscAgainCardSaid : Prop := Claim7.holds Tryd.pinned (.plain (OpenSpec.ofChange escAgainSpec)) escAgainCard

/-- THE TIED CARD OF 'latinerlaw06.EscJoins'. -/
def escJoinsCard : Claim7 := { stood := { row := escJoinsRow, standIns := [], harness := (true, "9c1e535ad2a7c9a02ed21f1249c29a50aa1868f17e81c7f85e1aef092632214a"), looks := true }, kinds := [], alts := [], laidByText := true, laidKinds := [.data, .handle, .sentinel, .sentinel, .pinned], laidTests := true, laidLooks := .later }
def EscJoinsCardSaid : Prop := Claim7.holds Tryd.pinned (.plain (OpenSpec.ofChange escJoinsSpec)) escJoinsCard

/-- THE TIED CARD OF 'latinerlaw06.EscApart'. -/
def escApartCard : Claim7 := { stood := { row := escApartRow, standIns := [], harness := (true, "9c1e535ad2a7c9a02ed21f1249c29a50aa1868f17e81c7f85e1aef092632214a"), looks := true }, kinds := [], alts := [], laidByText := true, laidKinds := [.data, .handle, .sentinel, .sentinel, .pinned], laidTests := true, laidLooks := .later }
def EscApartCardSaid : Prop := Claim7.holds Tryd.pinned (.plain (OpenSpec.ofChange escApartSpec)) escApartCard

/-- THE TIED CARD OF 'latinerlaw06.EscPlain'. -/
def escPlainCard : Claim7 := { stood := { row := escPlainRow, standIns := [], harness := (true, "9c1e535ad2a7c9a02ed21f1249c29a50aa1868f17e81c7f85e1aef092632214a"), looks := true }, kinds := [], alts := [], laidByText := true, laidKinds := [.data, .handle, .sentinel, .sentinel, .pinned], laidTests := true, laidLooks := .later }
def EscPlainCardSaid : Prop := Claim7.holds Tryd.pinned (.plain (OpenSpec.ofChange escPlainSpec)) escPlainCard

/-- THE TIED CARD OF 'latinerlaw05.CodeTells'. -/
def codeTellsCard : Claim7 := { stood := { row := codeTellsRow, standIns := [], harness := (true, "9c1e535ad2a7c9a02ed21f1249c29a50aa1868f17e81c7f85e1aef092632214a"), looks := true }, kinds := [], alts := [], laidByText := true, laidKinds := [.data, .handle, .sentinel, .pinned], laidTests := true, laidLooks := .later }
def CodeTellsCardSaid : Prop := Claim7.holds Tryd.pinned (.plain (OpenSpec.ofChange codeTellsSpec)) codeTellsCard

/-- THE TIED CARD OF 'latinerlaw05.CodeBack'. -/
def codeBackCard : Claim7 := { stood := { row := codeBackRow, standIns := [], harness := (true, "9c1e535ad2a7c9a02ed21f1249c29a50aa1868f17e81c7f85e1aef092632214a"), looks := true }, kinds := [], alts := [], laidByText := true, laidKinds := [.data, .handle, .sentinel, .pinned], laidTests := true, laidLooks := .later }
def CodeBackCardSaid : Prop := Claim7.holds Tryd.pinned (.plain (OpenSpec.ofChange codeBackSpec)) codeBackCard

/-- THE TIED CARD OF 'latinerlaw05.CodeJoins'. -/
def codeJoinsCard : Claim7 := { stood := { row := codeJoinsRow, standIns := [], harness := (true, "9c1e535ad2a7c9a02ed21f1249c29a50aa1868f17e81c7f85e1aef092632214a"), looks := true }, kinds := [], alts := [], laidByText := true, laidKinds := [.data, .handle, .sentinel, .pinned], laidTests := true, laidLooks := .later }
def CodeJoinsCardSaid : Prop := Claim7.holds Tryd.pinned (.plain (OpenSpec.ofChange codeJoinsSpec)) codeJoinsCard

/-- THE TIED CARD OF 'latinerlaw05.CodeSizes'. -/
def codeSizesCard : Claim7 := { stood := { row := codeSizesRow, standIns := [], harness := (true, "9c1e535ad2a7c9a02ed21f1249c29a50aa1868f17e81c7f85e1aef092632214a"), looks := true }, kinds := [], alts := [], laidByText := true, laidKinds := [.data, .handle, .sentinel, .pinned], laidTests := true, laidLooks := .later }
def CodeSizesCardSaid : Prop := Claim7.holds Tryd.pinned (.plain (OpenSpec.ofChange codeSizesSpec)) codeSizesCard

/-- THE TIED CARD OF 'latinerlaw05.CodeCases'. -/
def codeCasesCard : Claim7 := { stood := { row := codeCasesRow, standIns := [], harness := (true, "9c1e535ad2a7c9a02ed21f1249c29a50aa1868f17e81c7f85e1aef092632214a"), looks := true }, kinds := [], alts := [], laidByText := true, laidKinds := [.data, .handle, .sentinel, .pinned], laidTests := true, laidLooks := .later }
def CodeCasesCardSaid : Prop := Claim7.holds Tryd.pinned (.plain (OpenSpec.ofChange codeCasesSpec)) codeCasesCard

/-- THE TIED CARD OF 'latinerlaw05.CodeApart'. -/
def codeApartCard : Claim7 := { stood := { row := codeApartRow, standIns := [], harness := (true, "9c1e535ad2a7c9a02ed21f1249c29a50aa1868f17e81c7f85e1aef092632214a"), looks := true }, kinds := [], alts := [], laidByText := true, laidKinds := [.data, .handle, .sentinel, .pinned], laidTests := true, laidLooks := .later }
def CodeApartCardSaid : Prop := Claim7.holds Tryd.pinned (.plain (OpenSpec.ofChange codeApartSpec)) codeApartCard

/-- THE SECOND FORM's CARD OF 'latinerlaw06.EscTells'. -/
def escTellsUptoCard : Claim7 := { stood := { row := escTellsUptoRow, standIns := [], harness := (true, "9c1e535ad2a7c9a02ed21f1249c29a50aa1868f17e81c7f85e1aef092632214a"), looks := true }, kinds := [], alts := [], laidByText := true, laidKinds := [.data, .handle, .sentinel, .sentinel, .pinned], laidTests := true, laidLooks := .later }
def EscTellsUptoCardSaid : Prop := Claim7.holds Tryd.pinned (.plain (OpenSpec.upto escTellsSpec)) escTellsUptoCard

/-- THE SECOND FORM's CARD OF 'latinerlaw06.EscBack'. -/
def escBackUptoCard : Claim7 := { stood := { row := escBackUptoRow, standIns := [], harness := (true, "9c1e535ad2a7c9a02ed21f1249c29a50aa1868f17e81c7f85e1aef092632214a"), looks := true }, kinds := [], alts := [], laidByText := true, laidKinds := [.data, .handle, .sentinel, .sentinel, .pinned], laidTests := true, laidLooks := .later }
def EscBackUptoCardSaid : Prop := Claim7.holds Tryd.pinned (.plain (OpenSpec.upto escBackSpec)) escBackUptoCard

/-- THE SECOND FORM's CARD OF 'latinerlaw06.EscAgain'. -/
def escAgainUptoCard : Claim7 := { stood := { row := escAgainUptoRow, standIns := [], harness := (true, "9c1e535ad2a7c9a02ed21f1249c29a50aa1868f17e81c7f85e1aef092632214a"), looks := true }, kinds := [], alts := [], laidByText := true, laidKinds := [.data, .handle, .sentinel, .sentinel, .pinned], laidTests := true, laidLooks := .later }
def EscAgainUptoCardSaid : Prop := Claim7.holds Tryd.pinned (.plain (OpenSpec.upto escAgainSpec)) escAgainUptoCard

/-- THE SECOND FORM's CARD OF 'latinerlaw06.EscJoins'. -/
def escJoinsUptoCard : Claim7 := { stood := { row := escJoinsUptoRow, standIns := [], harness := (true, "9c1e535ad2a7c9a02ed21f1249c29a50aa1868f17e81c7f85e1aef092632214a"), looks := true }, kinds := [], alts := [], laidByText := true, laidKinds := [.data, .handle, .sentinel, .sentinel, .pinned], laidTests := true, laidLooks := .later }
def EscJoinsUptoCardSaid : Prop := Claim7.holds Tryd.pinned (.plain (OpenSpec.upto escJoinsSpec)) escJoinsUptoCard

/-- THE SECOND FORM's CARD OF 'latinerlaw06.EscApart'. -/
def escApartUptoCard : Claim7 := { stood := { row := escApartUptoRow, standIns := [], harness := (true, "9c1e535ad2a7c9a02ed21f1249c29a50aa1868f17e81c7f85e1aef092632214a"), looks := true }, kinds := [], alts := [], laidByText := true, laidKinds := [.data, .handle, .sentinel, .sentinel, .pinned], laidTests := true, laidLooks := .later }
def EscApartUptoCardSaid : Prop := Claim7.holds Tryd.pinned (.plain (OpenSpec.upto escApartSpec)) escApartUptoCard

/-- THE SECOND FORM's CARD OF 'latinerlaw06.EscPlain'. -/
def escPlainUptoCard : Claim7 := { stood := { row := escPlainUptoRow, standIns := [], harness := (true, "9c1e535ad2a7c9a02ed21f1249c29a50aa1868f17e81c7f85e1aef092632214a"), looks := true }, kinds := [], alts := [], laidByText := true, laidKinds := [.data, .handle, .sentinel, .sentinel, .pinned], laidTests := true, laidLooks := .later }
def EscPlainUptoCardSaid : Prop := Claim7.holds Tryd.pinned (.plain (OpenSpec.upto escPlainSpec)) escPlainUptoCard

/-- THE SECOND FORM's CARD OF 'latinerlaw05.CodeTells'. -/
def codeTellsUptoCard : Claim7 := { stood := { row := codeTellsUptoRow, standIns := [], harness := (true, "9c1e535ad2a7c9a02ed21f1249c29a50aa1868f17e81c7f85e1aef092632214a"), looks := true }, kinds := [], alts := [], laidByText := true, laidKinds := [.data, .handle, .sentinel, .pinned], laidTests := true, laidLooks := .later }
def CodeTellsUptoCardSaid : Prop := Claim7.holds Tryd.pinned (.plain (OpenSpec.upto codeTellsSpec)) codeTellsUptoCard

/-- THE SECOND FORM's CARD OF 'latinerlaw05.CodeBack'. -/
def codeBackUptoCard : Claim7 := { stood := { row := codeBackUptoRow, standIns := [], harness := (true, "9c1e535ad2a7c9a02ed21f1249c29a50aa1868f17e81c7f85e1aef092632214a"), looks := true }, kinds := [], alts := [], laidByText := true, laidKinds := [.data, .handle, .sentinel, .pinned], laidTests := true, laidLooks := .later }
def CodeBackUptoCardSaid : Prop := Claim7.holds Tryd.pinned (.plain (OpenSpec.upto codeBackSpec)) codeBackUptoCard

/-- THE SECOND FORM's CARD OF 'latinerlaw05.CodeJoins'. -/
def codeJoinsUptoCard : Claim7 := { stood := { row := codeJoinsUptoRow, standIns := [], harness := (true, "9c1e535ad2a7c9a02ed21f1249c29a50aa1868f17e81c7f85e1aef092632214a"), looks := true }, kinds := [], alts := [], laidByText := true, laidKinds := [.data, .handle, .sentinel, .pinned], laidTests := true, laidLooks := .later }
def CodeJoinsUptoCardSaid : Prop := Claim7.holds Tryd.pinned (.plain (OpenSpec.upto codeJoinsSpec)) codeJoinsUptoCard

/-- THE SECOND FORM's CARD OF 'latinerlaw05.CodeSizes'. -/
def codeSizesUptoCard : Claim7 := { stood := { row := codeSizesUptoRow, standIns := [], harness := (true, "9c1e535ad2a7c9a02ed21f1249c29a50aa1868f17e81c7f85e1aef092632214a"), looks := true }, kinds := [], alts := [], laidByText := true, laidKinds := [.data, .handle, .sentinel, .pinned], laidTests := true, laidLooks := .later }
def CodeSizesUptoCardSaid : Prop := Claim7.holds Tryd.pinned (.plain (OpenSpec.upto codeSizesSpec)) codeSizesUptoCard

/-- THE SECOND FORM's CARD OF 'latinerlaw05.CodeCases'. -/
def codeCasesUptoCard : Claim7 := { stood := { row := codeCasesUptoRow, standIns := [], harness := (true, "9c1e535ad2a7c9a02ed21f1249c29a50aa1868f17e81c7f85e1aef092632214a"), looks := true }, kinds := [], alts := [], laidByText := true, laidKinds := [.data, .handle, .sentinel, .pinned], laidTests := true, laidLooks := .later }
def CodeCasesUptoCardSaid : Prop := Claim7.holds Tryd.pinned (.plain (OpenSpec.upto codeCasesSpec)) codeCasesUptoCard

/-- THE SECOND FORM's CARD OF 'latinerlaw05.CodeApart'. -/
def codeApartUptoCard : Claim7 := { stood := { row := codeApartUptoRow, standIns := [], harness := (true, "9c1e535ad2a7c9a02ed21f1249c29a50aa1868f17e81c7f85e1aef092632214a"), looks := true }, kinds := [], alts := [], laidByText := true, laidKinds := [.data, .handle, .sentinel, .pinned], laidTests := true, laidLooks := .later }
def CodeApartUptoCardSaid : Prop := Claim7.holds Tryd.pinned (.plain (OpenSpec.upto codeApartSpec)) codeApartUptoCard
end Rows
end Go.Proofs.YtckfglcihelofaaDoor
