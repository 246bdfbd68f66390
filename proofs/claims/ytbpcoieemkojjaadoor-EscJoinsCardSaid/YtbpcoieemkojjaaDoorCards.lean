/-
  DERIVED. GIVEN WITH THE SEED: THE CARDS: each row of YtbpcoieemkojjaaDoorRows.lean that lists a variable, with what it lists TIED to the program's text (the seventh form; the later family's looks); each row that meets fmt, with fmt's text TOLD by the authors' own Lean function (tested against real Go, not proved from fmt's source: count such statements apart). THE CARD IS WHAT COUNTS. Prove the row's statement (the work); the ties are given (YtbpcoieemkojjaaDoorTie.lean); close each card by the builder's one call (the guide's Derived/Test/ToyasCard.lean, 'card_holds'). Laid BY PROGRAM, IN A SANDBOX (cutbox-door.mjs). By AI agents, Wed Nov 11 2026. No macro, syntax, notation, axiom, sorry.
-/
import Derived.Test.YtbpcoieemkojjaaDoorRows
import GoSem.ClaimSeven
namespace Go.Proofs.YtbpcoieemkojjaaDoor
namespace Rows

/-- THE TIED CARD OF 'latinerlaw06.EscTells'. -/
def escTellsCard : Claim7 := { stood := { row := escTellsRow, standIns := [], harness := (true, "731284e05b188dbb9165d527121f245c36635d0f39146c52fb911c5ef29fc94d"), looks := true }, kinds := [], alts := [], laidByText := true, laidKinds := [.data, .handle, .sentinel, .sentinel, .pinned], laidTests := true, laidLooks := .later }
def EscTellsCardSaid : Prop := Claim7.holds Tryd.pinned (.plain (OpenSpec.ofChange escTellsSpec)) escTellsCard

/-- THE TIED CARD OF 'latinerlaw06.EscBack'. -/
def escBackCard : Claim7 := { stood := { row := escBackRow, standIns := [], harness := (true, "731284e05b188dbb9165d527121f245c36635d0f39146c52fb911c5ef29fc94d"), looks := true }, kinds := [], alts := [], laidByText := true, laidKinds := [.data, .handle, .sentinel, .sentinel, .pinned], laidTests := true, laidLooks := .later }
def EscBackCardSaid : Prop := Claim7.holds Tryd.pinned (.plain (OpenSpec.ofChange escBackSpec)) escBackCard

/-- THE TIED CARD OF 'latinerlaw06.EscAgain'. -/
def escAgainCard : Claim7 := { stood := { row := escAgainRow, standIns := [], harness := (true, "731284e05b188dbb9165d527121f245c36635d0f39146c52fb911c5ef29fc94d"), looks := true }, kinds := [], alts := [], laidByText := true, laidKinds := [.data, .handle, .sentinel, .sentinel, .pinned], laidTests := true, laidLooks := .later }
def EscAgainCardSaid : Prop := Claim7.holds Tryd.pinned (.plain (OpenSpec.ofChange escAgainSpec)) escAgainCard

/-- THE TIED CARD OF 'latinerlaw06.EscJoins'. -/
def escJoinsCard : Claim7 := { stood := { row := escJoinsRow, standIns := [], harness := (true, "731284e05b188dbb9165d527121f245c36635d0f39146c52fb911c5ef29fc94d"), looks := true }, kinds := [], alts := [], laidByText := true, laidKinds := [.data, .handle, .sentinel, .sentinel, .pinned], laidTests := true, laidLooks := .later }
def EscJoinsCardSaid : Prop := Claim7.holds Tryd.pinned (.plain (OpenSpec.ofChange escJoinsSpec)) escJoinsCard

/-- THE TIED CARD OF 'latinerlaw06.EscApart'. -/
def escApartCard : Claim7 := { stood := { row := escApartRow, standIns := [], harness := (true, "731284e05b188dbb9165d527121f245c36635d0f39146c52fb911c5ef29fc94d"), looks := true }, kinds := [], alts := [], laidByText := true, laidKinds := [.data, .handle, .sentinel, .sentinel, .pinned], laidTests := true, laidLooks := .later }
def EscApartCardSaid : Prop := Claim7.holds Tryd.pinned (.plain (OpenSpec.ofChange escApartSpec)) escApartCard

/-- THE TIED CARD OF 'latinerlaw06.EscPlain'. -/
def escPlainCard : Claim7 := { stood := { row := escPlainRow, standIns := [], harness := (true, "731284e05b188dbb9165d527121f245c36635d0f39146c52fb911c5ef29fc94d"), looks := true }, kinds := [], alts := [], laidByText := true, laidKinds := [.data, .handle, .sentinel, .sentinel, .pinned], laidTests := true, laidLooks := .later }
def EscPlainCardSaid : Prop := Claim7.holds Tryd.pinned (.plain (OpenSpec.ofChange escPlainSpec)) escPlainCard

/-- THE SECOND FORM's CARD OF 'latinerlaw06.EscTells'. -/
def escTellsUptoCard : Claim7 := { stood := { row := escTellsUptoRow, standIns := [], harness := (true, "731284e05b188dbb9165d527121f245c36635d0f39146c52fb911c5ef29fc94d"), looks := true }, kinds := [], alts := [], laidByText := true, laidKinds := [.data, .handle, .sentinel, .sentinel, .pinned], laidTests := true, laidLooks := .later }
def EscTellsUptoCardSaid : Prop := Claim7.holds Tryd.pinned (.plain (OpenSpec.upto escTellsSpec)) escTellsUptoCard

/-- THE SECOND FORM's CARD OF 'latinerlaw06.EscBack'. -/
def escBackUptoCard : Claim7 := { stood := { row := escBackUptoRow, standIns := [], harness := (true, "731284e05b188dbb9165d527121f245c36635d0f39146c52fb911c5ef29fc94d"), looks := true }, kinds := [], alts := [], laidByText := true, laidKinds := [.data, .handle, .sentinel, .sentinel, .pinned], laidTests := true, laidLooks := .later }
def EscBackUptoCardSaid : Prop := Claim7.holds Tryd.pinned (.plain (OpenSpec.upto escBackSpec)) escBackUptoCard

/-- THE SECOND FORM's CARD OF 'latinerlaw06.EscAgain'. -/
def escAgainUptoCard : Claim7 := { stood := { row := escAgainUptoRow, standIns := [], harness := (true, "731284e05b188dbb9165d527121f245c36635d0f39146c52fb911c5ef29fc94d"), looks := true }, kinds := [], alts := [], laidByText := true, laidKinds := [.data, .handle, .sentinel, .sentinel, .pinned], laidTests := true, laidLooks := .later }
def EscAgainUptoCardSaid : Prop := Claim7.holds Tryd.pinned (.plain (OpenSpec.upto escAgainSpec)) escAgainUptoCard

/-- THE SECOND FORM's CARD OF 'latinerlaw06.EscJoins'. -/
def escJoinsUptoCard : Claim7 := { stood := { row := escJoinsUptoRow, standIns := [], harness := (true, "731284e05b188dbb9165d527121f245c36635d0f39146c52fb911c5ef29fc94d"), looks := true }, kinds := [], alts := [], laidByText := true, laidKinds := [.data, .handle, .sentinel, .sentinel, .pinned], laidTests := true, laidLooks := .later }
def EscJoinsUptoCardSaid : Prop := Claim7.holds Tryd.pinned (.plain (OpenSpec.upto escJoinsSpec)) escJoinsUptoCard

/-- THE SECOND FORM's CARD OF 'latinerlaw06.EscApart'. -/
def escApartUptoCard : Claim7 := { stood := { row := escApartUptoRow, standIns := [], harness := (true, "731284e05b188dbb9165d527121f245c36635d0f39146c52fb911c5ef29fc94d"), looks := true }, kinds := [], alts := [], laidByText := true, laidKinds := [.data, .handle, .sentinel, .sentinel, .pinned], laidTests := true, laidLooks := .later }
def EscApartUptoCardSaid : Prop := Claim7.holds Tryd.pinned (.plain (OpenSpec.upto escApartSpec)) escApartUptoCard

/-- THE SECOND FORM's CARD OF 'latinerlaw06.EscPlain'. -/
def escPlainUptoCard : Claim7 := { stood := { row := escPlainUptoRow, standIns := [], harness := (true, "731284e05b188dbb9165d527121f245c36635d0f39146c52fb911c5ef29fc94d"), looks := true }, kinds := [], alts := [], laidByText := true, laidKinds := [.data, .handle, .sentinel, .sentinel, .pinned], laidTests := true, laidLooks := .later }
def EscPlainUptoCardSaid : Prop := Claim7.holds Tryd.pinned (.plain (OpenSpec.upto escPlainSpec)) escPlainUptoCard
end Rows
end Go.Proofs.YtbpcoieemkojjaaDoor
