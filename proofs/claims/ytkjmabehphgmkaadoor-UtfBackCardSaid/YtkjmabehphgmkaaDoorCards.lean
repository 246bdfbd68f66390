/-
  DERIVED. GIVEN WITH THE SEED: THE CARDS: each row of YtkjmabehphgmkaaDoorRows.lean that lists a variable, with what it lists TIED to the program's text (the seventh form; the later family's looks); each row that meets fmt, with fmt's text TOLD by the authors' own Lean function (tested against real Go, not proved from fmt's source: count such statements apart). THE CARD IS WHAT COUNTS. Prove the row's statement (the work); the ties are given (YtkjmabehphgmkaaDoorTie.lean); close each card by the builder's one call (the guide's Derived/Test/ToyasCard.lean, 'card_holds'). Laid BY PROGRAM, IN A SANDBOX (cutbox-door.mjs). By AI agents, Wed Nov 11 2026. No macro, syntax, notation, axiom, sorry.
-/
import Derived.Test.YtkjmabehphgmkaaDoorRows
import GoSem.ClaimSeven
namespace Go.Proofs.YtkjmabehphgmkaaDoor
namespace Rows

/-- THE TIED CARD OF 'latinerlaw04.UtfTells'. -/
def utfTellsCard : Claim7 := { stood := { row := utfTellsRow, standIns := [], harness := (true, "3d753ec4f13db97870e2f39853a2db266b9e9cfeda5bf130cddfd7f6cc233d2a"), looks := true }, kinds := [], alts := [], laidByText := true, laidKinds := [.data, .handle, .sentinel, .pinned], laidTests := true, laidLooks := .later }
def UtfTellsCardSaid : Prop := Claim7.holds Tryd.pinned (.plain (OpenSpec.ofChange utfTellsSpec)) utfTellsCard

/-- THE TIED CARD OF 'latinerlaw04.UtfBack'. -/
def utfBackCard : Claim7 := { stood := { row := utfBackRow, standIns := [], harness := (true, "3d753ec4f13db97870e2f39853a2db266b9e9cfeda5bf130cddfd7f6cc233d2a"), looks := true }, kinds := [], alts := [], laidByText := true, laidKinds := [.data, .handle, .sentinel, .pinned], laidTests := true, laidLooks := .later }
def UtfBackCardSaid : Prop := Claim7.holds Tryd.pinned (.plain (OpenSpec.ofChange utfBackSpec)) utfBackCard

/-- THE TIED CARD OF 'latinerlaw04.UtfBad'. -/
def utfBadCard : Claim7 := { stood := { row := utfBadRow, standIns := [], harness := (true, "3d753ec4f13db97870e2f39853a2db266b9e9cfeda5bf130cddfd7f6cc233d2a"), looks := true }, kinds := [], alts := [], laidByText := true, laidKinds := [.data, .handle, .sentinel, .pinned], laidTests := true, laidLooks := .later }
def UtfBadCardSaid : Prop := Claim7.holds Tryd.pinned (.plain (OpenSpec.ofChange utfBadSpec)) utfBadCard

/-- THE TIED CARD OF 'latinerlaw04.UtfJoins'. -/
def utfJoinsCard : Claim7 := { stood := { row := utfJoinsRow, standIns := [], harness := (true, "3d753ec4f13db97870e2f39853a2db266b9e9cfeda5bf130cddfd7f6cc233d2a"), looks := true }, kinds := [], alts := [], laidByText := true, laidKinds := [.data, .handle, .sentinel, .pinned], laidTests := true, laidLooks := .later }
def UtfJoinsCardSaid : Prop := Claim7.holds Tryd.pinned (.plain (OpenSpec.ofChange utfJoinsSpec)) utfJoinsCard

/-- THE TIED CARD OF 'latinerlaw04.UtfSafe'. -/
def utfSafeCard : Claim7 := { stood := { row := utfSafeRow, standIns := [], harness := (true, "3d753ec4f13db97870e2f39853a2db266b9e9cfeda5bf130cddfd7f6cc233d2a"), looks := true }, kinds := [], alts := [], laidByText := true, laidKinds := [.data, .handle, .sentinel, .pinned], laidTests := true, laidLooks := .later }
def UtfSafeCardSaid : Prop := Claim7.holds Tryd.pinned (.plain (OpenSpec.ofChange utfSafeSpec)) utfSafeCard

/-- THE TIED CARD OF 'latinerlaw04.UtfSizes'. -/
def utfSizesCard : Claim7 := { stood := { row := utfSizesRow, standIns := [], harness := (true, "3d753ec4f13db97870e2f39853a2db266b9e9cfeda5bf130cddfd7f6cc233d2a"), looks := true }, kinds := [], alts := [], laidByText := true, laidKinds := [.data, .handle, .sentinel, .pinned], laidTests := true, laidLooks := .later }
def UtfSizesCardSaid : Prop := Claim7.holds Tryd.pinned (.plain (OpenSpec.ofChange utfSizesSpec)) utfSizesCard

/-- THE TIED CARD OF 'latinerlaw04.UtfLong'. -/
def utfLongCard : Claim7 := { stood := { row := utfLongRow, standIns := [], harness := (true, "3d753ec4f13db97870e2f39853a2db266b9e9cfeda5bf130cddfd7f6cc233d2a"), looks := true }, kinds := [], alts := [], laidByText := true, laidKinds := [.data, .handle, .sentinel, .pinned], laidTests := true, laidLooks := .later }
def UtfLongCardSaid : Prop := Claim7.holds Tryd.pinned (.plain (OpenSpec.ofChange utfLongSpec)) utfLongCard

/-- THE SECOND FORM's CARD OF 'latinerlaw04.UtfTells'. -/
def utfTellsUptoCard : Claim7 := { stood := { row := utfTellsUptoRow, standIns := [], harness := (true, "3d753ec4f13db97870e2f39853a2db266b9e9cfeda5bf130cddfd7f6cc233d2a"), looks := true }, kinds := [], alts := [], laidByText := true, laidKinds := [.data, .handle, .sentinel, .pinned], laidTests := true, laidLooks := .later }
def UtfTellsUptoCardSaid : Prop := Claim7.holds Tryd.pinned (.plain (OpenSpec.upto utfTellsSpec)) utfTellsUptoCard

/-- THE SECOND FORM's CARD OF 'latinerlaw04.UtfBack'. -/
def utfBackUptoCard : Claim7 := { stood := { row := utfBackUptoRow, standIns := [], harness := (true, "3d753ec4f13db97870e2f39853a2db266b9e9cfeda5bf130cddfd7f6cc233d2a"), looks := true }, kinds := [], alts := [], laidByText := true, laidKinds := [.data, .handle, .sentinel, .pinned], laidTests := true, laidLooks := .later }
def UtfBackUptoCardSaid : Prop := Claim7.holds Tryd.pinned (.plain (OpenSpec.upto utfBackSpec)) utfBackUptoCard

/-- THE SECOND FORM's CARD OF 'latinerlaw04.UtfBad'. -/
def utfBadUptoCard : Claim7 := { stood := { row := utfBadUptoRow, standIns := [], harness := (true, "3d753ec4f13db97870e2f39853a2db266b9e9cfeda5bf130cddfd7f6cc233d2a"), looks := true }, kinds := [], alts := [], laidByText := true, laidKinds := [.data, .handle, .sentinel, .pinned], laidTests := true, laidLooks := .later }
def UtfBadUptoCardSaid : Prop := Claim7.holds Tryd.pinned (.plain (OpenSpec.upto utfBadSpec)) utfBadUptoCard

/-- THE SECOND FORM's CARD OF 'latinerlaw04.UtfJoins'. -/
def utfJoinsUptoCard : Claim7 := { stood := { row := utfJoinsUptoRow, standIns := [], harness := (true, "3d753ec4f13db97870e2f39853a2db266b9e9cfeda5bf130cddfd7f6cc233d2a"), looks := true }, kinds := [], alts := [], laidByText := true, laidKinds := [.data, .handle, .sentinel, .pinned], laidTests := true, laidLooks := .later }
def UtfJoinsUptoCardSaid : Prop := Claim7.holds Tryd.pinned (.plain (OpenSpec.upto utfJoinsSpec)) utfJoinsUptoCard

/-- THE SECOND FORM's CARD OF 'latinerlaw04.UtfSafe'. -/
def utfSafeUptoCard : Claim7 := { stood := { row := utfSafeUptoRow, standIns := [], harness := (true, "3d753ec4f13db97870e2f39853a2db266b9e9cfeda5bf130cddfd7f6cc233d2a"), looks := true }, kinds := [], alts := [], laidByText := true, laidKinds := [.data, .handle, .sentinel, .pinned], laidTests := true, laidLooks := .later }
def UtfSafeUptoCardSaid : Prop := Claim7.holds Tryd.pinned (.plain (OpenSpec.upto utfSafeSpec)) utfSafeUptoCard

/-- THE SECOND FORM's CARD OF 'latinerlaw04.UtfSizes'. -/
def utfSizesUptoCard : Claim7 := { stood := { row := utfSizesUptoRow, standIns := [], harness := (true, "3d753ec4f13db97870e2f39853a2db266b9e9cfeda5bf130cddfd7f6cc233d2a"), looks := true }, kinds := [], alts := [], laidByText := true, laidKinds := [.data, .handle, .sentinel, .pinned], laidTests := true, laidLooks := .later }
def UtfSizesUptoCardSaid : Prop := Claim7.holds Tryd.pinned (.plain (OpenSpec.upto utfSizesSpec)) utfSizesUptoCard

/-- THE SECOND FORM's CARD OF 'latinerlaw04.UtfLong'. -/
def utfLongUptoCard : Claim7 := { stood := { row := utfLongUptoRow, standIns := [], harness := (true, "3d753ec4f13db97870e2f39853a2db266b9e9cfeda5bf130cddfd7f6cc233d2a"), looks := true }, kinds := [], alts := [], laidByText := true, laidKinds := [.data, .handle, .sentinel, .pinned], laidTests := true, laidLooks := .later }
def UtfLongUptoCardSaid : Prop := Claim7.holds Tryd.pinned (.plain (OpenSpec.upto utfLongSpec)) utfLongUptoCard
end Rows
end Go.Proofs.YtkjmabehphgmkaaDoor
