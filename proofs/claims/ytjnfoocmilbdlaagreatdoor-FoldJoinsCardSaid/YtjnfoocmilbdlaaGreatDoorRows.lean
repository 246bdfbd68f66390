/-
  NARROWER THAN 'FOR EVERY INPUT', by the rows' own cells (each row's printed sentence says how): FoldLines: laid · FoldItems: laid · FoldBack: laid · FoldRead: laid · FoldJoins: laid · FoldReturns: laid · FoldNotes: laid · FoldBase: laid.
  DERIVED. THE GIVEN ROWS OF THIS SEAT. 8 by the template 'for every input the law returns true; each argument reads behind the call as it read before'; 0 by the template 'total and deterministic' (their statements: YtjnfoocmilbdlaaGreatDoorTotals.lean).
  GIVEN WITH THE SEED: the statements are not yours to turn. If you find one false, say at which input.
  Laid BY PROGRAM, IN A SANDBOX (cutbox-rows.mjs): the forced cells as the released guide's own fill.sh prints them over the translation 6966f4361edb1d74… (all of the seat's roots in one cut). By AI agents, Wed Nov 11 2026. No macro, syntax, notation, axiom, sorry.
-/
import Derived.Test.YtjnfoocmilbdlaaGreatDoorChecked
import GoSem.PinnedTables
import GoSem.Claim
import GoSem.ClaimJoined
import GoSem.ClaimMapViews
import Derived.JoinedTies
import Derived.KernelRfl
namespace Go.Proofs.YtjnfoocmilbdlaaGreatDoor
/- THE CELL 'sum', in the pinned program and in every row, IS THE sha256 OF THE DUMP (.gsa) THAT YtjnfoocmilbdlaaGreatDoorProg.lean LOADS. Nothing in Lean hashes anything: it is a label: what it is worth is what the hold of that sum in a sandbox is worth. -/
noncomputable def Tryz.pinned : Pinned := { name := "ytjnfoocmilbdlaagreatdoor", sum := "6966f4361edb1d74344361366f3b49c0d078b9c3a6a7301ca4802bd1dde59ad1", checked := Tryz.checked }
namespace Rows
def none {H : Type} : Left H := { results := [], args := [] }

/- WHAT THE LISTED PACKAGE-LEVEL VARIABLES READ AS WHEN THE CALL BEGINS. Each datum BY PROGRAM (the guide's laid-datum.mjs) off the statement by which the dump's own 'gosem.cut.vars' lays the variable. In a bare row this is a premise. The card (YtjnfoocmilbdlaaGreatDoorCards.lean) ties it to the program's text. -/
def laid_unicode_utf8_acceptRanges {H : Type} : DataW H := .agg [.agg [.lit (.int .u8 128), .lit (.int .u8 191)], .agg [.lit (.int .u8 160), .lit (.int .u8 191)], .agg [.lit (.int .u8 128), .lit (.int .u8 159)], .agg [.lit (.int .u8 144), .lit (.int .u8 191)], .agg [.lit (.int .u8 128), .lit (.int .u8 143)], .agg [.lit (.int .u8 0), .lit (.int .u8 0)], .agg [.lit (.int .u8 0), .lit (.int .u8 0)], .agg [.lit (.int .u8 0), .lit (.int .u8 0)], .agg [.lit (.int .u8 0), .lit (.int .u8 0)], .agg [.lit (.int .u8 0), .lit (.int .u8 0)], .agg [.lit (.int .u8 0), .lit (.int .u8 0)], .agg [.lit (.int .u8 0), .lit (.int .u8 0)], .agg [.lit (.int .u8 0), .lit (.int .u8 0)], .agg [.lit (.int .u8 0), .lit (.int .u8 0)], .agg [.lit (.int .u8 0), .lit (.int .u8 0)], .agg [.lit (.int .u8 0), .lit (.int .u8 0)]]
def laid_errors_errorType {H : Type} : DataW H := .iface "internal/reflectlite.rtype" (.agg [.ptr (.lit (.string [101, 114, 114, 111, 114]))])
def laid_latiner_code_errCode {H : Type} : DataW H := .iface "*errors.errorString" (.ptr (.agg [.lit (.string [110, 111, 32, 99, 111, 100, 101])]))
def laid_latiner_fold_errLarge {H : Type} : DataW H := .iface "*errors.errorString" (.ptr (.agg [.lit (.string [116, 111, 111, 32, 108, 97, 114, 103, 101])]))
def laid_latiner_fold_errFold {H : Type} : DataW H := .iface "*errors.errorString" (.ptr (.agg [.lit (.string [110, 111, 32, 108, 105, 110, 101, 115])]))
def laid_latiner_fold_errItem {H : Type} : DataW H := .iface "*errors.errorString" (.ptr (.agg [.lit (.string [110, 111, 32, 105, 116, 101, 109])]))
def laid_latiner_fold_errUrl {H : Type} : DataW H := .iface "*errors.errorString" (.ptr (.agg [.lit (.string [97, 110, 32, 97, 100, 100, 114, 101, 115, 115])]))
/-- One of Go's own tables, pinned by name: the form's constant. -/
def laid_unicode_utf8_first : DataW Unit := Go.Pinned.utf8First

/-- 'latinerlaw15.FoldLines': WHATEVER THE INPUT: true; the input reads as it did. -/
def foldLinesSpec : ChangeSpec := { name := "foldLines", fn := fun _ => fun
  | [d1, d2] => { results := [.lit (.bool true)], args := [d1, d2] }
  | _ => none }
def foldLinesRow : OpenClaim := { program := "ytjnfoocmilbdlaagreatdoor", sum := "6966f4361edb1d74344361366f3b49c0d078b9c3a6a7301ca4802bd1dde59ad1", func := "latiner/latinerlaw15.FoldLines", spec := "foldLines", inPlace := ["internal/bytealg.IndexByteString", "internal/bytealg.IndexString", "internal/reflectlite.ValueOf", "(internal/reflectlite.Value).Type", "(internal/reflectlite.Value).IsNil", "internal/reflectlite.TypeOf", "(internal/reflectlite.Value).Elem", "(internal/reflectlite.Value).Set", "internal/abi.NoEscape"], unfollowed := true, recurses := true, named := ["latiner/fold.errLarge", "internal/bytealg.MaxLen", "latiner/fold.errFold", "latiner/fold.errUrl", "errors.errorType", "latiner/fold.errItem", "unicode/utf8.first", "unicode/utf8.acceptRanges", "latiner/code.errCode"], apart := false, laid := [("unicode/utf8.acceptRanges", laid_unicode_utf8_acceptRanges), ("errors.errorType", laid_errors_errorType), ("latiner/code.errCode", laid_latiner_code_errCode), ("latiner/fold.errLarge", laid_latiner_fold_errLarge), ("latiner/fold.errFold", laid_latiner_fold_errFold), ("latiner/fold.errItem", laid_latiner_fold_errItem), ("latiner/fold.errUrl", laid_latiner_fold_errUrl), ("unicode/utf8.first", laid_unicode_utf8_first)] }
def FoldLinesSaid : Prop := foldLinesRow.holds Tryz.pinned (OpenSpec.ofChange foldLinesSpec)

/-- ITS FALSE NEIGHBOUR: 'it returns false'. Refute it at one input. -/
def foldLinesWrong : ChangeSpec := { name := "foldLines", fn := fun _ => fun
  | [d1, d2] => { results := [.lit (.bool false)], args := [d1, d2] }
  | _ => none }
def FoldLinesWrongFalsely : Prop := foldLinesRow.holds Tryz.pinned (OpenSpec.ofChange foldLinesWrong)

/-- 'latinerlaw15.FoldItems': WHATEVER THE INPUT: true; the input reads as it did. -/
def foldItemsSpec : ChangeSpec := { name := "foldItems", fn := fun _ => fun
  | [d1, d2, d3] => { results := [.lit (.bool true)], args := [d1, d2, d3] }
  | _ => none }
def foldItemsRow : OpenClaim := { program := "ytjnfoocmilbdlaagreatdoor", sum := "6966f4361edb1d74344361366f3b49c0d078b9c3a6a7301ca4802bd1dde59ad1", func := "latiner/latinerlaw15.FoldItems", spec := "foldItems", inPlace := ["internal/bytealg.IndexByteString", "internal/bytealg.IndexString", "internal/reflectlite.ValueOf", "(internal/reflectlite.Value).Type", "(internal/reflectlite.Value).IsNil", "internal/reflectlite.TypeOf", "(internal/reflectlite.Value).Elem", "(internal/reflectlite.Value).Set", "internal/abi.NoEscape"], unfollowed := true, recurses := true, named := ["latiner/fold.errLarge", "internal/bytealg.MaxLen", "latiner/fold.errFold", "latiner/fold.errUrl", "errors.errorType", "latiner/fold.errItem", "unicode/utf8.first", "unicode/utf8.acceptRanges", "latiner/code.errCode"], apart := false, laid := [("unicode/utf8.acceptRanges", laid_unicode_utf8_acceptRanges), ("errors.errorType", laid_errors_errorType), ("latiner/code.errCode", laid_latiner_code_errCode), ("latiner/fold.errLarge", laid_latiner_fold_errLarge), ("latiner/fold.errFold", laid_latiner_fold_errFold), ("latiner/fold.errItem", laid_latiner_fold_errItem), ("latiner/fold.errUrl", laid_latiner_fold_errUrl), ("unicode/utf8.first", laid_unicode_utf8_first)] }
def FoldItemsSaid : Prop := foldItemsRow.holds Tryz.pinned (OpenSpec.ofChange foldItemsSpec)

/-- ITS FALSE NEIGHBOUR: 'it returns false'. Refute it at one input. -/
def foldItemsWrong : ChangeSpec := { name := "foldItems", fn := fun _ => fun
  | [d1, d2, d3] => { results := [.lit (.bool false)], args := [d1, d2, d3] }
  | _ => none }
def FoldItemsWrongFalsely : Prop := foldItemsRow.holds Tryz.pinned (OpenSpec.ofChange foldItemsWrong)

/-- 'latinerlaw15.FoldBack': WHATEVER THE INPUT: true; the input reads as it did. -/
def foldBackSpec : ChangeSpec := { name := "foldBack", fn := fun _ => fun
  | [d] => { results := [.lit (.bool true)], args := [d] }
  | _ => none }
def foldBackRow : OpenClaim := { program := "ytjnfoocmilbdlaagreatdoor", sum := "6966f4361edb1d74344361366f3b49c0d078b9c3a6a7301ca4802bd1dde59ad1", func := "latiner/latinerlaw15.FoldBack", spec := "foldBack", inPlace := ["internal/bytealg.IndexByteString", "internal/bytealg.IndexString", "internal/reflectlite.ValueOf", "(internal/reflectlite.Value).Type", "(internal/reflectlite.Value).IsNil", "internal/reflectlite.TypeOf", "(internal/reflectlite.Value).Elem", "(internal/reflectlite.Value).Set", "internal/abi.NoEscape"], unfollowed := true, recurses := true, named := ["latiner/fold.errLarge", "internal/bytealg.MaxLen", "latiner/fold.errFold", "latiner/fold.errUrl", "errors.errorType", "latiner/fold.errItem", "unicode/utf8.first", "unicode/utf8.acceptRanges", "latiner/code.errCode"], apart := false, laid := [("unicode/utf8.acceptRanges", laid_unicode_utf8_acceptRanges), ("errors.errorType", laid_errors_errorType), ("latiner/code.errCode", laid_latiner_code_errCode), ("latiner/fold.errLarge", laid_latiner_fold_errLarge), ("latiner/fold.errFold", laid_latiner_fold_errFold), ("latiner/fold.errItem", laid_latiner_fold_errItem), ("latiner/fold.errUrl", laid_latiner_fold_errUrl), ("unicode/utf8.first", laid_unicode_utf8_first)] }
def FoldBackSaid : Prop := foldBackRow.holds Tryz.pinned (OpenSpec.ofChange foldBackSpec)

/-- ITS FALSE NEIGHBOUR: 'it returns false'. Refute it at one input. -/
def foldBackWrong : ChangeSpec := { name := "foldBack", fn := fun _ => fun
  | [d] => { results := [.lit (.bool false)], args := [d] }
  | _ => none }
def FoldBackWrongFalsely : Prop := foldBackRow.holds Tryz.pinned (OpenSpec.ofChange foldBackWrong)

/-- 'latinerlaw15.FoldRead': WHATEVER THE INPUT: true; the input reads as it did. -/
def foldReadSpec : ChangeSpec := { name := "foldRead", fn := fun _ => fun
  | [d1, d2] => { results := [.lit (.bool true)], args := [d1, d2] }
  | _ => none }
def foldReadRow : OpenClaim := { program := "ytjnfoocmilbdlaagreatdoor", sum := "6966f4361edb1d74344361366f3b49c0d078b9c3a6a7301ca4802bd1dde59ad1", func := "latiner/latinerlaw15.FoldRead", spec := "foldRead", inPlace := ["internal/bytealg.IndexByteString", "internal/bytealg.IndexString", "internal/reflectlite.ValueOf", "(internal/reflectlite.Value).Type", "(internal/reflectlite.Value).IsNil", "internal/reflectlite.TypeOf", "(internal/reflectlite.Value).Elem", "(internal/reflectlite.Value).Set", "internal/abi.NoEscape"], unfollowed := true, recurses := true, named := ["latiner/fold.errLarge", "internal/bytealg.MaxLen", "latiner/fold.errFold", "latiner/fold.errUrl", "errors.errorType", "latiner/fold.errItem", "unicode/utf8.first", "unicode/utf8.acceptRanges", "latiner/code.errCode"], apart := false, laid := [("unicode/utf8.acceptRanges", laid_unicode_utf8_acceptRanges), ("errors.errorType", laid_errors_errorType), ("latiner/code.errCode", laid_latiner_code_errCode), ("latiner/fold.errLarge", laid_latiner_fold_errLarge), ("latiner/fold.errFold", laid_latiner_fold_errFold), ("latiner/fold.errItem", laid_latiner_fold_errItem), ("latiner/fold.errUrl", laid_latiner_fold_errUrl), ("unicode/utf8.first", laid_unicode_utf8_first)] }
def FoldReadSaid : Prop := foldReadRow.holds Tryz.pinned (OpenSpec.ofChange foldReadSpec)

/-- ITS FALSE NEIGHBOUR: 'it returns false'. Refute it at one input. -/
def foldReadWrong : ChangeSpec := { name := "foldRead", fn := fun _ => fun
  | [d1, d2] => { results := [.lit (.bool false)], args := [d1, d2] }
  | _ => none }
def FoldReadWrongFalsely : Prop := foldReadRow.holds Tryz.pinned (OpenSpec.ofChange foldReadWrong)

/-- 'latinerlaw15.FoldJoins': WHATEVER THE INPUT: true; the input reads as it did. -/
def foldJoinsSpec : ChangeSpec := { name := "foldJoins", fn := fun _ => fun
  | [d1, d2] => { results := [.lit (.bool true)], args := [d1, d2] }
  | _ => none }
def foldJoinsRow : OpenClaim := { program := "ytjnfoocmilbdlaagreatdoor", sum := "6966f4361edb1d74344361366f3b49c0d078b9c3a6a7301ca4802bd1dde59ad1", func := "latiner/latinerlaw15.FoldJoins", spec := "foldJoins", inPlace := ["internal/bytealg.IndexByteString", "internal/bytealg.IndexString", "internal/reflectlite.ValueOf", "(internal/reflectlite.Value).Type", "(internal/reflectlite.Value).IsNil", "internal/reflectlite.TypeOf", "(internal/reflectlite.Value).Elem", "(internal/reflectlite.Value).Set", "internal/abi.NoEscape"], unfollowed := true, recurses := true, named := ["latiner/fold.errLarge", "internal/bytealg.MaxLen", "latiner/fold.errFold", "latiner/fold.errUrl", "errors.errorType", "latiner/fold.errItem", "unicode/utf8.first", "unicode/utf8.acceptRanges", "latiner/code.errCode"], apart := false, laid := [("unicode/utf8.acceptRanges", laid_unicode_utf8_acceptRanges), ("errors.errorType", laid_errors_errorType), ("latiner/code.errCode", laid_latiner_code_errCode), ("latiner/fold.errLarge", laid_latiner_fold_errLarge), ("latiner/fold.errFold", laid_latiner_fold_errFold), ("latiner/fold.errItem", laid_latiner_fold_errItem), ("latiner/fold.errUrl", laid_latiner_fold_errUrl), ("unicode/utf8.first", laid_unicode_utf8_first)] }
def FoldJoinsSaid : Prop := foldJoinsRow.holds Tryz.pinned (OpenSpec.ofChange foldJoinsSpec)

/-- ITS FALSE NEIGHBOUR: 'it returns false'. Refute it at one input. -/
def foldJoinsWrong : ChangeSpec := { name := "foldJoins", fn := fun _ => fun
  | [d1, d2] => { results := [.lit (.bool false)], args := [d1, d2] }
  | _ => none }
def FoldJoinsWrongFalsely : Prop := foldJoinsRow.holds Tryz.pinned (OpenSpec.ofChange foldJoinsWrong)

/-- 'latinerlaw15.FoldReturns': WHATEVER THE INPUT: true; the input reads as it did. -/
def foldReturnsSpec : ChangeSpec := { name := "foldReturns", fn := fun _ => fun
  | [d] => { results := [.lit (.bool true)], args := [d] }
  | _ => none }
def foldReturnsRow : OpenClaim := { program := "ytjnfoocmilbdlaagreatdoor", sum := "6966f4361edb1d74344361366f3b49c0d078b9c3a6a7301ca4802bd1dde59ad1", func := "latiner/latinerlaw15.FoldReturns", spec := "foldReturns", inPlace := ["internal/bytealg.IndexByteString", "internal/bytealg.IndexString", "internal/reflectlite.ValueOf", "(internal/reflectlite.Value).Type", "(internal/reflectlite.Value).IsNil", "internal/reflectlite.TypeOf", "(internal/reflectlite.Value).Elem", "(internal/reflectlite.Value).Set", "internal/abi.NoEscape"], unfollowed := true, recurses := true, named := ["latiner/fold.errLarge", "internal/bytealg.MaxLen", "latiner/fold.errFold", "latiner/fold.errUrl", "errors.errorType", "latiner/fold.errItem", "unicode/utf8.first", "unicode/utf8.acceptRanges", "latiner/code.errCode"], apart := false, laid := [("unicode/utf8.acceptRanges", laid_unicode_utf8_acceptRanges), ("errors.errorType", laid_errors_errorType), ("latiner/code.errCode", laid_latiner_code_errCode), ("latiner/fold.errLarge", laid_latiner_fold_errLarge), ("latiner/fold.errFold", laid_latiner_fold_errFold), ("latiner/fold.errItem", laid_latiner_fold_errItem), ("latiner/fold.errUrl", laid_latiner_fold_errUrl), ("unicode/utf8.first", laid_unicode_utf8_first)] }
def FoldReturnsSaid : Prop := foldReturnsRow.holds Tryz.pinned (OpenSpec.ofChange foldReturnsSpec)

/-- ITS FALSE NEIGHBOUR: 'it returns false'. Refute it at one input. -/
def foldReturnsWrong : ChangeSpec := { name := "foldReturns", fn := fun _ => fun
  | [d] => { results := [.lit (.bool false)], args := [d] }
  | _ => none }
def FoldReturnsWrongFalsely : Prop := foldReturnsRow.holds Tryz.pinned (OpenSpec.ofChange foldReturnsWrong)

/-- 'latinerlaw15.FoldNotes': WHATEVER THE INPUT: true; the input reads as it did. -/
def foldNotesSpec : ChangeSpec := { name := "foldNotes", fn := fun _ => fun
  | [d1, d2] => { results := [.lit (.bool true)], args := [d1, d2] }
  | _ => none }
def foldNotesRow : OpenClaim := { program := "ytjnfoocmilbdlaagreatdoor", sum := "6966f4361edb1d74344361366f3b49c0d078b9c3a6a7301ca4802bd1dde59ad1", func := "latiner/latinerlaw15.FoldNotes", spec := "foldNotes", inPlace := ["internal/bytealg.IndexByteString", "internal/bytealg.IndexString", "internal/reflectlite.ValueOf", "(internal/reflectlite.Value).Type", "(internal/reflectlite.Value).IsNil", "internal/reflectlite.TypeOf", "(internal/reflectlite.Value).Elem", "(internal/reflectlite.Value).Set", "internal/abi.NoEscape"], unfollowed := true, recurses := true, named := ["latiner/fold.errLarge", "internal/bytealg.MaxLen", "latiner/fold.errFold", "latiner/fold.errUrl", "errors.errorType", "latiner/fold.errItem", "unicode/utf8.first", "unicode/utf8.acceptRanges", "latiner/code.errCode"], apart := false, laid := [("unicode/utf8.acceptRanges", laid_unicode_utf8_acceptRanges), ("errors.errorType", laid_errors_errorType), ("latiner/code.errCode", laid_latiner_code_errCode), ("latiner/fold.errLarge", laid_latiner_fold_errLarge), ("latiner/fold.errFold", laid_latiner_fold_errFold), ("latiner/fold.errItem", laid_latiner_fold_errItem), ("latiner/fold.errUrl", laid_latiner_fold_errUrl), ("unicode/utf8.first", laid_unicode_utf8_first)] }
def FoldNotesSaid : Prop := foldNotesRow.holds Tryz.pinned (OpenSpec.ofChange foldNotesSpec)

/-- ITS FALSE NEIGHBOUR: 'it returns false'. Refute it at one input. -/
def foldNotesWrong : ChangeSpec := { name := "foldNotes", fn := fun _ => fun
  | [d1, d2] => { results := [.lit (.bool false)], args := [d1, d2] }
  | _ => none }
def FoldNotesWrongFalsely : Prop := foldNotesRow.holds Tryz.pinned (OpenSpec.ofChange foldNotesWrong)

/-- 'latinerlaw15.FoldBase': WHATEVER THE INPUT: true; the input reads as it did. -/
def foldBaseSpec : ChangeSpec := { name := "foldBase", fn := fun _ => fun
  | [d1, d2, d3] => { results := [.lit (.bool true)], args := [d1, d2, d3] }
  | _ => none }
def foldBaseRow : OpenClaim := { program := "ytjnfoocmilbdlaagreatdoor", sum := "6966f4361edb1d74344361366f3b49c0d078b9c3a6a7301ca4802bd1dde59ad1", func := "latiner/latinerlaw15.FoldBase", spec := "foldBase", inPlace := ["internal/bytealg.IndexByteString", "internal/bytealg.IndexString", "internal/reflectlite.ValueOf", "(internal/reflectlite.Value).Type", "(internal/reflectlite.Value).IsNil", "internal/reflectlite.TypeOf", "(internal/reflectlite.Value).Elem", "(internal/reflectlite.Value).Set", "internal/abi.NoEscape"], unfollowed := true, recurses := true, named := ["latiner/fold.errLarge", "internal/bytealg.MaxLen", "latiner/fold.errFold", "latiner/fold.errUrl", "errors.errorType", "latiner/fold.errItem", "unicode/utf8.first", "unicode/utf8.acceptRanges", "latiner/code.errCode"], apart := false, laid := [("unicode/utf8.acceptRanges", laid_unicode_utf8_acceptRanges), ("errors.errorType", laid_errors_errorType), ("latiner/code.errCode", laid_latiner_code_errCode), ("latiner/fold.errLarge", laid_latiner_fold_errLarge), ("latiner/fold.errFold", laid_latiner_fold_errFold), ("latiner/fold.errItem", laid_latiner_fold_errItem), ("latiner/fold.errUrl", laid_latiner_fold_errUrl), ("unicode/utf8.first", laid_unicode_utf8_first)] }
def FoldBaseSaid : Prop := foldBaseRow.holds Tryz.pinned (OpenSpec.ofChange foldBaseSpec)

/-- ITS FALSE NEIGHBOUR: 'it returns false'. Refute it at one input. -/
def foldBaseWrong : ChangeSpec := { name := "foldBase", fn := fun _ => fun
  | [d1, d2, d3] => { results := [.lit (.bool false)], args := [d1, d2, d3] }
  | _ => none }
def FoldBaseWrongFalsely : Prop := foldBaseRow.holds Tryz.pinned (OpenSpec.ofChange foldBaseWrong)

/- THE SECOND FORM. 'bulk': how many values and letters a reading holds, each counted each time it is reached (what is shared counts as often as it is met; a slice's spare places count too). A statement '..UptoSaid' is the law's where the arguments, and the package variables that the reading takes, are together of bulk at most 1048576: NARROWER than '..Said'. Prove '..Said' where nothing that the law and all that it calls make is longer than what came in: it says more and counts as full. Else prove '..UptoSaid'. A law counts once. -/
mutual
def uptoBulk {H : Type} : DataW H → Nat
  | .lit (.string bytes) => bytes.length + 1
  | .lit _ => 1
  | .nil => 1
  | .ptr d => uptoBulk d + 1
  | .slice elems spare => uptoBulkAll elems + uptoBulkAll spare + 1
  | .agg parts => uptoBulkAll parts + 1
  | .iface _ d => uptoBulk d + 1
  | .map entries => uptoBulkEntries entries + 1
  | .held _ => 1
def uptoBulkAll {H : Type} : List (DataW H) → Nat
  | [] => 0
  | d :: r => uptoBulk d + uptoBulkAll r
def uptoBulkEntries {H : Type} : List (Lit × DataW H) → Nat
  | [] => 0
  | x :: r => uptoBulkEntry x + uptoBulkEntries r
def uptoBulkEntry {H : Type} : Lit × DataW H → Nat
  | (.string bytes, d) => bytes.length + uptoBulk d + 1
  | (_, d) => uptoBulk d + 1
 end
def uptoSmall : (H : Type) → List (DataW H) → Bool := fun _ ds => decide (uptoBulkAll ds ≤ 1048576)
def OpenSpec.upto (s : _root_.Go.ChangeSpec) : _root_.Go.OpenSpec := { _root_.Go.OpenSpec.ofChange s with cond := some uptoSmall }

/-- 'latinerlaw15.FoldLines', WHERE WHAT IT READS IS OF BULK AT MOST 1048576: true; the input reads as it did. -/
def foldLinesUptoRow : OpenClaim := { program := "ytjnfoocmilbdlaagreatdoor", sum := "6966f4361edb1d74344361366f3b49c0d078b9c3a6a7301ca4802bd1dde59ad1", func := "latiner/latinerlaw15.FoldLines", spec := "foldLines", inPlace := ["internal/bytealg.IndexByteString", "internal/bytealg.IndexString", "internal/reflectlite.ValueOf", "(internal/reflectlite.Value).Type", "(internal/reflectlite.Value).IsNil", "internal/reflectlite.TypeOf", "(internal/reflectlite.Value).Elem", "(internal/reflectlite.Value).Set", "internal/abi.NoEscape"], unfollowed := true, recurses := true, named := ["latiner/fold.errLarge", "internal/bytealg.MaxLen", "latiner/fold.errFold", "latiner/fold.errUrl", "errors.errorType", "latiner/fold.errItem", "unicode/utf8.first", "unicode/utf8.acceptRanges", "latiner/code.errCode"], apart := false, laid := [("unicode/utf8.acceptRanges", laid_unicode_utf8_acceptRanges), ("errors.errorType", laid_errors_errorType), ("latiner/code.errCode", laid_latiner_code_errCode), ("latiner/fold.errLarge", laid_latiner_fold_errLarge), ("latiner/fold.errFold", laid_latiner_fold_errFold), ("latiner/fold.errItem", laid_latiner_fold_errItem), ("latiner/fold.errUrl", laid_latiner_fold_errUrl), ("unicode/utf8.first", laid_unicode_utf8_first)], narrowed := true }
def FoldLinesUptoSaid : Prop := foldLinesUptoRow.holds Tryz.pinned (OpenSpec.upto foldLinesSpec)

/-- 'latinerlaw15.FoldItems', WHERE WHAT IT READS IS OF BULK AT MOST 1048576: true; the input reads as it did. -/
def foldItemsUptoRow : OpenClaim := { program := "ytjnfoocmilbdlaagreatdoor", sum := "6966f4361edb1d74344361366f3b49c0d078b9c3a6a7301ca4802bd1dde59ad1", func := "latiner/latinerlaw15.FoldItems", spec := "foldItems", inPlace := ["internal/bytealg.IndexByteString", "internal/bytealg.IndexString", "internal/reflectlite.ValueOf", "(internal/reflectlite.Value).Type", "(internal/reflectlite.Value).IsNil", "internal/reflectlite.TypeOf", "(internal/reflectlite.Value).Elem", "(internal/reflectlite.Value).Set", "internal/abi.NoEscape"], unfollowed := true, recurses := true, named := ["latiner/fold.errLarge", "internal/bytealg.MaxLen", "latiner/fold.errFold", "latiner/fold.errUrl", "errors.errorType", "latiner/fold.errItem", "unicode/utf8.first", "unicode/utf8.acceptRanges", "latiner/code.errCode"], apart := false, laid := [("unicode/utf8.acceptRanges", laid_unicode_utf8_acceptRanges), ("errors.errorType", laid_errors_errorType), ("latiner/code.errCode", laid_latiner_code_errCode), ("latiner/fold.errLarge", laid_latiner_fold_errLarge), ("latiner/fold.errFold", laid_latiner_fold_errFold), ("latiner/fold.errItem", laid_latiner_fold_errItem), ("latiner/fold.errUrl", laid_latiner_fold_errUrl), ("unicode/utf8.first", laid_unicode_utf8_first)], narrowed := true }
def FoldItemsUptoSaid : Prop := foldItemsUptoRow.holds Tryz.pinned (OpenSpec.upto foldItemsSpec)

/-- 'latinerlaw15.FoldBack', WHERE WHAT IT READS IS OF BULK AT MOST 1048576: true; the input reads as it did. -/
def foldBackUptoRow : OpenClaim := { program := "ytjnfoocmilbdlaagreatdoor", sum := "6966f4361edb1d74344361366f3b49c0d078b9c3a6a7301ca4802bd1dde59ad1", func := "latiner/latinerlaw15.FoldBack", spec := "foldBack", inPlace := ["internal/bytealg.IndexByteString", "internal/bytealg.IndexString", "internal/reflectlite.ValueOf", "(internal/reflectlite.Value).Type", "(internal/reflectlite.Value).IsNil", "internal/reflectlite.TypeOf", "(internal/reflectlite.Value).Elem", "(internal/reflectlite.Value).Set", "internal/abi.NoEscape"], unfollowed := true, recurses := true, named := ["latiner/fold.errLarge", "internal/bytealg.MaxLen", "latiner/fold.errFold", "latiner/fold.errUrl", "errors.errorType", "latiner/fold.errItem", "unicode/utf8.first", "unicode/utf8.acceptRanges", "latiner/code.errCode"], apart := false, laid := [("unicode/utf8.acceptRanges", laid_unicode_utf8_acceptRanges), ("errors.errorType", laid_errors_errorType), ("latiner/code.errCode", laid_latiner_code_errCode), ("latiner/fold.errLarge", laid_latiner_fold_errLarge), ("latiner/fold.errFold", laid_latiner_fold_errFold), ("latiner/fold.errItem", laid_latiner_fold_errItem), ("latiner/fold.errUrl", laid_latiner_fold_errUrl), ("unicode/utf8.first", laid_unicode_utf8_first)], narrowed := true }
def FoldBackUptoSaid : Prop := foldBackUptoRow.holds Tryz.pinned (OpenSpec.upto foldBackSpec)

/-- 'latinerlaw15.FoldRead', WHERE WHAT IT READS IS OF BULK AT MOST 1048576: true; the input reads as it did. -/
def foldReadUptoRow : OpenClaim := { program := "ytjnfoocmilbdlaagreatdoor", sum := "6966f4361edb1d74344361366f3b49c0d078b9c3a6a7301ca4802bd1dde59ad1", func := "latiner/latinerlaw15.FoldRead", spec := "foldRead", inPlace := ["internal/bytealg.IndexByteString", "internal/bytealg.IndexString", "internal/reflectlite.ValueOf", "(internal/reflectlite.Value).Type", "(internal/reflectlite.Value).IsNil", "internal/reflectlite.TypeOf", "(internal/reflectlite.Value).Elem", "(internal/reflectlite.Value).Set", "internal/abi.NoEscape"], unfollowed := true, recurses := true, named := ["latiner/fold.errLarge", "internal/bytealg.MaxLen", "latiner/fold.errFold", "latiner/fold.errUrl", "errors.errorType", "latiner/fold.errItem", "unicode/utf8.first", "unicode/utf8.acceptRanges", "latiner/code.errCode"], apart := false, laid := [("unicode/utf8.acceptRanges", laid_unicode_utf8_acceptRanges), ("errors.errorType", laid_errors_errorType), ("latiner/code.errCode", laid_latiner_code_errCode), ("latiner/fold.errLarge", laid_latiner_fold_errLarge), ("latiner/fold.errFold", laid_latiner_fold_errFold), ("latiner/fold.errItem", laid_latiner_fold_errItem), ("latiner/fold.errUrl", laid_latiner_fold_errUrl), ("unicode/utf8.first", laid_unicode_utf8_first)], narrowed := true }
def FoldReadUptoSaid : Prop := foldReadUptoRow.holds Tryz.pinned (OpenSpec.upto foldReadSpec)

/-- 'latinerlaw15.FoldJoins', WHERE WHAT IT READS IS OF BULK AT MOST 1048576: true; the input reads as it did. -/
def foldJoinsUptoRow : OpenClaim := { program := "ytjnfoocmilbdlaagreatdoor", sum := "6966f4361edb1d74344361366f3b49c0d078b9c3a6a7301ca4802bd1dde59ad1", func := "latiner/latinerlaw15.FoldJoins", spec := "foldJoins", inPlace := ["internal/bytealg.IndexByteString", "internal/bytealg.IndexString", "internal/reflectlite.ValueOf", "(internal/reflectlite.Value).Type", "(internal/reflectlite.Value).IsNil", "internal/reflectlite.TypeOf", "(internal/reflectlite.Value).Elem", "(internal/reflectlite.Value).Set", "internal/abi.NoEscape"], unfollowed := true, recurses := true, named := ["latiner/fold.errLarge", "internal/bytealg.MaxLen", "latiner/fold.errFold", "latiner/fold.errUrl", "errors.errorType", "latiner/fold.errItem", "unicode/utf8.first", "unicode/utf8.acceptRanges", "latiner/code.errCode"], apart := false, laid := [("unicode/utf8.acceptRanges", laid_unicode_utf8_acceptRanges), ("errors.errorType", laid_errors_errorType), ("latiner/code.errCode", laid_latiner_code_errCode), ("latiner/fold.errLarge", laid_latiner_fold_errLarge), ("latiner/fold.errFold", laid_latiner_fold_errFold), ("latiner/fold.errItem", laid_latiner_fold_errItem), ("latiner/fold.errUrl", laid_latiner_fold_errUrl), ("unicode/utf8.first", laid_unicode_utf8_first)], narrowed := true }
def FoldJoinsUptoSaid : Prop := foldJoinsUptoRow.holds Tryz.pinned (OpenSpec.upto foldJoinsSpec)

/-- 'latinerlaw15.FoldReturns', WHERE WHAT IT READS IS OF BULK AT MOST 1048576: true; the input reads as it did. -/
def foldReturnsUptoRow : OpenClaim := { program := "ytjnfoocmilbdlaagreatdoor", sum := "6966f4361edb1d74344361366f3b49c0d078b9c3a6a7301ca4802bd1dde59ad1", func := "latiner/latinerlaw15.FoldReturns", spec := "foldReturns", inPlace := ["internal/bytealg.IndexByteString", "internal/bytealg.IndexString", "internal/reflectlite.ValueOf", "(internal/reflectlite.Value).Type", "(internal/reflectlite.Value).IsNil", "internal/reflectlite.TypeOf", "(internal/reflectlite.Value).Elem", "(internal/reflectlite.Value).Set", "internal/abi.NoEscape"], unfollowed := true, recurses := true, named := ["latiner/fold.errLarge", "internal/bytealg.MaxLen", "latiner/fold.errFold", "latiner/fold.errUrl", "errors.errorType", "latiner/fold.errItem", "unicode/utf8.first", "unicode/utf8.acceptRanges", "latiner/code.errCode"], apart := false, laid := [("unicode/utf8.acceptRanges", laid_unicode_utf8_acceptRanges), ("errors.errorType", laid_errors_errorType), ("latiner/code.errCode", laid_latiner_code_errCode), ("latiner/fold.errLarge", laid_latiner_fold_errLarge), ("latiner/fold.errFold", laid_latiner_fold_errFold), ("latiner/fold.errItem", laid_latiner_fold_errItem), ("latiner/fold.errUrl", laid_latiner_fold_errUrl), ("unicode/utf8.first", laid_unicode_utf8_first)], narrowed := true }
def FoldReturnsUptoSaid : Prop := foldReturnsUptoRow.holds Tryz.pinned (OpenSpec.upto foldReturnsSpec)

/-- 'latinerlaw15.FoldNotes', WHERE WHAT IT READS IS OF BULK AT MOST 1048576: true; the input reads as it did. -/
def foldNotesUptoRow : OpenClaim := { program := "ytjnfoocmilbdlaagreatdoor", sum := "6966f4361edb1d74344361366f3b49c0d078b9c3a6a7301ca4802bd1dde59ad1", func := "latiner/latinerlaw15.FoldNotes", spec := "foldNotes", inPlace := ["internal/bytealg.IndexByteString", "internal/bytealg.IndexString", "internal/reflectlite.ValueOf", "(internal/reflectlite.Value).Type", "(internal/reflectlite.Value).IsNil", "internal/reflectlite.TypeOf", "(internal/reflectlite.Value).Elem", "(internal/reflectlite.Value).Set", "internal/abi.NoEscape"], unfollowed := true, recurses := true, named := ["latiner/fold.errLarge", "internal/bytealg.MaxLen", "latiner/fold.errFold", "latiner/fold.errUrl", "errors.errorType", "latiner/fold.errItem", "unicode/utf8.first", "unicode/utf8.acceptRanges", "latiner/code.errCode"], apart := false, laid := [("unicode/utf8.acceptRanges", laid_unicode_utf8_acceptRanges), ("errors.errorType", laid_errors_errorType), ("latiner/code.errCode", laid_latiner_code_errCode), ("latiner/fold.errLarge", laid_latiner_fold_errLarge), ("latiner/fold.errFold", laid_latiner_fold_errFold), ("latiner/fold.errItem", laid_latiner_fold_errItem), ("latiner/fold.errUrl", laid_latiner_fold_errUrl), ("unicode/utf8.first", laid_unicode_utf8_first)], narrowed := true }
def FoldNotesUptoSaid : Prop := foldNotesUptoRow.holds Tryz.pinned (OpenSpec.upto foldNotesSpec)

/-- 'latinerlaw15.FoldBase', WHERE WHAT IT READS IS OF BULK AT MOST 1048576: true; the input reads as it did. -/
def foldBaseUptoRow : OpenClaim := { program := "ytjnfoocmilbdlaagreatdoor", sum := "6966f4361edb1d74344361366f3b49c0d078b9c3a6a7301ca4802bd1dde59ad1", func := "latiner/latinerlaw15.FoldBase", spec := "foldBase", inPlace := ["internal/bytealg.IndexByteString", "internal/bytealg.IndexString", "internal/reflectlite.ValueOf", "(internal/reflectlite.Value).Type", "(internal/reflectlite.Value).IsNil", "internal/reflectlite.TypeOf", "(internal/reflectlite.Value).Elem", "(internal/reflectlite.Value).Set", "internal/abi.NoEscape"], unfollowed := true, recurses := true, named := ["latiner/fold.errLarge", "internal/bytealg.MaxLen", "latiner/fold.errFold", "latiner/fold.errUrl", "errors.errorType", "latiner/fold.errItem", "unicode/utf8.first", "unicode/utf8.acceptRanges", "latiner/code.errCode"], apart := false, laid := [("unicode/utf8.acceptRanges", laid_unicode_utf8_acceptRanges), ("errors.errorType", laid_errors_errorType), ("latiner/code.errCode", laid_latiner_code_errCode), ("latiner/fold.errLarge", laid_latiner_fold_errLarge), ("latiner/fold.errFold", laid_latiner_fold_errFold), ("latiner/fold.errItem", laid_latiner_fold_errItem), ("latiner/fold.errUrl", laid_latiner_fold_errUrl), ("unicode/utf8.first", laid_unicode_utf8_first)], narrowed := true }
def FoldBaseUptoSaid : Prop := foldBaseUptoRow.holds Tryz.pinned (OpenSpec.upto foldBaseSpec)

end Rows
end Go.Proofs.YtjnfoocmilbdlaaGreatDoor
