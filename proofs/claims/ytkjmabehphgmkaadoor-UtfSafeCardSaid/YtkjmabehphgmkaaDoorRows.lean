/-
  NARROWER THAN 'FOR EVERY INPUT', by the rows' own cells (each row's printed sentence says how): UtfTells: laid · UtfBack: laid · UtfBad: laid · UtfJoins: laid · UtfSafe: laid · UtfSizes: laid · UtfLong: laid.
  DERIVED. THE GIVEN ROWS OF THIS SEAT. 7 by the template 'for every input the law returns true; each argument reads behind the call as it read before'; 0 by the template 'total and deterministic' (their statements: YtkjmabehphgmkaaDoorTotals.lean).
  GIVEN WITH THE SEED: the statements are not yours to turn. If you find one false, say at which input.
  Laid BY PROGRAM, IN A SANDBOX (cutbox-rows.mjs): the forced cells as the released guide's own fill.sh prints them over the translation 325ab9e24b5a3fab… (all of the seat's roots in one cut). By AI agents, Wed Nov 11 2026. No macro, syntax, notation, axiom, sorry.
-/
import Derived.Test.YtkjmabehphgmkaaDoorChecked
import GoSem.PinnedTables
import GoSem.Claim
import GoSem.ClaimJoined
import GoSem.ClaimMapViews
import Derived.JoinedTies
import Derived.KernelRfl
namespace Go.Proofs.YtkjmabehphgmkaaDoor
/- THE CELL 'sum', in the pinned program and in every row, IS THE sha256 OF THE DUMP (.gsa) THAT YtkjmabehphgmkaaDoorProg.lean LOADS. Nothing in Lean hashes anything: it is a label: what it is worth is what the hold of that sum in a sandbox is worth. -/
noncomputable def Tryd.pinned : Pinned := { name := "ytkjmabehphgmkaadoor", sum := "325ab9e24b5a3fabe1797c822d5d70679613fdb0bcc4ec320a6add1d6b18d1e0", checked := Tryd.checked }
namespace Rows
def none {H : Type} : Left H := { results := [], args := [] }

/- WHAT THE LISTED PACKAGE-LEVEL VARIABLES READ AS WHEN THE CALL BEGINS. Each datum BY PROGRAM (the guide's laid-datum.mjs) off the statement by which the dump's own 'gosem.cut.vars' lays the variable. In a bare row this is a premise. The card (YtkjmabehphgmkaaDoorCards.lean) ties it to the program's text. -/
def laid_unicode_utf8_acceptRanges {H : Type} : DataW H := .agg [.agg [.lit (.int .u8 128), .lit (.int .u8 191)], .agg [.lit (.int .u8 160), .lit (.int .u8 191)], .agg [.lit (.int .u8 128), .lit (.int .u8 159)], .agg [.lit (.int .u8 144), .lit (.int .u8 191)], .agg [.lit (.int .u8 128), .lit (.int .u8 143)], .agg [.lit (.int .u8 0), .lit (.int .u8 0)], .agg [.lit (.int .u8 0), .lit (.int .u8 0)], .agg [.lit (.int .u8 0), .lit (.int .u8 0)], .agg [.lit (.int .u8 0), .lit (.int .u8 0)], .agg [.lit (.int .u8 0), .lit (.int .u8 0)], .agg [.lit (.int .u8 0), .lit (.int .u8 0)], .agg [.lit (.int .u8 0), .lit (.int .u8 0)], .agg [.lit (.int .u8 0), .lit (.int .u8 0)], .agg [.lit (.int .u8 0), .lit (.int .u8 0)], .agg [.lit (.int .u8 0), .lit (.int .u8 0)], .agg [.lit (.int .u8 0), .lit (.int .u8 0)]]
def laid_errors_errorType {H : Type} : DataW H := .iface "internal/reflectlite.rtype" (.agg [.ptr (.lit (.string [101, 114, 114, 111, 114]))])
def laid_latiner_utf_errUtf {H : Type} : DataW H := .iface "*errors.errorString" (.ptr (.agg [.lit (.string [110, 111, 32, 116, 101, 120, 116])]))
/-- One of Go's own tables, pinned by name: the form's constant. -/
def laid_unicode_utf8_first : DataW Unit := Go.Pinned.utf8First

/-- 'latinerlaw04.UtfTells': WHATEVER THE INPUT: true; the input reads as it did. -/
def utfTellsSpec : ChangeSpec := { name := "utfTells", fn := fun _ => fun
  | [d1, d2] => { results := [.lit (.bool true)], args := [d1, d2] }
  | _ => none }
def utfTellsRow : OpenClaim := { program := "ytkjmabehphgmkaadoor", sum := "325ab9e24b5a3fabe1797c822d5d70679613fdb0bcc4ec320a6add1d6b18d1e0", func := "latiner/latinerlaw04.UtfTells", spec := "utfTells", inPlace := ["internal/reflectlite.TypeOf", "internal/abi.NoEscape", "internal/reflectlite.ValueOf", "(internal/reflectlite.Value).Type", "(internal/reflectlite.Value).IsNil", "(internal/reflectlite.Value).Elem", "(internal/reflectlite.Value).Set"], unfollowed := true, recurses := true, named := ["unicode/utf8.first", "unicode/utf8.acceptRanges", "latiner/utf.errUtf", "errors.errorType"], apart := false, laid := [("unicode/utf8.acceptRanges", laid_unicode_utf8_acceptRanges), ("errors.errorType", laid_errors_errorType), ("latiner/utf.errUtf", laid_latiner_utf_errUtf), ("unicode/utf8.first", laid_unicode_utf8_first)] }
def UtfTellsSaid : Prop := utfTellsRow.holds Tryd.pinned (OpenSpec.ofChange utfTellsSpec)

/-- ITS FALSE NEIGHBOUR: 'it returns false'. Refute it at one input. -/
def utfTellsWrong : ChangeSpec := { name := "utfTells", fn := fun _ => fun
  | [d1, d2] => { results := [.lit (.bool false)], args := [d1, d2] }
  | _ => none }
def UtfTellsWrongFalsely : Prop := utfTellsRow.holds Tryd.pinned (OpenSpec.ofChange utfTellsWrong)

/-- 'latinerlaw04.UtfBack': WHATEVER THE INPUT: true; the input reads as it did. -/
def utfBackSpec : ChangeSpec := { name := "utfBack", fn := fun _ => fun
  | [d1, d2] => { results := [.lit (.bool true)], args := [d1, d2] }
  | _ => none }
def utfBackRow : OpenClaim := { program := "ytkjmabehphgmkaadoor", sum := "325ab9e24b5a3fabe1797c822d5d70679613fdb0bcc4ec320a6add1d6b18d1e0", func := "latiner/latinerlaw04.UtfBack", spec := "utfBack", inPlace := ["internal/reflectlite.TypeOf", "internal/abi.NoEscape", "internal/reflectlite.ValueOf", "(internal/reflectlite.Value).Type", "(internal/reflectlite.Value).IsNil", "(internal/reflectlite.Value).Elem", "(internal/reflectlite.Value).Set"], unfollowed := true, recurses := true, named := ["unicode/utf8.first", "unicode/utf8.acceptRanges", "latiner/utf.errUtf", "errors.errorType"], apart := false, laid := [("unicode/utf8.acceptRanges", laid_unicode_utf8_acceptRanges), ("errors.errorType", laid_errors_errorType), ("latiner/utf.errUtf", laid_latiner_utf_errUtf), ("unicode/utf8.first", laid_unicode_utf8_first)] }
def UtfBackSaid : Prop := utfBackRow.holds Tryd.pinned (OpenSpec.ofChange utfBackSpec)

/-- ITS FALSE NEIGHBOUR: 'it returns false'. Refute it at one input. -/
def utfBackWrong : ChangeSpec := { name := "utfBack", fn := fun _ => fun
  | [d1, d2] => { results := [.lit (.bool false)], args := [d1, d2] }
  | _ => none }
def UtfBackWrongFalsely : Prop := utfBackRow.holds Tryd.pinned (OpenSpec.ofChange utfBackWrong)

/-- 'latinerlaw04.UtfBad': WHATEVER THE INPUT: true; the input reads as it did. -/
def utfBadSpec : ChangeSpec := { name := "utfBad", fn := fun _ => fun
  | [d1, d2] => { results := [.lit (.bool true)], args := [d1, d2] }
  | _ => none }
def utfBadRow : OpenClaim := { program := "ytkjmabehphgmkaadoor", sum := "325ab9e24b5a3fabe1797c822d5d70679613fdb0bcc4ec320a6add1d6b18d1e0", func := "latiner/latinerlaw04.UtfBad", spec := "utfBad", inPlace := ["internal/reflectlite.TypeOf", "internal/abi.NoEscape", "internal/reflectlite.ValueOf", "(internal/reflectlite.Value).Type", "(internal/reflectlite.Value).IsNil", "(internal/reflectlite.Value).Elem", "(internal/reflectlite.Value).Set"], unfollowed := true, recurses := true, named := ["unicode/utf8.first", "unicode/utf8.acceptRanges", "latiner/utf.errUtf", "errors.errorType"], apart := false, laid := [("unicode/utf8.acceptRanges", laid_unicode_utf8_acceptRanges), ("errors.errorType", laid_errors_errorType), ("latiner/utf.errUtf", laid_latiner_utf_errUtf), ("unicode/utf8.first", laid_unicode_utf8_first)] }
def UtfBadSaid : Prop := utfBadRow.holds Tryd.pinned (OpenSpec.ofChange utfBadSpec)

/-- ITS FALSE NEIGHBOUR: 'it returns false'. Refute it at one input. -/
def utfBadWrong : ChangeSpec := { name := "utfBad", fn := fun _ => fun
  | [d1, d2] => { results := [.lit (.bool false)], args := [d1, d2] }
  | _ => none }
def UtfBadWrongFalsely : Prop := utfBadRow.holds Tryd.pinned (OpenSpec.ofChange utfBadWrong)

/-- 'latinerlaw04.UtfJoins': WHATEVER THE INPUT: true; the input reads as it did. -/
def utfJoinsSpec : ChangeSpec := { name := "utfJoins", fn := fun _ => fun
  | [d1, d2] => { results := [.lit (.bool true)], args := [d1, d2] }
  | _ => none }
def utfJoinsRow : OpenClaim := { program := "ytkjmabehphgmkaadoor", sum := "325ab9e24b5a3fabe1797c822d5d70679613fdb0bcc4ec320a6add1d6b18d1e0", func := "latiner/latinerlaw04.UtfJoins", spec := "utfJoins", inPlace := ["internal/reflectlite.TypeOf", "internal/abi.NoEscape", "internal/reflectlite.ValueOf", "(internal/reflectlite.Value).Type", "(internal/reflectlite.Value).IsNil", "(internal/reflectlite.Value).Elem", "(internal/reflectlite.Value).Set"], unfollowed := true, recurses := true, named := ["unicode/utf8.first", "unicode/utf8.acceptRanges", "latiner/utf.errUtf", "errors.errorType"], apart := false, laid := [("unicode/utf8.acceptRanges", laid_unicode_utf8_acceptRanges), ("errors.errorType", laid_errors_errorType), ("latiner/utf.errUtf", laid_latiner_utf_errUtf), ("unicode/utf8.first", laid_unicode_utf8_first)] }
def UtfJoinsSaid : Prop := utfJoinsRow.holds Tryd.pinned (OpenSpec.ofChange utfJoinsSpec)

/-- ITS FALSE NEIGHBOUR: 'it returns false'. Refute it at one input. -/
def utfJoinsWrong : ChangeSpec := { name := "utfJoins", fn := fun _ => fun
  | [d1, d2] => { results := [.lit (.bool false)], args := [d1, d2] }
  | _ => none }
def UtfJoinsWrongFalsely : Prop := utfJoinsRow.holds Tryd.pinned (OpenSpec.ofChange utfJoinsWrong)

/-- 'latinerlaw04.UtfSafe': WHATEVER THE INPUT: true; the input reads as it did. -/
def utfSafeSpec : ChangeSpec := { name := "utfSafe", fn := fun _ => fun
  | [d] => { results := [.lit (.bool true)], args := [d] }
  | _ => none }
def utfSafeRow : OpenClaim := { program := "ytkjmabehphgmkaadoor", sum := "325ab9e24b5a3fabe1797c822d5d70679613fdb0bcc4ec320a6add1d6b18d1e0", func := "latiner/latinerlaw04.UtfSafe", spec := "utfSafe", inPlace := ["internal/reflectlite.TypeOf", "internal/abi.NoEscape", "internal/reflectlite.ValueOf", "(internal/reflectlite.Value).Type", "(internal/reflectlite.Value).IsNil", "(internal/reflectlite.Value).Elem", "(internal/reflectlite.Value).Set"], unfollowed := true, recurses := true, named := ["unicode/utf8.first", "unicode/utf8.acceptRanges", "latiner/utf.errUtf", "errors.errorType"], apart := false, laid := [("unicode/utf8.acceptRanges", laid_unicode_utf8_acceptRanges), ("errors.errorType", laid_errors_errorType), ("latiner/utf.errUtf", laid_latiner_utf_errUtf), ("unicode/utf8.first", laid_unicode_utf8_first)] }
def UtfSafeSaid : Prop := utfSafeRow.holds Tryd.pinned (OpenSpec.ofChange utfSafeSpec)

/-- ITS FALSE NEIGHBOUR: 'it returns false'. Refute it at one input. -/
def utfSafeWrong : ChangeSpec := { name := "utfSafe", fn := fun _ => fun
  | [d] => { results := [.lit (.bool false)], args := [d] }
  | _ => none }
def UtfSafeWrongFalsely : Prop := utfSafeRow.holds Tryd.pinned (OpenSpec.ofChange utfSafeWrong)

/-- 'latinerlaw04.UtfSizes': WHATEVER THE INPUT: true; the input reads as it did. -/
def utfSizesSpec : ChangeSpec := { name := "utfSizes", fn := fun _ => fun
  | [d] => { results := [.lit (.bool true)], args := [d] }
  | _ => none }
def utfSizesRow : OpenClaim := { program := "ytkjmabehphgmkaadoor", sum := "325ab9e24b5a3fabe1797c822d5d70679613fdb0bcc4ec320a6add1d6b18d1e0", func := "latiner/latinerlaw04.UtfSizes", spec := "utfSizes", inPlace := ["internal/reflectlite.TypeOf", "internal/abi.NoEscape", "internal/reflectlite.ValueOf", "(internal/reflectlite.Value).Type", "(internal/reflectlite.Value).IsNil", "(internal/reflectlite.Value).Elem", "(internal/reflectlite.Value).Set"], unfollowed := true, recurses := true, named := ["unicode/utf8.first", "unicode/utf8.acceptRanges", "latiner/utf.errUtf", "errors.errorType"], apart := false, laid := [("unicode/utf8.acceptRanges", laid_unicode_utf8_acceptRanges), ("errors.errorType", laid_errors_errorType), ("latiner/utf.errUtf", laid_latiner_utf_errUtf), ("unicode/utf8.first", laid_unicode_utf8_first)] }
def UtfSizesSaid : Prop := utfSizesRow.holds Tryd.pinned (OpenSpec.ofChange utfSizesSpec)

/-- ITS FALSE NEIGHBOUR: 'it returns false'. Refute it at one input. -/
def utfSizesWrong : ChangeSpec := { name := "utfSizes", fn := fun _ => fun
  | [d] => { results := [.lit (.bool false)], args := [d] }
  | _ => none }
def UtfSizesWrongFalsely : Prop := utfSizesRow.holds Tryd.pinned (OpenSpec.ofChange utfSizesWrong)

/-- 'latinerlaw04.UtfLong': WHATEVER THE INPUT: true; the input reads as it did. -/
def utfLongSpec : ChangeSpec := { name := "utfLong", fn := fun _ => fun
  | [d] => { results := [.lit (.bool true)], args := [d] }
  | _ => none }
def utfLongRow : OpenClaim := { program := "ytkjmabehphgmkaadoor", sum := "325ab9e24b5a3fabe1797c822d5d70679613fdb0bcc4ec320a6add1d6b18d1e0", func := "latiner/latinerlaw04.UtfLong", spec := "utfLong", inPlace := ["internal/reflectlite.TypeOf", "internal/abi.NoEscape", "internal/reflectlite.ValueOf", "(internal/reflectlite.Value).Type", "(internal/reflectlite.Value).IsNil", "(internal/reflectlite.Value).Elem", "(internal/reflectlite.Value).Set"], unfollowed := true, recurses := true, named := ["unicode/utf8.first", "unicode/utf8.acceptRanges", "latiner/utf.errUtf", "errors.errorType"], apart := false, laid := [("unicode/utf8.acceptRanges", laid_unicode_utf8_acceptRanges), ("errors.errorType", laid_errors_errorType), ("latiner/utf.errUtf", laid_latiner_utf_errUtf), ("unicode/utf8.first", laid_unicode_utf8_first)] }
def UtfLongSaid : Prop := utfLongRow.holds Tryd.pinned (OpenSpec.ofChange utfLongSpec)

/-- ITS FALSE NEIGHBOUR: 'it returns false'. Refute it at one input. -/
def utfLongWrong : ChangeSpec := { name := "utfLong", fn := fun _ => fun
  | [d] => { results := [.lit (.bool false)], args := [d] }
  | _ => none }
def UtfLongWrongFalsely : Prop := utfLongRow.holds Tryd.pinned (OpenSpec.ofChange utfLongWrong)

/- THE SECOND FORM. 'bulk': how many values and letters a reading holds, each counted each time it is reached (what is shared counts as often as it is met; a slice's spare places count too). A statement '..UptoSaid' is the law's where the arguments, and the package variables that the reading takes, are together of bulk at most 1048576: NARROWER than '..Said'. Prove '..Said' where nothing that the law and all that it calls make is longer than what came in: it says more and counts as full. Else prove '..UptoSaid'. A law counts once. -/
mutual
def uptoBulk {H : Type} : DataW H → Nat
  | .lit (.string bytes) => bytes.length + 1
  | .lit _ => 1
  | .nil => 1
  | .ptr d => uptoBulk d + 1
  | .slice elems spare => uptoBulkAll elems + uptoBulkAll spare + 1
  | .agg parts => uptoBulkAll parts + 1
  | .iface _ d => uptoBulk d + 1
  | .map entries => uptoBulkEntries entries + 1
  | .held _ => 1
def uptoBulkAll {H : Type} : List (DataW H) → Nat
  | [] => 0
  | d :: r => uptoBulk d + uptoBulkAll r
def uptoBulkEntries {H : Type} : List (Lit × DataW H) → Nat
  | [] => 0
  | x :: r => uptoBulkEntry x + uptoBulkEntries r
def uptoBulkEntry {H : Type} : Lit × DataW H → Nat
  | (.string bytes, d) => bytes.length + uptoBulk d + 1
  | (_, d) => uptoBulk d + 1
 end
def uptoSmall : (H : Type) → List (DataW H) → Bool := fun _ ds => decide (uptoBulkAll ds ≤ 1048576)
def OpenSpec.upto (s : _root_.Go.ChangeSpec) : _root_.Go.OpenSpec := { _root_.Go.OpenSpec.ofChange s with cond := some uptoSmall }

/-- 'latinerlaw04.UtfTells', WHERE WHAT IT READS IS OF BULK AT MOST 1048576: true; the input reads as it did. -/
def utfTellsUptoRow : OpenClaim := { program := "ytkjmabehphgmkaadoor", sum := "325ab9e24b5a3fabe1797c822d5d70679613fdb0bcc4ec320a6add1d6b18d1e0", func := "latiner/latinerlaw04.UtfTells", spec := "utfTells", inPlace := ["internal/reflectlite.TypeOf", "internal/abi.NoEscape", "internal/reflectlite.ValueOf", "(internal/reflectlite.Value).Type", "(internal/reflectlite.Value).IsNil", "(internal/reflectlite.Value).Elem", "(internal/reflectlite.Value).Set"], unfollowed := true, recurses := true, named := ["unicode/utf8.first", "unicode/utf8.acceptRanges", "latiner/utf.errUtf", "errors.errorType"], apart := false, laid := [("unicode/utf8.acceptRanges", laid_unicode_utf8_acceptRanges), ("errors.errorType", laid_errors_errorType), ("latiner/utf.errUtf", laid_latiner_utf_errUtf), ("unicode/utf8.first", laid_unicode_utf8_first)], narrowed := true }
def UtfTellsUptoSaid : Prop := utfTellsUptoRow.holds Tryd.pinned (OpenSpec.upto utfTellsSpec)

/-- 'latinerlaw04.UtfBack', WHERE WHAT IT READS IS OF BULK AT MOST 1048576: true; the input reads as it did. -/
def utfBackUptoRow : OpenClaim := { program := "ytkjmabehphgmkaadoor", sum := "325ab9e24b5a3fabe1797c822d5d70679613fdb0bcc4ec320a6add1d6b18d1e0", func := "latiner/latinerlaw04.UtfBack", spec := "utfBack", inPlace := ["internal/reflectlite.TypeOf", "internal/abi.NoEscape", "internal/reflectlite.ValueOf", "(internal/reflectlite.Value).Type", "(internal/reflectlite.Value).IsNil", "(internal/reflectlite.Value).Elem", "(internal/reflectlite.Value).Set"], unfollowed := true, recurses := true, named := ["unicode/utf8.first", "unicode/utf8.acceptRanges", "latiner/utf.errUtf", "errors.errorType"], apart := false, laid := [("unicode/utf8.acceptRanges", laid_unicode_utf8_acceptRanges), ("errors.errorType", laid_errors_errorType), ("latiner/utf.errUtf", laid_latiner_utf_errUtf), ("unicode/utf8.first", laid_unicode_utf8_first)], narrowed := true }
def UtfBackUptoSaid : Prop := utfBackUptoRow.holds Tryd.pinned (OpenSpec.upto utfBackSpec)

/-- 'latinerlaw04.UtfBad', WHERE WHAT IT READS IS OF BULK AT MOST 1048576: true; the input reads as it did. -/
def utfBadUptoRow : OpenClaim := { program := "ytkjmabehphgmkaadoor", sum := "325ab9e24b5a3fabe1797c822d5d70679613fdb0bcc4ec320a6add1d6b18d1e0", func := "latiner/latinerlaw04.UtfBad", spec := "utfBad", inPlace := ["internal/reflectlite.TypeOf", "internal/abi.NoEscape", "internal/reflectlite.ValueOf", "(internal/reflectlite.Value).Type", "(internal/reflectlite.Value).IsNil", "(internal/reflectlite.Value).Elem", "(internal/reflectlite.Value).Set"], unfollowed := true, recurses := true, named := ["unicode/utf8.first", "unicode/utf8.acceptRanges", "latiner/utf.errUtf", "errors.errorType"], apart := false, laid := [("unicode/utf8.acceptRanges", laid_unicode_utf8_acceptRanges), ("errors.errorType", laid_errors_errorType), ("latiner/utf.errUtf", laid_latiner_utf_errUtf), ("unicode/utf8.first", laid_unicode_utf8_first)], narrowed := true }
def UtfBadUptoSaid : Prop := utfBadUptoRow.holds Tryd.pinned (OpenSpec.upto utfBadSpec)

/-- 'latinerlaw04.UtfJoins', WHERE WHAT IT READS IS OF BULK AT MOST 1048576: true; the input reads as it did. -/
def utfJoinsUptoRow : OpenClaim := { program := "ytkjmabehphgmkaadoor", sum := "325ab9e24b5a3fabe1797c822d5d70679613fdb0bcc4ec320a6add1d6b18d1e0", func := "latiner/latinerlaw04.UtfJoins", spec := "utfJoins", inPlace := ["internal/reflectlite.TypeOf", "internal/abi.NoEscape", "internal/reflectlite.ValueOf", "(internal/reflectlite.Value).Type", "(internal/reflectlite.Value).IsNil", "(internal/reflectlite.Value).Elem", "(internal/reflectlite.Value).Set"], unfollowed := true, recurses := true, named := ["unicode/utf8.first", "unicode/utf8.acceptRanges", "latiner/utf.errUtf", "errors.errorType"], apart := false, laid := [("unicode/utf8.acceptRanges", laid_unicode_utf8_acceptRanges), ("errors.errorType", laid_errors_errorType), ("latiner/utf.errUtf", laid_latiner_utf_errUtf), ("unicode/utf8.first", laid_unicode_utf8_first)], narrowed := true }
def UtfJoinsUptoSaid : Prop := utfJoinsUptoRow.holds Tryd.pinned (OpenSpec.upto utfJoinsSpec)

/-- 'latinerlaw04.UtfSafe', WHERE WHAT IT READS IS OF BULK AT MOST 1048576: true; the input reads as it did. -/
def utfSafeUptoRow : OpenClaim := { program := "ytkjmabehphgmkaadoor", sum := "325ab9e24b5a3fabe1797c822d5d70679613fdb0bcc4ec320a6add1d6b18d1e0", func := "latiner/latinerlaw04.UtfSafe", spec := "utfSafe", inPlace := ["internal/reflectlite.TypeOf", "internal/abi.NoEscape", "internal/reflectlite.ValueOf", "(internal/reflectlite.Value).Type", "(internal/reflectlite.Value).IsNil", "(internal/reflectlite.Value).Elem", "(internal/reflectlite.Value).Set"], unfollowed := true, recurses := true, named := ["unicode/utf8.first", "unicode/utf8.acceptRanges", "latiner/utf.errUtf", "errors.errorType"], apart := false, laid := [("unicode/utf8.acceptRanges", laid_unicode_utf8_acceptRanges), ("errors.errorType", laid_errors_errorType), ("latiner/utf.errUtf", laid_latiner_utf_errUtf), ("unicode/utf8.first", laid_unicode_utf8_first)], narrowed := true }
def UtfSafeUptoSaid : Prop := utfSafeUptoRow.holds Tryd.pinned (OpenSpec.upto utfSafeSpec)

/-- 'latinerlaw04.UtfSizes', WHERE WHAT IT READS IS OF BULK AT MOST 1048576: true; the input reads as it did. -/
def utfSizesUptoRow : OpenClaim := { program := "ytkjmabehphgmkaadoor", sum := "325ab9e24b5a3fabe1797c822d5d70679613fdb0bcc4ec320a6add1d6b18d1e0", func := "latiner/latinerlaw04.UtfSizes", spec := "utfSizes", inPlace := ["internal/reflectlite.TypeOf", "internal/abi.NoEscape", "internal/reflectlite.ValueOf", "(internal/reflectlite.Value).Type", "(internal/reflectlite.Value).IsNil", "(internal/reflectlite.Value).Elem", "(internal/reflectlite.Value).Set"], unfollowed := true, recurses := true, named := ["unicode/utf8.first", "unicode/utf8.acceptRanges", "latiner/utf.errUtf", "errors.errorType"], apart := false, laid := [("unicode/utf8.acceptRanges", laid_unicode_utf8_acceptRanges), ("errors.errorType", laid_errors_errorType), ("latiner/utf.errUtf", laid_latiner_utf_errUtf), ("unicode/utf8.first", laid_unicode_utf8_first)], narrowed := true }
def UtfSizesUptoSaid : Prop := utfSizesUptoRow.holds Tryd.pinned (OpenSpec.upto utfSizesSpec)

/-- 'latinerlaw04.UtfLong', WHERE WHAT IT READS IS OF BULK AT MOST 1048576: true; the input reads as it did. -/
def utfLongUptoRow : OpenClaim := { program := "ytkjmabehphgmkaadoor", sum := "325ab9e24b5a3fabe1797c822d5d70679613fdb0bcc4ec320a6add1d6b18d1e0", func := "latiner/latinerlaw04.UtfLong", spec := "utfLong", inPlace := ["internal/reflectlite.TypeOf", "internal/abi.NoEscape", "internal/reflectlite.ValueOf", "(internal/reflectlite.Value).Type", "(internal/reflectlite.Value).IsNil", "(internal/reflectlite.Value).Elem", "(internal/reflectlite.Value).Set"], unfollowed := true, recurses := true, named := ["unicode/utf8.first", "unicode/utf8.acceptRanges", "latiner/utf.errUtf", "errors.errorType"], apart := false, laid := [("unicode/utf8.acceptRanges", laid_unicode_utf8_acceptRanges), ("errors.errorType", laid_errors_errorType), ("latiner/utf.errUtf", laid_latiner_utf_errUtf), ("unicode/utf8.first", laid_unicode_utf8_first)], narrowed := true }
def UtfLongUptoSaid : Prop := utfLongUptoRow.holds Tryd.pinned (OpenSpec.upto utfLongSpec)

end Rows
end Go.Proofs.YtkjmabehphgmkaaDoor
