/-
  NARROWER THAN 'FOR EVERY INPUT', by the rows' own cells (each row's printed sentence says how): EscTells: laid · EscBack: laid · EscAgain: laid · EscJoins: laid · EscApart: laid · EscPlain: laid.
  DERIVED. THE GIVEN ROWS OF THIS SEAT. 6 by the template 'for every input the law returns true; each argument reads behind the call as it read before'; 0 by the template 'total and deterministic' (their statements: YtbpcoieemkojjaaDoorTotals.lean).
  GIVEN WITH THE SEED: the statements are not yours to turn. If you find one false, say at which input.
  Laid BY PROGRAM, IN A SANDBOX (cutbox-rows.mjs): the forced cells as the released guide's own fill.sh prints them over the translation 1663756fecb1d801… (all of the seat's roots in one cut). By AI agents, Wed Nov 11 2026. No macro, syntax, notation, axiom, sorry.
-/
import Derived.Test.YtbpcoieemkojjaaDoorChecked
import GoSem.PinnedTables
import GoSem.Claim
import GoSem.ClaimJoined
import GoSem.ClaimMapViews
import Derived.JoinedTies
import Derived.KernelRfl
namespace Go.Proofs.YtbpcoieemkojjaaDoor
/- THE CELL 'sum', in the pinned program and in every row, IS THE sha256 OF THE DUMP (.gsa) THAT YtbpcoieemkojjaaDoorProg.lean LOADS. Nothing in Lean hashes anything: it is a label: what it is worth is what the hold of that sum in a sandbox is worth. -/
noncomputable def Tryd.pinned : Pinned := { name := "ytbpcoieemkojjaadoor", sum := "1663756fecb1d80125e2fd1a7e7bd1f00ec6b958f3af0ba1741ad3ac8dc6850c", checked := Tryd.checked }
namespace Rows
def none {H : Type} : Left H := { results := [], args := [] }

/- WHAT THE LISTED PACKAGE-LEVEL VARIABLES READ AS WHEN THE CALL BEGINS. Each datum BY PROGRAM (the guide's laid-datum.mjs) off the statement by which the dump's own 'gosem.cut.vars' lays the variable. In a bare row this is a premise. The card (YtbpcoieemkojjaaDoorCards.lean) ties it to the program's text. -/
def laid_unicode_utf8_acceptRanges {H : Type} : DataW H := .agg [.agg [.lit (.int .u8 128), .lit (.int .u8 191)], .agg [.lit (.int .u8 160), .lit (.int .u8 191)], .agg [.lit (.int .u8 128), .lit (.int .u8 159)], .agg [.lit (.int .u8 144), .lit (.int .u8 191)], .agg [.lit (.int .u8 128), .lit (.int .u8 143)], .agg [.lit (.int .u8 0), .lit (.int .u8 0)], .agg [.lit (.int .u8 0), .lit (.int .u8 0)], .agg [.lit (.int .u8 0), .lit (.int .u8 0)], .agg [.lit (.int .u8 0), .lit (.int .u8 0)], .agg [.lit (.int .u8 0), .lit (.int .u8 0)], .agg [.lit (.int .u8 0), .lit (.int .u8 0)], .agg [.lit (.int .u8 0), .lit (.int .u8 0)], .agg [.lit (.int .u8 0), .lit (.int .u8 0)], .agg [.lit (.int .u8 0), .lit (.int .u8 0)], .agg [.lit (.int .u8 0), .lit (.int .u8 0)], .agg [.lit (.int .u8 0), .lit (.int .u8 0)]]
def laid_errors_errorType {H : Type} : DataW H := .iface "internal/reflectlite.rtype" (.agg [.ptr (.lit (.string [101, 114, 114, 111, 114]))])
def laid_latiner_code_errCode {H : Type} : DataW H := .iface "*errors.errorString" (.ptr (.agg [.lit (.string [110, 111, 32, 99, 111, 100, 101])]))
def laid_latiner_esc_errEscape {H : Type} : DataW H := .iface "*errors.errorString" (.ptr (.agg [.lit (.string [110, 111, 32, 118, 97, 108, 117, 101])]))
/-- One of Go's own tables, pinned by name: the form's constant. -/
def laid_unicode_utf8_first : DataW Unit := Go.Pinned.utf8First

/-- 'latinerlaw06.EscTells': WHATEVER THE INPUT: true; the input reads as it did. -/
def escTellsSpec : ChangeSpec := { name := "escTells", fn := fun _ => fun
  | [d] => { results := [.lit (.bool true)], args := [d] }
  | _ => none }
def escTellsRow : OpenClaim := { program := "ytbpcoieemkojjaadoor", sum := "1663756fecb1d80125e2fd1a7e7bd1f00ec6b958f3af0ba1741ad3ac8dc6850c", func := "latiner/latinerlaw06.EscTells", spec := "escTells", inPlace := ["internal/bytealg.IndexByteString", "internal/bytealg.IndexString", "internal/reflectlite.TypeOf", "internal/reflectlite.ValueOf", "(internal/reflectlite.Value).Type", "(internal/reflectlite.Value).IsNil", "(internal/reflectlite.Value).Elem", "(internal/reflectlite.Value).Set", "internal/abi.NoEscape"], unfollowed := true, recurses := true, named := ["unicode/utf8.first", "unicode/utf8.acceptRanges", "latiner/code.errCode", "errors.errorType", "latiner/esc.errEscape", "internal/bytealg.MaxLen"], apart := false, laid := [("unicode/utf8.acceptRanges", laid_unicode_utf8_acceptRanges), ("errors.errorType", laid_errors_errorType), ("latiner/code.errCode", laid_latiner_code_errCode), ("latiner/esc.errEscape", laid_latiner_esc_errEscape), ("unicode/utf8.first", laid_unicode_utf8_first)] }
def EscTellsSaid : Prop := escTellsRow.holds Tryd.pinned (OpenSpec.ofChange escTellsSpec)

/-- ITS FALSE NEIGHBOUR: 'it returns false'. Refute it at one input. -/
def escTellsWrong : ChangeSpec := { name := "escTells", fn := fun _ => fun
  | [d] => { results := [.lit (.bool false)], args := [d] }
  | _ => none }
def EscTellsWrongFalsely : Prop := escTellsRow.holds Tryd.pinned (OpenSpec.ofChange escTellsWrong)

/-- 'latinerlaw06.EscBack': WHATEVER THE INPUT: true; the input reads as it did. -/
def escBackSpec : ChangeSpec := { name := "escBack", fn := fun _ => fun
  | [d] => { results := [.lit (.bool true)], args := [d] }
  | _ => none }
def escBackRow : OpenClaim := { program := "ytbpcoieemkojjaadoor", sum := "1663756fecb1d80125e2fd1a7e7bd1f00ec6b958f3af0ba1741ad3ac8dc6850c", func := "latiner/latinerlaw06.EscBack", spec := "escBack", inPlace := ["internal/bytealg.IndexByteString", "internal/bytealg.IndexString", "internal/reflectlite.TypeOf", "internal/reflectlite.ValueOf", "(internal/reflectlite.Value).Type", "(internal/reflectlite.Value).IsNil", "(internal/reflectlite.Value).Elem", "(internal/reflectlite.Value).Set", "internal/abi.NoEscape"], unfollowed := true, recurses := true, named := ["unicode/utf8.first", "unicode/utf8.acceptRanges", "latiner/code.errCode", "errors.errorType", "latiner/esc.errEscape", "internal/bytealg.MaxLen"], apart := false, laid := [("unicode/utf8.acceptRanges", laid_unicode_utf8_acceptRanges), ("errors.errorType", laid_errors_errorType), ("latiner/code.errCode", laid_latiner_code_errCode), ("latiner/esc.errEscape", laid_latiner_esc_errEscape), ("unicode/utf8.first", laid_unicode_utf8_first)] }
def EscBackSaid : Prop := escBackRow.holds Tryd.pinned (OpenSpec.ofChange escBackSpec)

/-- ITS FALSE NEIGHBOUR: 'it returns false'. Refute it at one input. -/
def escBackWrong : ChangeSpec := { name := "escBack", fn := fun _ => fun
  | [d] => { results := [.lit (.bool false)], args := [d] }
  | _ => none }
def EscBackWrongFalsely : Prop := escBackRow.holds Tryd.pinned (OpenSpec.ofChange escBackWrong)

/-- 'latinerlaw06.EscAgain': WHATEVER THE INPUT: true; the input reads as it did. -/
def escAgainSpec : ChangeSpec := { name := "escAgain", fn := fun _ => fun
  | [d] => { results := [.lit (.bool true)], args := [d] }
  | _ => none }
def escAgainRow : OpenClaim := { program := "ytbpcoieemkojjaadoor", sum := "1663756fecb1d80125e2fd1a7e7bd1f00ec6b958f3af0ba1741ad3ac8dc6850c", func := "latiner/latinerlaw06.EscAgain", spec := "escAgain", inPlace := ["internal/bytealg.IndexByteString", "internal/bytealg.IndexString", "internal/reflectlite.TypeOf", "internal/reflectlite.ValueOf", "(internal/reflectlite.Value).Type", "(internal/reflectlite.Value).IsNil", "(internal/reflectlite.Value).Elem", "(internal/reflectlite.Value).Set", "internal/abi.NoEscape"], unfollowed := true, recurses := true, named := ["unicode/utf8.first", "unicode/utf8.acceptRanges", "latiner/code.errCode", "errors.errorType", "latiner/esc.errEscape", "internal/bytealg.MaxLen"], apart := false, laid := [("unicode/utf8.acceptRanges", laid_unicode_utf8_acceptRanges), ("errors.errorType", laid_errors_errorType), ("latiner/code.errCode", laid_latiner_code_errCode), ("latiner/esc.errEscape", laid_latiner_esc_errEscape), ("unicode/utf8.first", laid_unicode_utf8_first)] }
def EscAgainSaid : Prop := escAgainRow.holds Tryd.pinned (OpenSpec.ofChange escAgainSpec)

/-- ITS FALSE NEIGHBOUR: 'it returns false'. Refute it at one input. -/
def escAgainWrong : ChangeSpec := { name := "escAgain", fn := fun _ => fun
  | [d] => { results := [.lit (.bool false)], args := [d] }
  | _ => none }
def EscAgainWrongFalsely : Prop := escAgainRow.holds Tryd.pinned (OpenSpec.ofChange escAgainWrong)

/-- 'latinerlaw06.EscJoins': WHATEVER THE INPUT: true; the input reads as it did. -/
def escJoinsSpec : ChangeSpec := { name := "escJoins", fn := fun _ => fun
  | [d1, d2] => { results := [.lit (.bool true)], args := [d1, d2] }
  | _ => none }
def escJoinsRow : OpenClaim := { program := "ytbpcoieemkojjaadoor", sum := "1663756fecb1d80125e2fd1a7e7bd1f00ec6b958f3af0ba1741ad3ac8dc6850c", func := "latiner/latinerlaw06.EscJoins", spec := "escJoins", inPlace := ["internal/bytealg.IndexByteString", "internal/bytealg.IndexString", "internal/reflectlite.TypeOf", "internal/reflectlite.ValueOf", "(internal/reflectlite.Value).Type", "(internal/reflectlite.Value).IsNil", "(internal/reflectlite.Value).Elem", "(internal/reflectlite.Value).Set", "internal/abi.NoEscape"], unfollowed := true, recurses := true, named := ["unicode/utf8.first", "unicode/utf8.acceptRanges", "latiner/code.errCode", "errors.errorType", "latiner/esc.errEscape", "internal/bytealg.MaxLen"], apart := false, laid := [("unicode/utf8.acceptRanges", laid_unicode_utf8_acceptRanges), ("errors.errorType", laid_errors_errorType), ("latiner/code.errCode", laid_latiner_code_errCode), ("latiner/esc.errEscape", laid_latiner_esc_errEscape), ("unicode/utf8.first", laid_unicode_utf8_first)] }
def EscJoinsSaid : Prop := escJoinsRow.holds Tryd.pinned (OpenSpec.ofChange escJoinsSpec)

/-- ITS FALSE NEIGHBOUR: 'it returns false'. Refute it at one input. -/
def escJoinsWrong : ChangeSpec := { name := "escJoins", fn := fun _ => fun
  | [d1, d2] => { results := [.lit (.bool false)], args := [d1, d2] }
  | _ => none }
def EscJoinsWrongFalsely : Prop := escJoinsRow.holds Tryd.pinned (OpenSpec.ofChange escJoinsWrong)

/-- 'latinerlaw06.EscApart': WHATEVER THE INPUT: true; the input reads as it did. -/
def escApartSpec : ChangeSpec := { name := "escApart", fn := fun _ => fun
  | [d1, d2] => { results := [.lit (.bool true)], args := [d1, d2] }
  | _ => none }
def escApartRow : OpenClaim := { program := "ytbpcoieemkojjaadoor", sum := "1663756fecb1d80125e2fd1a7e7bd1f00ec6b958f3af0ba1741ad3ac8dc6850c", func := "latiner/latinerlaw06.EscApart", spec := "escApart", inPlace := ["internal/bytealg.IndexByteString", "internal/bytealg.IndexString", "internal/reflectlite.TypeOf", "internal/reflectlite.ValueOf", "(internal/reflectlite.Value).Type", "(internal/reflectlite.Value).IsNil", "(internal/reflectlite.Value).Elem", "(internal/reflectlite.Value).Set", "internal/abi.NoEscape"], unfollowed := true, recurses := true, named := ["unicode/utf8.first", "unicode/utf8.acceptRanges", "latiner/code.errCode", "errors.errorType", "latiner/esc.errEscape", "internal/bytealg.MaxLen"], apart := false, laid := [("unicode/utf8.acceptRanges", laid_unicode_utf8_acceptRanges), ("errors.errorType", laid_errors_errorType), ("latiner/code.errCode", laid_latiner_code_errCode), ("latiner/esc.errEscape", laid_latiner_esc_errEscape), ("unicode/utf8.first", laid_unicode_utf8_first)] }
def EscApartSaid : Prop := escApartRow.holds Tryd.pinned (OpenSpec.ofChange escApartSpec)

/-- ITS FALSE NEIGHBOUR: 'it returns false'. Refute it at one input. -/
def escApartWrong : ChangeSpec := { name := "escApart", fn := fun _ => fun
  | [d1, d2] => { results := [.lit (.bool false)], args := [d1, d2] }
  | _ => none }
def EscApartWrongFalsely : Prop := escApartRow.holds Tryd.pinned (OpenSpec.ofChange escApartWrong)

/-- 'latinerlaw06.EscPlain': WHATEVER THE INPUT: true; the input reads as it did. -/
def escPlainSpec : ChangeSpec := { name := "escPlain", fn := fun _ => fun
  | [d] => { results := [.lit (.bool true)], args := [d] }
  | _ => none }
def escPlainRow : OpenClaim := { program := "ytbpcoieemkojjaadoor", sum := "1663756fecb1d80125e2fd1a7e7bd1f00ec6b958f3af0ba1741ad3ac8dc6850c", func := "latiner/latinerlaw06.EscPlain", spec := "escPlain", inPlace := ["internal/bytealg.IndexByteString", "internal/bytealg.IndexString", "internal/reflectlite.TypeOf", "internal/reflectlite.ValueOf", "(internal/reflectlite.Value).Type", "(internal/reflectlite.Value).IsNil", "(internal/reflectlite.Value).Elem", "(internal/reflectlite.Value).Set", "internal/abi.NoEscape"], unfollowed := true, recurses := true, named := ["unicode/utf8.first", "unicode/utf8.acceptRanges", "latiner/code.errCode", "errors.errorType", "latiner/esc.errEscape", "internal/bytealg.MaxLen"], apart := false, laid := [("unicode/utf8.acceptRanges", laid_unicode_utf8_acceptRanges), ("errors.errorType", laid_errors_errorType), ("latiner/code.errCode", laid_latiner_code_errCode), ("latiner/esc.errEscape", laid_latiner_esc_errEscape), ("unicode/utf8.first", laid_unicode_utf8_first)] }
def EscPlainSaid : Prop := escPlainRow.holds Tryd.pinned (OpenSpec.ofChange escPlainSpec)

/-- ITS FALSE NEIGHBOUR: 'it returns false'. Refute it at one input. -/
def escPlainWrong : ChangeSpec := { name := "escPlain", fn := fun _ => fun
  | [d] => { results := [.lit (.bool false)], args := [d] }
  | _ => none }
def EscPlainWrongFalsely : Prop := escPlainRow.holds Tryd.pinned (OpenSpec.ofChange escPlainWrong)

/- THE SECOND FORM. 'bulk': how many values and letters a reading holds, each counted each time it is reached (what is shared counts as often as it is met; a slice's spare places count too). A statement '..UptoSaid' is the law's where the arguments, and the package variables that the reading takes, are together of bulk at most 1048576: NARROWER than '..Said'. Prove '..Said' where nothing that the law and all that it calls make is longer than what came in: it says more and counts as full. Else prove '..UptoSaid'. A law counts once. -/
mutual
def uptoBulk {H : Type} : DataW H → Nat
  | .lit (.string bytes) => bytes.length + 1
  | .lit _ => 1
  | .nil => 1
  | .ptr d => uptoBulk d + 1
  | .slice elems spare => uptoBulkAll elems + uptoBulkAll spare + 1
  | .agg parts => uptoBulkAll parts + 1
  | .iface _ d => uptoBulk d + 1
  | .map entries => uptoBulkEntries entries + 1
  | .held _ => 1
def uptoBulkAll {H : Type} : List (DataW H) → Nat
  | [] => 0
  | d :: r => uptoBulk d + uptoBulkAll r
def uptoBulkEntries {H : Type} : List (Lit × DataW H) → Nat
  | [] => 0
  | x :: r => uptoBulkEntry x + uptoBulkEntries r
def uptoBulkEntry {H : Type} : Lit × DataW H → Nat
  | (.string bytes, d) => bytes.length + uptoBulk d + 1
  | (_, d) => uptoBulk d + 1
 end
def uptoSmall : (H : Type) → List (DataW H) → Bool := fun _ ds => decide (uptoBulkAll ds ≤ 1048576)
def OpenSpec.upto (s : _root_.Go.ChangeSpec) : _root_.Go.OpenSpec := { _root_.Go.OpenSpec.ofChange s with cond := some uptoSmall }

/-- 'latinerlaw06.EscTells', WHERE WHAT IT READS IS OF BULK AT MOST 1048576: true; the input reads as it did. -/
def escTellsUptoRow : OpenClaim := { program := "ytbpcoieemkojjaadoor", sum := "1663756fecb1d80125e2fd1a7e7bd1f00ec6b958f3af0ba1741ad3ac8dc6850c", func := "latiner/latinerlaw06.EscTells", spec := "escTells", inPlace := ["internal/bytealg.IndexByteString", "internal/bytealg.IndexString", "internal/reflectlite.TypeOf", "internal/reflectlite.ValueOf", "(internal/reflectlite.Value).Type", "(internal/reflectlite.Value).IsNil", "(internal/reflectlite.Value).Elem", "(internal/reflectlite.Value).Set", "internal/abi.NoEscape"], unfollowed := true, recurses := true, named := ["unicode/utf8.first", "unicode/utf8.acceptRanges", "latiner/code.errCode", "errors.errorType", "latiner/esc.errEscape", "internal/bytealg.MaxLen"], apart := false, laid := [("unicode/utf8.acceptRanges", laid_unicode_utf8_acceptRanges), ("errors.errorType", laid_errors_errorType), ("latiner/code.errCode", laid_latiner_code_errCode), ("latiner/esc.errEscape", laid_latiner_esc_errEscape), ("unicode/utf8.first", laid_unicode_utf8_first)], narrowed := true }
def EscTellsUptoSaid : Prop := escTellsUptoRow.holds Tryd.pinned (OpenSpec.upto escTellsSpec)

/-- 'latinerlaw06.EscBack', WHERE WHAT IT READS IS OF BULK AT MOST 1048576: true; the input reads as it did. -/
def escBackUptoRow : OpenClaim := { program := "ytbpcoieemkojjaadoor", sum := "1663756fecb1d80125e2fd1a7e7bd1f00ec6b958f3af0ba1741ad3ac8dc6850c", func := "latiner/latinerlaw06.EscBack", spec := "escBack", inPlace := ["internal/bytealg.IndexByteString", "internal/bytealg.IndexString", "internal/reflectlite.TypeOf", "internal/reflectlite.ValueOf", "(internal/reflectlite.Value).Type", "(internal/reflectlite.Value).IsNil", "(internal/reflectlite.Value).Elem", "(internal/reflectlite.Value).Set", "internal/abi.NoEscape"], unfollowed := true, recurses := true, named := ["unicode/utf8.first", "unicode/utf8.acceptRanges", "latiner/code.errCode", "errors.errorType", "latiner/esc.errEscape", "internal/bytealg.MaxLen"], apart := false, laid := [("unicode/utf8.acceptRanges", laid_unicode_utf8_acceptRanges), ("errors.errorType", laid_errors_errorType), ("latiner/code.errCode", laid_latiner_code_errCode), ("latiner/esc.errEscape", laid_latiner_esc_errEscape), ("unicode/utf8.first", laid_unicode_utf8_first)], narrowed := true }
def EscBackUptoSaid : Prop := escBackUptoRow.holds Tryd.pinned (OpenSpec.upto escBackSpec)

/-- 'latinerlaw06.EscAgain', WHERE WHAT IT READS IS OF BULK AT MOST 1048576: true; the input reads as it did. -/
def escAgainUptoRow : OpenClaim := { program := "ytbpcoieemkojjaadoor", sum := "1663756fecb1d80125e2fd1a7e7bd1f00ec6b958f3af0ba1741ad3ac8dc6850c", func := "latiner/latinerlaw06.EscAgain", spec := "escAgain", inPlace := ["internal/bytealg.IndexByteString", "internal/bytealg.IndexString", "internal/reflectlite.TypeOf", "internal/reflectlite.ValueOf", "(internal/reflectlite.Value).Type", "(internal/reflectlite.Value).IsNil", "(internal/reflectlite.Value).Elem", "(internal/reflectlite.Value).Set", "internal/abi.NoEscape"], unfollowed := true, recurses := true, named := ["unicode/utf8.first", "unicode/utf8.acceptRanges", "latiner/code.errCode", "errors.errorType", "latiner/esc.errEscape", "internal/bytealg.MaxLen"], apart := false, laid := [("unicode/utf8.acceptRanges", laid_unicode_utf8_acceptRanges), ("errors.errorType", laid_errors_errorType), ("latiner/code.errCode", laid_latiner_code_errCode), ("latiner/esc.errEscape", laid_latiner_esc_errEscape), ("unicode/utf8.first", laid_unicode_utf8_first)], narrowed := true }
def EscAgainUptoSaid : Prop := escAgainUptoRow.holds Tryd.pinned (OpenSpec.upto escAgainSpec)

/-- 'latinerlaw06.EscJoins', WHERE WHAT IT READS IS OF BULK AT MOST 1048576: true; the input reads as it did. -/
def escJoinsUptoRow : OpenClaim := { program := "ytbpcoieemkojjaadoor", sum := "1663756fecb1d80125e2fd1a7e7bd1f00ec6b958f3af0ba1741ad3ac8dc6850c", func := "latiner/latinerlaw06.EscJoins", spec := "escJoins", inPlace := ["internal/bytealg.IndexByteString", "internal/bytealg.IndexString", "internal/reflectlite.TypeOf", "internal/reflectlite.ValueOf", "(internal/reflectlite.Value).Type", "(internal/reflectlite.Value).IsNil", "(internal/reflectlite.Value).Elem", "(internal/reflectlite.Value).Set", "internal/abi.NoEscape"], unfollowed := true, recurses := true, named := ["unicode/utf8.first", "unicode/utf8.acceptRanges", "latiner/code.errCode", "errors.errorType", "latiner/esc.errEscape", "internal/bytealg.MaxLen"], apart := false, laid := [("unicode/utf8.acceptRanges", laid_unicode_utf8_acceptRanges), ("errors.errorType", laid_errors_errorType), ("latiner/code.errCode", laid_latiner_code_errCode), ("latiner/esc.errEscape", laid_latiner_esc_errEscape), ("unicode/utf8.first", laid_unicode_utf8_first)], narrowed := true }
def EscJoinsUptoSaid : Prop := escJoinsUptoRow.holds Tryd.pinned (OpenSpec.upto escJoinsSpec)

/-- 'latinerlaw06.EscApart', WHERE WHAT IT READS IS OF BULK AT MOST 1048576: true; the input reads as it did. -/
def escApartUptoRow : OpenClaim := { program := "ytbpcoieemkojjaadoor", sum := "1663756fecb1d80125e2fd1a7e7bd1f00ec6b958f3af0ba1741ad3ac8dc6850c", func := "latiner/latinerlaw06.EscApart", spec := "escApart", inPlace := ["internal/bytealg.IndexByteString", "internal/bytealg.IndexString", "internal/reflectlite.TypeOf", "internal/reflectlite.ValueOf", "(internal/reflectlite.Value).Type", "(internal/reflectlite.Value).IsNil", "(internal/reflectlite.Value).Elem", "(internal/reflectlite.Value).Set", "internal/abi.NoEscape"], unfollowed := true, recurses := true, named := ["unicode/utf8.first", "unicode/utf8.acceptRanges", "latiner/code.errCode", "errors.errorType", "latiner/esc.errEscape", "internal/bytealg.MaxLen"], apart := false, laid := [("unicode/utf8.acceptRanges", laid_unicode_utf8_acceptRanges), ("errors.errorType", laid_errors_errorType), ("latiner/code.errCode", laid_latiner_code_errCode), ("latiner/esc.errEscape", laid_latiner_esc_errEscape), ("unicode/utf8.first", laid_unicode_utf8_first)], narrowed := true }
def EscApartUptoSaid : Prop := escApartUptoRow.holds Tryd.pinned (OpenSpec.upto escApartSpec)

/-- 'latinerlaw06.EscPlain', WHERE WHAT IT READS IS OF BULK AT MOST 1048576: true; the input reads as it did. -/
def escPlainUptoRow : OpenClaim := { program := "ytbpcoieemkojjaadoor", sum := "1663756fecb1d80125e2fd1a7e7bd1f00ec6b958f3af0ba1741ad3ac8dc6850c", func := "latiner/latinerlaw06.EscPlain", spec := "escPlain", inPlace := ["internal/bytealg.IndexByteString", "internal/bytealg.IndexString", "internal/reflectlite.TypeOf", "internal/reflectlite.ValueOf", "(internal/reflectlite.Value).Type", "(internal/reflectlite.Value).IsNil", "(internal/reflectlite.Value).Elem", "(internal/reflectlite.Value).Set", "internal/abi.NoEscape"], unfollowed := true, recurses := true, named := ["unicode/utf8.first", "unicode/utf8.acceptRanges", "latiner/code.errCode", "errors.errorType", "latiner/esc.errEscape", "internal/bytealg.MaxLen"], apart := false, laid := [("unicode/utf8.acceptRanges", laid_unicode_utf8_acceptRanges), ("errors.errorType", laid_errors_errorType), ("latiner/code.errCode", laid_latiner_code_errCode), ("latiner/esc.errEscape", laid_latiner_esc_errEscape), ("unicode/utf8.first", laid_unicode_utf8_first)], narrowed := true }
def EscPlainUptoSaid : Prop := escPlainUptoRow.holds Tryd.pinned (OpenSpec.upto escPlainSpec)

end Rows
end Go.Proofs.YtbpcoieemkojjaaDoor
