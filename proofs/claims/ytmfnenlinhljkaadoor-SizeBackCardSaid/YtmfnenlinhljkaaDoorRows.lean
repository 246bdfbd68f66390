/-
  NARROWER THAN 'FOR EVERY INPUT', by the rows' own cells (each row's printed sentence says how): PrimCodes: laid · PrimBack: laid · PrimOrder: laid · PrimSizes: laid · PrimLonger: laid · PrimTrue: laid · SizeCodes: laid · SizeBack: laid · SizeLeast: laid · SizeOrder: laid · SizeCuts: laid · SizeLong: laid.
  DERIVED. THE GIVEN ROWS OF THIS SEAT. 12 by the template 'for every input the law returns true; each argument reads behind the call as it read before'; 0 by the template 'total and deterministic' (their statements: YtmfnenlinhljkaaDoorTotals.lean).
  GIVEN WITH THE SEED: the statements are not yours to turn. If you find one false, say at which input.
  Laid BY PROGRAM, IN A SANDBOX (cutbox-rows.mjs): the forced cells as the released guide's own fill.sh prints them over the translation 57cf59377ca31d3e… (all of the seat's roots in one cut). By AI agents, Wed Nov 11 2026. No macro, syntax, notation, axiom, sorry.
-/
import Derived.Test.YtmfnenlinhljkaaDoorChecked
import GoSem.Claim
import GoSem.ClaimJoined
import GoSem.ClaimMapViews
import Derived.JoinedTies
import Derived.KernelRfl
namespace Go.Proofs.YtmfnenlinhljkaaDoor
/- THE CELL 'sum', in the pinned program and in every row, IS THE sha256 OF THE DUMP (.gsa) THAT YtmfnenlinhljkaaDoorProg.lean LOADS. Nothing in Lean hashes anything: it is a label: what it is worth is what the hold of that sum in a sandbox is worth. -/
noncomputable def Tryd.pinned : Pinned := { name := "ytmfnenlinhljkaadoor", sum := "57cf59377ca31d3e8b0959428af04586e44ba309fb3c3cca256fd9e07991b2d1", checked := Tryd.checked }
namespace Rows
def none {H : Type} : Left H := { results := [], args := [] }

/- WHAT THE LISTED PACKAGE-LEVEL VARIABLES READ AS WHEN THE CALL BEGINS. Each datum BY PROGRAM (the guide's laid-datum.mjs) off the statement by which the dump's own 'gosem.cut.vars' lays the variable. In a bare row this is a premise. The card (YtmfnenlinhljkaaDoorCards.lean) ties it to the program's text. -/
def laid_errors_errorType {H : Type} : DataW H := .iface "internal/reflectlite.rtype" (.agg [.ptr (.lit (.string [101, 114, 114, 111, 114]))])
def laid_latiner_prim_errNumber {H : Type} : DataW H := .iface "*errors.errorString" (.ptr (.agg [.lit (.string [110, 111, 32, 110, 117, 109, 98, 101, 114])]))
def laid_latiner_prim_errBool {H : Type} : DataW H := .iface "*errors.errorString" (.ptr (.agg [.lit (.string [110, 111, 32, 98, 111, 111, 108, 101, 97, 110])]))
def laid_latiner_size_errShort {H : Type} : DataW H := .iface "*errors.errorString" (.ptr (.agg [.lit (.string [116, 111, 111, 32, 115, 104, 111, 114, 116])]))
def laid_latiner_size_errForm {H : Type} : DataW H := .iface "*errors.errorString" (.ptr (.agg [.lit (.string [110, 111, 32, 108, 101, 110, 103, 116, 104])]))
def laid_latiner_size_errSize {H : Type} : DataW H := .iface "*errors.errorString" (.ptr (.agg [.lit (.string [116, 111, 111, 32, 103, 114, 101, 97, 116])]))

/-- 'latinerlaw03.PrimCodes': WHATEVER THE INPUT: true; the input reads as it did. -/
def primCodesSpec : ChangeSpec := { name := "primCodes", fn := fun _ => fun
  | [d1, d2, d3] => { results := [.lit (.bool true)], args := [d1, d2, d3] }
  | _ => none }
def primCodesRow : OpenClaim := { program := "ytmfnenlinhljkaadoor", sum := "57cf59377ca31d3e8b0959428af04586e44ba309fb3c3cca256fd9e07991b2d1", func := "latiner/latinerlaw03.PrimCodes", spec := "primCodes", inPlace := ["internal/reflectlite.ValueOf", "(internal/reflectlite.Value).Type", "(internal/reflectlite.Value).IsNil", "internal/reflectlite.TypeOf", "(internal/reflectlite.Value).Elem", "(internal/reflectlite.Value).Set"], unfollowed := true, recurses := true, named := ["latiner/prim.errNumber", "latiner/prim.errBool", "errors.errorType"], apart := false, laid := [("errors.errorType", laid_errors_errorType), ("latiner/prim.errNumber", laid_latiner_prim_errNumber), ("latiner/prim.errBool", laid_latiner_prim_errBool)] }
def PrimCodesSaid : Prop := primCodesRow.holds Tryd.pinned (OpenSpec.ofChange primCodesSpec)

/-- ITS FALSE NEIGHBOUR: 'it returns false'. Refute it at one input. -/
def primCodesWrong : ChangeSpec := { name := "primCodes", fn := fun _ => fun
  | [d1, d2, d3] => { results := [.lit (.bool false)], args := [d1, d2, d3] }
  | _ => none }
def PrimCodesWrongFalsely : Prop := primCodesRow.holds Tryd.pinned (OpenSpec.ofChange primCodesWrong)

/-- 'latinerlaw03.PrimBack': WHATEVER THE INPUT: true; the input reads as it did. -/
def primBackSpec : ChangeSpec := { name := "primBack", fn := fun _ => fun
  | [d1, d2, d3] => { results := [.lit (.bool true)], args := [d1, d2, d3] }
  | _ => none }
def primBackRow : OpenClaim := { program := "ytmfnenlinhljkaadoor", sum := "57cf59377ca31d3e8b0959428af04586e44ba309fb3c3cca256fd9e07991b2d1", func := "latiner/latinerlaw03.PrimBack", spec := "primBack", inPlace := ["internal/reflectlite.ValueOf", "(internal/reflectlite.Value).Type", "(internal/reflectlite.Value).IsNil", "internal/reflectlite.TypeOf", "(internal/reflectlite.Value).Elem", "(internal/reflectlite.Value).Set"], unfollowed := true, recurses := true, named := ["latiner/prim.errNumber", "latiner/prim.errBool", "errors.errorType"], apart := false, laid := [("errors.errorType", laid_errors_errorType), ("latiner/prim.errNumber", laid_latiner_prim_errNumber), ("latiner/prim.errBool", laid_latiner_prim_errBool)] }
def PrimBackSaid : Prop := primBackRow.holds Tryd.pinned (OpenSpec.ofChange primBackSpec)

/-- ITS FALSE NEIGHBOUR: 'it returns false'. Refute it at one input. -/
def primBackWrong : ChangeSpec := { name := "primBack", fn := fun _ => fun
  | [d1, d2, d3] => { results := [.lit (.bool false)], args := [d1, d2, d3] }
  | _ => none }
def PrimBackWrongFalsely : Prop := primBackRow.holds Tryd.pinned (OpenSpec.ofChange primBackWrong)

/-- 'latinerlaw03.PrimOrder': WHATEVER THE INPUT: true; the input reads as it did. -/
def primOrderSpec : ChangeSpec := { name := "primOrder", fn := fun _ => fun
  | [d1, d2] => { results := [.lit (.bool true)], args := [d1, d2] }
  | _ => none }
def primOrderRow : OpenClaim := { program := "ytmfnenlinhljkaadoor", sum := "57cf59377ca31d3e8b0959428af04586e44ba309fb3c3cca256fd9e07991b2d1", func := "latiner/latinerlaw03.PrimOrder", spec := "primOrder", inPlace := ["internal/reflectlite.ValueOf", "(internal/reflectlite.Value).Type", "(internal/reflectlite.Value).IsNil", "internal/reflectlite.TypeOf", "(internal/reflectlite.Value).Elem", "(internal/reflectlite.Value).Set"], unfollowed := true, recurses := true, named := ["latiner/prim.errNumber", "latiner/prim.errBool", "errors.errorType"], apart := false, laid := [("errors.errorType", laid_errors_errorType), ("latiner/prim.errNumber", laid_latiner_prim_errNumber), ("latiner/prim.errBool", laid_latiner_prim_errBool)] }
def PrimOrderSaid : Prop := primOrderRow.holds Tryd.pinned (OpenSpec.ofChange primOrderSpec)

/-- ITS FALSE NEIGHBOUR: 'it returns false'. Refute it at one input. -/
def primOrderWrong : ChangeSpec := { name := "primOrder", fn := fun _ => fun
  | [d1, d2] => { results := [.lit (.bool false)], args := [d1, d2] }
  | _ => none }
def PrimOrderWrongFalsely : Prop := primOrderRow.holds Tryd.pinned (OpenSpec.ofChange primOrderWrong)

/-- 'latinerlaw03.PrimSizes': WHATEVER THE INPUT: true; the input reads as it did. -/
def primSizesSpec : ChangeSpec := { name := "primSizes", fn := fun _ => fun
  | [d] => { results := [.lit (.bool true)], args := [d] }
  | _ => none }
def primSizesRow : OpenClaim := { program := "ytmfnenlinhljkaadoor", sum := "57cf59377ca31d3e8b0959428af04586e44ba309fb3c3cca256fd9e07991b2d1", func := "latiner/latinerlaw03.PrimSizes", spec := "primSizes", inPlace := ["internal/reflectlite.ValueOf", "(internal/reflectlite.Value).Type", "(internal/reflectlite.Value).IsNil", "internal/reflectlite.TypeOf", "(internal/reflectlite.Value).Elem", "(internal/reflectlite.Value).Set"], unfollowed := true, recurses := true, named := ["latiner/prim.errNumber", "latiner/prim.errBool", "errors.errorType"], apart := false, laid := [("errors.errorType", laid_errors_errorType), ("latiner/prim.errNumber", laid_latiner_prim_errNumber), ("latiner/prim.errBool", laid_latiner_prim_errBool)] }
def PrimSizesSaid : Prop := primSizesRow.holds Tryd.pinned (OpenSpec.ofChange primSizesSpec)

/-- ITS FALSE NEIGHBOUR: 'it returns false'. Refute it at one input. -/
def primSizesWrong : ChangeSpec := { name := "primSizes", fn := fun _ => fun
  | [d] => { results := [.lit (.bool false)], args := [d] }
  | _ => none }
def PrimSizesWrongFalsely : Prop := primSizesRow.holds Tryd.pinned (OpenSpec.ofChange primSizesWrong)

/-- 'latinerlaw03.PrimLonger': WHATEVER THE INPUT: true; the input reads as it did. -/
def primLongerSpec : ChangeSpec := { name := "primLonger", fn := fun _ => fun
  | [d] => { results := [.lit (.bool true)], args := [d] }
  | _ => none }
def primLongerRow : OpenClaim := { program := "ytmfnenlinhljkaadoor", sum := "57cf59377ca31d3e8b0959428af04586e44ba309fb3c3cca256fd9e07991b2d1", func := "latiner/latinerlaw03.PrimLonger", spec := "primLonger", inPlace := ["internal/reflectlite.ValueOf", "(internal/reflectlite.Value).Type", "(internal/reflectlite.Value).IsNil", "internal/reflectlite.TypeOf", "(internal/reflectlite.Value).Elem", "(internal/reflectlite.Value).Set"], unfollowed := true, recurses := true, named := ["latiner/prim.errNumber", "latiner/prim.errBool", "errors.errorType"], apart := false, laid := [("errors.errorType", laid_errors_errorType), ("latiner/prim.errNumber", laid_latiner_prim_errNumber), ("latiner/prim.errBool", laid_latiner_prim_errBool)] }
def PrimLongerSaid : Prop := primLongerRow.holds Tryd.pinned (OpenSpec.ofChange primLongerSpec)

/-- ITS FALSE NEIGHBOUR: 'it returns false'. Refute it at one input. -/
def primLongerWrong : ChangeSpec := { name := "primLonger", fn := fun _ => fun
  | [d] => { results := [.lit (.bool false)], args := [d] }
  | _ => none }
def PrimLongerWrongFalsely : Prop := primLongerRow.holds Tryd.pinned (OpenSpec.ofChange primLongerWrong)

/-- 'latinerlaw03.PrimTrue': WHATEVER THE INPUT: true; the input reads as it did. -/
def primTrueSpec : ChangeSpec := { name := "primTrue", fn := fun _ => fun
  | [d] => { results := [.lit (.bool true)], args := [d] }
  | _ => none }
def primTrueRow : OpenClaim := { program := "ytmfnenlinhljkaadoor", sum := "57cf59377ca31d3e8b0959428af04586e44ba309fb3c3cca256fd9e07991b2d1", func := "latiner/latinerlaw03.PrimTrue", spec := "primTrue", inPlace := ["internal/reflectlite.ValueOf", "(internal/reflectlite.Value).Type", "(internal/reflectlite.Value).IsNil", "internal/reflectlite.TypeOf", "(internal/reflectlite.Value).Elem", "(internal/reflectlite.Value).Set"], unfollowed := true, recurses := true, named := ["latiner/prim.errNumber", "latiner/prim.errBool", "errors.errorType"], apart := false, laid := [("errors.errorType", laid_errors_errorType), ("latiner/prim.errNumber", laid_latiner_prim_errNumber), ("latiner/prim.errBool", laid_latiner_prim_errBool)] }
def PrimTrueSaid : Prop := primTrueRow.holds Tryd.pinned (OpenSpec.ofChange primTrueSpec)

/-- ITS FALSE NEIGHBOUR: 'it returns false'. Refute it at one input. -/
def primTrueWrong : ChangeSpec := { name := "primTrue", fn := fun _ => fun
  | [d] => { results := [.lit (.bool false)], args := [d] }
  | _ => none }
def PrimTrueWrongFalsely : Prop := primTrueRow.holds Tryd.pinned (OpenSpec.ofChange primTrueWrong)

/-- 'latinerlaw01.SizeCodes': WHATEVER THE INPUT: true; the input reads as it did. -/
def sizeCodesSpec : ChangeSpec := { name := "sizeCodes", fn := fun _ => fun
  | [d1, d2, d3] => { results := [.lit (.bool true)], args := [d1, d2, d3] }
  | _ => none }
def sizeCodesRow : OpenClaim := { program := "ytmfnenlinhljkaadoor", sum := "57cf59377ca31d3e8b0959428af04586e44ba309fb3c3cca256fd9e07991b2d1", func := "latiner/latinerlaw01.SizeCodes", spec := "sizeCodes", inPlace := ["internal/reflectlite.ValueOf", "(internal/reflectlite.Value).Type", "(internal/reflectlite.Value).IsNil", "internal/reflectlite.TypeOf", "(internal/reflectlite.Value).Elem", "(internal/reflectlite.Value).Set"], unfollowed := true, recurses := true, named := ["latiner/size.errSize", "latiner/size.errShort", "latiner/size.errForm", "errors.errorType"], apart := false, laid := [("errors.errorType", laid_errors_errorType), ("latiner/size.errShort", laid_latiner_size_errShort), ("latiner/size.errForm", laid_latiner_size_errForm), ("latiner/size.errSize", laid_latiner_size_errSize)] }
def SizeCodesSaid : Prop := sizeCodesRow.holds Tryd.pinned (OpenSpec.ofChange sizeCodesSpec)

/-- ITS FALSE NEIGHBOUR: 'it returns false'. Refute it at one input. -/
def sizeCodesWrong : ChangeSpec := { name := "sizeCodes", fn := fun _ => fun
  | [d1, d2, d3] => { results := [.lit (.bool false)], args := [d1, d2, d3] }
  | _ => none }
def SizeCodesWrongFalsely : Prop := sizeCodesRow.holds Tryd.pinned (OpenSpec.ofChange sizeCodesWrong)

/-- 'latinerlaw01.SizeBack': WHATEVER THE INPUT: true; the input reads as it did. -/
def sizeBackSpec : ChangeSpec := { name := "sizeBack", fn := fun _ => fun
  | [d1, d2, d3] => { results := [.lit (.bool true)], args := [d1, d2, d3] }
  | _ => none }
def sizeBackRow : OpenClaim := { program := "ytmfnenlinhljkaadoor", sum := "57cf59377ca31d3e8b0959428af04586e44ba309fb3c3cca256fd9e07991b2d1", func := "latiner/latinerlaw01.SizeBack", spec := "sizeBack", inPlace := ["internal/reflectlite.ValueOf", "(internal/reflectlite.Value).Type", "(internal/reflectlite.Value).IsNil", "internal/reflectlite.TypeOf", "(internal/reflectlite.Value).Elem", "(internal/reflectlite.Value).Set"], unfollowed := true, recurses := true, named := ["latiner/size.errSize", "latiner/size.errShort", "latiner/size.errForm", "errors.errorType"], apart := false, laid := [("errors.errorType", laid_errors_errorType), ("latiner/size.errShort", laid_latiner_size_errShort), ("latiner/size.errForm", laid_latiner_size_errForm), ("latiner/size.errSize", laid_latiner_size_errSize)] }
def SizeBackSaid : Prop := sizeBackRow.holds Tryd.pinned (OpenSpec.ofChange sizeBackSpec)

/-- ITS FALSE NEIGHBOUR: 'it returns false'. Refute it at one input. -/
def sizeBackWrong : ChangeSpec := { name := "sizeBack", fn := fun _ => fun
  | [d1, d2, d3] => { results := [.lit (.bool false)], args := [d1, d2, d3] }
  | _ => none }
def SizeBackWrongFalsely : Prop := sizeBackRow.holds Tryd.pinned (OpenSpec.ofChange sizeBackWrong)

/-- 'latinerlaw01.SizeLeast': WHATEVER THE INPUT: true; the input reads as it did. -/
def sizeLeastSpec : ChangeSpec := { name := "sizeLeast", fn := fun _ => fun
  | [d1, d2] => { results := [.lit (.bool true)], args := [d1, d2] }
  | _ => none }
def sizeLeastRow : OpenClaim := { program := "ytmfnenlinhljkaadoor", sum := "57cf59377ca31d3e8b0959428af04586e44ba309fb3c3cca256fd9e07991b2d1", func := "latiner/latinerlaw01.SizeLeast", spec := "sizeLeast", inPlace := ["internal/reflectlite.ValueOf", "(internal/reflectlite.Value).Type", "(internal/reflectlite.Value).IsNil", "internal/reflectlite.TypeOf", "(internal/reflectlite.Value).Elem", "(internal/reflectlite.Value).Set"], unfollowed := true, recurses := true, named := ["latiner/size.errSize", "latiner/size.errShort", "latiner/size.errForm", "errors.errorType"], apart := false, laid := [("errors.errorType", laid_errors_errorType), ("latiner/size.errShort", laid_latiner_size_errShort), ("latiner/size.errForm", laid_latiner_size_errForm), ("latiner/size.errSize", laid_latiner_size_errSize)] }
def SizeLeastSaid : Prop := sizeLeastRow.holds Tryd.pinned (OpenSpec.ofChange sizeLeastSpec)

/-- ITS FALSE NEIGHBOUR: 'it returns false'. Refute it at one input. -/
def sizeLeastWrong : ChangeSpec := { name := "sizeLeast", fn := fun _ => fun
  | [d1, d2] => { results := [.lit (.bool false)], args := [d1, d2] }
  | _ => none }
def SizeLeastWrongFalsely : Prop := sizeLeastRow.holds Tryd.pinned (OpenSpec.ofChange sizeLeastWrong)

/-- 'latinerlaw01.SizeOrder': WHATEVER THE INPUT: true; the input reads as it did. -/
def sizeOrderSpec : ChangeSpec := { name := "sizeOrder", fn := fun _ => fun
  | [d1, d2] => { results := [.lit (.bool true)], args := [d1, d2] }
  | _ => none }
def sizeOrderRow : OpenClaim := { program := "ytmfnenlinhljkaadoor", sum := "57cf59377ca31d3e8b0959428af04586e44ba309fb3c3cca256fd9e07991b2d1", func := "latiner/latinerlaw01.SizeOrder", spec := "sizeOrder", inPlace := ["internal/reflectlite.ValueOf", "(internal/reflectlite.Value).Type", "(internal/reflectlite.Value).IsNil", "internal/reflectlite.TypeOf", "(internal/reflectlite.Value).Elem", "(internal/reflectlite.Value).Set"], unfollowed := true, recurses := true, named := ["latiner/size.errSize", "latiner/size.errShort", "latiner/size.errForm", "errors.errorType"], apart := false, laid := [("errors.errorType", laid_errors_errorType), ("latiner/size.errShort", laid_latiner_size_errShort), ("latiner/size.errForm", laid_latiner_size_errForm), ("latiner/size.errSize", laid_latiner_size_errSize)] }
def SizeOrderSaid : Prop := sizeOrderRow.holds Tryd.pinned (OpenSpec.ofChange sizeOrderSpec)

/-- ITS FALSE NEIGHBOUR: 'it returns false'. Refute it at one input. -/
def sizeOrderWrong : ChangeSpec := { name := "sizeOrder", fn := fun _ => fun
  | [d1, d2] => { results := [.lit (.bool false)], args := [d1, d2] }
  | _ => none }
def SizeOrderWrongFalsely : Prop := sizeOrderRow.holds Tryd.pinned (OpenSpec.ofChange sizeOrderWrong)

/-- 'latinerlaw01.SizeCuts': WHATEVER THE INPUT: true; the input reads as it did. -/
def sizeCutsSpec : ChangeSpec := { name := "sizeCuts", fn := fun _ => fun
  | [d1, d2] => { results := [.lit (.bool true)], args := [d1, d2] }
  | _ => none }
def sizeCutsRow : OpenClaim := { program := "ytmfnenlinhljkaadoor", sum := "57cf59377ca31d3e8b0959428af04586e44ba309fb3c3cca256fd9e07991b2d1", func := "latiner/latinerlaw01.SizeCuts", spec := "sizeCuts", inPlace := ["internal/reflectlite.ValueOf", "(internal/reflectlite.Value).Type", "(internal/reflectlite.Value).IsNil", "internal/reflectlite.TypeOf", "(internal/reflectlite.Value).Elem", "(internal/reflectlite.Value).Set"], unfollowed := true, recurses := true, named := ["latiner/size.errSize", "latiner/size.errShort", "latiner/size.errForm", "errors.errorType"], apart := false, laid := [("errors.errorType", laid_errors_errorType), ("latiner/size.errShort", laid_latiner_size_errShort), ("latiner/size.errForm", laid_latiner_size_errForm), ("latiner/size.errSize", laid_latiner_size_errSize)] }
def SizeCutsSaid : Prop := sizeCutsRow.holds Tryd.pinned (OpenSpec.ofChange sizeCutsSpec)

/-- ITS FALSE NEIGHBOUR: 'it returns false'. Refute it at one input. -/
def sizeCutsWrong : ChangeSpec := { name := "sizeCuts", fn := fun _ => fun
  | [d1, d2] => { results := [.lit (.bool false)], args := [d1, d2] }
  | _ => none }
def SizeCutsWrongFalsely : Prop := sizeCutsRow.holds Tryd.pinned (OpenSpec.ofChange sizeCutsWrong)

/-- 'latinerlaw01.SizeLong': WHATEVER THE INPUT: true; the input reads as it did. -/
def sizeLongSpec : ChangeSpec := { name := "sizeLong", fn := fun _ => fun
  | [d] => { results := [.lit (.bool true)], args := [d] }
  | _ => none }
def sizeLongRow : OpenClaim := { program := "ytmfnenlinhljkaadoor", sum := "57cf59377ca31d3e8b0959428af04586e44ba309fb3c3cca256fd9e07991b2d1", func := "latiner/latinerlaw01.SizeLong", spec := "sizeLong", inPlace := ["internal/reflectlite.ValueOf", "(internal/reflectlite.Value).Type", "(internal/reflectlite.Value).IsNil", "internal/reflectlite.TypeOf", "(internal/reflectlite.Value).Elem", "(internal/reflectlite.Value).Set"], unfollowed := true, recurses := true, named := ["latiner/size.errSize", "latiner/size.errShort", "latiner/size.errForm", "errors.errorType"], apart := false, laid := [("errors.errorType", laid_errors_errorType), ("latiner/size.errShort", laid_latiner_size_errShort), ("latiner/size.errForm", laid_latiner_size_errForm), ("latiner/size.errSize", laid_latiner_size_errSize)] }
def SizeLongSaid : Prop := sizeLongRow.holds Tryd.pinned (OpenSpec.ofChange sizeLongSpec)

/-- ITS FALSE NEIGHBOUR: 'it returns false'. Refute it at one input. -/
def sizeLongWrong : ChangeSpec := { name := "sizeLong", fn := fun _ => fun
  | [d] => { results := [.lit (.bool false)], args := [d] }
  | _ => none }
def SizeLongWrongFalsely : Prop := sizeLongRow.holds Tryd.pinned (OpenSpec.ofChange sizeLongWrong)

/- THE SECOND FORM. 'bulk': how many values and letters a reading holds, each counted each time it is reached (what is shared counts as often as it is met; a slice's spare places count too). A statement '..UptoSaid' is the law's where the arguments, and the package variables that the reading takes, are together of bulk at most 1048576: NARROWER than '..Said'. Prove '..Said' where nothing that the law and all that it calls make is longer than what came in: it says more and counts as full. Else prove '..UptoSaid'. A law counts once. -/
mutual
def uptoBulk {H : Type} : DataW H → Nat
  | .lit (.string bytes) => bytes.length + 1
  | .lit _ => 1
  | .nil => 1
  | .ptr d => uptoBulk d + 1
  | .slice elems spare => uptoBulkAll elems + uptoBulkAll spare + 1
  | .agg parts => uptoBulkAll parts + 1
  | .iface _ d => uptoBulk d + 1
  | .map entries => uptoBulkEntries entries + 1
  | .held _ => 1
def uptoBulkAll {H : Type} : List (DataW H) → Nat
  | [] => 0
  | d :: r => uptoBulk d + uptoBulkAll r
def uptoBulkEntries {H : Type} : List (Lit × DataW H) → Nat
  | [] => 0
  | x :: r => uptoBulkEntry x + uptoBulkEntries r
def uptoBulkEntry {H : Type} : Lit × DataW H → Nat
  | (.string bytes, d) => bytes.length + uptoBulk d + 1
  | (_, d) => uptoBulk d + 1
 end
def uptoSmall : (H : Type) → List (DataW H) → Bool := fun _ ds => decide (uptoBulkAll ds ≤ 1048576)
def OpenSpec.upto (s : _root_.Go.ChangeSpec) : _root_.Go.OpenSpec := { _root_.Go.OpenSpec.ofChange s with cond := some uptoSmall }

/-- 'latinerlaw03.PrimCodes', WHERE WHAT IT READS IS OF BULK AT MOST 1048576: true; the input reads as it did. -/
def primCodesUptoRow : OpenClaim := { program := "ytmfnenlinhljkaadoor", sum := "57cf59377ca31d3e8b0959428af04586e44ba309fb3c3cca256fd9e07991b2d1", func := "latiner/latinerlaw03.PrimCodes", spec := "primCodes", inPlace := ["internal/reflectlite.ValueOf", "(internal/reflectlite.Value).Type", "(internal/reflectlite.Value).IsNil", "internal/reflectlite.TypeOf", "(internal/reflectlite.Value).Elem", "(internal/reflectlite.Value).Set"], unfollowed := true, recurses := true, named := ["latiner/prim.errNumber", "latiner/prim.errBool", "errors.errorType"], apart := false, laid := [("errors.errorType", laid_errors_errorType), ("latiner/prim.errNumber", laid_latiner_prim_errNumber), ("latiner/prim.errBool", laid_latiner_prim_errBool)], narrowed := true }
def PrimCodesUptoSaid : Prop := primCodesUptoRow.holds Tryd.pinned (OpenSpec.upto primCodesSpec)

/-- 'latinerlaw03.PrimBack', WHERE WHAT IT READS IS OF BULK AT MOST 1048576: true; the input reads as it did. -/
def primBackUptoRow : OpenClaim := { program := "ytmfnenlinhljkaadoor", sum := "57cf59377ca31d3e8b0959428af04586e44ba309fb3c3cca256fd9e07991b2d1", func := "latiner/latinerlaw03.PrimBack", spec := "primBack", inPlace := ["internal/reflectlite.ValueOf", "(internal/reflectlite.Value).Type", "(internal/reflectlite.Value).IsNil", "internal/reflectlite.TypeOf", "(internal/reflectlite.Value).Elem", "(internal/reflectlite.Value).Set"], unfollowed := true, recurses := true, named := ["latiner/prim.errNumber", "latiner/prim.errBool", "errors.errorType"], apart := false, laid := [("errors.errorType", laid_errors_errorType), ("latiner/prim.errNumber", laid_latiner_prim_errNumber), ("latiner/prim.errBool", laid_latiner_prim_errBool)], narrowed := true }
def PrimBackUptoSaid : Prop := primBackUptoRow.holds Tryd.pinned (OpenSpec.upto primBackSpec)

/-- 'latinerlaw03.PrimOrder', WHERE WHAT IT READS IS OF BULK AT MOST 1048576: true; the input reads as it did. -/
def primOrderUptoRow : OpenClaim := { program := "ytmfnenlinhljkaadoor", sum := "57cf59377ca31d3e8b0959428af04586e44ba309fb3c3cca256fd9e07991b2d1", func := "latiner/latinerlaw03.PrimOrder", spec := "primOrder", inPlace := ["internal/reflectlite.ValueOf", "(internal/reflectlite.Value).Type", "(internal/reflectlite.Value).IsNil", "internal/reflectlite.TypeOf", "(internal/reflectlite.Value).Elem", "(internal/reflectlite.Value).Set"], unfollowed := true, recurses := true, named := ["latiner/prim.errNumber", "latiner/prim.errBool", "errors.errorType"], apart := false, laid := [("errors.errorType", laid_errors_errorType), ("latiner/prim.errNumber", laid_latiner_prim_errNumber), ("latiner/prim.errBool", laid_latiner_prim_errBool)], narrowed := true }
def PrimOrderUptoSaid : Prop := primOrderUptoRow.holds Tryd.pinned (OpenSpec.upto primOrderSpec)

/-- 'latinerlaw03.PrimSizes', WHERE WHAT IT READS IS OF BULK AT MOST 1048576: true; the input reads as it did. -/
def primSizesUptoRow : OpenClaim := { program := "ytmfnenlinhljkaadoor", sum := "57cf59377ca31d3e8b0959428af04586e44ba309fb3c3cca256fd9e07991b2d1", func := "latiner/latinerlaw03.PrimSizes", spec := "primSizes", inPlace := ["internal/reflectlite.ValueOf", "(internal/reflectlite.Value).Type", "(internal/reflectlite.Value).IsNil", "internal/reflectlite.TypeOf", "(internal/reflectlite.Value).Elem", "(internal/reflectlite.Value).Set"], unfollowed := true, recurses := true, named := ["latiner/prim.errNumber", "latiner/prim.errBool", "errors.errorType"], apart := false, laid := [("errors.errorType", laid_errors_errorType), ("latiner/prim.errNumber", laid_latiner_prim_errNumber), ("latiner/prim.errBool", laid_latiner_prim_errBool)], narrowed := true }
def PrimSizesUptoSaid : Prop := primSizesUptoRow.holds Tryd.pinned (OpenSpec.upto primSizesSpec)

/-- 'latinerlaw03.PrimLonger', WHERE WHAT IT READS IS OF BULK AT MOST 1048576: true; the input reads as it did. -/
def primLongerUptoRow : OpenClaim := { program := "ytmfnenlinhljkaadoor", sum := "57cf59377ca31d3e8b0959428af04586e44ba309fb3c3cca256fd9e07991b2d1", func := "latiner/latinerlaw03.PrimLonger", spec := "primLonger", inPlace := ["internal/reflectlite.ValueOf", "(internal/reflectlite.Value).Type", "(internal/reflectlite.Value).IsNil", "internal/reflectlite.TypeOf", "(internal/reflectlite.Value).Elem", "(internal/reflectlite.Value).Set"], unfollowed := true, recurses := true, named := ["latiner/prim.errNumber", "latiner/prim.errBool", "errors.errorType"], apart := false, laid := [("errors.errorType", laid_errors_errorType), ("latiner/prim.errNumber", laid_latiner_prim_errNumber), ("latiner/prim.errBool", laid_latiner_prim_errBool)], narrowed := true }
def PrimLongerUptoSaid : Prop := primLongerUptoRow.holds Tryd.pinned (OpenSpec.upto primLongerSpec)

/-- 'latinerlaw03.PrimTrue', WHERE WHAT IT READS IS OF BULK AT MOST 1048576: true; the input reads as it did. -/
def primTrueUptoRow : OpenClaim := { program := "ytmfnenlinhljkaadoor", sum := "57cf59377ca31d3e8b0959428af04586e44ba309fb3c3cca256fd9e07991b2d1", func := "latiner/latinerlaw03.PrimTrue", spec := "primTrue", inPlace := ["internal/reflectlite.ValueOf", "(internal/reflectlite.Value).Type", "(internal/reflectlite.Value).IsNil", "internal/reflectlite.TypeOf", "(internal/reflectlite.Value).Elem", "(internal/reflectlite.Value).Set"], unfollowed := true, recurses := true, named := ["latiner/prim.errNumber", "latiner/prim.errBool", "errors.errorType"], apart := false, laid := [("errors.errorType", laid_errors_errorType), ("latiner/prim.errNumber", laid_latiner_prim_errNumber), ("latiner/prim.errBool", laid_latiner_prim_errBool)], narrowed := true }
def PrimTrueUptoSaid : Prop := primTrueUptoRow.holds Tryd.pinned (OpenSpec.upto primTrueSpec)

/-- 'latinerlaw01.SizeCodes', WHERE WHAT IT READS IS OF BULK AT MOST 1048576: true; the input reads as it did. -/
def sizeCodesUptoRow : OpenClaim := { program := "ytmfnenlinhljkaadoor", sum := "57cf59377ca31d3e8b0959428af04586e44ba309fb3c3cca256fd9e07991b2d1", func := "latiner/latinerlaw01.SizeCodes", spec := "sizeCodes", inPlace := ["internal/reflectlite.ValueOf", "(internal/reflectlite.Value).Type", "(internal/reflectlite.Value).IsNil", "internal/reflectlite.TypeOf", "(internal/reflectlite.Value).Elem", "(internal/reflectlite.Value).Set"], unfollowed := true, recurses := true, named := ["latiner/size.errSize", "latiner/size.errShort", "latiner/size.errForm", "errors.errorType"], apart := false, laid := [("errors.errorType", laid_errors_errorType), ("latiner/size.errShort", laid_latiner_size_errShort), ("latiner/size.errForm", laid_latiner_size_errForm), ("latiner/size.errSize", laid_latiner_size_errSize)], narrowed := true }
def SizeCodesUptoSaid : Prop := sizeCodesUptoRow.holds Tryd.pinned (OpenSpec.upto sizeCodesSpec)

/-- 'latinerlaw01.SizeBack', WHERE WHAT IT READS IS OF BULK AT MOST 1048576: true; the input reads as it did. -/
def sizeBackUptoRow : OpenClaim := { program := "ytmfnenlinhljkaadoor", sum := "57cf59377ca31d3e8b0959428af04586e44ba309fb3c3cca256fd9e07991b2d1", func := "latiner/latinerlaw01.SizeBack", spec := "sizeBack", inPlace := ["internal/reflectlite.ValueOf", "(internal/reflectlite.Value).Type", "(internal/reflectlite.Value).IsNil", "internal/reflectlite.TypeOf", "(internal/reflectlite.Value).Elem", "(internal/reflectlite.Value).Set"], unfollowed := true, recurses := true, named := ["latiner/size.errSize", "latiner/size.errShort", "latiner/size.errForm", "errors.errorType"], apart := false, laid := [("errors.errorType", laid_errors_errorType), ("latiner/size.errShort", laid_latiner_size_errShort), ("latiner/size.errForm", laid_latiner_size_errForm), ("latiner/size.errSize", laid_latiner_size_errSize)], narrowed := true }
def SizeBackUptoSaid : Prop := sizeBackUptoRow.holds Tryd.pinned (OpenSpec.upto sizeBackSpec)

/-- 'latinerlaw01.SizeLeast', WHERE WHAT IT READS IS OF BULK AT MOST 1048576: true; the input reads as it did. -/
def sizeLeastUptoRow : OpenClaim := { program := "ytmfnenlinhljkaadoor", sum := "57cf59377ca31d3e8b0959428af04586e44ba309fb3c3cca256fd9e07991b2d1", func := "latiner/latinerlaw01.SizeLeast", spec := "sizeLeast", inPlace := ["internal/reflectlite.ValueOf", "(internal/reflectlite.Value).Type", "(internal/reflectlite.Value).IsNil", "internal/reflectlite.TypeOf", "(internal/reflectlite.Value).Elem", "(internal/reflectlite.Value).Set"], unfollowed := true, recurses := true, named := ["latiner/size.errSize", "latiner/size.errShort", "latiner/size.errForm", "errors.errorType"], apart := false, laid := [("errors.errorType", laid_errors_errorType), ("latiner/size.errShort", laid_latiner_size_errShort), ("latiner/size.errForm", laid_latiner_size_errForm), ("latiner/size.errSize", laid_latiner_size_errSize)], narrowed := true }
def SizeLeastUptoSaid : Prop := sizeLeastUptoRow.holds Tryd.pinned (OpenSpec.upto sizeLeastSpec)

/-- 'latinerlaw01.SizeOrder', WHERE WHAT IT READS IS OF BULK AT MOST 1048576: true; the input reads as it did. -/
def sizeOrderUptoRow : OpenClaim := { program := "ytmfnenlinhljkaadoor", sum := "57cf59377ca31d3e8b0959428af04586e44ba309fb3c3cca256fd9e07991b2d1", func := "latiner/latinerlaw01.SizeOrder", spec := "sizeOrder", inPlace := ["internal/reflectlite.ValueOf", "(internal/reflectlite.Value).Type", "(internal/reflectlite.Value).IsNil", "internal/reflectlite.TypeOf", "(internal/reflectlite.Value).Elem", "(internal/reflectlite.Value).Set"], unfollowed := true, recurses := true, named := ["latiner/size.errSize", "latiner/size.errShort", "latiner/size.errForm", "errors.errorType"], apart := false, laid := [("errors.errorType", laid_errors_errorType), ("latiner/size.errShort", laid_latiner_size_errShort), ("latiner/size.errForm", laid_latiner_size_errForm), ("latiner/size.errSize", laid_latiner_size_errSize)], narrowed := true }
def SizeOrderUptoSaid : Prop := sizeOrderUptoRow.holds Tryd.pinned (OpenSpec.upto sizeOrderSpec)

/-- 'latinerlaw01.SizeCuts', WHERE WHAT IT READS IS OF BULK AT MOST 1048576: true; the input reads as it did. -/
def sizeCutsUptoRow : OpenClaim := { program := "ytmfnenlinhljkaadoor", sum := "57cf59377ca31d3e8b0959428af04586e44ba309fb3c3cca256fd9e07991b2d1", func := "latiner/latinerlaw01.SizeCuts", spec := "sizeCuts", inPlace := ["internal/reflectlite.ValueOf", "(internal/reflectlite.Value).Type", "(internal/reflectlite.Value).IsNil", "internal/reflectlite.TypeOf", "(internal/reflectlite.Value).Elem", "(internal/reflectlite.Value).Set"], unfollowed := true, recurses := true, named := ["latiner/size.errSize", "latiner/size.errShort", "latiner/size.errForm", "errors.errorType"], apart := false, laid := [("errors.errorType", laid_errors_errorType), ("latiner/size.errShort", laid_latiner_size_errShort), ("latiner/size.errForm", laid_latiner_size_errForm), ("latiner/size.errSize", laid_latiner_size_errSize)], narrowed := true }
def SizeCutsUptoSaid : Prop := sizeCutsUptoRow.holds Tryd.pinned (OpenSpec.upto sizeCutsSpec)

/-- 'latinerlaw01.SizeLong', WHERE WHAT IT READS IS OF BULK AT MOST 1048576: true; the input reads as it did. -/
def sizeLongUptoRow : OpenClaim := { program := "ytmfnenlinhljkaadoor", sum := "57cf59377ca31d3e8b0959428af04586e44ba309fb3c3cca256fd9e07991b2d1", func := "latiner/latinerlaw01.SizeLong", spec := "sizeLong", inPlace := ["internal/reflectlite.ValueOf", "(internal/reflectlite.Value).Type", "(internal/reflectlite.Value).IsNil", "internal/reflectlite.TypeOf", "(internal/reflectlite.Value).Elem", "(internal/reflectlite.Value).Set"], unfollowed := true, recurses := true, named := ["latiner/size.errSize", "latiner/size.errShort", "latiner/size.errForm", "errors.errorType"], apart := false, laid := [("errors.errorType", laid_errors_errorType), ("latiner/size.errShort", laid_latiner_size_errShort), ("latiner/size.errForm", laid_latiner_size_errForm), ("latiner/size.errSize", laid_latiner_size_errSize)], narrowed := true }
def SizeLongUptoSaid : Prop := sizeLongUptoRow.holds Tryd.pinned (OpenSpec.upto sizeLongSpec)

end Rows
end Go.Proofs.YtmfnenlinhljkaaDoor
