/- TFoldRead1: own texts of this seat, laid as one. -/
import Derived.Test.YtjnfoocmilbdlaaGreatDoorWApart
import Derived.Test.YtjnfoocmilbdlaaGreatDoorWArr
import Derived.Test.YtjnfoocmilbdlaaGreatDoorWFoot
import Derived.Test.YtjnfoocmilbdlaaGreatDoorWKept
import Derived.Test.YtjnfoocmilbdlaaGreatDoorWLast
import Derived.Test.YtjnfoocmilbdlaaGreatDoorWMore
import Derived.Test.YtjnfoocmilbdlaaGreatDoorWN
import Derived.Test.YtjnfoocmilbdlaaGreatDoorWNEv
import Derived.Test.YtjnfoocmilbdlaaGreatDoorWQPut
import Derived.Test.YtjnfoocmilbdlaaGreatDoorWRepsOne
import Derived.Test.YtjnfoocmilbdlaaGreatDoorWShare
import Derived.Test.YtjnfoocmilbdlaaGreatDoorWWords
import Derived.Test.YtjnfoocmilbdlaaGreatDoorWZeros
import Derived.Test.YtjnfoocmilbdlaaGreatDoorProg
import Derived.WalkKit
import Derived.WalkLawsBesides
import Derived.WalkSpells
import Derived.Laws.Rows
import Derived.Laws.Tables
import Derived.Below
import Derived.Lib.Hide
import Derived.Laws.BitsLemmas
import Derived.Laws.BitsAllLaws
import Derived.Lib.ConvBytes
import Derived.LaidEql
import Derived.Stop.Asserts
import Derived.RowKitTokens
import Derived.RangeFuncNested
import Derived.RangeFuncBound
import Derived.RangeFuncCalls
import Derived.RangeFuncLeaves
import Derived.Shelf.Abstract
import Derived.Shelf.RegionOpen
import Derived.OwnWalkIn
import Derived.TacticsInMore
import Derived.LoopNIn
import Derived.LoopIn
import Derived.Maps.AppendAt
import Derived.RegionTactic
import Derived.LoopTactic
import Derived.Outline
import Derived.Lib.Strings
import Derived.Lib.TrimByte
import Derived.Shelf.Strings.Builder1
import Derived.Shelf.Strings.Trim
import Derived.Shelf.Small.Utf8
import Derived.Shelf.Small.Strs
import Derived.Shelf.Small.Wraps
import Derived.Shelf.Strings.BuilderF
import Derived.Shelf.Strings.BuilderK
import Derived.Shelf.Strings.Search1
import Derived.Shelf.Strings.Search2
import Derived.Shelf.Strings.Cut
import Derived.Shelf.LaysM
import Derived.Shelf.Strings.Shaped
import Derived.Shelf.GgClosure.StringsIndexFunc
import Derived.Ground.GgwProg
import Derived.Shelf.GgClosure.StringsIndexFuncTop
import Derived.Shelf.GgClosure.StringsRunes
import Derived.Shelf.Strings.Prefix
import Derived.Shelf.Unicode.Decode
import Derived.Shelf.Strings.Runes
import Derived.Shelf.Strings.IndexAny
import Derived.Shelf.Strings.AsciiSet
import Derived.Shelf.Strings.IndexAnyAll
import Derived.Shelf.Unicode.DecodeSlow
import Derived.Shelf.Unicode.DecodeAny
import Derived.Shelf.Unicode.DecodeLast
import Derived.Shelf.Strings.FuncGrows
import Derived.Shelf.Strings.BuilderCap
import Derived.Laws.Runes
import Derived.Lib.OthersKept
import Derived.Deep.RegionHeld3
import Derived.Lib.Bytealg
import Derived.Laws.RangeAny
import Derived.Lib.IndexMore
import Derived.Lib.IndexBytes
import Derived.Lib.IndexLaws
import Derived.Lib.CutLaws
import Derived.Lib.RuneBytes
import Derived.BigCall
import Derived.Shelf.Strings.MapGrows
import Derived.Defers
import Derived.Laws.OwnMore
import Derived.Deep.QuietTactic
import Derived.BigQuiet
import Derived.IntWalk
import Derived.WalkSmall
import Derived.Laws.RangeString
import Derived.Maps.OwnIn
import Derived.Lib.SmallJoins
import Derived.StillTailTactics
import Derived.Deep.AppendLies
import Derived.Laws.Bits128
import Derived.Lib.IndexAny
import Derived.Test.YtjnfoocmilbdlaaGreatDoorRows
import Derived.ProofKit
import Derived.LaidMore
import Derived.OpenShut
import Derived.LaidHandle
import Derived.Stop.Joined
import Derived.Stop.LaidErr
import Derived.Lib.LaidU8
import Derived.Lay
import Derived.Lib.LaidIn
import Derived.Deep.Draws
import Derived.OwnWalk
import Derived.Laws.BytesArg
import Derived.Laws.MakeOwn
import Derived.Deep.OwnRows
import Derived.Tactics
import Derived.Laws.Slices
import Derived.KernelRfl
import Derived.RowKit3
import Derived.Deep.LoopGhost
import Derived.WideLaws
import Derived.Deep.DeepCutAuto
import Derived.Deep.CutBlock
import Derived.Lib.AppendStr
import Derived.ArgAppend
import Derived.Laws.IdiomCopy
import Derived.OrdersHeld
import Derived.RowKit
import Derived.Handed
import Derived.Shelf.Vars
import Derived.Test.YtjnfoocmilbdlaaGreatDoorCards
import Derived.Test.YtjnfoocmilbdlaaGreatDoorTie
import Derived.ShutString
import Derived.SizedLaws
import Derived.ChangeOld
/- Small lemmas on worlds that all walks of this seat use. -/
namespace Go.Proofs.YtjnfoocmilbdlaaGreatDoor
set_option linter.unusedSimpArgs false
set_option linter.unusedVariables false
open Go.RowKit
theorem bl_alloc {a w : World} (h : Below a.heap.size a w) (o : Obj) : Below a.heap.size a (w.alloc o) := h.alloc h.size o
theorem bl_trans {a w w' : World} (h : Below a.heap.size a w) (h' : Below w.heap.size w w') : Below a.heap.size a w' := h.trans (h'.mono h.size)
theorem lt_of_cell {w : World} {a : Addr} {v : Value} (h : w.cell? a = some v) : a.block < w.heap.size := by
  rcases Nat.lt_or_ge a.block w.heap.size with h' | h'
  · exact h'
  · simp [World.cell?, Array.getElem?_eq_none h'] at h
theorem setRow_below {g B : Nat} {a w : World} (h : Below B a w) (hp : B ≤ g) (cs : Array Value) : Below B a (w.setRow g cs) := by
  refine h.trans ⟨rfl, rfl, rfl, by simp [World.setRow], fun k hk => ?_⟩
  simp only [World.setRow, Array.getElem?_modify]
  rw [if_neg (by omega)]
theorem setRow_heap {g : Nat} {w : World} {cs old : Array Value} {t : TypeId} (h : w.heap[g]? = some (.cells old t (0, 0))) : (w.setRow g cs).heap[g]? = some (.cells cs t (0, 0)) := by
  simp only [World.setRow, Array.getElem?_modify, h]
  simp
end Go.Proofs.YtjnfoocmilbdlaaGreatDoor
/- Go's own errors.As and errors.Is at this seat: closed facts on the entries of internal/reflectlite, and the contracts at nil. -/
namespace Go.Proofs.YtjnfoocmilbdlaaGreatDoor
set_option linter.unusedSimpArgs false
set_option linter.unusedVariables false
open Go.RowKit Go.Extern.Stop Go.Stop Go.Extern

/-- errors.As(nil, target). -/
theorem as_nil (t : Value) (w : World) :
    Calls Tryz.prog 45 #[.nilIface, t] w fun e w' => e = .returned (.bool false) ∧ w = w' := by
  go_enter Tryz.func45, Tryz.ntmps45
  go_wp2
  go_ret
  exact ⟨rfl, rfl⟩

/-- errors.Is(nil, x). -/
theorem is_nil (b : Addr) (w : World) :
    Calls Tryz.prog 46 #[.nilIface, .iface 163 (.pointer (some b))] w fun e w' => e = .returned (.bool false) ∧ w = w' := by
  have hn := run_eql_iface_nil_left (P := Tryz.prog) w 163 (.pointer (some b)) Tryz.underlying40
  go_enter Tryz.func46, Tryz.ntmps46
  go_wp2
  go_ret
  exact ⟨rfl, rfl⟩

theorem rlm (z : Sem Value) (f : TypeId → Addr → Nat → Nat → Sem Value) (v : Value) :
    ReflectliteValue.method z f #[v] = (do match ← ReflectliteValue.parts v with | none => z | some (t, a, fl) => f t a fl (fl % 32)) := rfl
theorem rls (v x : Value) : ReflectliteValue.set #[v, x] = (do
    let (some (dst, a, fl), some (src, b, _)) := (← ReflectliteValue.parts v, ← ReflectliteValue.parts x)
      | unsupported (.noEntry "extern/(internal/reflectlite.Value).Set.zeroValue")
    if fl / ReflectliteValue.flagAddr % 2 == 0 then unsupported (.noEntry "extern/(internal/reflectlite.Value).Set.unaddressable")
    let val ← loadVar src b
    if ← Rtype.directlyAssignable dst src then storeVar dst a val
    else if ← Rtype.implements dst src then
      if (← Rtype.kind src) == 20 then
        match val with
        | .nilIface => unsupported (.noEntry "extern/reflectlite: a nil value of one interface type handed on as a value of another")
        | _ => storeVar dst a val
      else storeVar dst a (.iface src val)
    else panicString ("reflectlite.Set: value of type " ++ (← Rtype.spelt src) ++ " is not assignable to type " ++ (← Rtype.spelt dst))
    pure (.tuple #[])) := rfl

theorem eMethodKind (h : Value) (w : World) : (Go.method 294 129 (.agg #[h]) "Kind").run Tryz.prog w = .ok (129, h) w := by kernel_rfl
theorem eMethodElem (h : Value) (w : World) : (Go.method 294 129 (.agg #[h]) "Elem").run Tryz.prog w = .ok (141, .agg #[h]) w := by kernel_rfl
theorem eMethodImplements (h : Value) (w : World) : (Go.method 294 129 (.agg #[h]) "Implements").run Tryz.prog w = .ok (142, .agg #[h]) w := by kernel_rfl
theorem eMethodAssignableTo (h : Value) (w : World) : (Go.method 294 129 (.agg #[h]) "AssignableTo").run Tryz.prog w = .ok (139, .agg #[h]) w := by kernel_rfl
theorem eMethodComparable (v : Value) (w : World) : (Go.method 294 129 v "Comparable").run Tryz.prog w = .ok (140, v) w := by kernel_rfl
theorem eTypeOfES (v : Value) (w : World) : (ReflectliteType.typeOf #[.iface 163 v]).run Tryz.prog w = .ok (.iface 129 (.agg #[.pointer (some ⟨9, 163, none⟩)])) w := by kernel_rfl
/-- the model's entry for (rtype).Comparable, under a name -/
def cmpE : Array Value → Sem Value := ReflectliteType.method fun t => do Rtype.noPackHeld "Comparable" t; pure (.bool (← typeInfo t).comparable)
theorem eComparableES (w : World) : (cmpE #[.agg #[.pointer (some ⟨9, 163, none⟩)]]).run Tryz.prog w = .ok (.bool true) w := by kernel_rfl
theorem eComp : (Tryz.prog.info? 163).map (·.comparable) = some true := by kernel_rfl
theorem eSize : (Tryz.prog.info? 182).map (·.size) = some 1 := by kernel_rfl
theorem eNoIs (v : Value) (xT : TypeId) (w : World) : (Instr.typeAssert (.iface 163 v) xT 141 true).run Tryz.prog w = .ok (.tuple #[.nilIface, .bool false]) w := run_typeAssert_lacksB Tryz.underlying141 (by kernel_rfl) (by kernel_rfl) v xT w
theorem eNoUnwrap (v : Value) (xT : TypeId) (w : World) : (Instr.typeAssert (.iface 163 v) xT 136 true).run Tryz.prog w = .ok (.tuple #[.nilIface, .bool false]) w := run_typeAssert_lacksB Tryz.underlying136 (by kernel_rfl) (by kernel_rfl) v xT w
theorem eNoUnwraps (v : Value) (xT : TypeId) (w : World) : (Instr.typeAssert (.iface 163 v) xT 138 true).run Tryz.prog w = .ok (.tuple #[.nilIface, .bool false]) w := run_typeAssert_lacksB Tryz.underlying138 (by kernel_rfl) (by kernel_rfl) v xT w
end Go.Proofs.YtjnfoocmilbdlaaGreatDoor
/- Go's own errors.As and errors.Is at the errors of one package: a struct of two cells, the second a sentinel of errors.New's make. -/
namespace Go.Proofs.YtjnfoocmilbdlaaGreatDoor
set_option linter.unusedSimpArgs false
set_option linter.unusedVariables false
namespace Fold
open Go.RowKit Go.Extern.Stop Go.Stop Go.Extern

/-- the error as a value -/
abbrev werr (n : Int) (b : Addr) : Value := .iface 57 (.agg #[.int .i64 n, .iface 163 (.pointer (some b))])

theorem valueOfPW (t : Addr) (w : World) : (ReflectliteValue.unpack (.iface 72 (.pointer (some t)))).run Tryz.prog w
    = .ok (.agg #[.pointer (some ⟨9, 72, none⟩), .pointer (some ⟨w.heap.size, 0, none⟩), .int .u64 150]) (w.alloc (.cells #[.pointer (some t)] 72)) := by kernel_rfl
theorem typePW (a : Addr) (w : World) : (ReflectliteValue.methodAny (ReflectliteValue.valueError "reflectlite.Value.Type" 0) (fun t _ _ _ => ReflectliteType.toType t) #[.agg #[.pointer (some ⟨9, 72, none⟩), .pointer (some a), .int .u64 150]]).run Tryz.prog w
    = .ok (.iface 129 (.agg #[.pointer (some ⟨9, 72, none⟩)])) w := by kernel_rfl
theorem kindPW (w : World) : ((ReflectliteType.abiMethod fun t => (fun a : Nat => Value.int IntKind.u8 (a : Int)) <$> Rtype.kind t) #[.pointer (some ⟨9, 72, none⟩)]).run Tryz.prog w = .ok (.int .u8 22) w := by kernel_rfl
theorem kindW (w : World) : ((ReflectliteType.abiMethod fun t => (fun a : Nat => Value.int IntKind.u8 (a : Int)) <$> Rtype.kind t) #[.pointer (some ⟨9, 57, none⟩)]).run Tryz.prog w = .ok (.int .u8 25) w := by kernel_rfl
theorem partsPW (a : Addr) (w : World) : (ReflectliteValue.parts (.agg #[.pointer (some ⟨9, 72, none⟩), .pointer (some a), .int .u64 150])).run Tryz.prog w = .ok (some (72, a, 150)) w := by kernel_rfl
theorem isNilPW (a p : Addr) (W : World) (ha : W.cell? a = some (.pointer (some p))) :
    (ReflectliteValue.method (ReflectliteValue.valueError "reflectlite.Value.IsNil" 0) ReflectliteValue.isNil #[.agg #[.pointer (some ⟨9, 72, none⟩), .pointer (some a), .int .u64 150]]).run Tryz.prog W = .ok (.bool false) W := by
  rw [rlm]
  simp only [Sem.run_bind, partsPW, Result.andThen]
  simp [ReflectliteValue.isNil, loadVar, isAgg, underlying, Tryz.underlying72, ha, Result.andThen]
theorem elemPW (w : World) : (ReflectliteType.method ReflectliteType.elem #[.agg #[.pointer (some ⟨9, 72, none⟩)]]).run Tryz.prog w = .ok (.iface 129 (.agg #[.pointer (some ⟨9, 57, none⟩)])) w := by kernel_rfl
theorem implementsW (w : World) : (ReflectliteType.relation "Implements" ReflectliteType.implements_ #[.agg #[.pointer (some ⟨9, 57, none⟩)], .iface 129 (.agg #[.pointer (some ⟨9, 40, none⟩)])]).run Tryz.prog w = .ok (.bool true) w := by kernel_rfl
theorem typeOfW (v : Value) (w : World) : (ReflectliteType.typeOf #[.iface 57 v]).run Tryz.prog w = .ok (.iface 129 (.agg #[.pointer (some ⟨9, 57, none⟩)])) w := by kernel_rfl
theorem assignableW (w : World) : (ReflectliteType.relation "AssignableTo" ReflectliteType.assignableTo #[.agg #[.pointer (some ⟨9, 57, none⟩)], .iface 129 (.agg #[.pointer (some ⟨9, 57, none⟩)])]).run Tryz.prog w = .ok (.bool true) w := by kernel_rfl
theorem valueOfW (n : Int) (b : Addr) (w : World) : (ReflectliteValue.unpack (werr n b)).run Tryz.prog w
    = .ok (.agg #[.pointer (some ⟨9, 57, none⟩), .pointer (some ⟨w.heap.size, 0, none⟩), .int .u64 153]) (w.alloc (.cells #[.int .i64 n, .iface 163 (.pointer (some b))] 57)) := by kernel_rfl
theorem elemOfPW (w : World) : (Rtype.elem? 72).run Tryz.prog w = .ok (some 57) w := by kernel_rfl
theorem mkW (p : Addr) (w : World) : (ReflectliteValue.mk 57 p ReflectliteValue.flagAddr).run Tryz.prog w = .ok (.agg #[.pointer (some ⟨9, 57, none⟩), .pointer (some p), .int .u64 409]) w := by kernel_rfl
theorem elemVPW (a p : Addr) (W : World) (ha : W.cell? a = some (.pointer (some p))) :
    (ReflectliteValue.method (ReflectliteValue.valueError "reflectlite.Value.Elem" 0) ReflectliteValue.elem #[.agg #[.pointer (some ⟨9, 72, none⟩), .pointer (some a), .int .u64 150]]).run Tryz.prog W
      = .ok (.agg #[.pointer (some ⟨9, 57, none⟩), .pointer (some p), .int .u64 409]) W := by
  rw [rlm]
  simp only [Sem.run_bind, partsPW, Result.andThen]
  simp [ReflectliteValue.elem, loadVar, isAgg, underlying, Tryz.underlying72, ha, Result.andThen, elemOfPW, mkW]
theorem partsWa (a : Addr) (w : World) : (ReflectliteValue.parts (.agg #[.pointer (some ⟨9, 57, none⟩), .pointer (some a), .int .u64 409])).run Tryz.prog w = .ok (some (57, a, 409)) w := by kernel_rfl
theorem partsW (a : Addr) (w : World) : (ReflectliteValue.parts (.agg #[.pointer (some ⟨9, 57, none⟩), .pointer (some a), .int .u64 153])).run Tryz.prog w = .ok (some (57, a, 153)) w := by kernel_rfl
theorem directW (w : World) : (Rtype.directlyAssignable 57 57).run Tryz.prog w = .ok true w := by kernel_rfl
theorem sizeW : (Tryz.prog.info? 57).map (·.size) = some 2 := by kernel_rfl
theorem setW (g gb : Nat) (v0 v1 : Value) (old : Array Value) (W : World) (hb : W.heap[gb]? = some (.cells #[v0, v1] 57 (0, 0))) (ht : W.heap[g]? = some (.cells old 57 (0, 0))) (ho : old.size = 2) (h1 : (#[v0, v1] : Array Value).all (·.oneCell') = true) :
    (ReflectliteValue.set #[.agg #[.pointer (some ⟨9, 57, none⟩), .pointer (some ⟨g, 0, none⟩), .int .u64 409], .agg #[.pointer (some ⟨9, 57, none⟩), .pointer (some ⟨gb, 0, none⟩), .int .u64 153]]).run Tryz.prog W
      = .ok (.tuple #[]) (W.setRow g #[v0, v1]) := by
  rw [rls]
  simp only [Sem.run_bind, partsWa, partsW, Result.andThen]
  simp [ReflectliteValue.flagAddr, run_loadVar_row (P := Tryz.prog) W gb 57 57 #[v0, v1] (0, 0) _ hb Tryz.underlying57 rfl sizeW, Result.andThen, directW, run_storeVar_row (P := Tryz.prog) W g 57 57 old #[v0, v1] ht sizeW ho h1]

set_option maxHeartbeats 4000000 in
theorem as_hit (n : Int) (b : Addr) (g : Nat) (old : Array Value) (w : World) (hg : w.cell? ⟨4, 0, none⟩ = some (.iface 129 (.agg #[.pointer (some ⟨9, 40, none⟩)])))
    (ht : w.heap[g]? = some (.cells old 57 (0, 0))) (ho : old.size = 2) :
    Calls Tryz.prog 45 #[werr n b, .iface 72 (.pointer (some ⟨g, 0, none⟩))] w fun ev w' => ev = .returned (.bool true) ∧ Below g w w' ∧ w'.heap[g]? = some (.cells #[.int .i64 n, .iface 163 (.pointer (some b))] 57 (0, 0)) := by
  have h6 := @run_callFunc_extern Tryz.prog 68 _ (fun args => ReflectliteValue.unpack (args.getD 0 (.tuple #[]))) Tryz.func68 (by kernel_rfl) (by kernel_rfl) (by kernel_rfl) (by kernel_rfl)
  have h7 := @run_callFunc_extern Tryz.prog 69 _ (ReflectliteValue.methodAny (ReflectliteValue.valueError "reflectlite.Value.Type" 0) (fun t _ _ _ => ReflectliteType.toType t)) Tryz.func69 (by kernel_rfl) (by kernel_rfl) (by kernel_rfl) (by kernel_rfl)
  have h8 := @run_callFunc_extern Tryz.prog 70 _ (ReflectliteValue.method (ReflectliteValue.valueError "reflectlite.Value.IsNil" 0) ReflectliteValue.isNil) Tryz.func70 (by kernel_rfl) (by kernel_rfl) (by kernel_rfl) (by kernel_rfl)
  have h27 := @run_callFunc_extern Tryz.prog 129 _ (ReflectliteType.abiMethod fun t => do pure (.int .u8 (← Rtype.kind t))) Tryz.func129 (by kernel_rfl) (by kernel_rfl) (by kernel_rfl) (by kernel_rfl)
  have h37 := @run_callFunc_extern Tryz.prog 141 _ (ReflectliteType.method ReflectliteType.elem) Tryz.func141 (by kernel_rfl) (by kernel_rfl) (by kernel_rfl) (by kernel_rfl)
  have h38 := @run_callFunc_extern Tryz.prog 142 _ (ReflectliteType.relation "Implements" ReflectliteType.implements_) Tryz.func142 (by kernel_rfl) (by kernel_rfl) (by kernel_rfl) (by kernel_rfl)
  have h10 := @run_callFunc_extern Tryz.prog 72 _ ReflectliteType.typeOf Tryz.func72 (by kernel_rfl) (by kernel_rfl) (by kernel_rfl) (by kernel_rfl)
  have h35 := @run_callFunc_extern Tryz.prog 139 _ (ReflectliteType.relation "AssignableTo" ReflectliteType.assignableTo) Tryz.func139 (by kernel_rfl) (by kernel_rfl) (by kernel_rfl) (by kernel_rfl)
  have h11 := @run_callFunc_extern Tryz.prog 95 _ (ReflectliteValue.method (ReflectliteValue.valueError "reflectlite.Value.Elem" 0) ReflectliteValue.elem) Tryz.func95 (by kernel_rfl) (by kernel_rfl) (by kernel_rfl) (by kernel_rfl)
  have h12 := @run_callFunc_extern Tryz.prog 96 _ ReflectliteValue.set Tryz.func96 (by kernel_rfl) (by kernel_rfl) (by kernel_rfl) (by kernel_rfl)
  have tO := typeOfW
  have mA := eMethodAssignableTo
  have a25 := assignableW
  have v25 := valueOfW n b
  have f6 := valueOfPW
  have f7 := typePW
  have mK := eMethodKind
  have mE := eMethodElem
  have mI := eMethodImplements
  have k27 := kindPW
  have k25 := kindW
  have e27 := elemPW
  have i25 := implementsW
  obtain ⟨W1, hW1⟩ : ∃ W1, (w.alloc (.cells #[.pointer (some ⟨g, 0, none⟩)] 72)).alloc (.cells #[.pointer (some ⟨9, 72, none⟩), .pointer (some ⟨w.heap.size, 0, none⟩), .int .u64 150] 106) = W1 := ⟨_, rfl⟩
  have n8 := isNilPW ⟨w.heap.size, 0, none⟩ ⟨g, 0, none⟩ ((w.alloc (.cells #[.pointer (some ⟨g, 0, none⟩)] 72)).alloc (.cells #[.pointer (some ⟨9, 72, none⟩), .pointer (some ⟨w.heap.size, 0, none⟩), .int .u64 150] 106)) (by simp)
  have hlt : 4 < w.heap.size := by
    rcases Nat.lt_or_ge 4 w.heap.size with h | h
    · exact h
    · simp [World.cell?, Array.getElem?_eq_none h] at hg
  have hg2 : ((w.alloc (.cells #[.pointer (some ⟨g, 0, none⟩)] 72)).alloc (.cells #[.pointer (some ⟨9, 72, none⟩), .pointer (some ⟨w.heap.size, 0, none⟩), .int .u64 150] 106)).cell? ⟨4, 0, none⟩ = some (.iface 129 (.agg #[.pointer (some ⟨9, 40, none⟩)])) := by
    rw [World.cell?_alloc_lt _ _ ⟨4, 0, none⟩ (by simp; omega), World.cell?_alloc_lt _ _ ⟨4, 0, none⟩ hlt]; exact hg
  have htl : g < w.heap.size := (Array.getElem?_eq_some_iff.1 ht).1
  have el := elemVPW ⟨w.heap.size, 0, none⟩ ⟨g, 0, none⟩ (((w.alloc (.cells #[.pointer (some ⟨g, 0, none⟩)] 72)).alloc (.cells #[.pointer (some ⟨9, 72, none⟩), .pointer (some ⟨w.heap.size, 0, none⟩), .int .u64 150] 106)).alloc (.cells #[.pointer (some ⟨9, 72, none⟩), .pointer (some ⟨w.heap.size, 0, none⟩), .int .u64 150] 106)) (by rw [World.cell?_alloc_lt _ _ ⟨w.heap.size, 0, none⟩ (by simp; omega)]; simp)
  obtain ⟨W4, hW4⟩ : ∃ W4, (((w.alloc (.cells #[.pointer (some ⟨g, 0, none⟩)] 72)).alloc (.cells #[.pointer (some ⟨9, 72, none⟩), .pointer (some ⟨w.heap.size, 0, none⟩), .int .u64 150] 106)).alloc (.cells #[.pointer (some ⟨9, 72, none⟩), .pointer (some ⟨w.heap.size, 0, none⟩), .int .u64 150] 106)).alloc (.cells #[.int .i64 n, .iface 163 (.pointer (some b))] 57) = W4 := ⟨_, rfl⟩
  have hB4 : Below (g + 1) w W4 := by rw [← hW4]; exact ((((Below.refl _ w).alloc (by omega) _).alloc (by simp; omega) _).alloc (by simp; omega) _).alloc (by simp; omega) _
  have ht4 : W4.heap[g]? = some (.cells old 57 (0, 0)) := (hB4.block g (by omega)).trans ht
  have hb4 : W4.heap[w.heap.size + 1 + 1 + 1]? = some (.cells #[.int .i64 n, .iface 163 (.pointer (some b))] 57 (0, 0)) := by
    rw [← hW4]
    show (Array.push _ _)[_]? = _
    rw [Array.getElem?_push, if_pos (by simp)]
  have st := setW g (w.heap.size + 1 + 1 + 1) (.int .i64 n) (.iface 163 (.pointer (some b))) old W4 hb4 ht4 ho (by simp [Value.oneCell'])
  have HR := setRow_heap (cs := #[.int .i64 n, .iface 163 (.pointer (some b))]) ht4
  have HB := setRow_below (g := g) (hB4.mono (Nat.le_succ g)) (Nat.le_refl _) #[.int .i64 n, .iface 163 (.pointer (some b))]
  rw [← hW4] at st HR HB
  have HR' : Hid _ := HR
  have HB' : Hid _ := HB
  clear HR HB hW1 ht4 hb4 hB4 hW4 ht ho
  go_enter Tryz.func45, Tryz.ntmps45
  go_wp2
  refine wp_loop_rounds 1 ?_
  rw [rounds_succ]
  go_wp2
  go_ret
  exact ⟨rfl, HB'.out, HR'.out⟩

/-! errors.Is -/
theorem noIsW (v : Value) (xT : TypeId) (w : World) : (Instr.typeAssert (.iface 57 v) xT 141 true).run Tryz.prog w = .ok (.tuple #[.nilIface, .bool false]) w := run_typeAssert_lacksB Tryz.underlying141 (by kernel_rfl) (by kernel_rfl) v xT w
theorem hasUnwrapW (v : Value) (xT : TypeId) (w : World) : (Instr.typeAssert (.iface 57 v) xT 136 true).run Tryz.prog w = .ok (.tuple #[.iface 57 v, .bool true]) w := run_typeAssert_hasB Tryz.underlying136 (by kernel_rfl) v xT w
theorem methodUnwrapW (v : Value) (w : World) : (Go.method 294 57 v "Unwrap").run Tryz.prog w = .ok (134, v) w := by kernel_rfl

set_option maxHeartbeats 4000000 in
theorem is_same (n : Int) (b : Addr) (w : World) :
    Calls Tryz.prog 46 #[werr n b, .iface 163 (.pointer (some b))] w fun e w' => e = .returned (.bool true) ∧ Below w.heap.size w w' := by
  obtain ⟨i, hi, hcmp⟩ := Option.map_eq_some_iff.1 eComp
  obtain ⟨j, hj, hjs⟩ := Option.map_eq_some_iff.1 eSize
  have h8 := @run_callFunc_extern Tryz.prog 72 _ Extern.ReflectliteType.typeOf Tryz.func72 (by kernel_rfl) (by kernel_rfl) (by kernel_rfl) (by kernel_rfl)
  have h32 := @run_callFunc_extern Tryz.prog 140 _ cmpE Tryz.func140 (by kernel_rfl) (by kernel_rfl) (by kernel_rfl) (by kernel_rfl)
  have tT := eTypeOfES
  have cT := eComparableES
  have mR := eMethodComparable
  have nE := eNoIs
  have uE := eNoUnwrap
  have vE := eNoUnwraps
  have nW := noIsW
  have uW := hasUnwrapW
  have mU := methodUnwrapW
  have heq := fun w => run_eql_iface_ptr_same (P := Tryz.prog) w b Tryz.underlying40 Tryz.underlying163 hi hcmp hj
  have hty := fun w => run_eql_iface_types (P := Tryz.prog) 57 163 (.agg #[.int .i64 n, .iface 163 (.pointer (some b))]) (.pointer (some b)) Tryz.underlying40 (by decide) w
  go_enter Tryz.func46, Tryz.ntmps46
  go_wp2
  refine wp_loop_rounds 2 ?_
  rw [rounds_succ]
  go_wp2
  rw [rounds_succ]
  go_wp2
  go_ret
  exact ⟨rfl, by repeat (first | exact Below.refl _ _ | refine Below.alloc ?_ (by simp) _)⟩

set_option maxHeartbeats 4000000 in
theorem is_other (n : Int) (a b : Addr) (ca cb : Array Value) (ta tb : TypeId) (w : World) (hne : a ≠ b) (ha : w.heap[a.block]? = some (.cells ca ta (0, 0))) (hb : w.heap[b.block]? = some (.cells cb tb (0, 0))) :
    Calls Tryz.prog 46 #[werr n a, .iface 163 (.pointer (some b))] w fun e w' => e = .returned (.bool false) ∧ Below w.heap.size w w' := by
  obtain ⟨i, hi, hcmp⟩ := Option.map_eq_some_iff.1 eComp
  obtain ⟨j, hj, hjs⟩ := Option.map_eq_some_iff.1 eSize
  have h8 := @run_callFunc_extern Tryz.prog 72 _ Extern.ReflectliteType.typeOf Tryz.func72 (by kernel_rfl) (by kernel_rfl) (by kernel_rfl) (by kernel_rfl)
  have h32 := @run_callFunc_extern Tryz.prog 140 _ cmpE Tryz.func140 (by kernel_rfl) (by kernel_rfl) (by kernel_rfl) (by kernel_rfl)
  have tT := eTypeOfES
  have cT := eComparableES
  have mR := eMethodComparable
  have nE := eNoIs
  have uE := eNoUnwrap
  have vE := eNoUnwraps
  have nW := noIsW
  have uW := hasUnwrapW
  have mU := methodUnwrapW
  have hal : a.block < w.heap.size := (Array.getElem?_eq_some_iff.1 ha).1
  have hbl : b.block < w.heap.size := (Array.getElem?_eq_some_iff.1 hb).1
  have heq := fun o => run_eql_iface_ptr_other (P := Tryz.prog) (w.alloc o) Tryz.underlying40 Tryz.underlying163 hi hcmp hj (by rw [hjs]; decide) hne ((Below.heap_alloc w o _ hal).trans ha) ((Below.heap_alloc w o _ hbl).trans hb)
  have hty := fun w => run_eql_iface_types (P := Tryz.prog) 57 163 (.agg #[.int .i64 n, .iface 163 (.pointer (some a))]) (.pointer (some b)) Tryz.underlying40 (by decide) w
  go_enter Tryz.func46, Tryz.ntmps46
  go_wp2
  refine wp_loop_rounds 2 ?_
  rw [rounds_succ]
  go_wp2
  rw [rounds_succ]
  go_wp2
  go_ret
  exact ⟨rfl, by repeat (first | exact Below.refl _ _ | refine Below.alloc ?_ (by simp) _)⟩
end Fold
end Go.Proofs.YtjnfoocmilbdlaaGreatDoor
/- What the package-level variables of one package hold. -/
namespace Go.Proofs.YtjnfoocmilbdlaaGreatDoor
set_option linter.unusedSimpArgs false
set_option linter.unusedVariables false
namespace Fold
open Go.RowKit
structure GA (a0 a1 a2 a3 : Addr) (w : World) : Prop where
  et : w.cell? ⟨4, 0, none⟩ = some (.iface 129 (.agg #[.pointer (some ⟨9, 40, none⟩)]))
  g0 : w.cell? ⟨0, 0, none⟩ = some (.iface 163 (.pointer (some a0)))
  g1 : w.cell? ⟨1, 0, none⟩ = some (.iface 163 (.pointer (some a1)))
  g2 : w.cell? ⟨3, 0, none⟩ = some (.iface 163 (.pointer (some a2)))
  g3 : w.cell? ⟨2, 0, none⟩ = some (.iface 163 (.pointer (some a3)))
  n01 : a0 ≠ a1
  n02 : a0 ≠ a2
  n03 : a0 ≠ a3
  n12 : a1 ≠ a2
  n13 : a1 ≠ a3
  n23 : a2 ≠ a3
  h0 : ∃ c t, w.heap[a0.block]? = some (.cells c t (0, 0))
  h1 : ∃ c t, w.heap[a1.block]? = some (.cells c t (0, 0))
  h2 : ∃ c t, w.heap[a2.block]? = some (.cells c t (0, 0))
  h3 : ∃ c t, w.heap[a3.block]? = some (.cells c t (0, 0))
theorem GA.below {a0 a1 a2 a3 : Addr} {w w' : World} (h : GA a0 a1 a2 a3 w) (hb : Below w.heap.size w w') : GA a0 a1 a2 a3 w' where
  et := (hb.cell (lt_of_cell h.et)).trans h.et
  g0 := (hb.cell (lt_of_cell h.g0)).trans h.g0
  g1 := (hb.cell (lt_of_cell h.g1)).trans h.g1
  g2 := (hb.cell (lt_of_cell h.g2)).trans h.g2
  g3 := (hb.cell (lt_of_cell h.g3)).trans h.g3
  n01 := h.n01
  n02 := h.n02
  n03 := h.n03
  n12 := h.n12
  n13 := h.n13
  n23 := h.n23
  h0 := by obtain ⟨c, t, hc⟩ := h.h0; exact ⟨c, t, (hb.block _ (Array.getElem?_eq_some_iff.1 hc).1).trans hc⟩
  h1 := by obtain ⟨c, t, hc⟩ := h.h1; exact ⟨c, t, (hb.block _ (Array.getElem?_eq_some_iff.1 hc).1).trans hc⟩
  h2 := by obtain ⟨c, t, hc⟩ := h.h2; exact ⟨c, t, (hb.block _ (Array.getElem?_eq_some_iff.1 hc).1).trans hc⟩
  h3 := by obtain ⟨c, t, hc⟩ := h.h3; exact ⟨c, t, (hb.block _ (Array.getElem?_eq_some_iff.1 hc).1).trans hc⟩
end Fold
end Go.Proofs.YtjnfoocmilbdlaaGreatDoor
/- A law for 'for x := range f { .. }' of this repo's own: the iterator may keep state of its own in blocks of a set SI that the loop's body leaves alone; the body's blocks are left alone by the iterator. -/
namespace Go.Proofs.YtjnfoocmilbdlaaGreatDoor
set_option linter.unusedSimpArgs false
set_option linter.unusedVariables false
open Go.RowKit

/-- From A to B blocks of S alone are turned, and new ones are laid. -/
structure Chg (S : Nat → Prop) (A B : World) : Prop where
  os : B.os = A.os
  tape : B.tape = A.tape
  output : B.output = A.output
  size : A.heap.size ≤ B.heap.size
  block : ∀ k, k < A.heap.size → ¬ S k → B.heap[k]? = A.heap[k]?
theorem Chg.refl (S : Nat → Prop) (A : World) : Chg S A A := ⟨rfl, rfl, rfl, Nat.le_refl _, fun _ _ _ => rfl⟩
theorem Chg.trans {S : Nat → Prop} {A B C : World} (h : Chg S A B) (k : Chg S B C) : Chg S A C :=
  ⟨k.os.trans h.os, k.tape.trans h.tape, k.output.trans h.output, Nat.le_trans h.size k.size, fun i hi hs => (k.block i (Nat.lt_of_lt_of_le hi h.size) hs).trans (h.block i hi hs)⟩
theorem Chg.mono {S T : Nat → Prop} {A B : World} (h : Chg S A B) (hst : ∀ k, S k → T k) : Chg T A B := ⟨h.os, h.tape, h.output, h.size, fun k hk hs => h.block k hk (fun hS => hs (hst k hS))⟩
theorem Chg.alloc {S : Nat → Prop} {A B : World} (h : Chg S A B) (o : Obj) : Chg S A (B.alloc o) :=
  h.trans ⟨rfl, rfl, rfl, by simp, fun k hk _ => Below.heap_alloc _ _ _ hk⟩
theorem Chg.drew {S : Nat → Prop} {A B : World} (h : Chg S A B) : Chg S A B.drew := ⟨h.os, h.tape, h.output, h.size, h.block⟩
theorem Chg.drewN {S : Nat → Prop} {A B : World} (h : Chg S A B) (n : Nat) : Chg S A (B.drewN n) := ⟨h.os, h.tape, h.output, h.size, h.block⟩
theorem Chg.setCell {S : Nat → Prop} {A B : World} (h : Chg S A B) {p : Addr} (hp : S p.block) (v : Value) : Chg S A (B.setCell p v) :=
  h.trans ⟨rfl, rfl, rfl, by simp [World.setCell], fun k _ hs => Below.heap_setCell _ _ _ _ (fun e => hs (e ▸ hp))⟩
theorem Chg.putObj {S : Nat → Prop} {A B : World} (h : Chg S A B) {l : Nat} (hl : S l) (o : Obj) : Chg S A (B.putObj l o) :=
  h.trans ⟨rfl, rfl, rfl, by simp, fun k _ hs => World.putObj_heap_other (fun e => hs (e ▸ hl))⟩
theorem Chg.below {S : Nat → Prop} {A B : World} (h : Chg S A B) {C : World} {n : Nat} (hb : Below n B C) (hn : ∀ k, k < A.heap.size → ¬ S k → k < n) : Chg S A C :=
  ⟨hb.os.trans h.os, hb.tape.trans h.tape, hb.output.trans h.output, Nat.le_trans h.size hb.size, fun k hk hs => (hb.block k (hn k hk hs)).trans (h.block k hk hs)⟩
/-- A call that leaves all that lay alone. -/
theorem Chg.call {S : Nat → Prop} {A B : World} (h : Chg S A B) {C : World} (hb : Below B.heap.size B C) : Chg S A C := h.below hb (fun _ hk _ => Nat.lt_of_lt_of_le hk h.size)
theorem Chg.grown {S : Nat → Prop} {A B : World} (h : Chg S A B) {C : World} {row : Option Nat} (hg : B.grownBy C row) (hr : ∀ r, row = some r → S r ∨ A.heap.size ≤ r) : Chg S A C :=
  ⟨hg.os.trans h.os, hg.tape.trans h.tape, hg.output.trans h.output, Nat.le_trans h.size hg.size, fun k hk hs => (hg.block k (Nat.lt_of_lt_of_le hk h.size) (fun e => by rcases hr k e.symm with h1 | h1; exact hs h1; omega)).trans (h.block k hk hs)⟩
theorem Below.chg {n : Nat} {a A B : World} (h : Below n a A) {S : Nat → Prop} (hc : Chg S A B) (hn : n ≤ A.heap.size) (hs : ∀ k, S k → n ≤ k) : Below n a B :=
  h.trans ⟨hc.os, hc.tape, hc.output, hc.size, fun k hk => hc.block k (by omega) (fun e => by have := hs k e; omega)⟩
theorem Chg.cell {S : Nat → Prop} {A B : World} (h : Chg S A B) {a : Addr} {v : Value} (hv : A.cell? a = some v) (hs : ¬ S a.block) : B.cell? a = some v :=
  (World.cell?_of_block (w := A) (h.block a.block (lt_of_cell hv) hs)).trans hv
theorem Chg.heap {S : Nat → Prop} {A B : World} (h : Chg S A B) {k : Nat} {o : Obj} (hv : A.heap[k]? = some o) (hs : ¬ S k) : B.heap[k]? = some o :=
  (h.block k (Array.getElem?_eq_some_iff.1 hv).1 hs).trans hv
theorem Chg.of_below {S : Nat → Prop} {A B : World} (h : Below A.heap.size A B) : Chg S A B := (Chg.refl S A).call h

variable {F : Fence} {n : Nat} {P : Program}

end Go.Proofs.YtjnfoocmilbdlaaGreatDoor
/- fold's errors: told, first; the small functions. -/
namespace Go.Proofs.YtjnfoocmilbdlaaGreatDoor
set_option linter.unusedSimpArgs false
set_option linter.unusedVariables false
namespace Fold
open Go.RowKit Go.Shelf
attribute [local go_sem] Oper.semAt_some
theorem told_nil (w : World) : Calls Tryz.prog 26 #[.nilIface] w fun e w' => e = .returned (.int .i64 0) ∧ Below w.heap.size w w' := by
  go_enter Tryz.func26, Tryz.ntmps26
  go_wp2_with (go_at_call 45; refine (as_nil _ _).mono ?_; rintro e w' ⟨rfl, rfl⟩)
  go_ret
  exact ⟨rfl, (Below.refl _ _).alloc (Nat.le_refl _) _⟩
theorem told_large (n : Int) (a0 a1 a2 a3 : Addr) (w : World) (h : GA a0 a1 a2 a3 w) :
    Calls Tryz.prog 26 #[werr n a0] w fun e w' => e = .returned (.int .i64 131) ∧ Below w.heap.size w w' := by
  have HG := Lib.hid h
  clear h
  go_enter Tryz.func26, Tryz.ntmps26
  have hB0 : Below w.heap.size w (w.alloc (.cells #[.int .i64 0, .nilIface] 57)) := (Below.refl _ _).alloc (Nat.le_refl _) _
  have hG0 := HG.out.below hB0
  go_wp2_with fail
  refine (as_hit n a0 w.heap.size _ _ hG0.et (World.alloc_heap_new w _) rfl).mono ?_
  rintro e w1 ⟨rfl, hb, hr1⟩
  have HB1 := Lib.hid (hB0.trans hb)
  have HR1 := Lib.hid hr1
  clear hG0 hB0 hb hr1
  have hG1 := HG.out.below HB1.out
  have c0_1 := cell_of_row w1 w.heap.size 0 _ _ _ HR1.out
  have c1_1 := cell_of_row w1 w.heap.size 1 _ _ _ HR1.out
  have gB1 := hG1.g0
  have hsz1 := HB1.out.size
  simp at c0_1 c1_1
  go_wp2_with fail
  refine (is_same n a0 _).mono ?_
  rintro e wz ⟨rfl, hbz⟩
  go_wp2_with fail
  go_ret
  exact ⟨rfl, HB1.out.trans (hbz.mono hsz1)⟩
theorem told_fold (n : Int) (a0 a1 a2 a3 : Addr) (w : World) (h : GA a0 a1 a2 a3 w) :
    Calls Tryz.prog 26 #[werr n a1] w fun e w' => e = .returned (.int .i64 150) ∧ Below w.heap.size w w' := by
  have HG := Lib.hid h
  clear h
  go_enter Tryz.func26, Tryz.ntmps26
  have hB0 : Below w.heap.size w (w.alloc (.cells #[.int .i64 0, .nilIface] 57)) := (Below.refl _ _).alloc (Nat.le_refl _) _
  have hG0 := HG.out.below hB0
  go_wp2_with fail
  refine (as_hit n a1 w.heap.size _ _ hG0.et (World.alloc_heap_new w _) rfl).mono ?_
  rintro e w1 ⟨rfl, hb, hr1⟩
  have HB1 := Lib.hid (hB0.trans hb)
  have HR1 := Lib.hid hr1
  clear hG0 hB0 hb hr1
  have hG1 := HG.out.below HB1.out
  have c0_1 := cell_of_row w1 w.heap.size 0 _ _ _ HR1.out
  have c1_1 := cell_of_row w1 w.heap.size 1 _ _ _ HR1.out
  have gB1 := hG1.g0
  have hsz1 := HB1.out.size
  simp at c0_1 c1_1
  go_wp2_with fail
  obtain ⟨ca, ta, hca⟩ := hG1.h1
  obtain ⟨cb, tb, hcb⟩ := hG1.h0
  refine (is_other n a1 a0 ca cb ta tb _ (Ne.symm hG1.n01) hca hcb).mono ?_
  rintro e w2 ⟨rfl, hb2⟩
  have HB2 := Lib.hid (HB1.out.trans (hb2.mono hsz1))
  have HR2 := Lib.hid ((Chg.of_below (S := fun _ => False) hb2).heap HR1.out (fun h => h))
  clear hca hcb hb2
  have hG2 := HG.out.below HB2.out
  have c0_2 := cell_of_row w2 w.heap.size 0 _ _ _ HR2.out
  have c1_2 := cell_of_row w2 w.heap.size 1 _ _ _ HR2.out
  have gB2 := hG2.g1
  have hsz2 := HB2.out.size
  simp at c0_2 c1_2
  go_wp2_with fail
  refine (is_same n a1 _).mono ?_
  rintro e wz ⟨rfl, hbz⟩
  go_wp2_with fail
  go_ret
  exact ⟨rfl, HB2.out.trans (hbz.mono hsz2)⟩
theorem told_url (n : Int) (a0 a1 a2 a3 : Addr) (w : World) (h : GA a0 a1 a2 a3 w) :
    Calls Tryz.prog 26 #[werr n a2] w fun e w' => e = .returned (.int .i64 152) ∧ Below w.heap.size w w' := by
  have HG := Lib.hid h
  clear h
  go_enter Tryz.func26, Tryz.ntmps26
  have hB0 : Below w.heap.size w (w.alloc (.cells #[.int .i64 0, .nilIface] 57)) := (Below.refl _ _).alloc (Nat.le_refl _) _
  have hG0 := HG.out.below hB0
  go_wp2_with fail
  refine (as_hit n a2 w.heap.size _ _ hG0.et (World.alloc_heap_new w _) rfl).mono ?_
  rintro e w1 ⟨rfl, hb, hr1⟩
  have HB1 := Lib.hid (hB0.trans hb)
  have HR1 := Lib.hid hr1
  clear hG0 hB0 hb hr1
  have hG1 := HG.out.below HB1.out
  have c0_1 := cell_of_row w1 w.heap.size 0 _ _ _ HR1.out
  have c1_1 := cell_of_row w1 w.heap.size 1 _ _ _ HR1.out
  have gB1 := hG1.g0
  have hsz1 := HB1.out.size
  simp at c0_1 c1_1
  go_wp2_with fail
  obtain ⟨ca, ta, hca⟩ := hG1.h2
  obtain ⟨cb, tb, hcb⟩ := hG1.h0
  refine (is_other n a2 a0 ca cb ta tb _ (Ne.symm hG1.n02) hca hcb).mono ?_
  rintro e w2 ⟨rfl, hb2⟩
  have HB2 := Lib.hid (HB1.out.trans (hb2.mono hsz1))
  have HR2 := Lib.hid ((Chg.of_below (S := fun _ => False) hb2).heap HR1.out (fun h => h))
  clear hca hcb hb2
  have hG2 := HG.out.below HB2.out
  have c0_2 := cell_of_row w2 w.heap.size 0 _ _ _ HR2.out
  have c1_2 := cell_of_row w2 w.heap.size 1 _ _ _ HR2.out
  have gB2 := hG2.g1
  have hsz2 := HB2.out.size
  simp at c0_2 c1_2
  go_wp2_with fail
  obtain ⟨ca, ta, hca⟩ := hG2.h2
  obtain ⟨cb, tb, hcb⟩ := hG2.h1
  refine (is_other n a2 a1 ca cb ta tb _ (Ne.symm hG2.n12) hca hcb).mono ?_
  rintro e w3 ⟨rfl, hb3⟩
  have HB3 := Lib.hid (HB2.out.trans (hb3.mono hsz2))
  have HR3 := Lib.hid ((Chg.of_below (S := fun _ => False) hb3).heap HR2.out (fun h => h))
  clear hca hcb hb3
  have hG3 := HG.out.below HB3.out
  have c0_3 := cell_of_row w3 w.heap.size 0 _ _ _ HR3.out
  have c1_3 := cell_of_row w3 w.heap.size 1 _ _ _ HR3.out
  have gB3 := hG3.g2
  have hsz3 := HB3.out.size
  simp at c0_3 c1_3
  go_wp2_with fail
  refine (is_same n a2 _).mono ?_
  rintro e wz ⟨rfl, hbz⟩
  go_wp2_with fail
  go_ret
  exact ⟨rfl, HB3.out.trans (hbz.mono hsz3)⟩
theorem told_item (n : Int) (a0 a1 a2 a3 : Addr) (w : World) (h : GA a0 a1 a2 a3 w) :
    Calls Tryz.prog 26 #[werr n a3] w fun e w' => e = .returned (.int .i64 151) ∧ Below w.heap.size w w' := by
  have HG := Lib.hid h
  clear h
  go_enter Tryz.func26, Tryz.ntmps26
  have hB0 : Below w.heap.size w (w.alloc (.cells #[.int .i64 0, .nilIface] 57)) := (Below.refl _ _).alloc (Nat.le_refl _) _
  have hG0 := HG.out.below hB0
  go_wp2_with fail
  refine (as_hit n a3 w.heap.size _ _ hG0.et (World.alloc_heap_new w _) rfl).mono ?_
  rintro e w1 ⟨rfl, hb, hr1⟩
  have HB1 := Lib.hid (hB0.trans hb)
  have HR1 := Lib.hid hr1
  clear hG0 hB0 hb hr1
  have hG1 := HG.out.below HB1.out
  have c0_1 := cell_of_row w1 w.heap.size 0 _ _ _ HR1.out
  have c1_1 := cell_of_row w1 w.heap.size 1 _ _ _ HR1.out
  have gB1 := hG1.g0
  have hsz1 := HB1.out.size
  simp at c0_1 c1_1
  go_wp2_with fail
  obtain ⟨ca, ta, hca⟩ := hG1.h3
  obtain ⟨cb, tb, hcb⟩ := hG1.h0
  refine (is_other n a3 a0 ca cb ta tb _ (Ne.symm hG1.n03) hca hcb).mono ?_
  rintro e w2 ⟨rfl, hb2⟩
  have HB2 := Lib.hid (HB1.out.trans (hb2.mono hsz1))
  have HR2 := Lib.hid ((Chg.of_below (S := fun _ => False) hb2).heap HR1.out (fun h => h))
  clear hca hcb hb2
  have hG2 := HG.out.below HB2.out
  have c0_2 := cell_of_row w2 w.heap.size 0 _ _ _ HR2.out
  have c1_2 := cell_of_row w2 w.heap.size 1 _ _ _ HR2.out
  have gB2 := hG2.g1
  have hsz2 := HB2.out.size
  simp at c0_2 c1_2
  go_wp2_with fail
  obtain ⟨ca, ta, hca⟩ := hG2.h3
  obtain ⟨cb, tb, hcb⟩ := hG2.h1
  refine (is_other n a3 a1 ca cb ta tb _ (Ne.symm hG2.n13) hca hcb).mono ?_
  rintro e w3 ⟨rfl, hb3⟩
  have HB3 := Lib.hid (HB2.out.trans (hb3.mono hsz2))
  have HR3 := Lib.hid ((Chg.of_below (S := fun _ => False) hb3).heap HR2.out (fun h => h))
  clear hca hcb hb3
  have hG3 := HG.out.below HB3.out
  have c0_3 := cell_of_row w3 w.heap.size 0 _ _ _ HR3.out
  have c1_3 := cell_of_row w3 w.heap.size 1 _ _ _ HR3.out
  have gB3 := hG3.g2
  have hsz3 := HB3.out.size
  simp at c0_3 c1_3
  go_wp2_with fail
  obtain ⟨ca, ta, hca⟩ := hG3.h3
  obtain ⟨cb, tb, hcb⟩ := hG3.h2
  refine (is_other n a3 a2 ca cb ta tb _ (Ne.symm hG3.n23) hca hcb).mono ?_
  rintro e w4 ⟨rfl, hb4⟩
  have HB4 := Lib.hid (HB3.out.trans (hb4.mono hsz3))
  have HR4 := Lib.hid ((Chg.of_below (S := fun _ => False) hb4).heap HR3.out (fun h => h))
  clear hca hcb hb4
  go_wp2_with fail
  go_ret
  exact ⟨rfl, HB4.out⟩
abbrev ese (a : Addr) : Value := .iface 163 (.pointer (some a))
theorem first1_true (n : Int) (a : Addr) (g : Nat) (w : World) (hr : w.heap[g]? = some (.cells #[.bool true, ese a] 43 (0, 0))) :
    Calls Tryz.prog 24 #[.int .i64 n, .slice (some ⟨g, 0, none⟩) 1 1] w fun e' w' => e' = .returned (werr n a) ∧ Below w.heap.size w w' := by
  go_enter Tryz.func24, Tryz.ntmps24
  have c0 := cell_of_row w g 0 _ _ _ hr
  have c1 := cell_of_row w g 1 _ _ _ hr
  simp at c0 c1
  have hlt := lt_of_cell c0
  go_wp2
  refine wp_loop_rounds 1 ?_
  rw [rounds_succ]
  go_wp2
  go_ret
  exact ⟨rfl, by repeat (first | exact Below.refl _ _ | refine Below.alloc ?_ (by simp) _)⟩
theorem first1_false (n : Int) (a : Addr) (g : Nat) (w : World) (hr : w.heap[g]? = some (.cells #[.bool false, ese a] 43 (0, 0))) :
    Calls Tryz.prog 24 #[.int .i64 n, .slice (some ⟨g, 0, none⟩) 1 1] w fun e' w' => e' = .returned (.nilIface) ∧ Below w.heap.size w w' := by
  go_enter Tryz.func24, Tryz.ntmps24
  have c0 := cell_of_row w g 0 _ _ _ hr
  have c1 := cell_of_row w g 1 _ _ _ hr
  simp at c0 c1
  have hlt := lt_of_cell c0
  go_wp2
  refine wp_loop_rounds 2 ?_
  rw [rounds_succ]
  go_wp2
  rw [rounds_succ]
  go_wp2
  go_ret
  exact ⟨rfl, by repeat (first | exact Below.refl _ _ | refine Below.alloc ?_ (by simp) _)⟩
theorem first2_true (n : Int) (y : Bool) (a b : Addr) (g : Nat) (w : World) (hr : w.heap[g]? = some (.cells #[.bool true, ese a, .bool y, ese b] 43 (0, 0))) :
    Calls Tryz.prog 24 #[.int .i64 n, .slice (some ⟨g, 0, none⟩) 2 2] w fun e' w' => e' = .returned (werr n a) ∧ Below w.heap.size w w' := by
  go_enter Tryz.func24, Tryz.ntmps24
  have c0 := cell_of_row w g 0 _ _ _ hr
  have c1 := cell_of_row w g 1 _ _ _ hr
  have c2 := cell_of_row w g 2 _ _ _ hr
  have c3 := cell_of_row w g 3 _ _ _ hr
  simp at c0 c1 c2 c3
  have hlt := lt_of_cell c0
  go_wp2
  refine wp_loop_rounds 1 ?_
  rw [rounds_succ]
  go_wp2
  go_ret
  exact ⟨rfl, by repeat (first | exact Below.refl _ _ | refine Below.alloc ?_ (by simp; try omega) _)⟩
theorem first2_false_true (n : Int) (a b : Addr) (g : Nat) (w : World) (hr : w.heap[g]? = some (.cells #[.bool false, ese a, .bool true, ese b] 43 (0, 0))) :
    Calls Tryz.prog 24 #[.int .i64 n, .slice (some ⟨g, 0, none⟩) 2 2] w fun e' w' => e' = .returned (werr n b) ∧ Below w.heap.size w w' := by
  go_enter Tryz.func24, Tryz.ntmps24
  have c0 := cell_of_row w g 0 _ _ _ hr
  have c1 := cell_of_row w g 1 _ _ _ hr
  have c2 := cell_of_row w g 2 _ _ _ hr
  have c3 := cell_of_row w g 3 _ _ _ hr
  simp at c0 c1 c2 c3
  have hlt := lt_of_cell c0
  go_wp2
  refine wp_loop_rounds 2 ?_
  rw [rounds_succ]
  go_wp2
  rw [rounds_succ]
  go_wp2
  go_ret
  exact ⟨rfl, by repeat (first | exact Below.refl _ _ | refine Below.alloc ?_ (by simp; try omega) _)⟩
theorem first2_false_false (n : Int) (a b : Addr) (g : Nat) (w : World) (hr : w.heap[g]? = some (.cells #[.bool false, ese a, .bool false, ese b] 43 (0, 0))) :
    Calls Tryz.prog 24 #[.int .i64 n, .slice (some ⟨g, 0, none⟩) 2 2] w fun e' w' => e' = .returned (.nilIface) ∧ Below w.heap.size w w' := by
  go_enter Tryz.func24, Tryz.ntmps24
  have c0 := cell_of_row w g 0 _ _ _ hr
  have c1 := cell_of_row w g 1 _ _ _ hr
  have c2 := cell_of_row w g 2 _ _ _ hr
  have c3 := cell_of_row w g 3 _ _ _ hr
  simp at c0 c1 c2 c3
  have hlt := lt_of_cell c0
  go_wp2
  refine wp_loop_rounds 3 ?_
  rw [rounds_succ]
  go_wp2
  rw [rounds_succ]
  go_wp2
  rw [rounds_succ]
  go_wp2
  go_ret
  exact ⟨rfl, by repeat (first | exact Below.refl _ _ | refine Below.alloc ?_ (by simp; try omega) _)⟩
end Fold
end Go.Proofs.YtjnfoocmilbdlaaGreatDoor
/- Texts as rows of bytes: small plain laws. No program in sight. -/
namespace Go.Proofs.YtjnfoocmilbdlaaGreatDoor.PureB
set_option linter.unusedSimpArgs false
set_option linter.unusedVariables false
open Go.RowKit Go.Proofs.YtjnfoocmilbdlaaGreatDoorW.PrintWords
theorem w64 {n : Int} (h : -9223372036854775808 ≤ n) (h2 : n ≤ 9223372036854775807) : wrap64 n = n := by unfold wrap64; omega
theorem son_size (xs : List Int) : (strOfNums xs).size = xs.length := by simp [strOfNums, ByteArray.size]
theorem bt_nat (s : ByteArray) (i : Nat) (h : i < s.size) : bt s (i : Int) = ((s[i]'h).toNat : Int) := dif_pos (by simpa using h)
theorem of_nat (x : Int) (h : 0 ≤ x) (h2 : x < 256) : ((UInt8.ofNat x.toNat).toNat : Int) = x := by rw [UInt8.toNat_ofNat']; omega
theorem bt_son (xs : List Int) (j : Nat) (x : Int) (h : xs[j]? = some x) (h0 : 0 ≤ x) (h1 : x < 256) : bt (strOfNums xs) j = x := by
  obtain ⟨hj, rfl⟩ := List.getElem?_eq_some_iff.1 h
  have hl : j < (strOfNums xs).size := by rw [son_size]; omega
  rw [bt_nat _ _ hl]
  have : (strOfNums xs)[j]'hl = UInt8.ofNat (xs[j]).toNat := by simp [strOfNums, ByteArray.getElem_eq_getElem_data]
  rw [this, of_nat _ h0 h1]
theorem ba_ext {s t : ByteArray} (h : s.size = t.size) (hb : ∀ j : Nat, j < s.size → bt s j = bt t j) : s = t := by
  apply ByteArray.ext
  apply Array.ext
  · exact h
  · intro i h1 h2
    have := hb i h1
    rw [bt_nat s i h1, bt_nat t i h2] at this
    have h3 : s[i]'h1 = t[i]'h2 := UInt8.toNat_inj.1 (by omega)
    exact h3
theorem toList_inj {s t : ByteArray} : s.toList = t.toList ↔ s = t := by
  rw [Lib.toList_data, Lib.toList_data]
  constructor
  · intro h; apply ByteArray.ext; exact Array.toList_inj.1 h
  · rintro rfl; rfl
theorem toList_nil {s : ByteArray} : s.toList = ([] : List UInt8) ↔ s.size = 0 := by
  rw [Lib.toList_data, Array.toList_eq_nil_iff, ← Array.size_eq_zero_iff]
  exact Iff.rfl
end Go.Proofs.YtjnfoocmilbdlaaGreatDoor.PureB
/- base64 and digits, plainly, on lists of bytes' numbers. No program in sight. -/
namespace Go.Proofs.YtjnfoocmilbdlaaGreatDoor
set_option linter.unusedSimpArgs false
set_option linter.unusedVariables false
namespace Code
open Go.RowKit Go.Proofs.YtjnfoocmilbdlaaGreatDoorW.PrintWords Go.Proofs.YtjnfoocmilbdlaaGreatDoor.PureB
/-- a text's bytes -/
def bl (s : ByteArray) : List Int := s.data.toList.map fun b => (b.toNat : Int)
theorem bl_len (s : ByteArray) : (bl s).length = s.size := by unfold bl; rw [List.length_map, Array.length_toList]; rfl
theorem bl_byte (s : ByteArray) : ∀ x ∈ bl s, 0 ≤ x ∧ x < 256 := by
  intro x hx
  obtain ⟨b, _, rfl⟩ := List.mem_map.1 hx
  have := b.toNat_lt
  omega
theorem bl_get (s : ByteArray) (j : Nat) (h : j < s.size) : (bl s)[j]? = some (bt s j) := by
  unfold bl
  rw [List.getElem?_map, Array.getElem?_toList, Array.getElem?_eq_getElem h]
  simp only [Option.map_some]
  rw [bt_nat s j h]
  rfl
theorem son_bl (s : ByteArray) : strOfNums (bl s) = s := by
  refine ba_ext (by rw [son_size, bl_len]) (fun j hj => ?_)
  rw [son_size, bl_len] at hj
  have hb := bl_byte s _ (List.mem_of_getElem? (bl_get s j hj))
  exact bt_son _ _ _ (bl_get s j hj) hb.1 hb.2
theorem bl_son (l : List Int) (h : ∀ x ∈ l, 0 ≤ x ∧ x < 256) : bl (strOfNums l) = l := by
  apply List.ext_getElem?
  intro j
  by_cases hj : j < l.length
  · have hx : l[j]? = some (l[j]'hj) := List.getElem?_eq_getElem hj
    have hb := h _ (List.mem_of_getElem? hx)
    rw [bl_get _ _ (by rw [son_size]; exact hj), hx, bt_son _ _ _ hx hb.1 hb.2]
  · rw [List.getElem?_eq_none (by rw [bl_len, son_size]; omega), List.getElem?_eq_none (by omega)]
/-- the sign of a number below 64 -/
def b64 (i : Int) : Int := if i < 26 then 65 + i else if i < 52 then 71 + i else if i < 62 then i - 4 else if i = 62 then 43 else 47
/-- a text's base64 -/
def baseL : List Int → List Int
  | [] => []
  | [a] => [b64 (a / 4), b64 (a % 4 * 16), 61, 61]
  | [a, b] => [b64 (a / 4), b64 (a % 4 * 16 + b / 16), b64 (b % 16 * 4), 61]
  | a :: b :: c :: r => [b64 (a / 4), b64 (a % 4 * 16 + b / 16), b64 (b % 16 * 4 + c / 64), b64 (c % 64)] ++ baseL r
/-- what a sign is worth -/
def worthL (c : Int) : Option Int := if 65 ≤ c ∧ c ≤ 90 then some (c - 65) else if 97 ≤ c ∧ c ≤ 122 then some (c - 71) else if 48 ≤ c ∧ c ≤ 57 then some (c + 4) else if c = 43 then some 62 else if c = 47 then some 63 else none
theorem b64_byte (i : Int) (h0 : 0 ≤ i) (h1 : i < 64) : 43 ≤ b64 i ∧ b64 i ≤ 122 ∧ b64 i ≠ 61 := by
  unfold b64
  repeat' split
  all_goals omega
theorem worth_b64 (i : Int) (h0 : 0 ≤ i) (h1 : i < 64) : worthL (b64 i) = some i := by
  unfold b64 worthL
  repeat' split
  all_goals first | omega | (congr 1; omega)
theorem b64_worth (c v : Int) (h : worthL c = some v) : 0 ≤ v ∧ v < 64 ∧ b64 v = c := by
  unfold worthL at h
  repeat' split at h
  all_goals first | cases h | skip
  all_goals
    unfold b64
    repeat' split
    all_goals omega
/-- what a digit is worth -/
def dv (c : Int) : Int := if 48 ≤ c ∧ c ≤ 57 then c - 48 else if 97 ≤ c ∧ c ≤ 102 then c - 87 else if 65 ≤ c ∧ c ≤ 70 then c - 55 else -1
end Code
end Go.Proofs.YtjnfoocmilbdlaaGreatDoor
/- base64 plainly, second part: pieces. No program in sight. -/
namespace Go.Proofs.YtjnfoocmilbdlaaGreatDoor
set_option linter.unusedSimpArgs false
set_option linter.unusedVariables false
namespace Code
open Go.RowKit Go.Proofs.YtjnfoocmilbdlaaGreatDoorW.PrintWords Go.Proofs.YtjnfoocmilbdlaaGreatDoor.PureB
theorem bl_extract (s : ByteArray) (a b : Nat) : bl (s.extract a b) = ((bl s).take b).drop a := by
  unfold bl
  rw [← List.map_take, ← List.map_drop]
  congr 1
  rw [ByteArray.data_extract, Array.toList_extract, List.extract_eq_take_drop, List.drop_take]
theorem bl_append (s t : ByteArray) : bl (s ++ t) = bl s ++ bl t := by
  unfold bl
  rw [← List.map_append]
  congr 1
theorem baseL_append : ∀ (l m : List Int), l.length % 3 = 0 → baseL (l ++ m) = baseL l ++ baseL m
  | [], m, _ => rfl
  | [a], _, h => by simp at h
  | [a, b], _, h => by simp at h
  | a :: b :: c :: r, m, h => by
    simp only [List.cons_append, baseL]
    rw [baseL_append r m (by simp only [List.length_cons] at h; omega)]
    simp
theorem baseL_len : ∀ (l : List Int), (baseL l).length = 4 * ((l.length + 2) / 3)
  | [] => rfl
  | [a] => by simp [baseL]
  | [a, b] => by simp [baseL]
  | a :: b :: c :: r => by
    simp only [baseL, List.length_append, List.length_cons, List.length_nil, baseL_len r]
    omega
theorem baseL_byte : ∀ (l : List Int), (∀ x ∈ l, 0 ≤ x ∧ x < 256) → ∀ y ∈ baseL l, 0 ≤ y ∧ y < 256
  | [], _ => by intro y hy; simp [baseL] at hy
  | [a], h => by
    have ha := h a (by simp)
    have b1 := b64_byte (a / 4) (by omega) (by omega)
    have b2 := b64_byte (a % 4 * 16) (by omega) (by omega)
    intro y hy
    simp [baseL] at hy
    rcases hy with rfl | rfl | rfl <;> omega
  | [a, b], h => by
    have ha := h a (by simp)
    have hb := h b (by simp)
    have b1 := b64_byte (a / 4) (by omega) (by omega)
    have b2 := b64_byte (a % 4 * 16 + b / 16) (by omega) (by omega)
    have b3 := b64_byte (b % 16 * 4) (by omega) (by omega)
    intro y hy
    simp [baseL] at hy
    rcases hy with rfl | rfl | rfl | rfl <;> omega
  | a :: b :: c :: r, h => by
    have ha := h a (by simp)
    have hb := h b (by simp)
    have hc := h c (by simp)
    have b1 := b64_byte (a / 4) (by omega) (by omega)
    have b2 := b64_byte (a % 4 * 16 + b / 16) (by omega) (by omega)
    have b3 := b64_byte (b % 16 * 4 + c / 64) (by omega) (by omega)
    have b4 := b64_byte (c % 64) (by omega) (by omega)
    intro y hy
    simp only [baseL, List.mem_append, List.mem_cons, List.not_mem_nil, or_false] at hy
    rcases hy with (rfl | rfl | rfl | rfl) | hy
    all_goals first | omega | skip
    exact baseL_byte r (fun x hx => h x (by simp [hx])) y hy
theorem bl_piece (s : ByteArray) (n k : Nat) : bl (s.extract (k * n) (min (k * n + n) s.size)) = ((bl s).drop (k * n)).take n := by
  rw [bl_extract, List.drop_take]
  have : (bl s).length = s.size := bl_len s
  rw [List.take_eq_take_iff]
  simp only [List.length_drop, this]
  omega
theorem take_piece (l : List Int) (n k : Nat) : l.take ((k + 1) * n) = l.take (k * n) ++ (l.drop (k * n)).take n := by
  rw [show (k + 1) * n = k * n + n by rw [Nat.add_mul, Nat.one_mul], List.take_add]
theorem baseL_step (l : List Int) (k : Nat) (h : k * 3 < l.length) : baseL (l.take ((k + 1) * 3)) = baseL (l.take (k * 3)) ++ baseL ((l.drop (k * 3)).take 3) := by
  rw [take_piece, baseL_append _ _ (by rw [List.length_take]; omega)]
/-- a piece's size -/
theorem piece_size (s : ByteArray) (n k : Nat) : (s.extract (k * n) (min (k * n + n) s.size)).size = min n (s.size - k * n) := by
  rw [ByteArray.size_extract]; omega
end Code
end Go.Proofs.YtjnfoocmilbdlaaGreatDoor
/- base64 plainly, third part: rough reading. No program in sight. -/
namespace Go.Proofs.YtjnfoocmilbdlaaGreatDoor
set_option linter.unusedSimpArgs false
set_option linter.unusedVariables false
namespace Code
open Go.RowKit Go.Proofs.YtjnfoocmilbdlaaGreatDoorW.PrintWords Go.Proofs.YtjnfoocmilbdlaaGreatDoor.PureB
/-- a piece without the pads at its end -/
def strip (l : List Int) : List Int := (l.reverse.dropWhile (· == 61)).reverse
def vals : List Int → Option (List Int)
  | [] => some []
  | c :: r => match worthL c with
    | none => none
    | some v => (vals r).map (v :: ·)
def nsum (vs : List Int) : Int := vs.foldl (fun n v => n * 64 + v) 0
def bys (x : Int) (m : Nat) : List Int := (List.range m).map fun r => x / 256 ^ (m - 1 - r) % 256
def ungV (vs : List Int) : List Int := bys (nsum vs / 2 ^ (6 * vs.length % 8)) (6 * vs.length / 8)
/-- what a piece tells -/
def ungL (g : List Int) : Option (List Int) := (vals (strip g)).map ungV
theorem strip_bl (l : ByteArray) : bl ⟨(Lib.trimRightB l.data.toList 61).toArray⟩ = strip (bl l) := by
  unfold bl strip Lib.trimRightB
  simp only []
  have key : ∀ l : List UInt8, (l.dropWhile (· == 61)).map (fun b : UInt8 => (b.toNat : Int)) = (l.map (fun b : UInt8 => (b.toNat : Int))).dropWhile (· == 61) := by
    intro l
    induction l with
    | nil => rfl
    | cons a l ih =>
      simp only [List.map_cons, List.dropWhile_cons]
      by_cases h : a = 61
      · subst h; simpa using ih
      · have : ¬ ((a.toNat : Int) == 61) = true := by
          simp only [beq_iff_eq]
          intro e
          apply h
          apply UInt8.toNat_inj.1
          show a.toNat = 61
          omega
        rw [if_neg (by simpa using h), if_neg this]
        rfl
  rw [List.map_reverse, key, List.map_reverse]
theorem strip_len (l : List Int) : (strip l).length ≤ l.length := by
  unfold strip
  rw [List.length_reverse]
  have := (List.dropWhile_suffix (fun x : Int => x == 61) (l := l.reverse)).length_le
  simpa using this
theorem vals_some : ∀ (l vs : List Int), vals l = some vs → vs.length = l.length ∧ ∀ v ∈ vs, 0 ≤ v ∧ v < 64
  | [], vs, h => by
    simp [vals] at h; subst h; simp
  | c :: r, vs, h => by
    unfold vals at h
    cases hc : worthL c with
    | none => rw [hc] at h; cases h
    | some v =>
      rw [hc] at h
      simp only [Option.map_eq_some_iff] at h
      obtain ⟨us, hu, rfl⟩ := h
      obtain ⟨h1, h2⟩ := vals_some r us hu
      obtain ⟨b0, b1, _⟩ := b64_worth c v hc
      refine ⟨by simp [h1], ?_⟩
      intro x hx
      rcases List.mem_cons.1 hx with rfl | hx
      · exact ⟨b0, b1⟩
      · exact h2 x hx
theorem vals_append (l : List Int) (c v : Int) (vs : List Int) (h : vals l = some vs) (hc : worthL c = some v) : vals (l ++ [c]) = some (vs ++ [v]) := by
  induction l generalizing vs with
  | nil => simp [vals] at h ⊢; subst h; simp [hc]
  | cons a l ih =>
    simp only [List.cons_append]
    unfold vals at h ⊢
    cases ha : worthL a with
    | none => rw [ha] at h; cases h
    | some u =>
      rw [ha] at h
      simp only [Option.map_eq_some_iff] at h
      obtain ⟨us, hu, rfl⟩ := h
      simp [ih us hu]
theorem vals_none (l m : List Int) (c : Int) (hc : worthL c = none) : vals (l ++ c :: m) = none := by
  induction l with
  | nil => simp [vals, hc]
  | cons a l ih =>
    simp only [List.cons_append]
    unfold vals
    cases worthL a with
    | none => rfl
    | some u => simp [ih]
theorem nsum_append (vs : List Int) (v : Int) : nsum (vs ++ [v]) = nsum vs * 64 + v := by simp [nsum]
theorem nsum_bound (vs : List Int) (h : ∀ v ∈ vs, 0 ≤ v ∧ v < 64) : 0 ≤ nsum vs ∧ nsum vs < 64 ^ vs.length := by
  have key : ∀ (vs : List Int) (n : Int) (k : Nat), 0 ≤ n → n < 64 ^ k → (∀ v ∈ vs, 0 ≤ v ∧ v < 64) → 0 ≤ vs.foldl (fun n v => n * 64 + v) n ∧ vs.foldl (fun n v => n * 64 + v) n < 64 ^ (k + vs.length) := by
    intro vs
    induction vs with
    | nil => intro n k h0 h1 _; exact ⟨h0, h1⟩
    | cons v vs ih =>
      intro n k h0 h1 h
      have hv := h v (by simp)
      have := ih (n * 64 + v) (k + 1) (by omega) (by rw [Int.pow_succ]; omega) (fun x hx => h x (by simp [hx]))
      simp only [List.foldl_cons, List.length_cons]
      rw [show k + (vs.length + 1) = k + 1 + vs.length by omega]
      exact this
  have := key vs 0 0 (by omega) (by decide) h
  rw [Nat.zero_add] at this
  exact this
theorem bys_len (x : Int) (m : Nat) : (bys x m).length = m := by simp [bys]
theorem bys_byte (x : Int) (m : Nat) : ∀ y ∈ bys x m, 0 ≤ y ∧ y < 256 := by
  intro y hy
  simp only [bys, List.mem_map] at hy
  obtain ⟨r, _, rfl⟩ := hy
  omega
end Code
end Go.Proofs.YtjnfoocmilbdlaaGreatDoor
/- base64 plainly, fourth part: a text's rough reading. No program in sight. -/
namespace Go.Proofs.YtjnfoocmilbdlaaGreatDoor
set_option linter.unusedSimpArgs false
set_option linter.unusedVariables false
namespace Code
open Go.RowKit Go.Proofs.YtjnfoocmilbdlaaGreatDoorW.PrintWords Go.Proofs.YtjnfoocmilbdlaaGreatDoor.PureB
/-- a text's pieces of four, read one by one -/
def rough : List (List Int) → Option (List Int)
  | [] => some []
  | g :: r => match ungL g with
    | none => none
    | some l => (rough r).map (l ++ ·)
theorem rough_append (l : List (List Int)) (acc : List Int) (g x : List Int) (h : rough l = some acc) (hg : ungL g = some x) : rough (l ++ [g]) = some (acc ++ x) := by
  induction l generalizing acc with
  | nil => simp [rough] at h ⊢; subst h; simp [hg]
  | cons a l ih =>
    simp only [List.cons_append]
    unfold rough at h ⊢
    cases ha : ungL a with
    | none => rw [ha] at h; cases h
    | some u =>
      rw [ha] at h
      simp only [Option.map_eq_some_iff] at h
      obtain ⟨us, hu, rfl⟩ := h
      simp [ih us hu]
theorem rough_none (l m : List (List Int)) (g : List Int) (hg : ungL g = none) : rough (l ++ g :: m) = none := by
  induction l with
  | nil => simp [rough, hg]
  | cons a l ih =>
    simp only [List.cons_append]
    unfold rough
    cases ungL a with
    | none => rfl
    | some u => simp [ih]
theorem ungL_bound (g x : List Int) (h : ungL g = some x) (hl : g.length ≤ 4) : x.length ≤ 3 ∧ ∀ y ∈ x, 0 ≤ y ∧ y < 256 := by
  unfold ungL at h
  simp only [Option.map_eq_some_iff] at h
  obtain ⟨vs, hv, rfl⟩ := h
  obtain ⟨h1, _⟩ := vals_some _ _ hv
  have := strip_len g
  unfold ungV
  rw [bys_len]
  exact ⟨by omega, bys_byte _ _⟩
theorem rough_bound : ∀ (l : List (List Int)) (acc : List Int), rough l = some acc → (∀ g ∈ l, g.length ≤ 4) → acc.length ≤ 3 * l.length ∧ ∀ y ∈ acc, 0 ≤ y ∧ y < 256
  | [], acc, h, _ => by simp [rough] at h; subst h; simp
  | g :: r, acc, h, hl => by
    unfold rough at h
    cases hg : ungL g with
    | none => rw [hg] at h; cases h
    | some x =>
      rw [hg] at h
      simp only [Option.map_eq_some_iff] at h
      obtain ⟨us, hu, rfl⟩ := h
      obtain ⟨a1, a2⟩ := ungL_bound g x hg (hl g (by simp))
      obtain ⟨b1, b2⟩ := rough_bound r us hu (fun q hq => hl q (by simp [hq]))
      refine ⟨by simp; omega, ?_⟩
      intro y hy
      rcases List.mem_append.1 hy with h | h
      · exact a2 y h
      · exact b2 y h
/-- a list's pieces -/
def pieces (l : List Int) (n m : Nat) : List (List Int) := (List.range m).map fun j => (l.drop (j * n)).take n
theorem pieces_len (l : List Int) (n m : Nat) : (pieces l n m).length = m := by simp [pieces]
theorem pieces_succ (l : List Int) (n m : Nat) : pieces l n (m + 1) = pieces l n m ++ [(l.drop (m * n)).take n] := by simp [pieces, List.range_succ]
theorem pieces_split (l : List Int) (n : Nat) : ∀ (m k : Nat), k < m → ∃ r, pieces l n m = pieces l n k ++ (l.drop (k * n)).take n :: r := by
  intro m k h
  obtain ⟨d, rfl⟩ : ∃ d, m = k + 1 + d := ⟨m - (k + 1), by omega⟩
  induction d with
  | zero => exact ⟨[], pieces_succ l n k⟩
  | succ d ih =>
    obtain ⟨r, hr⟩ := ih (by omega)
    refine ⟨r ++ [(l.drop ((k + 1 + d) * n)).take n], ?_⟩
    rw [show k + 1 + (d + 1) = k + 1 + d + 1 by omega, pieces_succ, hr]
    simp
theorem pieces_le (l : List Int) (n m : Nat) : ∀ g ∈ pieces l n m, g.length ≤ n := by
  intro g hg
  simp only [pieces, List.mem_map] at hg
  obtain ⟨j, _, rfl⟩ := hg
  rw [List.length_take]
  omega
/-- the text of some base64 -/
def unbL (l : List Int) : Option (List Int) := match rough (pieces l 4 ((l.length + 3) / 4)) with
  | none => none
  | some t => if baseL t = l then some t else none
end Code
end Go.Proofs.YtjnfoocmilbdlaaGreatDoor
/-
  DERIVED: THE SHELF's CONTRACTS AT THIS DUMP, IN PLAIN WORDS (tools/lay-plain.mjs out of 'TryzShelf.lean', which tools/lay-shelf.mjs wrote): THE SAME DECLARATIONS UNDER THE SAME NAMES: 'import', 'namespace', 'open', 'def', 'theorem' AND NOTHING ELSE: no command of the shelf's: FOR A HAND-IN. Each laying: the table of numbers ('.._ren') and one theorem, a field a fact of the dump's own or the kernel's comparison; each contract: ONE APPLICATION.
-/
namespace Go.Proofs
open Go.Shelf
def Tryz.lays169_ren : Go.Shelf.Ren := ⟨fun | 169 => 28 | n => n, fun | 70 => 45 | 9 => 9 | 0 => 0 | 72 => 47 | 37 => 37 | 127 => 74 | 3 => 3 | 5 => 5 | n => n, fun | n => n⟩
theorem Tryz.lays169 : Go.Proofs.Lays.n169 Tryz.prog Tryz.lays169_ren := {
  mixed := by kernel_rfl
  f169 := Tryz.func28.trans (congrArg some (by kernel_rfl))
  t0 := Tryz.underlying0
  a0 := Tryz.isAgg0
  z0 := Tryz.sizeOf0
  v0 := Tryz.zeroValue0
  t3 := Tryz.underlying3
  a3 := Tryz.isAgg3
  z3 := Tryz.sizeOf3
  v3 := Tryz.zeroValue3
  t9 := Tryz.underlying9
  a9 := Tryz.isAgg9
  z9 := Tryz.sizeOf9
  v9 := Tryz.zeroValue9
  t37 := Tryz.underlying37
  a37 := Tryz.isAgg37
  z37 := Tryz.sizeOf37
  v37 := Tryz.zeroValue37
  t70 := Tryz.underlying45
  a70 := Tryz.isAgg45
  z70 := Tryz.sizeOf45
  v70 := Tryz.zeroValue45
  t72 := Tryz.underlying47
  a72 := Tryz.isAgg47
  z72 := Tryz.sizeOf47
  v72 := Tryz.zeroValue47
  t127 := Tryz.underlying74
  a127 := Tryz.isAgg74
  z127 := Tryz.sizeOf74
  v127 := Tryz.zeroValue74 }
theorem Tryz.Builder_Extra_169 : Builder.Extra Tryz.prog Tryz.lays169_ren := {
  sizeBuilder := by kernel_rfl
  liesBuilder := by kernel_rfl
  t5 := Tryz.underlying5
  a5 := Tryz.isAgg5
  z5 := Tryz.sizeOf5
  v5 := Tryz.zeroValue5
  infoByte := by kernel_rfl
  cellsByte := by kernel_rfl
  sizeByte := by kernel_rfl
  neB5 := by decide }
def Tryz.lays161_ren : Go.Shelf.Ren := ⟨fun | 161 => 61 | 231 => 88 | 227 => 66 | 233 => 89 | 235 => 90 | 228 => 67 | 197 => 101 | 151 => 102 | 260 => 107 | 152 => 64 | 137 => 91 | 119 => 92 | 224 => 93 | 225 => 94 | 217 => 103 | 266 => 108 | n => n, fun | 9 => 9 | 4 => 4 | 3 => 3 | 5 => 5 | 117 => 100 | 116 => 99 | 0 => 0 | 124 => 125 | 105 => 150 | 21 => 21 | 119 => 159 | 46 => 95 | 139 => 162 | 138 => 161 | n => n, fun | 3 => 7 | 4 => 8 | n => n⟩
theorem Tryz.lays161 : Go.Proofs.Lays.n161 Tryz.prog Tryz.lays161_ren := {
  mixed := by kernel_rfl
  f119 := Tryz.func92.trans (congrArg some (by kernel_rfl))
  f137 := Tryz.func91.trans (congrArg some (by kernel_rfl))
  f151 := Tryz.func102.trans (congrArg some (by kernel_rfl))
  f152 := Tryz.func64.trans (congrArg some (by kernel_rfl))
  f161 := Tryz.func61.trans (congrArg some (by kernel_rfl))
  f197 := Tryz.func101.trans (congrArg some (by kernel_rfl))
  f217 := Tryz.func103.trans (congrArg some (by kernel_rfl))
  f224 := Tryz.func93.trans (congrArg some (by kernel_rfl))
  f225 := Tryz.func94.trans (congrArg some (by kernel_rfl))
  f227 := Tryz.func66.trans (congrArg some (by kernel_rfl))
  f228 := Tryz.func67.trans (congrArg some (by kernel_rfl))
  f231 := Tryz.func88.trans (congrArg some (by kernel_rfl))
  f233 := Tryz.func89.trans (congrArg some (by kernel_rfl))
  f235 := Tryz.func90.trans (congrArg some (by kernel_rfl))
  f260 := Tryz.func107.trans (congrArg some (by kernel_rfl))
  f266 := Tryz.func108.trans (congrArg some (by kernel_rfl))
  t0 := Tryz.underlying0
  a0 := Tryz.isAgg0
  z0 := Tryz.sizeOf0
  v0 := Tryz.zeroValue0
  t3 := Tryz.underlying3
  a3 := Tryz.isAgg3
  z3 := Tryz.sizeOf3
  v3 := Tryz.zeroValue3
  t4 := Tryz.underlying4
  a4 := Tryz.isAgg4
  z4 := Tryz.sizeOf4
  v4 := Tryz.zeroValue4
  t5 := Tryz.underlying5
  a5 := Tryz.isAgg5
  z5 := Tryz.sizeOf5
  v5 := Tryz.zeroValue5
  t9 := Tryz.underlying9
  a9 := Tryz.isAgg9
  z9 := Tryz.sizeOf9
  v9 := Tryz.zeroValue9
  t21 := Tryz.underlying21
  a21 := Tryz.isAgg21
  z21 := Tryz.sizeOf21
  v21 := Tryz.zeroValue21
  t46 := Tryz.underlying95
  a46 := Tryz.isAgg95
  z46 := Tryz.sizeOf95
  v46 := Tryz.zeroValue95
  t105 := Tryz.underlying150
  a105 := Tryz.isAgg150
  z105 := Tryz.sizeOf150
  v105 := Tryz.zeroValue150
  t116 := Tryz.underlying99
  a116 := Tryz.isAgg99
  z116 := Tryz.sizeOf99
  t117 := Tryz.underlying100
  a117 := Tryz.isAgg100
  z117 := Tryz.sizeOf100
  v117 := Tryz.zeroValue100
  t119 := Tryz.underlying159
  a119 := Tryz.isAgg159
  z119 := Tryz.sizeOf159
  t124 := Tryz.underlying125
  a124 := Tryz.isAgg125
  z124 := Tryz.sizeOf125
  v124 := Tryz.zeroValue125
  t138 := Tryz.underlying161
  a138 := Tryz.isAgg161
  z138 := Tryz.sizeOf161
  v138 := Tryz.zeroValue161
  t139 := Tryz.underlying162
  a139 := Tryz.isAgg162
  z139 := Tryz.sizeOf162
  v139 := Tryz.zeroValue162
  g3 := by kernel_rfl
  g4 := by kernel_rfl }
open Go.RowKit in
/-- strings.TrimLeft: "TrimLeft returns a slice of the string s with all leading Unicode code points contained in cutset removed.": AT A cutset OF ONE ASCII BYTE. The world is as it was. (LAID: no walk: one application.) -/
theorem Tryz.strings_TrimLeft_one (s : ByteArray) (c : UInt8) (hc : c.toNat < 128) (w : World) :
    Calls Tryz.prog 61 #[.string s, .string ⟨#[c]⟩] w fun e w' => e = .returned (.string ⟨(Lib.trimLeftB s.data.toList c).toArray⟩) ∧ w' = w := Any.strings_TrimLeft_one Tryz.lays161 s c hc w
def Tryz.lays162_ren : Go.Shelf.Ren := ⟨fun | 162 => 105 | 232 => 110 | 227 => 66 | 234 => 111 | 236 => 112 | 228 => 67 | 271 => 113 | 151 => 102 | 120 => 114 | 197 => 101 | 152 => 64 | 260 => 107 | 137 => 91 | 119 => 92 | 224 => 93 | 225 => 94 | 217 => 103 | 266 => 108 | n => n, fun | 9 => 9 | 4 => 4 | 3 => 3 | 5 => 5 | 117 => 100 | 116 => 99 | 0 => 0 | 124 => 125 | 21 => 21 | 105 => 150 | 46 => 95 | 119 => 159 | 139 => 162 | 138 => 161 | n => n, fun | 3 => 7 | 4 => 8 | n => n⟩
theorem Tryz.lays162 : Go.Proofs.Lays.n162 Tryz.prog Tryz.lays162_ren := {
  mixed := by kernel_rfl
  f119 := Tryz.func92.trans (congrArg some (by kernel_rfl))
  f120 := Tryz.func114.trans (congrArg some (by kernel_rfl))
  f137 := Tryz.func91.trans (congrArg some (by kernel_rfl))
  f151 := Tryz.func102.trans (congrArg some (by kernel_rfl))
  f152 := Tryz.func64.trans (congrArg some (by kernel_rfl))
  f162 := Tryz.func105.trans (congrArg some (by kernel_rfl))
  f197 := Tryz.func101.trans (congrArg some (by kernel_rfl))
  f217 := Tryz.func103.trans (congrArg some (by kernel_rfl))
  f224 := Tryz.func93.trans (congrArg some (by kernel_rfl))
  f225 := Tryz.func94.trans (congrArg some (by kernel_rfl))
  f227 := Tryz.func66.trans (congrArg some (by kernel_rfl))
  f228 := Tryz.func67.trans (congrArg some (by kernel_rfl))
  f232 := Tryz.func110.trans (congrArg some (by kernel_rfl))
  f234 := Tryz.func111.trans (congrArg some (by kernel_rfl))
  f236 := Tryz.func112.trans (congrArg some (by kernel_rfl))
  f260 := Tryz.func107.trans (congrArg some (by kernel_rfl))
  f266 := Tryz.func108.trans (congrArg some (by kernel_rfl))
  f271 := Tryz.func113.trans (congrArg some (by kernel_rfl))
  t0 := Tryz.underlying0
  a0 := Tryz.isAgg0
  z0 := Tryz.sizeOf0
  v0 := Tryz.zeroValue0
  t3 := Tryz.underlying3
  a3 := Tryz.isAgg3
  z3 := Tryz.sizeOf3
  v3 := Tryz.zeroValue3
  t4 := Tryz.underlying4
  a4 := Tryz.isAgg4
  z4 := Tryz.sizeOf4
  v4 := Tryz.zeroValue4
  t5 := Tryz.underlying5
  a5 := Tryz.isAgg5
  z5 := Tryz.sizeOf5
  v5 := Tryz.zeroValue5
  t9 := Tryz.underlying9
  a9 := Tryz.isAgg9
  z9 := Tryz.sizeOf9
  v9 := Tryz.zeroValue9
  t21 := Tryz.underlying21
  a21 := Tryz.isAgg21
  z21 := Tryz.sizeOf21
  v21 := Tryz.zeroValue21
  t46 := Tryz.underlying95
  a46 := Tryz.isAgg95
  z46 := Tryz.sizeOf95
  v46 := Tryz.zeroValue95
  t105 := Tryz.underlying150
  a105 := Tryz.isAgg150
  z105 := Tryz.sizeOf150
  v105 := Tryz.zeroValue150
  t116 := Tryz.underlying99
  a116 := Tryz.isAgg99
  z116 := Tryz.sizeOf99
  t117 := Tryz.underlying100
  a117 := Tryz.isAgg100
  z117 := Tryz.sizeOf100
  v117 := Tryz.zeroValue100
  t119 := Tryz.underlying159
  a119 := Tryz.isAgg159
  z119 := Tryz.sizeOf159
  t124 := Tryz.underlying125
  a124 := Tryz.isAgg125
  z124 := Tryz.sizeOf125
  v124 := Tryz.zeroValue125
  t138 := Tryz.underlying161
  a138 := Tryz.isAgg161
  z138 := Tryz.sizeOf161
  v138 := Tryz.zeroValue161
  t139 := Tryz.underlying162
  a139 := Tryz.isAgg162
  z139 := Tryz.sizeOf162
  v139 := Tryz.zeroValue162
  g3 := by kernel_rfl
  g4 := by kernel_rfl }
open Go.RowKit in
/-- strings.TrimRight: "TrimRight returns a slice of the string s, with all trailing Unicode code points contained in cutset removed.": AT A cutset OF ONE ASCII BYTE. The world is as it was. (LAID: no walk: one application.) -/
theorem Tryz.strings_TrimRight_one (s : ByteArray) (c : UInt8) (hc : c.toNat < 128) (w : World) (hs : s.size ≤ 9223372036854775807) :
    Calls Tryz.prog 105 #[.string s, .string ⟨#[c]⟩] w fun e w' => e = .returned (.string ⟨(Lib.trimRightB s.data.toList c).toArray⟩) ∧ w' = w := Any.strings_TrimRight_one Tryz.lays162 s c hc w hs
def Tryz.lays119_ren : Go.Shelf.Ren := ⟨fun | 119 => 92 | n => n, fun | 21 => 21 | 4 => 4 | n => n, fun | n => n⟩
theorem Tryz.lays119 : Go.Proofs.Lays.n119 Tryz.prog Tryz.lays119_ren := {
  mixed := by kernel_rfl
  f119 := Tryz.func92.trans (congrArg some (by kernel_rfl))
  t4 := Tryz.underlying4
  a4 := Tryz.isAgg4
  z4 := Tryz.sizeOf4
  v4 := Tryz.zeroValue4
  t21 := Tryz.underlying21
  a21 := Tryz.isAgg21
  z21 := Tryz.sizeOf21
  v21 := Tryz.zeroValue21 }
/-- utf8.ValidRune: "ValidRune reports whether r can be legally encoded as UTF-8. Code points that are out of range or a surrogate half are illegal.": IT RETURNS 'Lib.validRune r'; the world is as it was. (LAID: no walk: one application.) -/
theorem Tryz.utf8_ValidRune (r : Int) (w : World) :
    Calls Tryz.prog 92 #[.int .i32 r] w fun e w' => e = .returned (.bool (Lib.validRune r)) ∧ w' = w := Any.utf8_ValidRune Tryz.lays119 r w
def Tryz.lays137_ren : Go.Shelf.Ren := ⟨fun | 137 => 91 | 217 => 103 | 266 => 108 | n => n, fun | 9 => 9 | 5 => 5 | 3 => 3 | n => n, fun | n => n⟩
theorem Tryz.lays137 : Go.Proofs.Lays.n137 Tryz.prog Tryz.lays137_ren := {
  mixed := by kernel_rfl
  f137 := Tryz.func91.trans (congrArg some (by kernel_rfl))
  f217 := Tryz.func103.trans (congrArg some (by kernel_rfl))
  f266 := Tryz.func108.trans (congrArg some (by kernel_rfl))
  t3 := Tryz.underlying3
  a3 := Tryz.isAgg3
  z3 := Tryz.sizeOf3
  v3 := Tryz.zeroValue3
  t5 := Tryz.underlying5
  a5 := Tryz.isAgg5
  z5 := Tryz.sizeOf5
  v5 := Tryz.zeroValue5
  t9 := Tryz.underlying9
  a9 := Tryz.isAgg9
  z9 := Tryz.sizeOf9
  v9 := Tryz.zeroValue9 }
open Go.RowKit in
/-- strings.IndexByte: "IndexByte returns the index of the first instance of c in s, or -1 if c is not present in s.": IT RETURNS 'Lib.indexByte s c'; the world is as it was. (LAID: no walk: one application.) -/
theorem Tryz.strings_IndexByte (s : ByteArray) (c : Int) (w : World) :
    Calls Tryz.prog 91 #[.string s, .int .u8 c] w fun e w' => e = .returned (.int .i64 (Lib.indexByte s.data.toList c.toNat.toUInt8)) ∧ w' = w := Any.strings_IndexByte Tryz.lays137 s c w
def Tryz.lays103_ren : Go.Shelf.Ren := ⟨fun | 103 => 59 | 210 => 85 | 206 => 81 | n => n, fun | 9 => 9 | 4 => 4 | 24 => 87 | 3 => 3 | n => n, fun | n => n⟩
theorem Tryz.lays103 : Go.Proofs.Lays.n103 Tryz.prog Tryz.lays103_ren := {
  mixed := by kernel_rfl
  f103 := Tryz.func59.trans (congrArg some (by kernel_rfl))
  f206 := Tryz.func81.trans (congrArg some (by kernel_rfl))
  f210 := Tryz.func85.trans (congrArg some (by kernel_rfl))
  t3 := Tryz.underlying3
  a3 := Tryz.isAgg3
  z3 := Tryz.sizeOf3
  v3 := Tryz.zeroValue3
  t4 := Tryz.underlying4
  a4 := Tryz.isAgg4
  z4 := Tryz.sizeOf4
  v4 := Tryz.zeroValue4
  t9 := Tryz.underlying9
  a9 := Tryz.isAgg9
  z9 := Tryz.sizeOf9
  v9 := Tryz.zeroValue9
  t24 := Tryz.underlying87
  a24 := Tryz.isAgg87
  z24 := Tryz.sizeOf87
  v24 := Tryz.zeroValue87 }
open Go.RowKit in
/-- strings.CutPrefix: "CutPrefix returns s without the provided leading prefix string and reports whether it found the prefix. If s doesn't start with prefix, CutPrefix returns s, false. If prefix is the empty string, CutPrefix returns s, true.": IT RETURNS '(Lib.trimPrefix s p, Lib.hasPrefix s p)'; the world is as it was. (LAID: no walk: one application.) -/
theorem Tryz.strings_CutPrefix (s p : ByteArray) (w : World) :
    Calls Tryz.prog 59 #[.string s, .string p] w fun e w' => e = .returned (.tuple #[.string ⟨(Lib.trimPrefix s.data.toList p.data.toList).toArray⟩, .bool (Lib.hasPrefix s.data.toList p.data.toList)]) ∧ w' = w := Any.strings_CutPrefix Tryz.lays103 s p w
open Go.RowKit in
/-- (*strings.Builder).String: "String returns the accumulated string.": WHATEVER THE BUILDER HOLDS; THE FORM '_k': OVER 'Lib.IsBuilderF' (a builder that 'String()' may have read), AND WITH THE FRAME THAT REACHES ABOVE THE BUILDER: 'Lib.OthersKept': every block that is not b and is no row of uint8's stands as it stood: the iterator of a range among them. (LAID: no walk: one application.) -/
theorem Tryz.Builder_String_any_k (B b : Nat) (l : List UInt8) (w : World) (h : Lib.IsBuilderF 47 5 B b (Lib.byteCells l) w) (hBw : B ≤ w.heap.size) :
    Calls Tryz.prog 28 #[.pointer (some ⟨b, 0, none⟩)] w fun e w' => e = .returned (.string ⟨l.toArray⟩) ∧ (Lib.IsBuilderF 47 5 B b (Lib.byteCells l) w' ∧ Below B w w' ∧ Lib.OthersKept 5 (some b) w w') := Any.Builder_String_any_k Tryz.lays169 Tryz.Builder_Extra_169 B b l w h hBw
def Tryz.lays145_ren : Go.Shelf.Ren := ⟨fun | 145 => 58 | 220 => 84 | 219 => 99 | 217 => 103 | 225 => 94 | 224 => 93 | 267 => 104 | 266 => 108 | 314 => 109 | n => n, fun | 9 => 9 | 4 => 4 | 59 => 85 | 3 => 3 | 5 => 5 | 46 => 95 | 146 => 156 | 51 => 155 | n => n, fun | 1 => 6 | n => n⟩
theorem Tryz.lays145 : Go.Proofs.Lays.n145 Tryz.prog Tryz.lays145_ren := {
  mixed := by kernel_rfl
  f145 := Tryz.func58.trans (congrArg some (by kernel_rfl))
  f217 := Tryz.func103.trans (congrArg some (by kernel_rfl))
  f219 := Tryz.func99.trans (congrArg some (by kernel_rfl))
  f220 := Tryz.func84.trans (congrArg some (by kernel_rfl))
  f224 := Tryz.func93.trans (congrArg some (by kernel_rfl))
  f225 := Tryz.func94.trans (congrArg some (by kernel_rfl))
  f266 := Tryz.func108.trans (congrArg some (by kernel_rfl))
  f267 := Tryz.func104.trans (congrArg some (by kernel_rfl))
  f314 := Tryz.func109.trans (congrArg some (by kernel_rfl))
  t3 := Tryz.underlying3
  a3 := Tryz.isAgg3
  z3 := Tryz.sizeOf3
  v3 := Tryz.zeroValue3
  t4 := Tryz.underlying4
  a4 := Tryz.isAgg4
  z4 := Tryz.sizeOf4
  v4 := Tryz.zeroValue4
  t5 := Tryz.underlying5
  a5 := Tryz.isAgg5
  z5 := Tryz.sizeOf5
  v5 := Tryz.zeroValue5
  t9 := Tryz.underlying9
  a9 := Tryz.isAgg9
  z9 := Tryz.sizeOf9
  v9 := Tryz.zeroValue9
  t46 := Tryz.underlying95
  a46 := Tryz.isAgg95
  z46 := Tryz.sizeOf95
  v46 := Tryz.zeroValue95
  t51 := Tryz.underlying155
  a51 := Tryz.isAgg155
  z51 := Tryz.sizeOf155
  v51 := Tryz.zeroValue155
  t59 := Tryz.underlying85
  a59 := Tryz.isAgg85
  z59 := Tryz.sizeOf85
  v59 := Tryz.zeroValue85
  t146 := Tryz.underlying156
  a146 := Tryz.isAgg156
  z146 := Tryz.sizeOf156
  v146 := Tryz.zeroValue156
  g1 := by kernel_rfl }
open Go.RowKit Go.Lib in
/-- strings.Cut: "Cut slices s around the first instance of sep, returning the text before and after sep. The found result reports whether sep appears in s. If sep does not appear in s, cut returns s, "", false.": IT RETURNS 'Lib.cut s sep'; the world is as it was but for the count of draws. (LAID: no walk: one application.) -/
theorem Tryz.strings_Cut (s sep : ByteArray) (m : Int) (w : World) (hs : s.size < 4294967281) (hm : w.cell? ⟨6, 0, none⟩ = some (.int .i64 m)) :
    Calls Tryz.prog 58 #[.string s, .string sep] w fun e w' => e = .returned (.tuple #[.string ⟨(Lib.cut s.data.toList sep.data.toList).1.toArray⟩, .string ⟨(Lib.cut s.data.toList sep.data.toList).2.1.toArray⟩, .bool (Lib.cut s.data.toList sep.data.toList).2.2]) ∧ ∃ n, w' = w.drewN n := Any.strings_Cut Tryz.lays145 s sep m w hs hm
def Tryz.laysM145_ren : Go.Shelf.Ren := ⟨fun | 145 => 58 | 220 => 84 | 219 => 99 | 217 => 103 | 225 => 94 | 224 => 93 | 267 => 104 | 266 => 108 | 314 => 109 | n => n, fun | 9 => 9 | 4 => 4 | 59 => 85 | 3 => 3 | 5 => 5 | 46 => 95 | 146 => 156 | 51 => 155 | n => n, fun | 1 => 6 | n => n⟩
theorem Tryz.laysM145 : Go.Proofs.LaysM.n145 Tryz.prog Tryz.laysM145_ren := {
  mixed := by kernel_rfl
  f145 := Tryz.func58.trans (congrArg some (by kernel_rfl))
  f217 := Tryz.func103.trans (congrArg some (by kernel_rfl))
  f219 := Tryz.func99.trans (congrArg some (by kernel_rfl))
  f220 := Tryz.func84.trans (congrArg some (by kernel_rfl))
  f224 := Tryz.func93.trans (congrArg some (by kernel_rfl))
  f225 := Tryz.func94.trans (congrArg some (by kernel_rfl))
  f266 := Tryz.func108.trans (congrArg some (by kernel_rfl))
  f267 := Tryz.func104.trans (congrArg some (by kernel_rfl))
  f314 := Tryz.func109.trans (congrArg some (by kernel_rfl))
  t3 := Tryz.underlying3
  a3 := Tryz.isAgg3
  z3 := Tryz.sizeOf3
  v3 := Tryz.zeroValue3
  t4 := Tryz.underlying4
  a4 := Tryz.isAgg4
  z4 := Tryz.sizeOf4
  v4 := Tryz.zeroValue4
  t5 := Tryz.underlying5
  a5 := Tryz.isAgg5
  z5 := Tryz.sizeOf5
  v5 := Tryz.zeroValue5
  t9 := Tryz.underlying9
  a9 := Tryz.isAgg9
  z9 := Tryz.sizeOf9
  v9 := Tryz.zeroValue9
  t46 := Tryz.underlying95
  a46 := Tryz.isAgg95
  z46 := Tryz.sizeOf95
  v46 := Tryz.zeroValue95
  t51 := Tryz.underlying155
  a51 := Tryz.isAgg155
  z51 := Tryz.sizeOf155
  v51 := Tryz.zeroValue155
  t59 := Tryz.underlying85
  a59 := Tryz.isAgg85
  z59 := Tryz.sizeOf85
  v59 := Tryz.zeroValue85
  t146 := Tryz.underlying156
  a146 := Tryz.isAgg156
  z146 := Tryz.sizeOf156
  v146 := Tryz.zeroValue156
  g1 := by kernel_rfl
  i3 := by kernel_rfl
  i4 := by kernel_rfl
  i5 := by kernel_rfl
  i9 := by kernel_rfl
  i46 := by kernel_rfl
  i51 := by kernel_rfl
  i59 := by kernel_rfl
  i146 := by kernel_rfl
  m1 := by kernel_rfl
  s1_3 := fun w h => Go.Proofs.cell_of_shapedOpen_int (zero := #[.int .i64 0]) (t := 3) h (of_decide_eq_true (by kernel_rfl)) (by kernel_rfl) rfl (by kernel_rfl) (by kernel_rfl) Tryz.underlying3 }
def Tryz.laysGw17_ren : Go.Shelf.Ren := ⟨fun | 17 => 52 | 15 => 82 | 20 => 98 | n => n, fun | 9 => 9 | 23 => 82 | 4 => 4 | 3 => 3 | 0 => 0 | 21 => 21 | n => n, fun | n => n⟩
theorem Tryz.laysGw17 : Go.Proofs.LaysGw.n17 Tryz.prog Tryz.laysGw17_ren := {
  mixed := by kernel_rfl
  f15 := Tryz.func82.trans (congrArg some (by kernel_rfl))
  f17 := Tryz.func52.trans (congrArg some (by kernel_rfl))
  f20 := Tryz.func98.trans (congrArg some (by kernel_rfl))
  t0 := Tryz.underlying0
  a0 := Tryz.isAgg0
  z0 := Tryz.sizeOf0
  v0 := Tryz.zeroValue0
  i0 := by kernel_rfl
  t3 := Tryz.underlying3
  a3 := Tryz.isAgg3
  z3 := Tryz.sizeOf3
  v3 := Tryz.zeroValue3
  i3 := by kernel_rfl
  t4 := Tryz.underlying4
  a4 := Tryz.isAgg4
  z4 := Tryz.sizeOf4
  v4 := Tryz.zeroValue4
  i4 := by kernel_rfl
  t9 := Tryz.underlying9
  a9 := Tryz.isAgg9
  z9 := Tryz.sizeOf9
  v9 := Tryz.zeroValue9
  i9 := by kernel_rfl
  t21 := Tryz.underlying21
  a21 := Tryz.isAgg21
  z21 := Tryz.sizeOf21
  v21 := Tryz.zeroValue21
  i21 := by kernel_rfl
  t23 := Tryz.underlying82
  a23 := Tryz.isAgg82
  z23 := Tryz.sizeOf82
  v23 := Tryz.zeroValue82
  i23 := by kernel_rfl }
open Go.RowKit Go.Lib in
theorem Tryz.strings_ContainsFunc_runes (g : Nat) (lb : Array Value) (eg : ∀ args w, (callFunc g args).run Tryz.prog w = .ok (.enter g args) w) (p : Nat → Bool) (s : ByteArray) (w : World) (hp : PredAtRunes Tryz.prog g lb p w) :
    Calls Tryz.prog 52 #[.string s, .func (.func g) #[] lb] w fun e w' => e = .returned (.bool (decide (0 ≤ Lib.idxFunc p true s))) ∧ Below w.heap.size w w' := Any.strings_ContainsFunc_runes Tryz.laysGw17 g lb eg p s w hp
def Tryz.lays99_ren : Go.Shelf.Ren := ⟨fun | 99 => 50 | 206 => 81 | n => n, fun | 9 => 9 | 4 => 4 | 3 => 3 | n => n, fun | n => n⟩
theorem Tryz.lays99 : Go.Proofs.Lays.n99 Tryz.prog Tryz.lays99_ren := {
  mixed := by kernel_rfl
  f99 := Tryz.func50.trans (congrArg some (by kernel_rfl))
  f206 := Tryz.func81.trans (congrArg some (by kernel_rfl))
  t3 := Tryz.underlying3
  a3 := Tryz.isAgg3
  z3 := Tryz.sizeOf3
  v3 := Tryz.zeroValue3
  t4 := Tryz.underlying4
  a4 := Tryz.isAgg4
  z4 := Tryz.sizeOf4
  v4 := Tryz.zeroValue4
  t9 := Tryz.underlying9
  a9 := Tryz.isAgg9
  z9 := Tryz.sizeOf9
  v9 := Tryz.zeroValue9 }
open Go.RowKit Go.Lib in
/-- strings.HasPrefix: "HasPrefix reports whether the string s begins with prefix.": IT RETURNS 'Lib.hasPrefix s prefix'; the world is as it was. (LAID: no walk: one application.) -/
theorem Tryz.strings_HasPrefix (s p : ByteArray) (w : World) :
    Calls Tryz.prog 50 #[.string s, .string p] w fun e w' => e = .returned (.bool (Lib.hasPrefix s.data.toList p.data.toList)) ∧ w' = w := Any.strings_HasPrefix Tryz.lays99 s p w
def Tryz.lays100_ren : Go.Shelf.Ren := ⟨fun | 100 => 56 | 207 => 83 | n => n, fun | 9 => 9 | 4 => 4 | 3 => 3 | n => n, fun | n => n⟩
theorem Tryz.lays100 : Go.Proofs.Lays.n100 Tryz.prog Tryz.lays100_ren := {
  mixed := by kernel_rfl
  f100 := Tryz.func56.trans (congrArg some (by kernel_rfl))
  f207 := Tryz.func83.trans (congrArg some (by kernel_rfl))
  t3 := Tryz.underlying3
  a3 := Tryz.isAgg3
  z3 := Tryz.sizeOf3
  v3 := Tryz.zeroValue3
  t4 := Tryz.underlying4
  a4 := Tryz.isAgg4
  z4 := Tryz.sizeOf4
  v4 := Tryz.zeroValue4
  t9 := Tryz.underlying9
  a9 := Tryz.isAgg9
  z9 := Tryz.sizeOf9
  v9 := Tryz.zeroValue9 }
open Go.RowKit Go.Lib in
/-- strings.HasSuffix: "HasSuffix reports whether the string s ends with suffix.": IT RETURNS 'Lib.hasSuffix s suffix'; the world is as it was. ('hs': no Go string is longer: a caller has it of every string that it was handed.) (LAID: no walk: one application.) -/
theorem Tryz.strings_HasSuffix (s p : ByteArray) (w : World) (hs : s.size ≤ 9223372036854775807) :
    Calls Tryz.prog 56 #[.string s, .string p] w fun e w' => e = .returned (.bool (Lib.hasSuffix s.data.toList p.data.toList)) ∧ w' = w := Any.strings_HasSuffix Tryz.lays100 s p w hs
def Tryz.lays102_ren : Go.Shelf.Ren := ⟨fun | 102 => 76 | 209 => 97 | 207 => 83 | n => n, fun | 9 => 9 | 4 => 4 | 3 => 3 | n => n, fun | n => n⟩
theorem Tryz.lays102 : Go.Proofs.Lays.n102 Tryz.prog Tryz.lays102_ren := {
  mixed := by kernel_rfl
  f102 := Tryz.func76.trans (congrArg some (by kernel_rfl))
  f207 := Tryz.func83.trans (congrArg some (by kernel_rfl))
  f209 := Tryz.func97.trans (congrArg some (by kernel_rfl))
  t3 := Tryz.underlying3
  a3 := Tryz.isAgg3
  z3 := Tryz.sizeOf3
  v3 := Tryz.zeroValue3
  t4 := Tryz.underlying4
  a4 := Tryz.isAgg4
  z4 := Tryz.sizeOf4
  v4 := Tryz.zeroValue4
  t9 := Tryz.underlying9
  a9 := Tryz.isAgg9
  z9 := Tryz.sizeOf9
  v9 := Tryz.zeroValue9 }
open Go.RowKit Go.Lib in
/-- strings.TrimSuffix: "TrimSuffix returns s without the provided trailing suffix string. If s doesn't end with suffix, s is returned unchanged.": IT RETURNS 'Lib.trimSuffix s suffix'; the world is as it was. (LAID: no walk: one application.) -/
theorem Tryz.strings_TrimSuffix (s p : ByteArray) (w : World) (hs : s.size ≤ 9223372036854775807) :
    Calls Tryz.prog 76 #[.string s, .string p] w fun e w' => e = .returned (.string ⟨(Lib.trimSuffix s.data.toList p.data.toList).toArray⟩) ∧ w' = w := Any.strings_TrimSuffix Tryz.lays102 s p w hs
def Tryz.lays152_ren : Go.Shelf.Ren := ⟨fun | 152 => 64 | 137 => 91 | 119 => 92 | 224 => 93 | 225 => 94 | 217 => 103 | 266 => 108 | n => n, fun | 9 => 9 | 21 => 21 | 3 => 3 | 4 => 4 | 5 => 5 | 0 => 0 | 46 => 95 | n => n, fun | n => n⟩
theorem Tryz.lays152 : Go.Proofs.Lays.n152 Tryz.prog Tryz.lays152_ren := {
  mixed := by kernel_rfl
  f119 := Tryz.func92.trans (congrArg some (by kernel_rfl))
  f137 := Tryz.func91.trans (congrArg some (by kernel_rfl))
  f152 := Tryz.func64.trans (congrArg some (by kernel_rfl))
  f217 := Tryz.func103.trans (congrArg some (by kernel_rfl))
  f224 := Tryz.func93.trans (congrArg some (by kernel_rfl))
  f225 := Tryz.func94.trans (congrArg some (by kernel_rfl))
  f266 := Tryz.func108.trans (congrArg some (by kernel_rfl))
  t0 := Tryz.underlying0
  a0 := Tryz.isAgg0
  z0 := Tryz.sizeOf0
  v0 := Tryz.zeroValue0
  t3 := Tryz.underlying3
  a3 := Tryz.isAgg3
  z3 := Tryz.sizeOf3
  v3 := Tryz.zeroValue3
  t4 := Tryz.underlying4
  a4 := Tryz.isAgg4
  z4 := Tryz.sizeOf4
  v4 := Tryz.zeroValue4
  t5 := Tryz.underlying5
  a5 := Tryz.isAgg5
  z5 := Tryz.sizeOf5
  v5 := Tryz.zeroValue5
  t9 := Tryz.underlying9
  a9 := Tryz.isAgg9
  z9 := Tryz.sizeOf9
  v9 := Tryz.zeroValue9
  t21 := Tryz.underlying21
  a21 := Tryz.isAgg21
  z21 := Tryz.sizeOf21
  v21 := Tryz.zeroValue21
  t46 := Tryz.underlying95
  a46 := Tryz.isAgg95
  z46 := Tryz.sizeOf95
  v46 := Tryz.zeroValue95 }
open Go.RowKit Go.Lib in
theorem Tryz.strings_IndexRune_ascii (s : ByteArray) (r : Int) (w : World) (h0 : 0 ≤ r) (h1 : r < 128) :
    Calls Tryz.prog 64 #[.string s, .int .i32 r] w fun e w' => e = .returned (.int .i64 (Lib.indexByte s.data.toList r.toNat.toUInt8)) ∧ w' = w := Any.strings_IndexRune_ascii Tryz.lays152 s r w h0 h1
def Tryz.lays226_ren : Go.Shelf.Ren := ⟨fun | 226 => 65 | n => n, fun | 3 => 3 | 4 => 4 | n => n, fun | n => n⟩
theorem Tryz.lays226 : Go.Proofs.Lays.n226 Tryz.prog Tryz.lays226_ren := {
  mixed := by kernel_rfl
  f226 := Tryz.func65.trans (congrArg some (by kernel_rfl))
  t3 := Tryz.underlying3
  a3 := Tryz.isAgg3
  z3 := Tryz.sizeOf3
  v3 := Tryz.zeroValue3
  t4 := Tryz.underlying4
  a4 := Tryz.isAgg4
  z4 := Tryz.sizeOf4
  v4 := Tryz.zeroValue4 }
open Go.RowKit Go.Lib in
theorem Tryz.strings_shouldUseASCIISet (n : Int) (w : World) :
    Calls Tryz.prog 65 #[.int .i64 n] w fun e w' => e = .returned (.bool (decide (8 < n))) ∧ w' = w := Any.strings_shouldUseASCIISet Tryz.lays226 n w
def Tryz.lays153_ren : Go.Shelf.Ren := ⟨fun | 153 => 44 | 152 => 64 | 226 => 65 | 227 => 66 | 228 => 67 | 137 => 91 | 119 => 92 | 224 => 93 | 225 => 94 | 217 => 103 | 266 => 108 | n => n, fun | 9 => 9 | 3 => 3 | 4 => 4 | 5 => 5 | 21 => 21 | 117 => 100 | 116 => 99 | 0 => 0 | 46 => 95 | 124 => 125 | n => n, fun | n => n⟩
theorem Tryz.lays153 : Go.Proofs.Lays.n153 Tryz.prog Tryz.lays153_ren := {
  mixed := by kernel_rfl
  f119 := Tryz.func92.trans (congrArg some (by kernel_rfl))
  f137 := Tryz.func91.trans (congrArg some (by kernel_rfl))
  f152 := Tryz.func64.trans (congrArg some (by kernel_rfl))
  f153 := Tryz.func44.trans (congrArg some (by kernel_rfl))
  f217 := Tryz.func103.trans (congrArg some (by kernel_rfl))
  f224 := Tryz.func93.trans (congrArg some (by kernel_rfl))
  f225 := Tryz.func94.trans (congrArg some (by kernel_rfl))
  f226 := Tryz.func65.trans (congrArg some (by kernel_rfl))
  f227 := Tryz.func66.trans (congrArg some (by kernel_rfl))
  f228 := Tryz.func67.trans (congrArg some (by kernel_rfl))
  f266 := Tryz.func108.trans (congrArg some (by kernel_rfl))
  t0 := Tryz.underlying0
  a0 := Tryz.isAgg0
  z0 := Tryz.sizeOf0
  v0 := Tryz.zeroValue0
  t3 := Tryz.underlying3
  a3 := Tryz.isAgg3
  z3 := Tryz.sizeOf3
  v3 := Tryz.zeroValue3
  t4 := Tryz.underlying4
  a4 := Tryz.isAgg4
  z4 := Tryz.sizeOf4
  v4 := Tryz.zeroValue4
  t5 := Tryz.underlying5
  a5 := Tryz.isAgg5
  z5 := Tryz.sizeOf5
  v5 := Tryz.zeroValue5
  t9 := Tryz.underlying9
  a9 := Tryz.isAgg9
  z9 := Tryz.sizeOf9
  v9 := Tryz.zeroValue9
  t21 := Tryz.underlying21
  a21 := Tryz.isAgg21
  z21 := Tryz.sizeOf21
  v21 := Tryz.zeroValue21
  t46 := Tryz.underlying95
  a46 := Tryz.isAgg95
  z46 := Tryz.sizeOf95
  v46 := Tryz.zeroValue95
  t116 := Tryz.underlying99
  a116 := Tryz.isAgg99
  z116 := Tryz.sizeOf99
  t117 := Tryz.underlying100
  a117 := Tryz.isAgg100
  z117 := Tryz.sizeOf100
  v117 := Tryz.zeroValue100
  t124 := Tryz.underlying125
  a124 := Tryz.isAgg125
  z124 := Tryz.sizeOf125
  v124 := Tryz.zeroValue125 }
open Go.RowKit Go.Lib in
theorem Tryz.strings_IndexAny_long (hv116 : ∀ w, (zeroValue 99).run Tryz.prog w = .ok (.agg (Array.replicate 256 (.bool false))) w) (s chars : ByteArray) (w : World) (h2 : 2 ≤ chars.size) (h8 : 8 < s.size) (hs : s.size < 4294967281) (hcs : chars.size < 4294967281) (hascii : ∀ (j : Nat) b, chars.data.toList[j]? = some b → b.toNat < 128) :
    Calls Tryz.prog 44 #[.string s, .string chars] w fun e w' => e = .returned (.int .i64 (Lib.indexAny s.data.toList chars.data.toList)) ∧ w' = ((w.alloc (.cells (Lib.setCells chars.data.toList) 99)).alloc (.cells (Lib.setCells chars.data.toList) 99)) := Any.strings_IndexAny_long Tryz.lays153 hv116 (by kernel_rfl) s chars w h2 h8 hs hcs hascii
end Go.Proofs
/- strings.IndexRune at a rune beyond ASCII, in a text of ASCII: there is none. -/
namespace Go.Proofs.YtjnfoocmilbdlaaGreatDoor
set_option linter.unusedSimpArgs false
set_option linter.unusedVariables false
namespace Idx
open Go.RowKit Go.Shelf Go.Proofs.YtjnfoocmilbdlaaGreatDoorW.PrintWords
attribute [local go_sem] Oper.semAt_some
theorem indexByte_none (l : List UInt8) (c : UInt8) (h : ∀ b ∈ l, b ≠ c) : Lib.indexByte l c = -1 := by
  induction l with
  | nil => rfl
  | cons b l ih =>
    unfold Lib.indexByte
    rw [if_neg (by simpa using h b (by simp)), ih (fun x hx => h x (by simp [hx]))]
    rfl
set_option maxHeartbeats 4000000 in
set_option maxRecDepth 1000000 in
theorem high_err (s : ByteArray) (hs : ∀ b ∈ s.data.toList, b.toNat < 128) (w : World) :
    Calls Tryz.prog 64 #[.string s, .int .i32 65533] w fun e w' => e = .returned (.int .i64 (-1)) ∧ Below w.heap.size w w' := by
  have HS := Lib.hid hs
  clear hs
  go_enter Tryz.func64, Tryz.ntmps64
  go_wp2_with fail
  go_loopw [] (fun wr => ∃ pos : Nat, pos ≤ s.size ∧ wr.heap[w.heap.size]? = some (.stringIter s pos) ∧ Below w.heap.size w wr) (fun wr => s.size - wr.iterPos w.heap.size)
  case atStart => exact ⟨0, Nat.zero_le _, World.iter_heap w s 0, (Below.refl _ _).alloc (Nat.le_refl _) _⟩
  case round =>
    obtain ⟨pos, hp, hit, hb⟩ := hrel
    have HIT := Lib.hid hit
    by_cases hlt : pos < s.size
    · have ha : (s[pos]'hlt).toNat < 128 := HS.out _ (Array.getElem_mem_toList (xs := s.data) hlt)
      have hd := decode_ascii s pos hlt ha
      have hnx0 : ∀ ty, (Instr.next (.pointer (some ⟨w.heap.size, 0, none⟩)) true ty).run Tryz.prog wr = _ := fun ty => Lib.run_next_any_at wr w.heap.size s pos ty hit hlt
      rw [hd] at hnx0
      obtain ⟨c, hc⟩ : ∃ c, (s[pos]'hlt).toNat = c := ⟨_, rfl⟩
      rw [hc] at hnx0 ha
      have hne : ¬ ((c : Int) = 65533) := by omega
      obtain ⟨W2, hW2⟩ : ∃ W2, wr.iterAt w.heap.size s (pos + 1) = W2 := ⟨_, rfl⟩
      have hnx : ∀ ty, (Instr.next (.pointer (some ⟨w.heap.size, 0, none⟩)) true ty).run Tryz.prog wr = .ok (.tuple #[.bool true, .int .i64 pos, .int .i32 c]) W2 := fun ty => by rw [hnx0]; simp only [hW2]
      have hit2 : W2.heap[w.heap.size]? = some (.stringIter s (pos + 1)) := by rw [← hW2]; exact Lib.iterAt_heap wr _ s pos _ hit
      have hb2 : Below w.heap.size w W2 := by
        rw [← hW2]
        exact hb.trans ⟨rfl, rfl, rfl, by rw [Lib.iterAt_size]; exact Nat.le_refl _, fun k hk => Lib.iterAt_other wr _ k s _ (by omega)⟩
      clear hW2 hnx0 hd hc hit
      go_wp2_with fail
      go_roundw
      case rel => exact ⟨pos + 1, by omega, hit2, hb2⟩
      case measure => simp only [World.iterPos, hit2, HIT.out]; omega
    · have hnx : ∀ ty, (Instr.next (.pointer (some ⟨w.heap.size, 0, none⟩)) true ty).run Tryz.prog wr = _ := fun ty => Lib.run_next_end_at wr w.heap.size s pos ty hit hlt
      clear hit
      go_wp2_with fail
      refine bodyPost_ret (v := .int .i64 (-1)) (by simp [results, Tryz.results64, go_sem]) rfl ⟨rfl, hb⟩
end Idx
end Go.Proofs.YtjnfoocmilbdlaaGreatDoor
/- digits plainly: reading sign by sign. No program in sight. -/
namespace Go.Proofs.YtjnfoocmilbdlaaGreatDoor
set_option linter.unusedSimpArgs false
set_option linter.unusedVariables false
namespace Code
open Go.RowKit Go.Proofs.YtjnfoocmilbdlaaGreatDoorW.PrintWords Go.Proofs.YtjnfoocmilbdlaaGreatDoor.PureB
/-- reading digits one by one -/
def hx : List Int → List Int → Int → Option (List Int × Int)
  | [], acc, h => some (acc, h)
  | c :: r, acc, h => if dv c < 0 then none else if h < 0 then hx r acc (dv c) else hx r (acc ++ [h * 16 + dv c]) (-1)
theorem decode_ok (s : ByteArray) (i : Nat) : Lib.validRune ((Utf8.decode s i).1 : Int) = true := by
  have hb : ∀ k, (s.get! (i + k)).toNat < 256 := fun k => (s.get! (i + k)).toNat_lt
  have h0 := hb 0; have h1 := hb 1; have h2 := hb 2; have h3 := hb 3
  have hv : ∀ c : Nat, Utf8.valid (c : Int) = true → Lib.validRune (c : Int) = true := fun c h => by rw [validRune_eq] at h; exact h
  simp only [Utf8.decode]
  repeat' split
  all_goals first
    | (apply hv; simp_all; done)
    | (simp [Lib.validRune, Utf8.runeError]; done)
    | (simp only [Lib.validRune, Utf8.runeError, decide_eq_true_eq]; omega)
end Code
end Go.Proofs.YtjnfoocmilbdlaaGreatDoor
/- base64 and digits plainly, sixth part: what is written is read. No program in sight. -/
namespace Go.Proofs.YtjnfoocmilbdlaaGreatDoor
set_option linter.unusedSimpArgs false
set_option linter.unusedVariables false
namespace Code
open Go.RowKit Go.Proofs.YtjnfoocmilbdlaaGreatDoorW.PrintWords Go.Proofs.YtjnfoocmilbdlaaGreatDoor.PureB
def Byt (l : List Int) : Prop := ∀ x ∈ l, 0 ≤ x ∧ x < 256
theorem strip_of {l : List Int} {c : Int} (h : c ≠ 61) : strip (l ++ [c]) = l ++ [c] := by
  unfold strip
  rw [List.reverse_append]
  simp [h]
theorem strip_pad (l : List Int) : strip (l ++ [61]) = strip l := by
  unfold strip
  rw [List.reverse_append]
  simp
theorem vals_of : ∀ vs : List Int, (∀ v ∈ vs, 0 ≤ v ∧ v < 64) → vals (vs.map b64) = some vs
  | [], _ => rfl
  | v :: vs, h => by
    have hv := h v (by simp)
    simp only [List.map_cons, vals, worth_b64 v hv.1 hv.2, vals_of vs (fun x hx => h x (by simp [hx])), Option.map_some]
theorem ung3 (a b c : Int) (ha : 0 ≤ a ∧ a < 256) (hb : 0 ≤ b ∧ b < 256) (hc : 0 ≤ c ∧ c < 256) :
    ungL [b64 (a / 4), b64 (a % 4 * 16 + b / 16), b64 (b % 16 * 4 + c / 64), b64 (c % 64)] = some [a, b, c] := by
  have e : [b64 (a / 4), b64 (a % 4 * 16 + b / 16), b64 (b % 16 * 4 + c / 64), b64 (c % 64)] = [b64 (a / 4), b64 (a % 4 * 16 + b / 16), b64 (b % 16 * 4 + c / 64)] ++ [b64 (c % 64)] := rfl
  unfold ungL
  rw [e, strip_of (b64_byte _ (by omega) (by omega)).2.2]
  have v := vals_of [a / 4, a % 4 * 16 + b / 16, b % 16 * 4 + c / 64, c % 64] (by intro x hx; simp at hx; rcases hx with rfl | rfl | rfl | rfl <;> omega)
  simp only [List.map_cons, List.map_nil] at v
  simp only [List.cons_append, List.nil_append, v, Option.map_some]
  simp [ungV, nsum, bys, List.range_succ]
  omega
theorem ung2 (a b : Int) (ha : 0 ≤ a ∧ a < 256) (hb : 0 ≤ b ∧ b < 256) :
    ungL [b64 (a / 4), b64 (a % 4 * 16 + b / 16), b64 (b % 16 * 4), 61] = some [a, b] := by
  have e : [b64 (a / 4), b64 (a % 4 * 16 + b / 16), b64 (b % 16 * 4), 61] = ([b64 (a / 4), b64 (a % 4 * 16 + b / 16)] ++ [b64 (b % 16 * 4)]) ++ [61] := rfl
  unfold ungL
  rw [e, strip_pad, strip_of (b64_byte _ (by omega) (by omega)).2.2]
  have v := vals_of [a / 4, a % 4 * 16 + b / 16, b % 16 * 4] (by intro x hx; simp at hx; rcases hx with rfl | rfl | rfl <;> omega)
  simp only [List.map_cons, List.map_nil] at v
  simp only [List.cons_append, List.nil_append, v, Option.map_some]
  simp [ungV, nsum, bys, List.range_succ]
  omega
theorem ung1 (a : Int) (ha : 0 ≤ a ∧ a < 256) :
    ungL [b64 (a / 4), b64 (a % 4 * 16), 61, 61] = some [a] := by
  have e : [b64 (a / 4), b64 (a % 4 * 16), 61, 61] = (([b64 (a / 4)] ++ [b64 (a % 4 * 16)]) ++ [61]) ++ [61] := rfl
  unfold ungL
  rw [e, strip_pad, strip_pad, strip_of (b64_byte _ (by omega) (by omega)).2.2]
  have v := vals_of [a / 4, a % 4 * 16] (by intro x hx; simp at hx; rcases hx with rfl | rfl <;> omega)
  simp only [List.map_cons, List.map_nil] at v
  simp only [List.cons_append, List.nil_append, v, Option.map_some]
  simp [ungV, nsum, bys, List.range_succ]
  omega
theorem pieces_cons (p r : List Int) (n m : Nat) (h : p.length = n) : pieces (p ++ r) n (m + 1) = p :: pieces r n m := by
  unfold pieces
  rw [List.range_succ_eq_map, List.map_cons, List.map_map]
  congr 1
  · rw [Nat.zero_mul, List.drop_zero, ← h, List.take_left]
  · apply List.map_congr_left
    intro j _
    simp only [Function.comp]
    rw [show (Nat.succ j) * n = n + j * n by rw [Nat.succ_mul]; omega, ← List.drop_drop, ← h, List.drop_left]
theorem rough_base : ∀ l : List Int, Byt l → rough (pieces (baseL l) 4 ((l.length + 2) / 3)) = some l
  | [], _ => rfl
  | [a], h => by
    have ha := h a (by simp)
    have := pieces_cons [b64 (a / 4), b64 (a % 4 * 16), 61, 61] [] 4 0 rfl
    simp only [List.append_nil] at this
    rw [show ([a].length + 2) / 3 = 1 by simp]
    simp only [baseL, this, rough, ung1 a ha]
    rfl
  | [a, b], h => by
    have ha := h a (by simp)
    have hb := h b (by simp)
    have := pieces_cons [b64 (a / 4), b64 (a % 4 * 16 + b / 16), b64 (b % 16 * 4), 61] [] 4 0 rfl
    simp only [List.append_nil] at this
    rw [show ([a, b].length + 2) / 3 = 1 by simp]
    simp only [baseL, this, rough, ung2 a b ha hb]
    rfl
  | a :: b :: c :: r, h => by
    have ha := h a (by simp)
    have hb := h b (by simp)
    have hc := h c (by simp)
    have hm : ((a :: b :: c :: r).length + 2) / 3 = (r.length + 2) / 3 + 1 := by simp only [List.length_cons]; omega
    rw [hm]
    simp only [baseL]
    rw [pieces_cons _ _ 4 _ rfl]
    simp only [rough, ung3 a b c ha hb hc, rough_base r (fun x hx => h x (by simp [hx])), Option.map_some]
    rfl
theorem unb_base (l : List Int) (h : Byt l) : unbL (baseL l) = some l := by
  unfold unbL
  rw [baseL_len, show (4 * ((l.length + 2) / 3) + 3) / 4 = (l.length + 2) / 3 by omega, rough_base l h]
  simp
end Code
end Go.Proofs.YtjnfoocmilbdlaaGreatDoor
/- lines of LDIF, plainly, on lists of bytes' numbers. No program in sight. -/
namespace Go.Proofs.YtjnfoocmilbdlaaGreatDoor
set_option linter.unusedSimpArgs false
set_option linter.unusedVariables false
namespace Fold
open Go.RowKit Go.Proofs.YtjnfoocmilbdlaaGreatDoorW.PrintWords Go.Proofs.YtjnfoocmilbdlaaGreatDoor.PureB Go.Proofs.YtjnfoocmilbdlaaGreatDoor.Code
/-- a text cut at the first c0: what stands ahead, behind, and is there one -/
def cutL (c0 : Int) : List Int → List Int × List Int × Bool
  | [] => ([], [], false)
  | c :: r => if c = c0 then ([], r, true) else (c :: (cutL c0 r).1, (cutL c0 r).2.1, (cutL c0 r).2.2)
theorem cutL_len (c0 : Int) : ∀ l : List Int, (cutL c0 l).1.length + (cutL c0 l).2.1.length ≤ l.length ∧ ((cutL c0 l).2.2 = false → (cutL c0 l).2.1 = [] ∧ (cutL c0 l).1 = l) ∧ ((cutL c0 l).2.2 = true → (cutL c0 l).1.length + (cutL c0 l).2.1.length + 1 = l.length)
  | [] => ⟨Nat.le_refl _, fun _ => ⟨rfl, rfl⟩, fun h => by cases h⟩
  | c :: r => by
    have ih := cutL_len c0 r
    simp only [cutL]
    split
    · simp
    · refine ⟨?_, fun h => ?_, fun h => ?_⟩
      · simp only [List.length_cons]; omega
      · obtain ⟨h1, h2⟩ := ih.2.1 h
        exact ⟨h1, by rw [h2]⟩
      · have := ih.2.2 h
        simp only [List.length_cons]; omega
theorem cutL_byt (c0 : Int) (l : List Int) (h : Byt l) : Byt (cutL c0 l).1 ∧ Byt (cutL c0 l).2.1 := by
  induction l with
  | nil => exact ⟨(fun x hx => by cases hx), (fun x hx => by cases hx)⟩
  | cons c r ih =>
    have ih := ih (fun x hx => h x (by simp [hx]))
    simp only [cutL]
    split
    · exact ⟨(fun x hx => by cases hx), fun x hx => h x (by simp [hx])⟩
    · refine ⟨fun x hx => ?_, ih.2⟩
      rcases List.mem_cons.1 hx with rfl | q
      · exact h _ (by simp)
      · exact ih.1 x q
/-- behind a text without c0 -/
theorem cutL_app (c0 : Int) : ∀ (a b : List Int), c0 ∉ a → cutL c0 (a ++ c0 :: b) = (a, b, true)
  | [], b, _ => by simp [cutL]
  | c :: a, b, h => by
    simp only [List.mem_cons, not_or] at h
    simp only [List.cons_append, cutL, if_neg (fun e => h.1 (Eq.symm e)), cutL_app c0 a b h.2]
/-! The library's cut. -/
def nm (l : List UInt8) : List Int := l.map fun b => (b.toNat : Int)
theorem cut_one (c : UInt8) : ∀ l : List UInt8, nm (Lib.cut l [c]).1 = (cutL (c.toNat : Int) (nm l)).1 ∧ nm (Lib.cut l [c]).2.1 = (cutL (c.toNat : Int) (nm l)).2.1 ∧ (Lib.cut l [c]).2.2 = (cutL (c.toNat : Int) (nm l)).2.2
  | [] => by
    unfold Lib.cut
    rw [Lib.index_one]
    simp [Lib.indexByte, nm, cutL]
  | b :: l => by
    have ih := cut_one c l
    have hge := Lib.indexByte_ge l c
    unfold Lib.cut at ih ⊢
    rw [Lib.index_one] at ih ⊢
    simp only [nm, List.map_cons, cutL] at ih ⊢
    by_cases hb : b = c
    · subst hb
      simp [Lib.indexByte]
    · have hb2 : ¬ ((b.toNat : Int) = (c.toNat : Int)) := fun e => hb (UInt8.toNat_inj.1 (by omega))
      have hbe : (b == c) = false := by rw [beq_eq_false_iff_ne]; exact hb
      rw [if_neg hb2]
      simp only [Lib.indexByte, hbe, Bool.false_eq_true, if_false]
      by_cases hm : Lib.indexByte l c = -1
      · rw [hm] at ih ⊢
        simp at ih ⊢
        exact ⟨ih.1, ih.2.1, ih.2.2⟩
      · have hme : (Lib.indexByte l c == -1) = false := by rw [beq_eq_false_iff_ne]; exact hm
        have h0 : 0 ≤ Lib.indexByte l c := by omega
        rw [hme]
        simp only [Bool.false_eq_true, if_false]
        rw [if_pos h0] at ih
        rw [if_pos (by omega)]
        have e1 : (Lib.indexByte l c + 1).toNat = (Lib.indexByte l c).toNat + 1 := by omega
        rw [e1]
        simp only [List.take_succ_cons, List.map_cons, List.length_cons, List.length_nil] at ih ⊢
        refine ⟨by rw [ih.1], ?_, ih.2.2⟩
        rw [← ih.2.1, show (Lib.indexByte l c).toNat + 1 + (0 + 1) = ((Lib.indexByte l c).toNat + (0 + 1)) + 1 by omega, List.drop_succ_cons]
theorem bl_mk (l : List UInt8) : bl ⟨l.toArray⟩ = nm l := by simp [bl, nm]
theorem mk_son (l : List UInt8) : (⟨l.toArray⟩ : ByteArray) = strOfNums (nm l) := by rw [← bl_mk, son_bl]
/-- one 13 less at the end -/
def stripR (l : List Int) : List Int := if l.getLast? = some 13 then l.dropLast else l
/-- a text's rows -/
def rowsL : Nat → List Int → List (List Int)
  | 0, _ => []
  | _ + 1, [] => []
  | f + 1, c :: r => (if (cutL 10 (c :: r)).2.2 then stripR (cutL 10 (c :: r)).1 else (cutL 10 (c :: r)).1) :: rowsL f (cutL 10 (c :: r)).2.1
def badRow (l : List Int) : Bool := l.any fun c => decide (c = 0 ∨ c = 13 ∨ c > 127)
/-- more of the last one -/
def addLast (ls : List (List Int)) (t : List Int) : List (List Int) := ls.dropLast ++ [ls.getLast?.getD [] ++ t]
def uStep (ls : List (List Int)) (op : Bool) (r : List Int) : Option (List (List Int) × Bool) :=
  if badRow r then none
  else match r with
    | [] => some (ls ++ [[]], false)
    | c :: t => if c = 32 then (if op then some (addLast ls t, true) else none) else some (ls ++ [c :: t], true)
def uAll : List (List Int) → List (List Int) → Bool → Option (List (List Int) × Bool)
  | [], ls, op => some (ls, op)
  | r :: rs, ls, op => (uStep ls op r).bind fun p => uAll rs p.1 p.2
def noteB (l : List Int) : Bool := match l with | c :: _ => decide (c = 35) | [] => false
def unfO (l : List Int) : Option (List (List Int)) := (uAll (rowsL (l.length + 1) l) [] false).map fun p => p.1.filter fun x => !noteB x
def unfL (l : List Int) : List (List Int) := if l.length > 8000 then [] else (unfO l).getD []
def unfE (l : List Int) : Int := if l.length > 8000 then 131 else if (unfO l).isSome then 0 else 150
/-- a line folded, from a row of so many on -/
def foldR : Nat → Nat → List Int → List Int
  | 0, _, _ => []
  | f + 1, w, l => l.take w ++ [10] ++ (if l.drop w = [] then [] else 32 :: foldR f 75 (l.drop w))
def foldL (l : List Int) : List Int := foldR (l.length + 1) 76 l
def brk (l : List Int) : Bool := l.any fun c => decide (c = 10 ∨ c = 13)
def fdV (l : List Int) : List Int := if l.length > 8000 then [] else if brk l then [] else foldL l
def fdE (l : List Int) : Int := if l.length > 8000 then 131 else if brk l then 150 else 0
/-- may it be an item's name? -/
def nmB (l : List Int) : Bool := match l with | [] => false | c :: r => decide (c ≠ 35) && (c :: r).all fun x => decide (33 ≤ x ∧ x ≤ 126 ∧ x ≠ 58)
def blanks : List Int → List Int
  | [] => []
  | c :: r => if c = 32 then blanks r else c :: r
theorem stripR_len (l : List Int) : (stripR l).length ≤ l.length := by
  unfold stripR
  split
  · rw [List.length_dropLast]; omega
  · exact Nat.le_refl _
theorem stripR_byt (l : List Int) (h : Byt l) : Byt (stripR l) := by
  unfold stripR
  split
  · exact fun x hx => h x (List.dropLast_subset l hx)
  · exact h
theorem blanks_len (l : List Int) : (blanks l).length ≤ l.length := by
  induction l with
  | nil => exact Nat.le_refl _
  | cons c r ih =>
    simp only [blanks]
    split
    · simp only [List.length_cons]; omega
    · exact Nat.le_refl _
theorem blanks_byt (l : List Int) (h : Byt l) : Byt (blanks l) := by
  induction l with
  | nil => exact h
  | cons c r ih =>
    simp only [blanks]
    split
    · exact ih (fun x hx => h x (by simp [hx]))
    · exact h
/-- with more rounds than bytes the same -/
theorem rowsL_more : ∀ (f g : Nat) (l : List Int), l.length < f → l.length < g → rowsL f l = rowsL g l
  | 0, _, _, h, _ => absurd h (Nat.not_lt_zero _)
  | _, 0, _, _, h => absurd h (Nat.not_lt_zero _)
  | f + 1, g + 1, [], _, _ => rfl
  | f + 1, g + 1, c :: r, h1, h2 => by
    have hl := cutL_len 10 (c :: r)
    simp only [List.length_cons] at h1 h2 hl
    simp only [rowsL]
    rw [rowsL_more f g]
    · cases hc : (cutL 10 (c :: r)).2.2 with
      | false => rw [(hl.2.1 hc).1]; simp only [List.length_nil]; omega
      | true => have := hl.2.2 hc; omega
    · cases hc : (cutL 10 (c :: r)).2.2 with
      | false => rw [(hl.2.1 hc).1]; simp only [List.length_nil]; omega
      | true => have := hl.2.2 hc; omega
theorem rowsL_len : ∀ (f : Nat) (l : List Int), (rowsL f l).length ≤ l.length ∧ ∀ r ∈ rowsL f l, r.length ≤ l.length ∧ (Byt l → Byt r)
  | 0, _ => ⟨Nat.zero_le _, fun r hr => by cases hr⟩
  | f + 1, [] => ⟨Nat.le_refl _, fun r hr => by cases hr⟩
  | f + 1, c :: r => by
    have hl := cutL_len 10 (c :: r)
    have ih := rowsL_len f (cutL 10 (c :: r)).2.1
    have hs := stripR_len (cutL 10 (c :: r)).1
    simp only [rowsL, List.length_cons] at hl ⊢
    refine ⟨?_, fun x hx => ?_⟩
    · cases hc : (cutL 10 (c :: r)).2.2 with
      | false =>
        have := (hl.2.1 hc).1
        rw [this] at ih
        simp only [List.length_nil] at ih
        rw [this]; omega
      | true => have := hl.2.2 hc; omega
    · rcases List.mem_cons.1 hx with rfl | q
      · refine ⟨by split <;> omega, fun hb => ?_⟩
        have := (cutL_byt 10 _ hb).1
        split
        · exact stripR_byt _ this
        · exact this
      · have := ih.2 x q
        exact ⟨by omega, fun hb => this.2 (cutL_byt 10 _ hb).2⟩
end Fold
end Go.Proofs.YtjnfoocmilbdlaaGreatDoor
/- A second law for 'for x := range f { .. }' of this repo's own: the loop's side holds a set U of blocks that may grow from round to round; the iterator turns no block of U, the loop's body turns blocks of U alone, and new ones; neither turns a block of Rd. -/
namespace Go.Proofs.YtjnfoocmilbdlaaGreatDoor
set_option linter.unusedSimpArgs false
set_option linter.unusedVariables false
open Go.RowKit

/-- A second change whose blocks, as far as they lay at the begin, are S's. -/
theorem Chg.trans' {S T : Nat → Prop} {A B C : World} (h : Chg S A B) (k : Chg T B C) (hT : ∀ j, j < A.heap.size → T j → S j) : Chg S A C :=
  ⟨k.os.trans h.os, k.tape.trans h.tape, k.output.trans h.output, Nat.le_trans h.size k.size, fun i hi hs => (k.block i (Nat.lt_of_lt_of_le hi h.size) (fun e => hs (hT i hi e))).trans (h.block i hi hs)⟩

/-- From A to B the loop's side turned blocks of U alone; U' holds what it holds now. -/
structure UStep (U : Nat → Prop) (A : World) (U' : Nat → Prop) (B : World) : Prop where
  old : ∀ j, U' j → U j ∨ A.heap.size ≤ j
  lt : ∀ j, U' j → j < B.heap.size
  chg : Chg U A B
theorem UStep.same {U : Nat → Prop} {A B : World} (hU : ∀ j, U j → j < A.heap.size) (h : Chg U A B) : UStep U A U B := ⟨fun _ h => .inl h, fun j hj => Nat.lt_of_lt_of_le (hU j hj) h.size, h⟩
theorem UStep.trans {U U' U'' : Nat → Prop} {A B C : World} (h : UStep U A U' B) (k : UStep U' B U'' C) : UStep U A U'' C :=
  ⟨fun j hj => by
      rcases k.old j hj with h1 | h1
      · exact h.old j h1
      · exact .inr (Nat.le_trans h.chg.size h1),
    k.lt, ⟨k.chg.os.trans h.chg.os, k.chg.tape.trans h.chg.tape, k.chg.output.trans h.chg.output, Nat.le_trans h.chg.size k.chg.size, fun i hi hs => (k.chg.block i (Nat.lt_of_lt_of_le hi h.chg.size) (fun h' => by
      rcases h.old i h' with h2 | h2
      · exact hs h2
      · omega)).trans (h.chg.block i hi hs)⟩⟩

/-- The contract of an iterator that goes through xs; W0: what it asks at its begin of the loop's blocks and of the world; E: what holds behind it, if it came to its end. -/
def IterD {α : Type} (F : Fence) (n : Nat) (P : Program) (g : Nat) (lb : Array Value) (encs : α → Array Value) (xs : List α) (Rd : Nat → Prop) (W0 : (Nat → Prop) → World → Prop) (E : World → Prop) : Prop :=
  ∀ (l : Nat) (J Jx : Nat → (Nat → Prop) → World → Prop) (U0 : Nat → Prop) (W : World), W0 U0 W → (∀ j, U0 j → j < W.heap.size ∧ ¬ Rd j) → (∀ j, Rd j → j < W.heap.size) →
    (∀ k U A B, J k U A → Chg (fun j => ¬ U j ∧ ¬ Rd j) A B → J k U B) → (∀ k U A B, Jx k U A → Chg (fun j => ¬ U j ∧ ¬ Rd j) A B → Jx k U B) →
    (∀ k x U A, xs[k]? = some x → (∀ j, U j → j < A.heap.size ∧ ¬ Rd j) → J k U A → YieldAt F (n - 1) P l (encs x) A fun e B =>
      (e = .returned (.bool true) ∧ ∃ U', UStep U A U' B ∧ J (k + 1) U' B) ∨ (e = .returned (.bool false) ∧ ∃ U', UStep U A U' B ∧ Jx (k + 1) U' B)) →
    J 0 U0 W →
    CallsIn F n P g (#[.func (.yield l) #[] #[]] ++ lb) W fun e B => (∃ v, e = .returned v) ∧ W.heap.size ≤ B.heap.size ∧ ((∃ U, (∀ j, U j → j < B.heap.size ∧ ¬ Rd j) ∧ J xs.length U B ∧ E B) ∨ ∃ k, k ≤ xs.length ∧ ∃ U, (∀ j, U j → j < B.heap.size ∧ ¬ Rd j) ∧ Jx k U B)

/-- The loop's own two blocks. -/
def LZ (z : Nat) (k : Nat) : Prop := k = z ∨ k = z + 1
/-- How a round's body may be left. -/
def itPostD (I : Nat → (Nat → Prop) → World → Prop) (Ix : Code → Nat → (Nat → Prop) → World → Prop) (U : Nat → Prop) (k : Nat) (A : World) : Exit → Act → World → Prop
  | .normal, _, B => ∃ U', UStep U A U' B ∧ I k U' B
  | .ret, _, B => ∃ U', UStep U A U' B ∧ Ix .ret k U' B
  | .exit id, _, B => ∃ U', UStep U A U' B ∧ Ix (.exit id) k U' B
  | .goto t, _, B => ∃ U', UStep U A U' B ∧ Ix (.goto t) k U' B
  | .panic _, _, _ => False
  | .outgrown, _, _ => False

variable {F : Fence} {n : Nat} {P : Program}

theorem wpIn_range_itD {α : Type} {g : Operand} {ps : Array Tmp} {assign body : Code} {Q : Exit → Act → World → Prop} {a : Act} {w : World}
    (hro : F.round = none) (h1 : 1 ≤ n) {gf : Nat} {lb : Array Value} (hg : a.eval g = .func (.func gf) #[] lb) (hFg : F.fn gf) (eg : ∀ args w, (callFunc gf args).run P w = .ok (.enter gf args) w)
    {encs : α → Array Value} {xs : List α} {Rd : Nat → Prop} {W0 : (Nat → Prop) → World → Prop} {E : World → Prop} (hit : IterD F (n - 1) P gf lb encs xs Rd W0 E) (hRd : ∀ j, Rd j → j < w.heap.size)
    (U0 : Nat → Prop) (hU0 : ∀ j, U0 j → j < w.heap.size ∧ ¬ Rd j)
    (hW0 : ∀ W, Chg (fun _ => False) w W → W.heap.size = w.heap.size + 2 → W0 (fun j => U0 j ∨ LZ w.heap.size j) W) (hps : ∀ x, (encs x).size = ps.size)
    (I : Nat → (Nat → Prop) → World → Prop) (Ix : Code → Nat → (Nat → Prop) → World → Prop)
    (hI : ∀ k U A B, I k U A → w.heap.size + 2 ≤ B.heap.size → Chg (fun j => ¬ U j ∧ ¬ Rd j) A B → I k U B) (hIx : ∀ c k U A B, Ix c k U A → Chg (fun j => ¬ U j ∧ ¬ Rd j) A B → Ix c k U B)
    (hE : ∀ A B, E A → Chg (LZ w.heap.size) A B → E B) (h0 : I 0 U0 w)
    (Ax : α → Act → World → Prop) (hAx : ∀ x a' A B, Ax x a' A → Chg (LZ w.heap.size) A B → Ax x a' B)
    (hassign : ∀ (l k : Nat) (x : α) (U : Nat → Prop) (A : World) (K : Act → World → Prop), xs[k]? = some x → I k U A → (∀ j, U j → j < A.heap.size ∧ ¬ Rd j) → w.heap.size + 2 ≤ A.heap.size →
      (∀ a' U1 B, UStep U A U1 B → I k U1 B → Ax x a' B → K a' B) →
      assign.wpIn (F.inRound l) (n - 1 - 1) P (Exit.then K (fun _ _ _ => False)) { tmps := (ps.zip (encs x)).foldl (fun t (p, v) => t.setIfInBounds p v) a.tmps, defers := [] } A)
    (hbody : ∀ (k : Nat) (x : α) (U : Nat → Prop) (a' : Act) (A : World), (∃ r, A.heap[w.heap.size + 1]? = some (.loop r)) → xs[k]? = some x → I k U A → (∀ j, U j → j < A.heap.size ∧ ¬ Rd j) → w.heap.size + 2 ≤ A.heap.size → Ax x a' A →
      body.wpIn (F.inRound (w.heap.size + 1)) (n - 1 - 1) P (itPostD I Ix U (k + 1) A) a' A)
    (hdone : ∀ (U : Nat → Prop) (B : World), I xs.length U B → E B → (∀ j, U j → j < B.heap.size ∧ ¬ Rd j) → w.heap.size + 2 ≤ B.heap.size → B.heap[w.heap.size]? = some (.deferred (some [])) → Q .normal { a with defers := { target := .collected w.heap.size, args := #[] } :: a.defers } B)
    (hstop : ∀ (c : Code) (k : Nat) (U : Nat → Prop) (B : World), k ≤ xs.length → Ix c k U B → (∀ j, U j → j < B.heap.size ∧ ¬ Rd j) → w.heap.size + 2 ≤ B.heap.size → B.heap[w.heap.size]? = some (.deferred (some [])) → c.wpIn F n P Q { a with defers := { target := .collected w.heap.size, args := #[] } :: a.defers } B) :
    (Code.rangeFunc g ps assign body).wpIn F n P Q a w := by
  refine wpIn_rangeFunc ?_
  intro fn hfn
  rw [hro]
  obtain ⟨rec, hrec⟩ : ∃ rec : LoopState → Option Code → Loop, rec = fun st pe => { state := st, pending := pe, fn, tmps := a.tmps, params := ps, assign, body, defers := w.heap.size } := ⟨_, rfl⟩
  obtain ⟨W1, hW1⟩ : ∃ W1, (w.alloc (.deferred (some []))).alloc (.loop (rec .ready none)) = W1 := ⟨_, rfl⟩
  have hs1 : W1.heap.size = w.heap.size + 2 := by rw [← hW1]; simp
  have hL1 : W1.heap[w.heap.size + 1]? = some (.loop (rec .ready none)) := by
    rw [← hW1]; have := World.alloc_heap_new (w.alloc (.deferred (some []))) (.loop (rec .ready none)); rwa [World.size_alloc] at this
  have hK1 : W1.heap[w.heap.size]? = some (.deferred (some [])) := by
    rw [← hW1]; exact (Below.heap_alloc _ _ _ (by simp)).trans (World.alloc_heap_new w _)
  have hC1 : ∀ S, Chg S w W1 := fun S => by rw [← hW1]; exact ((Chg.refl S w).alloc _).alloc _
  obtain ⟨z, hz⟩ : ∃ z, w.heap.size = z := ⟨_, rfl⟩
  have hI1 : I 0 U0 W1 := hI _ _ _ _ h0 (by omega) (hC1 _)
  -- what the loop hands to the iterator: U and the loop's own blocks
  obtain ⟨UL, hUL⟩ : ∃ UL : (Nat → Prop) → Nat → Prop, UL = fun U j => U j ∨ LZ z j := ⟨_, rfl⟩
  have ulz : ∀ U, UL U z := fun U => by rw [hUL]; exact .inr (.inl rfl)
  have ulz1 : ∀ U, UL U (z + 1) := fun U => by rw [hUL]; exact .inr (.inr rfl)
  have ulU : ∀ U j, U j → UL U j := fun U j h => by rw [hUL]; exact .inl h
  -- a change of the iterator's leaves U alone, and the loop's blocks
  have jI : ∀ {U A B}, Chg (fun j => ¬ UL U j ∧ ¬ Rd j) A B → Chg (fun j => ¬ U j ∧ ¬ Rd j) A B := fun h => h.mono (fun k hk => ⟨fun hS => hk.1 (ulU _ _ hS), hk.2⟩)
  have jR : ∀ j, LZ z j → ¬ Rd j := fun j hj hr => by
    have := hRd j hr
    rcases hj with hj | hj <;> omega
  have jZ : ∀ {U : Nat → Prop} {A B : World}, (∀ j, U j → ¬ LZ z j) → Chg (LZ z) A B → Chg (fun j => ¬ U j ∧ ¬ Rd j) A B := fun hu h => h.mono (fun k hk => ⟨fun hS => hu k hS hk, jR k hk⟩)
  refine ⟨w.heap.size + 1, [{ target := .collected w.heap.size, args := #[] }], W1, { target := .fn (.func gf) lb, args := #[.func (.yield (w.heap.size + 1)) #[] #[]] }, W1, gf,
    #[.func (.yield (w.heap.size + 1)) #[] #[]] ++ lb, W1, ?_, ?_, ?_, ?_, fun _ => h1, ?_⟩
  · rw [← hW1, hrec]; exact run_enterLoop_outer _ _ _ _ _
  · simp only [resolve, hg]
    simp [go_sem]
  · intro f' hf'; simp [Target.leads] at hf'; subst hf'; exact hFg
  · simp [invoke, go_sem, eg]
  · simp only [hz] at *
    refine (hit (z + 1)
      (fun k U W => ∃ U', U = UL U' ∧ (∀ j, U' j → ¬ LZ z j) ∧ z + 2 ≤ W.heap.size ∧ I k U' W ∧ W.heap[z + 1]? = some (.loop (rec .ready none)) ∧ W.heap[z]? = some (.deferred (some [])))
      (fun k U W => ∃ U', U = UL U' ∧ (∀ j, U' j → ¬ LZ z j) ∧ z + 2 ≤ W.heap.size ∧ ∃ c, Ix c k U' W ∧ W.heap[z + 1]? = some (.loop (rec .done (some c))) ∧ W.heap[z]? = some (.deferred (some [])))
      (UL U0) W1 (by rw [hUL]; exact hW0 _ (hC1 _) hs1)
      (fun j hj => by
        rw [hUL] at hj
        rcases hj with hj | hj
        · have := hU0 j hj; exact ⟨by omega, this.2⟩
        · exact ⟨by rcases hj with hj | hj <;> omega, jR j hj⟩)
      (fun j hj => by have := hRd j hj; omega)
      (fun k U A B hs hc => by
        obtain ⟨U', rfl, hu, hsz, hi, hl, hk⟩ := hs
        exact ⟨U', rfl, hu, Nat.le_trans hsz hc.size, hI k U' A B hi (Nat.le_trans hsz hc.size) (jI hc), hc.heap hl (fun h => h.1 (ulz1 _)), hc.heap hk (fun h => h.1 (ulz _))⟩)
      (fun k U A B hs hc => by
        obtain ⟨U', rfl, hu, hsz, c, hx, hl, hk⟩ := hs
        exact ⟨U', rfl, hu, Nat.le_trans hsz hc.size, c, hIx c k U' A B hx (jI hc), hc.heap hl (fun h => h.1 (ulz1 _)), hc.heap hk (fun h => h.1 (ulz _))⟩)
      ?_ ⟨U0, rfl, fun j hj h => by
        have h1' := (hU0 j hj).1
        rcases h with h | h <;> omega, by omega, hI1, hL1, hK1⟩).mono ?_
    · rintro k x U W hx hUlt ⟨U, rfl, hu, hsz, hi, hl, hk⟩
      have hUl : ∀ j, U j → j < W.heap.size ∧ ¬ Rd j := fun j hj => hUlt j (ulU _ _ hj)
      have hy := run_yield (P := P) (args := encs x) hl (by rw [hrec]; exact hps x)
      rw [hrec] at hy
      refine ⟨fn, _, assign, body, hy, roundIn_of_wpIn hfn (hassign _ k x U W _ hx hi hUl hsz ?_)⟩
      clear hy
      intro a' U1 Wa hca hia hax
      have hnz : ¬ U z := fun h => hu _ h (.inl rfl)
      have hnz1 : ¬ U (z + 1) := fun h => hu _ h (.inr rfl)
      have hl' := hca.chg.heap hl hnz1
      have hk' := hca.chg.heap hk hnz
      have hlt : z + 1 < Wa.heap.size := (Array.getElem?_eq_some_iff.1 hl').1
      have hu1 : ∀ j, U1 j → ¬ LZ z j := fun j hj h => by
        rcases hca.old j hj with h2 | h2
        · exact hu j h2 h
        · rcases h with h | h <;> omega
      refine ⟨_, run_beginRound hl' (by rw [hrec]), ?_⟩
      obtain ⟨W2, hW2⟩ : ∃ W2, Wa.putObj (z + 1) (.loop { rec .ready none with state := .busy }) = W2 := ⟨_, rfl⟩
      have hl2 : W2.heap[z + 1]? = some (.loop { rec .ready none with state := .busy }) := by rw [← hW2]; exact World.putObj_heap_same hlt
      have hk2 : W2.heap[z]? = some (.deferred (some [])) := by rw [← hW2]; exact (World.putObj_heap_other (by omega)).trans hk'
      have hc2 : Chg (LZ z) Wa W2 := by rw [← hW2]; exact (Chg.refl _ _).putObj (.inr rfl) _
      have hs2 : Wa.heap.size = W2.heap.size := by rw [← hW2]; simp
      have hsa := hca.chg.size
      rw [hW2]
      have hlt1 : ∀ j, U1 j → j < W2.heap.size ∧ ¬ Rd j := fun j hj => ⟨by have := hca.lt j hj; omega, fun hr => by
        rcases hca.old j hj with h2 | h2
        · exact (hUl j h2).2 hr
        · have := hRd j hr; omega⟩
      refine wpIn_mono (hbody k x U1 a' _ ⟨_, hl2⟩ hx (hI _ _ _ _ hia (by omega) (jZ hu1 hc2)) hlt1 (by omega) (hAx x a' _ _ hax hc2)) ?_
      have fin : ∀ (jump : Option Code) (U3 : Nat → Prop) (W3 : World), UStep U1 W2 U3 W3 →
          (Instr.endRound (z + 1) jump).run P W3 = .ok (.bool jump.isNone) (W3.putObj (z + 1) (.loop (rec (if jump.isNone then .ready else .done) jump))) ∧
          (W3.putObj (z + 1) (.loop (rec (if jump.isNone then .ready else .done) jump))).heap[z + 1]? = some (.loop (rec (if jump.isNone then .ready else .done) jump)) ∧
          (W3.putObj (z + 1) (.loop (rec (if jump.isNone then .ready else .done) jump))).heap[z]? = some (.deferred (some [])) ∧
          Chg (LZ z) W3 (W3.putObj (z + 1) (.loop (rec (if jump.isNone then .ready else .done) jump))) ∧ (∀ j, U3 j → ¬ LZ z j) ∧
          UStep (UL U) W (UL U3) (W3.putObj (z + 1) (.loop (rec (if jump.isNone then .ready else .done) jump))) ∧ z + 2 ≤ (W3.putObj (z + 1) (.loop (rec (if jump.isNone then .ready else .done) jump))).heap.size := fun jump U3 W3 hk3 => by
        have hl3 := hk3.chg.heap hl2 (fun h => hu1 _ h (.inr rfl))
        have := run_endRound (P := P) jump hl3
        rw [hrec] at this ⊢
        have hs3 := hk3.chg.size
        have hps : ∀ (o : Obj), (W3.putObj (z + 1) o).heap.size = W3.heap.size := fun o => by simp
        have cz : ∀ (o : Obj), Chg (LZ z) W3 (W3.putObj (z + 1) o) := fun o => (Chg.refl _ _).putObj (.inr rfl) _
        have hu3 : ∀ j, U3 j → ¬ LZ z j := fun j hj h => by
          rcases hk3.old j hj with h2 | h2
          · exact hu1 j h2 h
          · rcases h with h | h <;> omega
        refine ⟨this, World.putObj_heap_same (Array.getElem?_eq_some_iff.1 hl3).1, (World.putObj_heap_other (by omega)).trans (hk3.chg.heap hk2 (fun h => hu1 _ h (.inl rfl))), cz _, hu3, ⟨fun j hj => ?_, fun j hj => ?_, ?_⟩, by rw [hps]; omega⟩
        · rw [hUL] at hj ⊢
          rcases hj with hj | hj
          · rcases hk3.old j hj with h2 | h2
            · rcases hca.old j h2 with h4 | h4
              · exact .inl (.inl h4)
              · exact .inr h4
            · right; omega
          · exact .inl (.inr hj)
        · rw [hps]
          rw [hUL] at hj
          rcases hj with hj | hj | hj
          · exact hk3.lt j hj
          · omega
          · omega
        · have c1 : Chg (UL U) W Wa := hca.chg.mono (ulU _)
          have c2 : Chg (UL U) Wa W2 := hc2.mono (fun j h => by rw [hUL]; exact .inr h)
          have c3 : Chg (UL U) W W3 := (c1.trans c2).trans' hk3.chg (fun j hj hU => by
            rcases hca.old j hU with h4 | h4
            · exact ulU _ _ h4
            · omega)
          exact c3.trans ((cz _).mono (fun j h => by rw [hUL]; exact .inr h))
      rintro e a3 W3 hp
      cases e with
      | normal =>
        obtain ⟨U3, hk3, hi3⟩ := hp
        obtain ⟨hr, hl4, hk4, hc4, hu3, hst, hs4⟩ := fin none U3 W3 hk3
        exact ⟨_, _, hr, .inl ⟨rfl, _, hst, U3, rfl, hu3, hs4, hI _ _ _ _ hi3 hs4 (jZ hu3 hc4), hl4, hk4⟩⟩
      | ret =>
        obtain ⟨U3, hk3, hi3⟩ := hp
        obtain ⟨hr, hl4, hk4, hc4, hu3, hst, hs4⟩ := fin (some .ret) U3 W3 hk3
        exact ⟨_, _, hr, .inr ⟨rfl, _, hst, U3, rfl, hu3, hs4, .ret, hIx _ _ _ _ _ hi3 (jZ hu3 hc4), hl4, hk4⟩⟩
      | exit id =>
        obtain ⟨U3, hk3, hi3⟩ := hp
        obtain ⟨hr, hl4, hk4, hc4, hu3, hst, hs4⟩ := fin (some (.exit id)) U3 W3 hk3
        exact ⟨_, _, hr, .inr ⟨rfl, _, hst, U3, rfl, hu3, hs4, .exit id, hIx _ _ _ _ _ hi3 (jZ hu3 hc4), hl4, hk4⟩⟩
      | goto t =>
        obtain ⟨U3, hk3, hi3⟩ := hp
        obtain ⟨hr, hl4, hk4, hc4, hu3, hst, hs4⟩ := fin (some (.goto t)) U3 W3 hk3
        exact ⟨_, _, hr, .inr ⟨rfl, _, hst, U3, rfl, hu3, hs4, .goto t, hIx _ _ _ _ _ hi3 (jZ hu3 hc4), hl4, hk4⟩⟩
      | panic ch => exact hp.elim
      | outgrown => exact hp.elim
    · rintro e W2 ⟨⟨v, rfl⟩, hs2, (⟨U, hlt, ⟨U, rfl, hu, hsz, hi, hl, hk⟩, hE2⟩ | ⟨k, hkle, U, hlt, U, rfl, hu, hsz, c, hi, hl, hk⟩)⟩
      · have cz : ∀ o, Chg (LZ z) W2 (W2.putObj (z + 1) o) := fun o => (Chg.refl _ _).putObj (.inr rfl) _
        have hps : ∀ (o : Obj), (W2.putObj (z + 1) o).heap.size = W2.heap.size := fun o => by simp
        exact ⟨none, _, by have := run_endLoop (P := P) hl (by rw [hrec]; simp); rw [hrec] at this; exact this,
          hdone U _ (hI _ _ _ _ hi (by rw [hps]; exact hsz) (jZ hu (cz _))) (hE _ _ hE2 (cz _)) (fun j hj => ⟨by rw [hps]; exact (hlt j (ulU _ _ hj)).1, (hlt j (ulU _ _ hj)).2⟩) (by rw [hps]; exact hsz) ((World.putObj_heap_other (by omega)).trans hk)⟩
      · have cz : ∀ o, Chg (LZ z) W2 (W2.putObj (z + 1) o) := fun o => (Chg.refl _ _).putObj (.inr rfl) _
        have hps : ∀ (o : Obj), (W2.putObj (z + 1) o).heap.size = W2.heap.size := fun o => by simp
        exact ⟨some c, _, by have := run_endLoop (P := P) hl (by rw [hrec]; simp); rw [hrec] at this; exact this,
          hstop c k U _ hkle (hIx _ _ _ _ _ hi (jZ hu (cz _))) (fun j hj => ⟨by rw [hps]; exact (hlt j (ulU _ _ hj)).1, (hlt j (ulU _ _ hj)).2⟩) (by rw [hps]; exact hsz) ((World.putObj_heap_other (by omega)).trans hk)⟩

/-- The same where the assignment to the loop's left sides lays nothing. -/
theorem wpIn_range_itD1 {α : Type} {g : Operand} {ps : Array Tmp} {assign body : Code} {Q : Exit → Act → World → Prop} {a : Act} {w : World}
    (hro : F.round = none) (h1 : 1 ≤ n) {gf : Nat} {lb : Array Value} (hg : a.eval g = .func (.func gf) #[] lb) (hFg : F.fn gf) (eg : ∀ args w, (callFunc gf args).run P w = .ok (.enter gf args) w)
    {encs : α → Array Value} {xs : List α} {Rd : Nat → Prop} {W0 : (Nat → Prop) → World → Prop} {E : World → Prop} (hit : IterD F (n - 1) P gf lb encs xs Rd W0 E) (hRd : ∀ j, Rd j → j < w.heap.size)
    (U0 : Nat → Prop) (hU0 : ∀ j, U0 j → j < w.heap.size ∧ ¬ Rd j)
    (hW0 : ∀ W, Chg (fun _ => False) w W → W.heap.size = w.heap.size + 2 → W0 (fun j => U0 j ∨ LZ w.heap.size j) W) (hps : ∀ x, (encs x).size = ps.size)
    (I : Nat → (Nat → Prop) → World → Prop) (Ix : Code → Nat → (Nat → Prop) → World → Prop)
    (hI : ∀ k U A B, I k U A → w.heap.size + 2 ≤ B.heap.size → Chg (fun j => ¬ U j ∧ ¬ Rd j) A B → I k U B) (hIx : ∀ c k U A B, Ix c k U A → Chg (fun j => ¬ U j ∧ ¬ Rd j) A B → Ix c k U B)
    (hE : ∀ A B, E A → Chg (LZ w.heap.size) A B → E B) (h0 : I 0 U0 w) (a₁ : α → Act)
    (hassign : ∀ (l : Nat) (x : α) (A : World) (K : Act → World → Prop), K (a₁ x) A →
      assign.wpIn (F.inRound l) (n - 1 - 1) P (Exit.then K (fun _ _ _ => False)) { tmps := (ps.zip (encs x)).foldl (fun t (p, v) => t.setIfInBounds p v) a.tmps, defers := [] } A)
    (hbody : ∀ (k : Nat) (x : α) (U : Nat → Prop) (A : World), (∃ r, A.heap[w.heap.size + 1]? = some (.loop r)) → xs[k]? = some x → I k U A → (∀ j, U j → j < A.heap.size ∧ ¬ Rd j) → w.heap.size + 2 ≤ A.heap.size →
      body.wpIn (F.inRound (w.heap.size + 1)) (n - 1 - 1) P (itPostD I Ix U (k + 1) A) (a₁ x) A)
    (hdone : ∀ (U : Nat → Prop) (B : World), I xs.length U B → E B → (∀ j, U j → j < B.heap.size ∧ ¬ Rd j) → w.heap.size + 2 ≤ B.heap.size → B.heap[w.heap.size]? = some (.deferred (some [])) → Q .normal { a with defers := { target := .collected w.heap.size, args := #[] } :: a.defers } B)
    (hstop : ∀ (c : Code) (k : Nat) (U : Nat → Prop) (B : World), k ≤ xs.length → Ix c k U B → (∀ j, U j → j < B.heap.size ∧ ¬ Rd j) → w.heap.size + 2 ≤ B.heap.size → B.heap[w.heap.size]? = some (.deferred (some [])) → c.wpIn F n P Q { a with defers := { target := .collected w.heap.size, args := #[] } :: a.defers } B) :
    (Code.rangeFunc g ps assign body).wpIn F n P Q a w :=
  wpIn_range_itD hro h1 hg hFg eg hit hRd U0 hU0 hW0 hps I Ix hI hIx hE h0 (fun x a' _ => a' = a₁ x) (fun _ _ _ _ h _ => h)
    (fun l k x U A K _ hi hlt _ hK => hassign l x A K (hK _ _ _ (UStep.same (fun j hj => (hlt j hj).1) (Chg.refl _ _)) hi rfl)) (fun k x U a' A hr hx hi hlt hs ha => by subst ha; exact hbody k x U A hr hx hi hlt hs) hdone hstop
end Go.Proofs.YtjnfoocmilbdlaaGreatDoor
/- utf's IsSafe. -/
namespace Go.Proofs.YtjnfoocmilbdlaaGreatDoor
set_option linter.unusedSimpArgs false
set_option linter.unusedVariables false
namespace Utf
open Go.RowKit Go.Shelf Go.Proofs.YtjnfoocmilbdlaaGreatDoorW.PrintWords
attribute [local go_sem] Oper.semAt_some
def pOther (r : Nat) : Bool := decide (r = 0 ∨ r = 10 ∨ r = 13 ∨ 128 ≤ r)
theorem other_c (x : Nat) (W : World) : FnGives Tryz.prog 53 #[] #[encR x] (.bool (pOther x)) W := by
  show Calls Tryz.prog 53 #[.int .i32 x] W _
  by_cases h0 : x = 0
  · subst h0
    go_enter Tryz.func53, Tryz.ntmps53
    go_wp2
    all_goals (go_ret; exact ⟨by simp [pOther], 0, rfl⟩)
  by_cases h1 : x = 10
  · subst h1
    go_enter Tryz.func53, Tryz.ntmps53
    go_wp2
    all_goals (go_ret; exact ⟨by simp [pOther], 0, rfl⟩)
  by_cases h2 : x = 13
  · subst h2
    go_enter Tryz.func53, Tryz.ntmps53
    go_wp2
    all_goals (go_ret; exact ⟨by simp [pOther], 0, rfl⟩)
  have k0 : ¬ ((x : Int) = 0) := by omega
  have k1 : ¬ ((x : Int) = 10) := by omega
  have k2 : ¬ ((x : Int) = 13) := by omega
  go_enter Tryz.func53, Tryz.ntmps53
  go_wp2
  all_goals go_ret
  all_goals refine ⟨?_, 0, rfl⟩
  all_goals (simp [pOther, h0, h1, h2]; rw [Bool.eq_iff_iff]; simp; omega)
theorem begins_c (s t : ByteArray) (B : Nat) (w : World) (h : w.cell? ⟨B, 0, none⟩ = some (.string s)) :
    Calls Tryz.prog 54 #[.string t, .pointer (some ⟨B, 0, none⟩)] w fun e w' => e = .returned (.bool (Lib.hasPrefix s.data.toList t.data.toList)) ∧ w' = w := by
  go_enter Tryz.func54, Tryz.ntmps54
  go_wp2_with (go_at_call 50; refine (Tryz.strings_HasPrefix _ _ _).mono ?_; rintro e w' ⟨rfl, rfl⟩)
  go_ret
  exact ⟨rfl, rfl⟩
def noneB (b0 b1 b2 b3 b4 : Bool) : Bool := !(b0 || b1 || b2 || b3 || b4)
set_option maxHeartbeats 4000000 in
theorem isNone_c (b0 b1 b2 b3 b4 : Bool) (g : Nat) (w : World) (hr : w.heap[g]? = some (.cells #[.bool b0, .bool b1, .bool b2, .bool b3, .bool b4] 4 (0, 0))) :
    Calls Tryz.prog 55 #[.slice (some ⟨g, 0, none⟩) 5 5] w fun e w' => e = .returned (.bool (noneB b0 b1 b2 b3 b4)) ∧ w' = w := by
  have c0 := cell_of_row w g 0 _ _ _ hr
  have c1 := cell_of_row w g 1 _ _ _ hr
  have c2 := cell_of_row w g 2 _ _ _ hr
  have c3 := cell_of_row w g 3 _ _ _ hr
  have c4 := cell_of_row w g 4 _ _ _ hr
  simp at c0 c1 c2 c3 c4
  go_enter Tryz.func55, Tryz.ntmps55
  go_wp2
  refine wp_loop_rounds 6 ?_
  rw [rounds_succ]
  cases b0
  case true => go_wp2; go_ret; exact ⟨rfl, rfl⟩
  go_wp2; rw [rounds_succ]
  cases b1
  case true => go_wp2; go_ret; exact ⟨rfl, rfl⟩
  go_wp2; rw [rounds_succ]
  cases b2
  case true => go_wp2; go_ret; exact ⟨rfl, rfl⟩
  go_wp2; rw [rounds_succ]
  cases b3
  case true => go_wp2; go_ret; exact ⟨rfl, rfl⟩
  go_wp2; rw [rounds_succ]
  cases b4
  case true => go_wp2; go_ret; exact ⟨rfl, rfl⟩
  go_wp2; rw [rounds_succ]
  go_wp2
  go_ret
  exact ⟨rfl, rfl⟩
/-- What IsSafe answers. -/
def sfV (s : ByteArray) : Bool := noneB (decide (0 ≤ Lib.idxFunc pOther true s)) (Lib.hasPrefix s.data.toList [32]) (Lib.hasPrefix s.data.toList [58]) (Lib.hasPrefix s.data.toList [60]) (Lib.hasSuffix s.data.toList [32])
theorem contains_c (s : ByteArray) (B : Nat) (w : World) (h : w.cell? ⟨B, 0, none⟩ = some (.string s)) :
    Calls Tryz.prog 52 #[.string s, .func (.func 53) #[] #[]] w fun e w' => e = .returned (.bool (decide (0 ≤ Lib.idxFunc pOther true s))) ∧ Below w.heap.size w w' ∧ w'.cell? ⟨B, 0, none⟩ = some (.string s) := by
  refine (Tryz.strings_ContainsFunc_runes 53 #[] (enters_of Tryz.func53 (by kernel_rfl) rfl) pOther s w (fun W x _ _ => other_c x W)).mono ?_
  rintro e w' ⟨rfl, hb⟩
  exact ⟨rfl, hb, (hb.cell (lt_of_cell h)).trans h⟩
set_option maxHeartbeats 4000000 in
set_option maxRecDepth 100000 in
theorem IsSafe_c (s : ByteArray) (hs : s.size ≤ 4611686018427387904) (w : World) :
    Calls Tryz.prog 34 #[.string s] w fun e w' => e = .returned (.bool (sfV s)) ∧ Below w.heap.size w w' := by
  go_enter Tryz.func34, Tryz.ntmps34
  go_wp2_with fail
  have hb0 : Below w.heap.size w (w.alloc (.cells #[.string s] 9)) := (Below.refl _ _).alloc (Nat.le_refl _) _
  have hc0 : (w.alloc (.cells #[.string s] 9)).cell? ⟨w.heap.size, 0, none⟩ = some (.string s) := by simp
  obtain ⟨w1, hw1⟩ : ∃ w1, w.alloc (.cells #[.string s] 9) = w1 := ⟨_, rfl⟩
  rw [hw1] at hb0 hc0
  have hs1 : w1.heap.size = w.heap.size + 1 := by rw [← hw1]; simp
  simp only [hw1]
  clear hw1
  go_region_held3 (fun w' => w'.cell? ⟨w.heap.size, 0, none⟩ = some (.string s)) (go_keep)
    (first
      | (go_at_call 52; refine (contains_c s w.heap.size _ (by first | assumption | (simp [*]; done))).mono ?_; rintro e w' ⟨rfl, hb1, hc1⟩)
      | (go_at_call 54; refine (begins_c s _ w.heap.size _ (by first | assumption | (simp [*]; done))).mono ?_; rintro e w' ⟨rfl, rfl⟩)
      | (go_at_call 56; refine (Tryz.strings_HasSuffix _ _ _ (by omega)).mono ?_; rintro e w' ⟨rfl, rfl⟩)
      | (go_at_call 55; refine (isNone_c _ _ _ _ _ _ _ (World.alloc_heap_new _ _)).mono ?_; rintro e w' ⟨rfl, rfl⟩))
  go_wp2
  go_ret
  exact ⟨rfl, (hb0.trans ((below_drew (Below.refl w1.heap.size w1)).mono (by omega))).trans ((bl_alloc hb1 _).mono (by show _ ≤ w1.heap.size; omega))⟩
end Utf
end Go.Proofs.YtjnfoocmilbdlaaGreatDoor
/- A third law for 'for x := range f { .. }' of this repo's own: an iterator that keeps no state in cells (its captured variables are only read): it turns no block that lay; the loop's side keeps what the iterator reads (W0), and the loop's own two blocks. -/
namespace Go.Proofs.YtjnfoocmilbdlaaGreatDoor
set_option linter.unusedSimpArgs false
set_option linter.unusedVariables false
open Go.RowKit

/-- The contract of an iterator without a state in cells that goes through xs; W0: what it reads. -/
def IterE {α : Type} (F : Fence) (n : Nat) (P : Program) (g : Nat) (lb : Array Value) (encs : α → Array Value) (xs : List α) (W0 : World → Prop) : Prop :=
  ∀ (l : Nat) (J Jx : Nat → World → Prop) (W : World), (∀ k A, J k A → W0 A) →
    (∀ k A B, J k A → Below A.heap.size A B → J k B) → (∀ k A B, Jx k A → Below A.heap.size A B → Jx k B) →
    (∀ k x A, xs[k]? = some x → J k A → YieldAt F (n - 1) P l (encs x) A fun e B =>
      (e = .returned (.bool true) ∧ J (k + 1) B) ∨ (e = .returned (.bool false) ∧ Jx (k + 1) B)) →
    J 0 W →
    CallsIn F n P g (#[.func (.yield l) #[] #[]] ++ lb) W fun e B => (∃ v, e = .returned v) ∧ (J xs.length B ∨ ∃ k, k ≤ xs.length ∧ Jx k B)

/-- The loop's own two blocks stand. -/
structure LK (z : Nat) (A B : World) : Prop where
  size : A.heap.size ≤ B.heap.size
  z0 : B.heap[z]? = A.heap[z]?
  z1 : B.heap[z + 1]? = A.heap[z + 1]?
theorem LK.refl (z : Nat) (A : World) : LK z A A := ⟨Nat.le_refl _, rfl, rfl⟩
theorem LK.trans {z : Nat} {A B C : World} (h : LK z A B) (k : LK z B C) : LK z A C := ⟨Nat.le_trans h.size k.size, k.z0.trans h.z0, k.z1.trans h.z1⟩
theorem LK.of_chg {z : Nat} {S : Nat → Prop} {A B : World} (h : Chg S A B) (hz : z + 2 ≤ A.heap.size) (hs : ∀ j, S j → ¬ LZ z j) : LK z A B :=
  ⟨h.size, h.block _ (by omega) (fun q => hs _ q (.inl rfl)), h.block _ (by omega) (fun q => hs _ q (.inr rfl))⟩
theorem LK.of_below {z : Nat} {A B : World} (h : Below A.heap.size A B) (hz : z + 2 ≤ A.heap.size) : LK z A B := LK.of_chg (S := fun _ => False) (Chg.of_below h) hz (fun _ h => h.elim)
/-- How a round's body may be left. -/
def itPostE (I : Nat → World → Prop) (Ix : Code → Nat → World → Prop) (z : Nat) (k : Nat) (A : World) : Exit → Act → World → Prop
  | .normal, _, B => LK z A B ∧ I k B
  | .ret, _, B => LK z A B ∧ Ix .ret k B
  | .exit id, _, B => LK z A B ∧ Ix (.exit id) k B
  | .goto t, _, B => LK z A B ∧ Ix (.goto t) k B
  | .panic _, _, _ => False
  | .outgrown, _, _ => False

variable {F : Fence} {n : Nat} {P : Program}

theorem wpIn_range_itE {α : Type} {g : Operand} {ps : Array Tmp} {assign body : Code} {Q : Exit → Act → World → Prop} {a : Act} {w : World}
    (hro : F.round = none) (h1 : 1 ≤ n) {gf : Nat} {lb : Array Value} (hg : a.eval g = .func (.func gf) #[] lb) (hFg : F.fn gf) (eg : ∀ args w, (callFunc gf args).run P w = .ok (.enter gf args) w)
    {encs : α → Array Value} {xs : List α} {W0 : World → Prop} (hit : IterE F (n - 1) P gf lb encs xs W0) (hps : ∀ x, (encs x).size = ps.size)
    (I : Nat → World → Prop) (Ix : Code → Nat → World → Prop) (hW0 : ∀ k A, I k A → W0 A)
    (hI : ∀ k A B, I k A → w.heap.size + 2 ≤ B.heap.size → Chg (LZ w.heap.size) A B → I k B) (hIx : ∀ c k A B, Ix c k A → Chg (LZ w.heap.size) A B → Ix c k B) (h0 : I 0 w)
    (Ax : α → Act → World → Prop) (hAx : ∀ x a' A B, Ax x a' A → Chg (LZ w.heap.size) A B → Ax x a' B)
    (hassign : ∀ (l k : Nat) (x : α) (A : World) (K : Act → World → Prop), xs[k]? = some x → I k A → w.heap.size + 2 ≤ A.heap.size →
      (∀ a' B, LK w.heap.size A B → I k B → Ax x a' B → K a' B) →
      assign.wpIn (F.inRound l) (n - 1 - 1) P (Exit.then K (fun _ _ _ => False)) { tmps := (ps.zip (encs x)).foldl (fun t (p, v) => t.setIfInBounds p v) a.tmps, defers := [] } A)
    (hbody : ∀ (k : Nat) (x : α) (a' : Act) (A : World), (∃ r, A.heap[w.heap.size + 1]? = some (.loop r)) → A.heap[w.heap.size]? = some (.deferred (some [])) → xs[k]? = some x → I k A → w.heap.size + 2 ≤ A.heap.size → Ax x a' A →
      body.wpIn (F.inRound (w.heap.size + 1)) (n - 1 - 1) P (itPostE I Ix w.heap.size (k + 1) A) a' A)
    (hdone : ∀ (B : World), I xs.length B → w.heap.size + 2 ≤ B.heap.size → B.heap[w.heap.size]? = some (.deferred (some [])) → Q .normal { a with defers := { target := .collected w.heap.size, args := #[] } :: a.defers } B)
    (hstop : ∀ (c : Code) (k : Nat) (B : World), k ≤ xs.length → Ix c k B → w.heap.size + 2 ≤ B.heap.size → B.heap[w.heap.size]? = some (.deferred (some [])) → c.wpIn F n P Q { a with defers := { target := .collected w.heap.size, args := #[] } :: a.defers } B) :
    (Code.rangeFunc g ps assign body).wpIn F n P Q a w := by
  refine wpIn_rangeFunc ?_
  intro fn hfn
  rw [hro]
  obtain ⟨rec, hrec⟩ : ∃ rec : LoopState → Option Code → Loop, rec = fun st pe => { state := st, pending := pe, fn, tmps := a.tmps, params := ps, assign, body, defers := w.heap.size } := ⟨_, rfl⟩
  obtain ⟨W1, hW1⟩ : ∃ W1, (w.alloc (.deferred (some []))).alloc (.loop (rec .ready none)) = W1 := ⟨_, rfl⟩
  have hs1 : W1.heap.size = w.heap.size + 2 := by rw [← hW1]; simp
  have hL1 : W1.heap[w.heap.size + 1]? = some (.loop (rec .ready none)) := by
    rw [← hW1]; have := World.alloc_heap_new (w.alloc (.deferred (some []))) (.loop (rec .ready none)); rwa [World.size_alloc] at this
  have hK1 : W1.heap[w.heap.size]? = some (.deferred (some [])) := by
    rw [← hW1]; exact (Below.heap_alloc _ _ _ (by simp)).trans (World.alloc_heap_new w _)
  have hC1 : ∀ S, Chg S w W1 := fun S => by rw [← hW1]; exact ((Chg.refl S w).alloc _).alloc _
  obtain ⟨z, hz⟩ : ∃ z, w.heap.size = z := ⟨_, rfl⟩
  have hI1 : I 0 W1 := hI _ _ _ h0 (by omega) (hC1 _)
  have hbl : ∀ {A B : World}, Below A.heap.size A B → Chg (LZ z) A B := fun h => Chg.of_below h
  refine ⟨w.heap.size + 1, [{ target := .collected w.heap.size, args := #[] }], W1, { target := .fn (.func gf) lb, args := #[.func (.yield (w.heap.size + 1)) #[] #[]] }, W1, gf,
    #[.func (.yield (w.heap.size + 1)) #[] #[]] ++ lb, W1, ?_, ?_, ?_, ?_, fun _ => h1, ?_⟩
  · rw [← hW1, hrec]; exact run_enterLoop_outer _ _ _ _ _
  · simp only [resolve, hg]
    simp [go_sem]
  · intro f' hf'; simp [Target.leads] at hf'; subst hf'; exact hFg
  · simp [invoke, go_sem, eg]
  · simp only [hz] at *
    refine (hit (z + 1)
      (fun k W => z + 2 ≤ W.heap.size ∧ I k W ∧ W.heap[z + 1]? = some (.loop (rec .ready none)) ∧ W.heap[z]? = some (.deferred (some [])))
      (fun k W => z + 2 ≤ W.heap.size ∧ ∃ c, Ix c k W ∧ W.heap[z + 1]? = some (.loop (rec .done (some c))) ∧ W.heap[z]? = some (.deferred (some [])))
      W1 (fun k A h => hW0 k A h.2.1)
      (fun k A B hs hc => by
        obtain ⟨hsz, hi, hl, hk⟩ := hs
        exact ⟨Nat.le_trans hsz hc.size, hI k A B hi (Nat.le_trans hsz hc.size) (hbl hc), (Chg.of_below (S := fun _ => False) hc).heap hl (fun h => h), (Chg.of_below (S := fun _ => False) hc).heap hk (fun h => h)⟩)
      (fun k A B hs hc => by
        obtain ⟨hsz, c, hx, hl, hk⟩ := hs
        exact ⟨Nat.le_trans hsz hc.size, c, hIx c k A B hx (hbl hc), (Chg.of_below (S := fun _ => False) hc).heap hl (fun h => h), (Chg.of_below (S := fun _ => False) hc).heap hk (fun h => h)⟩)
      ?_ ⟨by omega, hI1, hL1, hK1⟩).mono ?_
    · rintro k x W hx ⟨hsz, hi, hl, hk⟩
      have hy := run_yield (P := P) (args := encs x) hl (by rw [hrec]; exact hps x)
      rw [hrec] at hy
      refine ⟨fn, _, assign, body, hy, roundIn_of_wpIn hfn (hassign _ k x W _ hx hi hsz ?_)⟩
      clear hy
      intro a' Wa hca hia hax
      have hl' := hca.z1.trans hl
      have hk' := hca.z0.trans hk
      have hlt : z + 1 < Wa.heap.size := (Array.getElem?_eq_some_iff.1 hl').1
      refine ⟨_, run_beginRound hl' (by rw [hrec]), ?_⟩
      obtain ⟨W2, hW2⟩ : ∃ W2, Wa.putObj (z + 1) (.loop { rec .ready none with state := .busy }) = W2 := ⟨_, rfl⟩
      have hl2 : W2.heap[z + 1]? = some (.loop { rec .ready none with state := .busy }) := by rw [← hW2]; exact World.putObj_heap_same hlt
      have hk2 : W2.heap[z]? = some (.deferred (some [])) := by rw [← hW2]; exact (World.putObj_heap_other (by omega)).trans hk'
      have hc2 : Chg (LZ z) Wa W2 := by rw [← hW2]; exact (Chg.refl _ _).putObj (.inr rfl) _
      have hs2 : Wa.heap.size = W2.heap.size := by rw [← hW2]; simp
      have hsa := hca.size
      rw [hW2]
      refine wpIn_mono (hbody k x a' _ ⟨_, hl2⟩ hk2 hx (hI _ _ _ hia (by omega) hc2) (by omega) (hAx x a' _ _ hax hc2)) ?_
      have fin : ∀ (jump : Option Code) (W3 : World), LK z W2 W3 →
          (Instr.endRound (z + 1) jump).run P W3 = .ok (.bool jump.isNone) (W3.putObj (z + 1) (.loop (rec (if jump.isNone then .ready else .done) jump))) ∧
          (W3.putObj (z + 1) (.loop (rec (if jump.isNone then .ready else .done) jump))).heap[z + 1]? = some (.loop (rec (if jump.isNone then .ready else .done) jump)) ∧
          (W3.putObj (z + 1) (.loop (rec (if jump.isNone then .ready else .done) jump))).heap[z]? = some (.deferred (some [])) ∧
          Chg (LZ z) W3 (W3.putObj (z + 1) (.loop (rec (if jump.isNone then .ready else .done) jump))) ∧ z + 2 ≤ (W3.putObj (z + 1) (.loop (rec (if jump.isNone then .ready else .done) jump))).heap.size := fun jump W3 hk3 => by
        have hl3 := hk3.z1.trans hl2
        have := run_endRound (P := P) jump hl3
        rw [hrec] at this ⊢
        have hs3 := hk3.size
        have hps : ∀ (o : Obj), (W3.putObj (z + 1) o).heap.size = W3.heap.size := fun o => by simp
        have cz : ∀ (o : Obj), Chg (LZ z) W3 (W3.putObj (z + 1) o) := fun o => (Chg.refl _ _).putObj (.inr rfl) _
        exact ⟨this, World.putObj_heap_same (Array.getElem?_eq_some_iff.1 hl3).1, (World.putObj_heap_other (by omega)).trans (hk3.z0.trans hk2), cz _, by rw [hps]; omega⟩
      rintro e a3 W3 hp
      cases e with
      | normal =>
        obtain ⟨hk3, hi3⟩ := hp
        obtain ⟨hr, hl4, hk4, hc4, hs4⟩ := fin none W3 hk3
        exact ⟨_, _, hr, .inl ⟨rfl, hs4, hI _ _ _ hi3 hs4 hc4, hl4, hk4⟩⟩
      | ret =>
        obtain ⟨hk3, hi3⟩ := hp
        obtain ⟨hr, hl4, hk4, hc4, hs4⟩ := fin (some .ret) W3 hk3
        exact ⟨_, _, hr, .inr ⟨rfl, hs4, .ret, hIx _ _ _ _ hi3 hc4, hl4, hk4⟩⟩
      | exit id =>
        obtain ⟨hk3, hi3⟩ := hp
        obtain ⟨hr, hl4, hk4, hc4, hs4⟩ := fin (some (.exit id)) W3 hk3
        exact ⟨_, _, hr, .inr ⟨rfl, hs4, .exit id, hIx _ _ _ _ hi3 hc4, hl4, hk4⟩⟩
      | goto t =>
        obtain ⟨hk3, hi3⟩ := hp
        obtain ⟨hr, hl4, hk4, hc4, hs4⟩ := fin (some (.goto t)) W3 hk3
        exact ⟨_, _, hr, .inr ⟨rfl, hs4, .goto t, hIx _ _ _ _ hi3 hc4, hl4, hk4⟩⟩
      | panic ch => exact hp.elim
      | outgrown => exact hp.elim
    · rintro e W2 ⟨⟨v, rfl⟩, (⟨hsz, hi, hl, hk⟩ | ⟨k, hkle, hsz, c, hi, hl, hk⟩)⟩
      · have cz : ∀ o, Chg (LZ z) W2 (W2.putObj (z + 1) o) := fun o => (Chg.refl _ _).putObj (.inr rfl) _
        have hps : ∀ (o : Obj), (W2.putObj (z + 1) o).heap.size = W2.heap.size := fun o => by simp
        exact ⟨none, _, by have := run_endLoop (P := P) hl (by rw [hrec]; simp); rw [hrec] at this; exact this,
          hdone _ (hI _ _ _ hi (by rw [hps]; exact hsz) (cz _)) (by rw [hps]; exact hsz) ((World.putObj_heap_other (by omega)).trans hk)⟩
      · have cz : ∀ o, Chg (LZ z) W2 (W2.putObj (z + 1) o) := fun o => (Chg.refl _ _).putObj (.inr rfl) _
        have hps : ∀ (o : Obj), (W2.putObj (z + 1) o).heap.size = W2.heap.size := fun o => by simp
        exact ⟨some c, _, by have := run_endLoop (P := P) hl (by rw [hrec]; simp); rw [hrec] at this; exact this,
          hstop c k _ hkle (hIx _ _ _ _ hi (cz _)) (by rw [hps]; exact hsz) ((World.putObj_heap_other (by omega)).trans hk)⟩

/-- The same where the assignment to the loop's left sides lays nothing. -/
theorem wpIn_range_itE1 {α : Type} {g : Operand} {ps : Array Tmp} {assign body : Code} {Q : Exit → Act → World → Prop} {a : Act} {w : World}
    (hro : F.round = none) (h1 : 1 ≤ n) {gf : Nat} {lb : Array Value} (hg : a.eval g = .func (.func gf) #[] lb) (hFg : F.fn gf) (eg : ∀ args w, (callFunc gf args).run P w = .ok (.enter gf args) w)
    {encs : α → Array Value} {xs : List α} {W0 : World → Prop} (hit : IterE F (n - 1) P gf lb encs xs W0) (hps : ∀ x, (encs x).size = ps.size)
    (I : Nat → World → Prop) (Ix : Code → Nat → World → Prop) (hW0 : ∀ k A, I k A → W0 A)
    (hI : ∀ k A B, I k A → w.heap.size + 2 ≤ B.heap.size → Chg (LZ w.heap.size) A B → I k B) (hIx : ∀ c k A B, Ix c k A → Chg (LZ w.heap.size) A B → Ix c k B) (h0 : I 0 w) (a₁ : α → Act)
    (hassign : ∀ (l : Nat) (x : α) (A : World) (K : Act → World → Prop), K (a₁ x) A →
      assign.wpIn (F.inRound l) (n - 1 - 1) P (Exit.then K (fun _ _ _ => False)) { tmps := (ps.zip (encs x)).foldl (fun t (p, v) => t.setIfInBounds p v) a.tmps, defers := [] } A)
    (hbody : ∀ (k : Nat) (x : α) (A : World), (∃ r, A.heap[w.heap.size + 1]? = some (.loop r)) → A.heap[w.heap.size]? = some (.deferred (some [])) → xs[k]? = some x → I k A → w.heap.size + 2 ≤ A.heap.size →
      body.wpIn (F.inRound (w.heap.size + 1)) (n - 1 - 1) P (itPostE I Ix w.heap.size (k + 1) A) (a₁ x) A)
    (hdone : ∀ (B : World), I xs.length B → w.heap.size + 2 ≤ B.heap.size → B.heap[w.heap.size]? = some (.deferred (some [])) → Q .normal { a with defers := { target := .collected w.heap.size, args := #[] } :: a.defers } B)
    (hstop : ∀ (c : Code) (k : Nat) (B : World), k ≤ xs.length → Ix c k B → w.heap.size + 2 ≤ B.heap.size → B.heap[w.heap.size]? = some (.deferred (some [])) → c.wpIn F n P Q { a with defers := { target := .collected w.heap.size, args := #[] } :: a.defers } B) :
    (Code.rangeFunc g ps assign body).wpIn F n P Q a w :=
  wpIn_range_itE hro h1 hg hFg eg hit hps I Ix hW0 hI hIx h0 (fun x a' _ => a' = a₁ x) (fun _ _ _ _ h _ => h)
    (fun l k x A K _ hi _ hK => hassign l x A K (hK _ _ (LK.refl _ _) hi rfl)) (fun k x a' A hr hk hx hi hs ha => by subst ha; exact hbody k x A hr hk hx hi hs) hdone hstop
end Go.Proofs.YtjnfoocmilbdlaaGreatDoor
/- strings.Builder's writers at this seat: the dump's copyCheck bears no panic (the loader refuses it), so the shelf's contracts do not lie at it; the walks are made anew, over the library's own words for a builder. -/
namespace Go.Proofs.YtjnfoocmilbdlaaGreatDoor
set_option linter.unusedSimpArgs false
set_option linter.unusedVariables false
namespace Bld
open Go.RowKit
theorem sizeB : (Tryz.prog.info? 47).map (·.size) = some 2 := by kernel_rfl
theorem liesB : liesAt Tryz.prog Tryz.prog.depth 47 (2 / Tryz.prog.cellsOf 47) 0 47 1 = true := by kernel_rfl
theorem infoByte : (Tryz.prog.info? 5).map (fun i => (i.zero, i.size, i.bytes)) = some (some (.int .u8 0), 1, 1) := by kernel_rfl
set_option maxHeartbeats 1000000 in
set_option maxRecDepth 100000 in
theorem copyCheck_used (b : Nat) (w : World) (h0 : w.cell? ⟨b, 0, none⟩ = some (.pointer (some ⟨b, 0, none⟩))) :
    Calls Tryz.prog 47 #[.pointer (some ⟨b, 0, none⟩)] w fun e w' => e = .returned (.tuple #[]) ∧ w' = w := by
  obtain ⟨j, hj, _⟩ := Option.map_eq_some_iff.1 sizeB
  go_enter Tryz.func47, Tryz.ntmps47
  go_wp2
  rw [Lib.run_neq_ptr_same w _ Tryz.underlying45 hj]
  go_wp2
  go_end0
  exact ⟨rfl, rfl⟩
set_option maxHeartbeats 1000000 in
set_option maxRecDepth 100000 in
theorem copyCheck_fresh (b : Nat) (w : World) (h0 : w.cell? ⟨b, 0, none⟩ = some (.pointer none)) (hsh : w.shape? b = some (47, 2)) (hfz : w.frozen? ⟨b, 0, none⟩ = false) :
    Calls Tryz.prog 47 #[.pointer (some ⟨b, 0, none⟩)] w fun e w' => e = .returned (.tuple #[]) ∧ w' = w.setCell ⟨b, 0, none⟩ (.pointer (some ⟨b, 0, none⟩)) := by
  obtain ⟨j, hj, hjs⟩ := Option.map_eq_some_iff.1 sizeB
  go_enter Tryz.func47, Tryz.ntmps47
  go_wp2
  rw [Lib.run_to_unsafe w ⟨b, 0, none⟩ Tryz.underlying45 Tryz.underlying103 hj (by rw [hjs]; decide) hsh (Nat.zero_lt_succ 1)]
  simp only [Result.andThen]
  rw [Oper.upon_value]
  go_wp2
  rw [run_callFunc_extern Tryz.func74 (by kernel_rfl) (by kernel_rfl) (by kernel_rfl) (e := Extern.AbiNoEscape.same) (by kernel_rfl)]
  rw [Lib.run_noEscape]
  simp only [Result.andThen]
  rw [Oper.upon_value]
  go_wp2
  rw [Lib.run_from_unsafe w ⟨b, 0, none⟩ Tryz.underlying103 Tryz.underlying45 hj hsh liesB]
  simp only [Result.andThen]
  rw [Oper.upon_value]
  go_wp2
  go_end0
  exact ⟨rfl, rfl⟩
theorem copyCheck_k (B b : Nat) (bs : List Value) (w : World) (h : Lib.IsBuilderF 47 5 B b bs w) :
    Calls Tryz.prog 47 #[.pointer (some ⟨b, 0, none⟩)] w fun e w' => e = .returned (.tuple #[]) ∧ (Lib.BuilderAtF 47 5 B b (.pointer (some ⟨b, 0, none⟩)) bs w' ∧ Below B w w' ∧ Lib.OthersKept 5 (some b) w w') := by
  rcases h with h | h
  · refine (copyCheck_fresh b w h.cell0 h.shape h.frozen0).mono ?_
    rintro e w' ⟨rfl, rfl⟩
    exact ⟨rfl, h.used _, (Below.refl B w).setCell (p := ⟨b, 0, none⟩) h.1 _, (Lib.OthersKept.refl _ _ w).setCell ⟨b, 0, none⟩ rfl _⟩
  · refine (copyCheck_used b w h.cell0).mono ?_
    rintro e w' ⟨rfl, rfl⟩
    exact ⟨rfl, h, Below.refl B _, Lib.OthersKept.refl _ _ _⟩
set_option maxHeartbeats 4000000 in
set_option maxRecDepth 100000 in
theorem WriteByte_k (B b : Nat) (bs : List Value) (c : Int) (w : World) (h : Lib.IsBuilderF 47 5 B b bs w) (hlen : bs.length + 1 ≤ 140737488355328) (hBw : B ≤ w.heap.size) :
    Calls Tryz.prog 29 #[.pointer (some ⟨b, 0, none⟩), .int .u8 c] w fun e w' => e = .returned .nilIface ∧ (Lib.BuilderAtF 47 5 B b (.pointer (some ⟨b, 0, none⟩)) (bs ++ [.int .u8 c]) w' ∧ Below B w w' ∧ Lib.OthersKept 5 (some b) w w') := by
  obtain ⟨i0, hi, hz0, hz1, hz2⟩ := info_parts infoByte
  go_enter Tryz.func29, Tryz.ntmps29
  go_wp2_with (go_at_call 47; refine (copyCheck_k B b bs _ h).mono ?_)
  rintro e w1 ⟨rfl, h1, hb1, hk1⟩
  obtain ⟨hB, v, hbk, hown, hne⟩ := h1
  have c0 : w1.cell? ⟨b, 0, none⟩ = some (.pointer (some ⟨b, 0, none⟩)) := by rw [Lib.cell_of_heap hbk]; rfl
  have c1 : w1.cell? ⟨b, 1, none⟩ = some v := by rw [Lib.cell_of_heap hbk]; rfl
  go_wp2_with (at_builtin; refine wpList_append_ownF _ rfl _ _ 37 rfl B 5 i0 (.int .u8 0) 1 1 Tryz.underlying37 hi hz0 hz1 hz2 rfl (by decide) _ _ _ rfl (hown.alloc _) ⟨w1.heap.size, 0, none⟩ 1 1 [.int .u8 c] rfl rfl (cell_one_new _ _ _) (by intro u hu; simp at hu; subst hu; rfl) (by unfold maxLen; omega) (by omega) (by have := hb1.size; simp; omega) ?_)
  intro v' w2 hown' hgrow _
  have hlt : b < w1.heap.size := (Array.getElem?_eq_some_iff.1 hbk).1
  have hb2 : w2.heap[b]? = some (.cells #[.pointer (some ⟨b, 0, none⟩), v] 47 (0, 0)) := by
    rw [hgrow.block b (by simp; omega) (fun e => hne e.symm), Lib.alloc_old w1 _ b hlt]
    exact hbk
  have d0 : w2.cell? ⟨b, 0, none⟩ = some (.pointer (some ⟨b, 0, none⟩)) := by rw [Lib.cell_of_heap hb2]; rfl
  have d1 : w2.cell? ⟨b, 1, none⟩ = some v := by rw [Lib.cell_of_heap hb2]; rfl
  have f1 : w2.frozen? ⟨b, 1, none⟩ = false := Lib.frozen_of_heap hb2 1
  obtain ⟨g, cap, rfl⟩ : ∃ g cap, v' = .slice (some ⟨g, 0, none⟩) (bs.length + 1) cap := by
    rcases hown'.2 with ⟨_, h0⟩ | ⟨g, cap, cur, fz, hv, _⟩
    · omega
    · exact ⟨g, cap, hv⟩
  go_wp2
  go_ret
  refine ⟨rfl, ?_, ?_, ((hk1.alloc _).grown hgrow (Lib.ownsRowF_kind (hown.alloc _))).setCell ⟨b, 1, none⟩ rfl _⟩
  · exact Lib.BuilderAtF.put (T := 47) (e := 5) hB hb2 (bs' := bs ++ [.int .u8 c]) (by simpa using hown') (by decide)
  · exact ((hb1.alloc (by have := hb1.size; omega) _).grown hgrow (by have := hb1.size; simp; omega) (fun k hk => (hown.lt k hk).1)).setCell (p := ⟨b, 1, none⟩) hB _
set_option maxHeartbeats 4000000 in
set_option maxRecDepth 100000 in
theorem WriteString_k (B b : Nat) (bs : List Value) (s : ByteArray) (w : World) (h : Lib.IsBuilderF 47 5 B b bs w) (hlen : bs.length + s.size ≤ 140737488355328) (hBw : B ≤ w.heap.size) :
    Calls Tryz.prog 27 #[.pointer (some ⟨b, 0, none⟩), .string s] w fun e w' => e = .returned (.tuple #[.int .i64 s.size, .nilIface]) ∧ (Lib.BuilderAtF 47 5 B b (.pointer (some ⟨b, 0, none⟩)) (bs ++ Lib.strCells s) w' ∧ Below B w w' ∧ Lib.OthersKept 5 (some b) w w') := by
  obtain ⟨i0, hi, hz0, hz1, hz2⟩ := info_parts infoByte
  go_enter Tryz.func27, Tryz.ntmps27
  go_wp2_with (go_at_call 47; refine (copyCheck_k B b bs _ h).mono ?_)
  rintro e w1 ⟨rfl, h1, hb1, hk1⟩
  obtain ⟨hB, v, hbk, hown, hne⟩ := h1
  have c0 : w1.cell? ⟨b, 0, none⟩ = some (.pointer (some ⟨b, 0, none⟩)) := by rw [Lib.cell_of_heap hbk]; rfl
  have c1 : w1.cell? ⟨b, 1, none⟩ = some v := by rw [Lib.cell_of_heap hbk]; rfl
  go_wp2_with (at_builtin; refine Lib.wpList_append_own_stringF _ rfl _ _ 37 9 rfl B 5 i0 Tryz.underlying37 Tryz.underlying9 hi hz0 hz1 hz2 _ _ _ rfl hown s rfl (by unfold maxLen; omega) (by omega) (by have := hb1.size; omega) ?_)
  intro v' w2 hown' hgrow _
  have hlt : b < w1.heap.size := (Array.getElem?_eq_some_iff.1 hbk).1
  have hb2 : w2.heap[b]? = some (.cells #[.pointer (some ⟨b, 0, none⟩), v] 47 (0, 0)) := by
    rw [hgrow.block b hlt (fun e => hne e.symm)]
    exact hbk
  have d0 : w2.cell? ⟨b, 0, none⟩ = some (.pointer (some ⟨b, 0, none⟩)) := by rw [Lib.cell_of_heap hb2]; rfl
  have d1 : w2.cell? ⟨b, 1, none⟩ = some v := by rw [Lib.cell_of_heap hb2]; rfl
  have f1 : w2.frozen? ⟨b, 1, none⟩ = false := Lib.frozen_of_heap hb2 1
  obtain ⟨ao, n', cap, rfl⟩ : ∃ ao n' cap, v' = .slice ao n' cap := by
    rcases hown'.2 with ⟨hv, _⟩ | ⟨g, cap, cur, fz, hv, _⟩
    · exact ⟨_, _, _, hv⟩
    · exact ⟨_, _, _, hv⟩
  go_wp2
  go_ret2
  refine ⟨rfl, ?_, ?_, (hk1.grown hgrow (Lib.ownsRowF_kind hown)).setCell ⟨b, 1, none⟩ rfl _⟩
  · exact Lib.BuilderAtF.put (T := 47) (e := 5) hB hb2 (bs' := bs ++ Lib.strCells s) (by simpa [Lib.strCells_length] using hown') (by decide)
  · exact (hb1.grown hgrow (by have := hb1.size; omega) (fun k hk => (hown.lt k hk).1)).setCell (p := ⟨b, 1, none⟩) hB _
end Bld
end Go.Proofs.YtjnfoocmilbdlaaGreatDoor
/- A builder beside a loop over an iterator that keeps no state in cells. -/
namespace Go.Proofs.YtjnfoocmilbdlaaGreatDoor
set_option linter.unusedSimpArgs false
set_option linter.unusedVariables false
open Go.RowKit
theorem ag_old {w : World} {o x : Obj} {k : Nat} (h : w.heap[k]? = some x) : (w.alloc o).heap[k]? = some x := (Below.heap_alloc _ _ _ (Array.getElem?_eq_some_iff.1 h).1).trans h
theorem ag_new (w : World) (o : Obj) (k : Nat) (h : k = w.heap.size) : (w.alloc o).heap[k]? = some o := by subst h; exact World.alloc_heap_new w o
/-- Two results that lie in boxes. -/
theorem results_cell2 {P : Program} {fn : Func} {p q : Tmp} {tp tq : TypeId} (h : fn.results = #[.cell p tp, .cell q tq]) (tmps : Array Value) (w : World) {b c : Addr} {v u : Value}
    (hp : tmps.getD p undef = .pointer (some b)) (hq : tmps.getD q undef = .pointer (some c)) {dp dq : TypeDesc} (tp1 : P.underlying tp = some dp) (tq1 : P.underlying tq = some dq)
    (tp2 : (match dp with | .struct _ | .array _ _ => true | _ => false) = false) (tq2 : (match dq with | .struct _ | .array _ _ => true | _ => false) = false)
    (h1 : w.cell? b = some v) (h2 : w.cell? c = some u) : (results fn tmps).run P w = .ok (.tuple #[v, u]) w := by
  have hp' : tmps[p]?.getD undef = .pointer (some b) := by simpa using hp
  have hq' : tmps[q]?.getD undef = .pointer (some c) := by simpa using hq
  have a1 : (isAgg tp).run P w = .ok false w := by
    unfold isAgg
    rw [Sem.run_bind, run_underlying tp1 w]
    cases dp <;> simp_all
  have a2 : (isAgg tq).run P w = .ok false w := by
    unfold isAgg
    rw [Sem.run_bind, run_underlying tq1 w]
    cases dq <;> simp_all
  have l1 : (load b).run P w = .ok v w := by rw [run_load, h1]
  have l2 : (load c).run P w = .ok u w := by rw [run_load, h2]
  have m1 : (loadVar tp b).run P w = .ok v w := by simp [loadVar, Sem.run_bind, a1, h1]
  have m2 : (loadVar tq c).run P w = .ok u w := by simp [loadVar, Sem.run_bind, a2, h2]
  simp [results, h, hp', hq', asAddr, m1, m2]
namespace Bld
open Go.Proofs.YtjnfoocmilbdlaaGreatDoorW.PrintWords
theorem strCells_bl (s : ByteArray) : Lib.strCells s = nums .u8 (Code.bl s) := by
  unfold Lib.strCells nums Code.bl
  rw [List.map_map]
  rfl
theorem strCells_son (l : List Int) (h : ∀ x ∈ l, 0 ≤ x ∧ x < 256) : Lib.strCells (strOfNums l) = nums .u8 l := by rw [strCells_bl, Code.bl_son l h]
theorem byteCells_nums (xs : List Int) (h : ∀ x ∈ xs, 0 ≤ x ∧ x < 256) : Lib.byteCells (xs.map fun x => x.toNat.toUInt8) = nums .u8 xs := by
  unfold Lib.byteCells nums
  rw [List.map_map]
  apply List.map_congr_left
  intro x hx
  have := h x hx
  simp only [Function.comp, Value.int.injEq, true_and]
  have : x.toNat.toUInt8.toNat = x.toNat := by
    simp [Nat.toUInt8]; omega
  omega
theorem nums_app (k : IntKind) (a b : List Int) : nums k (a ++ b) = nums k a ++ nums k b := by simp [nums]
theorem nums_len (k : IntKind) (a : List Int) : (nums k a).length = a.length := by simp [nums]
/-- The builder's buffer is none of the loop's own blocks. -/
def BOff (b z : Nat) (A : World) : Prop := ∀ p v fz r, A.heap[b]? = some (.cells #[p, v] 47 fz) → v.ownBlock = some r → ¬ LZ z r
theorem BOff.keep {b z : Nat} {A B : World} (h : BOff b z A) (hb : B.heap[b]? = A.heap[b]?) : BOff b z B := fun p v fz r h1 h2 => h p v fz r (hb.symm.trans h1) h2
theorem BOff.fresh {b z : Nat} {A : World} {q : Value} {fz : Nat × Nat} (h : A.heap[b]? = some (.cells #[q, .slice none 0 0] 47 fz)) : BOff b z A := by
  intro p v fz' r h1 h2
  rw [h] at h1
  simp at h1
  obtain ⟨⟨_, rfl⟩, _⟩ := h1
  simp [Value.ownBlock] at h2
theorem BOff.of {B b z : Nat} {bs : List Value} {A : World} (h : Lib.IsBuilderF 47 5 B b bs A) (hz : A.heap[z]? = some (.deferred (some []))) (hl : ∃ r, A.heap[z + 1]? = some (.loop r)) : BOff b z A := by
  have key : ∀ q, Lib.BuilderAtF 47 5 B b q bs A → BOff b z A := by
    rintro q ⟨_, v0, hb, hown, _⟩ p v fz r h1 h2 h3
    rw [hb] at h1
    simp at h1
    obtain ⟨⟨_, rfl⟩, _⟩ := h1
    obtain ⟨c, fz, hc⟩ := Lib.ownsRowF_kind hown r h2
    rcases h3 with rfl | rfl
    · rw [hz] at hc; cases hc
    · obtain ⟨l, hl⟩ := hl
      rw [hl] at hc; cases hc
  exact h.elim (key _) (key _)
theorem ownF_move {w w' : World} {B : Nat} {e : TypeId} {v : Value} {n : Nat} {xs : List Value} (h : w.ownsRowF B e 1 v n xs) (hk : ∀ r, v.ownBlock = some r → w'.heap[r]? = w.heap[r]?) : w'.ownsRowF B e 1 v n xs := by
  refine ⟨h.1, ?_⟩
  rcases h.2 with hn | ⟨g, cap, cur, fz, hv, hbg, hg, rest⟩
  · exact .inl hn
  · exact .inr ⟨g, cap, cur, fz, hv, hbg, (hk g (by rw [hv]; rfl)).trans hg, rest⟩
theorem isB_chg {B b z : Nat} {bs : List Value} {A A' : World} (h : Lib.IsBuilderF 47 5 B b bs A) (ho : BOff b z A) (hb : ¬ LZ z b) (hc : Chg (LZ z) A A') : Lib.IsBuilderF 47 5 B b bs A' := by
  have key : ∀ q, Lib.BuilderAtF 47 5 B b q bs A → Lib.BuilderAtF 47 5 B b q bs A' := by
    rintro q ⟨hB, v, hv, hown, hne⟩
    refine ⟨hB, v, hc.heap hv hb, ownF_move hown (fun r hr => hc.block r ?_ (ho _ _ _ _ hv hr)), hne⟩
    obtain ⟨c, fz, hc⟩ := Lib.ownsRowF_kind hown r hr
    exact (Array.getElem?_eq_some_iff.1 hc).1
  exact h.elim (fun x => .inl (key _ x)) (fun x => .inr (key _ x))
theorem LK_kept {b z : Nat} {A B : World} (hs : A.heap.size ≤ B.heap.size) (hk : Lib.OthersKept 5 (some b) A B) (hb : ¬ LZ z b) (hz : A.heap[z]? = some (.deferred (some []))) (hl : ∃ r, A.heap[z + 1]? = some (.loop r)) : LK z A B := by
  obtain ⟨l, hl⟩ := hl
  refine ⟨hs, (hk z _ hz (fun e => hb (.inl (Option.some.inj e).symm)) (by intro c fz e; cases e)).trans hz.symm, (hk (z + 1) _ hl (fun e => hb (.inr (Option.some.inj e).symm)) (by intro c fz e; cases e)).trans hl.symm⟩
/-- A row of another type stands beside a builder's writer. -/
theorem kept_row {b k : Nat} {A B : World} (hk : Lib.OthersKept 5 (some b) A B) {cs : Array Value} {t : TypeId} {fz : Nat × Nat} (h : A.heap[k]? = some (.cells cs t fz)) (hb : k ≠ b) (ht : t ≠ 5) : B.heap[k]? = some (.cells cs t fz) :=
  hk k _ h (fun e => hb (Option.some.inj e)) (by intro c fz' e; injection e with _ e2; exact ht e2)
end Bld
end Go.Proofs.YtjnfoocmilbdlaaGreatDoor
/- fold's lines: begin, more; isOther; the deferred closure of row. -/
namespace Go.Proofs.YtjnfoocmilbdlaaGreatDoor
set_option linter.unusedSimpArgs false
set_option linter.unusedVariables false
namespace Fold
open Go.RowKit Go.Shelf Go.Proofs.YtjnfoocmilbdlaaGreatDoorW.PrintWords Go.Proofs.YtjnfoocmilbdlaaGreatDoor.PureB
open Go.Proofs.YtjnfoocmilbdlaaGreatDoor.Code (bl bl_len bl_get bl_byte Byt son_bl bl_son bl_extract bl_append)
attribute [local go_sem] Oper.semAt_some
def pBad (r : Nat) : Bool := decide (r = 0 ∨ r = 13 ∨ 128 ≤ r)
theorem isOther_c (x : Nat) (W : World) : FnGives Tryz.prog 78 #[] #[encR x] (.bool (pBad x)) W := by
  show Calls Tryz.prog 78 #[.int .i32 x] W _
  by_cases h0 : x = 0
  · subst h0
    go_enter Tryz.func78, Tryz.ntmps78
    go_wp2
    all_goals (go_ret; exact ⟨by simp [pBad], 0, rfl⟩)
  by_cases h2 : x = 13
  · subst h2
    go_enter Tryz.func78, Tryz.ntmps78
    go_wp2
    all_goals (go_ret; exact ⟨by simp [pBad], 0, rfl⟩)
  have k0 : ¬ ((x : Int) = 0) := by omega
  have k2 : ¬ ((x : Int) = 13) := by omega
  go_enter Tryz.func78, Tryz.ntmps78
  go_wp2
  all_goals go_ret
  all_goals refine ⟨?_, 0, rfl⟩
  all_goals (simp [pBad, h0, h2]; try omega)
/-- texts in a row -/
def strs (ls : List (List Int)) : List Value := ls.map fun l => .string (strOfNums l)
theorem strs_len (ls : List (List Int)) : (strs ls).length = ls.length := by simp [strs]
theorem strs_app (a b : List (List Int)) : strs (a ++ b) = strs a ++ strs b := by simp [strs]
/-- an unfolder in block g -/
def ufRow (g : Nat) (v : Value) (op : Bool) (w : World) : Prop := w.heap[g]? = some (.cells #[v, .bool op] 79 (0, 0))
def rowOf (base : Nat) (v : Value) (ls : List (List Int)) (w : World) : Prop := w.ownsRow base 9 1 v ls.length (strs ls)
theorem uf_not_row {g base : Nat} {v u : Value} {op : Bool} {ls : List (List Int)} {w : World} (h : ufRow g u op w) (ho : rowOf base v ls w) : v.ownBlock ≠ some g := fun e => by
  obtain ⟨cs, hc⟩ := own_typed ho g e
  unfold ufRow at h
  rw [h] at hc
  cases hc
theorem ufRow.cells {g : Nat} {v : Value} {op : Bool} {w : World} (h : ufRow g v op w) : w.cell? ⟨g, 0, none⟩ = some v ∧ w.cell? ⟨g, 1, none⟩ = some (.bool op) ∧ w.frozen? ⟨g, 0, none⟩ = false ∧ w.frozen? ⟨g, 1, none⟩ = false ∧ g < w.heap.size := by
  have c0 := cell_of_row w g 0 _ _ _ h
  have c1 := cell_of_row w g 1 _ _ _ h
  simp at c0 c1
  exact ⟨c0, c1, Lib.frozen_of_heap h 0, Lib.frozen_of_heap h 1, (Array.getElem?_eq_some_iff.1 h).1⟩
theorem ufRow.set0 {g : Nat} {v : Value} {op : Bool} {w : World} (h : ufRow g v op w) (u : Value) : ufRow g u op (w.setCell ⟨g, 0, none⟩ u) := by
  have := heap_setCell_same w g 0 _ _ u h
  simpa [ufRow] using this
theorem ufRow.set1 {g : Nat} {v : Value} {op : Bool} {w : World} (h : ufRow g v op w) (b : Bool) : ufRow g v b (w.setCell ⟨g, 1, none⟩ (.bool b)) := by
  have := heap_setCell_same w g 1 _ _ (.bool b) h
  simpa [ufRow] using this
theorem rowOf.set {g : Nat} {base : Nat} {v : Value} {ls : List (List Int)} {w : World} (ho : rowOf base v ls w) (hne : v.ownBlock ≠ some g) (k : Nat) (u : Value) : rowOf base v ls (w.setCell ⟨g, k, none⟩ u) :=
  own_move ho (fun r hr => heap_setCell_other w ⟨g, k, none⟩ r u (fun e => hne (by rw [hr, e])))
/-- what a step of the unfolder's turns -/
def Turns (g : Nat) (v v' : Value) (w w' : World) : Prop := Chg (fun j => j = g ∨ v.ownBlock = some j) w w' ∧ ∀ r, v'.ownBlock = some r → v.ownBlock = some r ∨ w.heap.size ≤ r
theorem info_str : (Tryz.prog.info? 9).map (fun i => (i.zero, i.size, i.bytes)) = some (some (.string ⟨#[]⟩), 1, 16) := by kernel_rfl
def BegE (g base : Nat) (v : Value) (op : Bool) (ls : List (List Int)) (w : World) (e : Ending) (w' : World) : Prop :=
  e = .returned (.tuple #[]) ∧ ∃ v', ufRow g v' op w' ∧ rowOf base v' ls w' ∧ Turns g v v' w w'
set_option maxRecDepth 100000 in
set_option maxHeartbeats 2000000 in
theorem begin_c (g base : Nat) (v : Value) (op : Bool) (ls : List (List Int)) (s : ByteArray) (w : World) (hr : ufRow g v op w) (ho : rowOf base v ls w) (hlen : ls.length ≤ 100000) (hb : base ≤ w.heap.size) :
    Calls Tryz.prog 80 #[.pointer (some ⟨g, 0, none⟩), .string s] w fun e w' => BegE g base v op (ls ++ [bl s]) w e w' := by
  obtain ⟨i0, hi, hz0, hz1, hz2⟩ := info_parts info_str
  obtain ⟨c0, c1, f0, f1, hlt⟩ := hr.cells
  have hne := uf_not_row hr ho
  have HO := Lib.hid ho
  have HR := Lib.hid hr
  clear hr
  go_enter Tryz.func80, Tryz.ntmps80
  go_wp2_with (at_builtin; refine wpList_append_own_at _ rfl _ _ 27 rfl base 9 i0 (.string ⟨#[]⟩) 1 16 Tryz.underlying27 hi hz0 hz1 hz2 rfl (by decide) _ _ _ rfl (show World.ownsRow _ _ _ _ _ _ _ from World.ownsRow.alloc HO.out _) ⟨w.heap.size, 0, none⟩ 1 1 [.string s] rfl rfl (cell_one_new _ _ _) (by simp [Value.oneCell']) (by unfold maxLen; omega) (by omega) (by simp; omega) ?_)
  intro v' w3 hown' hgrow _ hat
  obtain ⟨g', cap', rfl⟩ := ownsRow_succ hown'
  have hr3 : ufRow g v op w3 := (hgrow.block g (by simp; omega) (fun e => hne e.symm)).trans ((Below.heap_alloc w _ g hlt).trans HR.out)
  have ho3 : rowOf base (.slice (some ⟨g', 0, none⟩) (ls.length + 1) cap') (ls ++ [bl s]) w3 := by
    unfold rowOf
    rw [strs_app, List.length_append]
    have : strs [bl s] = [.string s] := by simp [strs, son_bl]
    rw [this]
    exact hown'
  obtain ⟨x0, x1, y0, y1, hlt3⟩ := hr3.cells
  have hne3 := uf_not_row hr3 ho3
  have hc3 : Chg (fun j => j = g ∨ v.ownBlock = some j) w w3 := Chg.grown ((Chg.refl _ w).alloc _) hgrow fun r er => .inl (.inr er)
  have HO3 := Lib.hid (ho3.set hne3 0 (.slice (some ⟨g', 0, none⟩) (ls.length + 1) cap'))
  have HR3 := Lib.hid (hr3.set0 (.slice (some ⟨g', 0, none⟩) (ls.length + 1) cap'))
  have HC3 := Lib.hid (Chg.setCell (p := ⟨g, 0, none⟩) hc3 (.inl rfl) (.slice (some ⟨g', 0, none⟩) (ls.length + 1) cap'))
  have HAT := Lib.hid hat
  clear hat hown' hgrow hr3 ho3 hc3
  go_wp2_with fail
  go_end0
  refine ⟨rfl, _, HR3.out, HO3.out, HC3.out, fun r hr => ?_⟩
  rcases HAT.out with e | e
  · exact .inl (e ▸ hr)
  · right
    have := Option.some.inj (hr.symm.trans e)
    try simp at this
    omega
end Fold
end Go.Proofs.YtjnfoocmilbdlaaGreatDoor
/- fold's lines: more; the deferred closure of row. -/
namespace Go.Proofs.YtjnfoocmilbdlaaGreatDoor
set_option linter.unusedSimpArgs false
set_option linter.unusedVariables false
namespace Fold
open Go.RowKit Go.Shelf Go.Proofs.YtjnfoocmilbdlaaGreatDoorW.PrintWords Go.Proofs.YtjnfoocmilbdlaaGreatDoor.PureB
open Go.Proofs.YtjnfoocmilbdlaaGreatDoor.Code (bl bl_len bl_get bl_byte Byt son_bl bl_son bl_extract bl_append)
attribute [local go_sem] Oper.semAt_some
theorem son_ap (a b : List Int) : strOfNums (a ++ b) = strOfNums a ++ strOfNums b := by apply ByteArray.ext; simp [strOfNums]
theorem last_split (ls : List (List Int)) (m : Nat) (h : ls.length = m + 1) : ∃ init last, ls = init ++ [last] ∧ init.length = m := by
  have hne : ls ≠ [] := by rintro rfl; simp at h
  refine ⟨ls.dropLast, ls.getLast hne, (List.dropLast_concat_getLast hne).symm, ?_⟩
  rw [List.length_dropLast]; omega
theorem addLast_app (init : List (List Int)) (last t : List Int) : addLast (init ++ [last]) t = init ++ [last ++ t] := by
  unfold addLast
  simp
set_option maxRecDepth 100000 in
set_option maxHeartbeats 2000000 in
theorem more_c (g base : Nat) (v : Value) (op : Bool) (init : List (List Int)) (last : List Int) (s : ByteArray) (w : World) (hr : ufRow g v op w) (ho : rowOf base v (init ++ [last]) w) (hlen : init.length ≤ 100000) (hs : last.length + s.size ≤ 1000000) :
    Calls Tryz.prog 79 #[.pointer (some ⟨g, 0, none⟩), .string s] w fun e w' => BegE g base v op (init ++ [last ++ bl s]) w e w' := by
  have hne := uf_not_row hr ho
  have ho' : w.ownsRow base 9 1 v (init.length + 1) (strs (init ++ [last])) := by have := ho; unfold rowOf at this; rw [List.length_append] at this; exact this
  obtain ⟨r, cap, rfl⟩ := ownsRow_succ ho'
  obtain ⟨c0, c1, f0, f1, hlt⟩ := hr.cells
  have hrg : r ≠ g := fun e => hne (by simp [Value.ownBlock, e])
  have hcell : w.cell? ⟨r, init.length, none⟩ = some (.string (strOfNums last)) := by
    have := World.ownsRow.cells ho' (g := r) rfl init.length (.string (strOfNums last)) (by simp [strs])
    have ea : (⟨r, 0, none⟩ : Addr).add init.length = ⟨r, init.length, none⟩ := by
      by_cases h0 : init.length = 0
      · simp [Addr.add, h0]
      · simp [Addr.add, h0]
    rw [ea] at this
    exact this
  have hfz := World.ownsRow.frozenAt ho' init.length
  obtain ⟨hst1, hst2⟩ := World.ownsRow.stored ho' init.length (.string (strOfNums (last ++ bl s)))
  have hset : (strs (init ++ [last])).set init.length (.string (strOfNums (last ++ bl s))) = strs (init ++ [last ++ bl s]) := by
    have hl : init.length = (strs init).length := (strs_len init).symm
    rw [strs_app, strs_app, hl, List.set_append_right _ _ (Nat.le_refl _), Nat.sub_self]
    rfl
  rw [hset] at hst1
  have HO := Lib.hid (show rowOf base _ (init ++ [last ++ bl s]) _ from (by unfold rowOf; rw [List.length_append]; exact hst1))
  have HR := Lib.hid (show ufRow g _ op _ from (hst2.block g hlt (fun e => hrg (by have := Option.some.inj e; omega))).trans hr)
  have HC := Lib.hid (Chg.setCell (p := ⟨r, init.length, none⟩) (Chg.refl (fun j => j = g ∨ (Value.slice (some ⟨r, 0, none⟩) (init.length + 1) cap).ownBlock = some j) w) (.inr rfl) (.string (strOfNums (last ++ bl s))))
  have e2 : strOfNums (last ++ bl s) = strOfNums last ++ s := by rw [son_ap, son_bl]
  rw [e2] at HO HR HC
  have hsz : (strOfNums last).size + s.size ≤ 1000000 := by rw [son_size]; exact hs
  generalize strOfNums last = t at *
  have e3 : ((init.length + 1 : Nat) : Int) - 1 = init.length := by omega
  have hw := IntWalk.i64_in (((init.length + 1 : Nat) : Int) - 1) (by omega)
  have hw3 : wrap64 (((init.length + 1 : Nat) : Int) - 1) = init.length := by unfold wrap64; omega
  rw [e3] at hw
  have hlt2 : init.length < init.length + 1 := by omega
  obtain ⟨m, hm⟩ : ∃ m, init.length = m := ⟨_, rfl⟩
  clear hst1 hst2 hset ho ho' hr e2 hne hs
  simp only [hm] at *
  have HM := Lib.hid hm
  clear hm
  go_enter Tryz.func79, Tryz.ntmps79
  go_wp2_with fail
  go_region
  all_goals go_wp2_with fail
  go_end0
  exact ⟨rfl, _, HR.out, HO.out, HC.out.trans (Chg.of_below (Below.drew (Below.refl _ _))), fun r hr => .inl hr⟩
/-- The closure that row defers: whether a row is open. -/
theorem row1_d (g S B : Nat) (v : Value) (op : Bool) (s : ByteArray) (u : FrameMode) (w : World) (hr : ufRow g v op w) (hS : w.cell? ⟨S, 0, none⟩ = some (.string s)) (hB : w.cell? ⟨B, 0, none⟩ = some (.pointer (some ⟨g, 0, none⟩))) :
    CallsD Tryz.prog 77 #[.pointer (some ⟨S, 0, none⟩), .pointer (some ⟨B, 0, none⟩)] u w fun e u' w' => u' = u ∧ (e = .returned (.tuple #[]) ∧ w' = w.setCell ⟨g, 1, none⟩ (.bool (!s.toList.isEmpty))) := by
  obtain ⟨c0, c1, f0, f1, hlt⟩ := hr.cells
  clear hr
  go_enter_d Tryz.func77, Tryz.ntmps77
  go_wp2
  go_end0
  exact ⟨rfl, rfl⟩
end Fold
end Go.Proofs.YtjnfoocmilbdlaaGreatDoor
/- One operation of a region that draws, taken by hand. -/
namespace Go.Proofs.YtjnfoocmilbdlaaGreatDoor
set_option linter.unusedSimpArgs false
set_option linter.unusedVariables false
open Go.RowKit Go.Shelf
theorem takeD {P : Program} {md : Region.Mode} {ops : Array Oper} {Q : Exit → Act → World → Prop} {S : World → Prop} {i : Nat} {oi : Oper} {v : Value} {fuel : Nat} {listed : Array Bool} {a : Act} {w : World} (d : Option Nat) (L : Array Bool) (hi : ops[i]? = some oi)
    (hd : oi.dst = d) (hL : listed.setIfInBounds i true = L) (hs : Region.noSelect ops = true) (hf : Region.free md ops listed i = true) (hr : (Region.ready md ops listed).contains i = true)
    (hQ : ∀ c a w, Q (.panic c) (a.put oi.dst v) w → Q (.panic c) a w) (hy : YieldsIf P ops S oi v a) (hS : S w)
    (h : wpAnyH P md ops Q S fuel L (a.put d v) w) : wpAnyH P md ops Q S (fuel + 1) listed a w := wpAnyH_take hi hs hf hr hQ hy hS (by rw [hL, hd]; exact h)
/-- A piece that can only end well: what would follow a panic is not looked at. -/
theorem wp_only {P : Program} {c : Code} {K : Act → World → Prop} {X : Exit → Act → World → Prop} {a : Act} {w : World} (h : c.wp P (Exit.then K fun _ _ _ => False) a w) : c.wp P (Exit.then K X) a w :=
  wp_mono h fun e a w h => by
    cases e
    all_goals first | exact h | exact h.elim
end Go.Proofs.YtjnfoocmilbdlaaGreatDoor
/- fold's unfolder: row. -/
namespace Go.Proofs.YtjnfoocmilbdlaaGreatDoor
set_option linter.unusedSimpArgs false
set_option linter.unusedVariables false
namespace Fold
open Go.RowKit Go.Shelf Go.Proofs.YtjnfoocmilbdlaaGreatDoorW.PrintWords Go.Proofs.YtjnfoocmilbdlaaGreatDoor.PureB
open Go.Proofs.YtjnfoocmilbdlaaGreatDoor.Code (bl bl_len bl_get bl_byte Byt son_bl bl_son bl_extract bl_append)
attribute [local go_sem] Oper.semAt_some
/-- does a text hold what may not stand in a row? -/
def cfB (s : ByteArray) : Bool := decide (0 ≤ Lib.idxFunc pBad true s)
theorem contF_c (s : ByteArray) (w : World) : Calls Tryz.prog 52 #[.string s, .func (.func 78) #[] #[]] w fun e w' => e = .returned (.bool (cfB s)) ∧ Below w.heap.size w w' := by
  refine (Tryz.strings_ContainsFunc_runes 78 #[] (enters_of Tryz.func78 (by kernel_rfl) rfl) pBad s w (fun W x _ _ => isOther_c x W)).mono ?_
  rintro e w' ⟨rfl, hb⟩
  exact ⟨rfl, hb⟩
/-- How row ends. -/
def RowE (o : Option (List (List Int) × Bool)) (g base : Nat) (v : Value) (a1 : Addr) (w : World) (e : Ending) (w' : World) : Prop :=
  match o with
  | none => (∃ n, e = .returned (werr n a1)) ∧ Chg (fun j => j = g ∨ v.ownBlock = some j) w w'
  | some p => e = .returned .nilIface ∧ ∃ v', ufRow g v' p.2 w' ∧ rowOf base v' p.1 w' ∧ Turns g v v' w w'
theorem pre_c (s : ByteArray) (b : Bool) (hp : Lib.hasPrefix s.data.toList [32] = b) (W : World) : Calls Tryz.prog 50 #[.string s, .string ⟨#[32]⟩] W fun e w' => e = .returned (.bool b) ∧ w' = W := by
  subst hp
  exact Tryz.strings_HasPrefix s ⟨#[32]⟩ W
set_option maxRecDepth 100000 in
set_option maxHeartbeats 4000000 in
theorem row_nbad (g base : Nat) (v : Value) (op : Bool) (ls : List (List Int)) (s : ByteArray) (i : Int) (a1 : Addr) (w : World) (hr : ufRow g v op w) (ho : rowOf base v ls w) (hlen : ls.length ≤ 100000) (hs : s.size ≤ 100000) (hb : base ≤ w.heap.size)
    (hG : w.cell? ⟨1, 0, none⟩ = some (ese a1)) (hp : Lib.hasPrefix s.data.toList [32] = false) (hcf : cfB s = true) :
    Calls Tryz.prog 49 #[.pointer (some ⟨g, 0, none⟩), .int .i64 i, .string s] w fun e w' => RowE (none) g base v a1 w e w' := by
  have hmf : ∀ (fn : Fn) (first cap : Array Value) (w : World), (Instr.makeFunc fn first cap).run Tryz.prog w = .ok (.func fn first cap) w := fun _ _ _ _ => rfl
  obtain ⟨W, hW⟩ : ∃ W, (w.alloc (.cells #[.pointer (some ⟨g, 0, none⟩)] 75)).alloc (.cells #[.string s] 9) = W := ⟨_, rfl⟩
  have hsz : W.heap.size = w.heap.size + 2 := by rw [← hW]; simp
  have hbW : Below w.heap.size w W := by rw [← hW]; exact bl_alloc (bl_alloc (Below.refl _ _) _) _
  have rB : W.heap[w.heap.size]? = some (.cells #[.pointer (some ⟨g, 0, none⟩)] 75 (0, 0)) := by rw [← hW]; repeat (first | exact ag_new _ _ _ (by simp) | refine ag_old ?_)
  have rS : W.heap[w.heap.size + 1]? = some (.cells #[.string s] 9 (0, 0)) := by rw [← hW]; repeat (first | exact ag_new _ _ _ (by simp) | refine ag_old ?_)
  have hlt := hr.cells.2.2.2.2
  have hr2 : ufRow g v op W := (hbW.block g hlt).trans hr
  have hGl := lt_of_cell hG
  have KEEP := Lib.hid (fun (w' : World) (hb' : Below W.heap.size W w') => (⟨hb', cell_of_row w' _ 0 _ _ _ ((Chg.of_below (S := fun _ => False) hb').heap rB (fun h => h)), cell_of_row w' _ 0 _ _ _ ((Chg.of_below (S := fun _ => False) hb').heap rS (fun h => h)),
    (ufRow.cells (show ufRow g v op w' from (Chg.of_below (S := fun _ => False) hb').heap hr2 (fun h => h))).2.1, (hb'.cell (p := ⟨1, 0, none⟩) (by show 1 < _; omega)).trans ((hbW.cell (p := ⟨1, 0, none⟩) hGl).trans hG)⟩ :
    Below W.heap.size W w' ∧ w'.cell? ⟨w.heap.size, 0, none⟩ = some (.pointer (some ⟨g, 0, none⟩)) ∧ w'.cell? ⟨w.heap.size + 1, 0, none⟩ = some (.string s) ∧ w'.cell? ⟨g, 1, none⟩ = some (.bool op) ∧ w'.cell? ⟨1, 0, none⟩ = some (ese a1)))
  have HCF := Lib.hid (fun w => contF_c s w)
  rw [hcf] at HCF
  have HP := Lib.hid (fun W => pre_c s false hp W)
  clear hcf
  have HR := Lib.hid hr
  have HO := Lib.hid ho
  have HBW := Lib.hid hbW
  have RBW := Lib.hid rB
  have RSW := Lib.hid rS
  clear hr ho hr2 rB rS hbW hG hGl
  obtain ⟨_, kB, kS, kO, kG⟩ := KEEP.out _ (Below.refl _ _)
  go_enter_defers Tryz.func49, Tryz.ntmps49
  go_wp2_with fail
  clear hW
  refine (HP.out _).mono ?_
  rintro e w1 ⟨rfl, hw1⟩
  subst w1
  go_wp2_with fail
  refine wp_only ?_
  refine wp_region_held_drew (S := fun w' => Below W.heap.size W w' ∧ w'.cell? ⟨w.heap.size, 0, none⟩ = some (.pointer (some ⟨g, 0, none⟩)) ∧ w'.cell? ⟨w.heap.size + 1, 0, none⟩ = some (.string s) ∧ w'.cell? ⟨g, 1, none⟩ = some (.bool op) ∧ w'.cell? ⟨1, 0, none⟩ = some (ese a1)) (by kernel_rfl) (KEEP.out _ (Below.drew (Below.refl _ _))) (fun hHeld => ?_)
  refine takeD (i := 0) (v := ?v0) (some 12) #[true, false, false, false, false, false, false, false, false, false, false, false, false, false, false, false, false, false, false] rfl rfl rfl (by kernel_rfl) (by kernel_rfl) (by kernel_rfl) (fun _ _ _ h => h) (Or.inl ⟨by rfl, ?y0⟩) (by assumption) ?r0
  case y0 => intro w hSw; (try dsimp only at hSw); go_simp; (try rfl)
  try simp only [Act.put, List.setIfInBounds_toArray, List.set_cons_zero, List.set_cons_succ]
  refine takeD (i := 1) (v := ?v1) (some 13) #[true, true, false, false, false, false, false, false, false, false, false, false, false, false, false, false, false, false, false] rfl rfl rfl (by kernel_rfl) (by kernel_rfl) (by kernel_rfl) (fun _ _ _ h => h) (Or.inl ⟨by rfl, ?y1⟩) (by assumption) ?r1
  case y1 => intro w hSw; (try dsimp only at hSw); go_simp; (try rfl)
  try simp only [Act.put, List.setIfInBounds_toArray, List.set_cons_zero, List.set_cons_succ]
  refine takeD (i := 3) (v := ?v3) (some 15) #[true, true, false, true, false, false, false, false, false, false, false, false, false, false, false, false, false, false, false] rfl rfl rfl (by kernel_rfl) (by kernel_rfl) (by kernel_rfl) (fun _ _ _ h => h) (Or.inl ⟨by rfl, ?y3⟩) (by assumption) ?r3
  case y3 => intro w hSw; (try dsimp only at hSw); go_simp; (try rfl)
  try simp only [Act.put, List.setIfInBounds_toArray, List.set_cons_zero, List.set_cons_succ]
  refine takeD (i := 5) (v := ?v5) (some 17) #[true, true, false, true, false, true, false, false, false, false, false, false, false, false, false, false, false, false, false] rfl rfl rfl (by kernel_rfl) (by kernel_rfl) (by kernel_rfl) (fun _ _ _ h => h) (Or.inl ⟨by rfl, ?y5⟩) (by assumption) ?r5
  case y5 => intro w hSw; (try dsimp only at hSw); go_simp; (try rfl)
  try simp only [Act.put, List.setIfInBounds_toArray, List.set_cons_zero, List.set_cons_succ]
  refine takeD (i := 14) (v := ?v14) (some 26) #[true, true, false, true, false, true, false, false, false, false, false, false, false, false, true, false, false, false, false] rfl rfl rfl (by kernel_rfl) (by kernel_rfl) (by kernel_rfl) (fun _ _ _ h => h) (Or.inl ⟨by rfl, ?y14⟩) (by assumption) ?r14
  case y14 => intro w hSw; (try dsimp only at hSw); go_simp; (try rfl)
  try simp only [Act.put, List.setIfInBounds_toArray, List.set_cons_zero, List.set_cons_succ]
  refine wpAnyH_ready (rs := [2]) (by kernel_rfl) (by simp) ?_
  refine AllReadyH.cons rfl (fun K hK => ?_) AllReadyH.nil
  go_simp
  go_at_call 52
  refine (HCF.out _).mono ?_
  rintro e w1 ⟨rfl, hb1⟩
  have hb1' : Below W.heap.size W w1 := (Below.drew (Below.refl _ _)).trans hb1
  refine hK.out _ _ (KEEP.out _ hb1') (fun hHeldN6 => ?_)
  clear hK K
  try simp only [Act.put, List.setIfInBounds_toArray, List.set_cons_zero, List.set_cons_succ]
  refine takeD (i := 4) (v := ?v4) (some 16) #[true, true, true, true, true, true, false, false, false, false, false, false, false, false, true, false, false, false, false] rfl rfl rfl (by kernel_rfl) (by kernel_rfl) (by kernel_rfl) (fun _ _ _ h => h) (Or.inl ⟨by rfl, ?y4⟩) (by assumption) ?r4
  case y4 => intro w hSw; (try dsimp only at hSw); go_simp; (try rfl)
  try simp only [Act.put, List.setIfInBounds_toArray, List.set_cons_zero, List.set_cons_succ]
  refine takeD (i := 6) (v := ?v6) (some 18) #[true, true, true, true, true, true, true, false, false, false, false, false, false, false, true, false, false, false, false] rfl rfl rfl (by kernel_rfl) (by kernel_rfl) (by kernel_rfl) (fun _ _ _ h => h) (Or.inl ⟨by rfl, ?y6⟩) (by assumption) ?r6
  case y6 => intro w hSw; (try dsimp only at hSw); go_simp; (try rfl)
  try simp only [Act.put, List.setIfInBounds_toArray, List.set_cons_zero, List.set_cons_succ]
  refine takeD (i := 7) (v := undef) (some 19) #[true, true, true, true, true, true, true, true, false, false, false, false, false, false, true, false, false, false, false] rfl rfl rfl (by kernel_rfl) (by kernel_rfl) (by kernel_rfl) (fun _ _ _ h => h) (Or.inr ⟨by rfl, rfl⟩) (by assumption) ?r7
  try simp only [Act.put, List.setIfInBounds_toArray, List.set_cons_zero, List.set_cons_succ]
  refine takeD (i := 8) (v := undef) (some 20) #[true, true, true, true, true, true, true, true, true, false, false, false, false, false, true, false, false, false, false] rfl rfl rfl (by kernel_rfl) (by kernel_rfl) (by kernel_rfl) (fun _ _ _ h => h) (Or.inr ⟨by rfl, rfl⟩) (by assumption) ?r8
  try simp only [Act.put, List.setIfInBounds_toArray, List.set_cons_zero, List.set_cons_succ]
  refine takeD (i := 9) (v := undef) (some 21) #[true, true, true, true, true, true, true, true, true, true, false, false, false, false, true, false, false, false, false] rfl rfl rfl (by kernel_rfl) (by kernel_rfl) (by kernel_rfl) (fun _ _ _ h => h) (Or.inr ⟨by rfl, rfl⟩) (by assumption) ?r9
  try simp only [Act.put, List.setIfInBounds_toArray, List.set_cons_zero, List.set_cons_succ]
  refine takeD (i := 10) (v := undef) (some 22) #[true, true, true, true, true, true, true, true, true, true, true, false, false, false, true, false, false, false, false] rfl rfl rfl (by kernel_rfl) (by kernel_rfl) (by kernel_rfl) (fun _ _ _ h => h) (Or.inr ⟨by rfl, rfl⟩) (by assumption) ?r10
  try simp only [Act.put, List.setIfInBounds_toArray, List.set_cons_zero, List.set_cons_succ]
  refine takeD (i := 11) (v := undef) (some 23) #[true, true, true, true, true, true, true, true, true, true, true, true, false, false, true, false, false, false, false] rfl rfl rfl (by kernel_rfl) (by kernel_rfl) (by kernel_rfl) (fun _ _ _ h => h) (Or.inr ⟨by rfl, rfl⟩) (by assumption) ?r11
  try simp only [Act.put, List.setIfInBounds_toArray, List.set_cons_zero, List.set_cons_succ]
  refine takeD (i := 12) (v := undef) (some 24) #[true, true, true, true, true, true, true, true, true, true, true, true, true, false, true, false, false, false, false] rfl rfl rfl (by kernel_rfl) (by kernel_rfl) (by kernel_rfl) (fun _ _ _ h => h) (Or.inr ⟨by rfl, rfl⟩) (by assumption) ?r12
  try simp only [Act.put, List.setIfInBounds_toArray, List.set_cons_zero, List.set_cons_succ]
  refine takeD (i := 13) (v := ?v13) (some 25) #[true, true, true, true, true, true, true, true, true, true, true, true, true, true, true, false, false, false, false] rfl rfl rfl (by kernel_rfl) (by kernel_rfl) (by kernel_rfl) (fun _ _ _ h => h) (Or.inl ⟨by rfl, ?y13⟩) (by assumption) ?r13
  case y13 => intro w hSw; (try dsimp only at hSw); go_simp; (try rfl)
  try simp only [Act.put, List.setIfInBounds_toArray, List.set_cons_zero, List.set_cons_succ]
  refine takeD (i := 15) (v := ?v15) (some 27) #[true, true, true, true, true, true, true, true, true, true, true, true, true, true, true, true, false, false, false] rfl rfl rfl (by kernel_rfl) (by kernel_rfl) (by kernel_rfl) (fun _ _ _ h => h) (Or.inl ⟨by rfl, ?y15⟩) (by assumption) ?r15
  case y15 => intro w hSw; (try dsimp only at hSw); go_simp; (try rfl)
  try simp only [Act.put, List.setIfInBounds_toArray, List.set_cons_zero, List.set_cons_succ]
  refine wpAnyH_ready (rs := [16]) (by kernel_rfl) (by simp) ?_
  refine AllReadyH.cons rfl (fun K hK => ?_) AllReadyH.nil
  go_simp
  refine hK.out _ _ (KEEP.out _ (hb1'.alloc hb1'.size _)) (fun hHeldN11 => ?_)
  clear hK K
  try simp only [Act.put, List.setIfInBounds_toArray, List.set_cons_zero, List.set_cons_succ]
  refine wpAnyH_ready (rs := [17]) (by kernel_rfl) (by simp) ?_
  refine AllReadyH.cons rfl (fun K hK => ?_) AllReadyH.nil
  go_simp
  go_at_call 24
  refine (first2_true i false a1 a1 w1.heap.size _ (World.alloc_heap_new _ _)).mono ?_
  rintro e w2 ⟨rfl, hb2⟩
  have hb2' : Below W.heap.size W w2 := (hb1'.alloc hb1'.size _).trans (hb2.mono (by have := hb1'.size; simp; omega))
  refine hK.out _ _ (KEEP.out _ hb2') (fun hHeldN12 => ?_)
  clear hK K
  try simp only [Act.put, List.setIfInBounds_toArray, List.set_cons_zero, List.set_cons_succ]
  refine takeD (i := 18) (v := ?v18) (some 8) #[true, true, true, true, true, true, true, true, true, true, true, true, true, true, true, true, true, true, true] rfl rfl rfl (by kernel_rfl) (by kernel_rfl) (by kernel_rfl) (fun _ _ _ h => h) (Or.inl ⟨by rfl, ?y18⟩) (by assumption) ?r18
  case y18 => intro w hSw; (try dsimp only at hSw); go_simp; (try rfl)
  try simp only [Act.put, List.setIfInBounds_toArray, List.set_cons_zero, List.set_cons_succ]
  refine wpAnyH_done (by kernel_rfl) ?_ _
  have HB2 := Lib.hid hb2'
  clear hb1 hb1' hb2 hb2' kB kS kO kG
  go_wp2_with fail
  refine leaves_cons (f := 77) (args := #[.pointer (some ⟨w.heap.size + 1, 0, none⟩), .pointer (some ⟨w.heap.size, 0, none⟩)]) (by simp) (by simp [go_sem]) ?_
  have hu2 : ufRow g v op w2 := (HB2.out.block g (by have := HR.out.cells.2.2.2.2; omega)).trans ((HBW.out.block g HR.out.cells.2.2.2.2).trans HR.out)
  refine (row1_d g (w.heap.size + 1) w.heap.size v op s .returning _ hu2 (KEEP.out w2 HB2.out).2.2.1 (KEEP.out w2 HB2.out).2.1).mono ?_
  rintro e u' w3 ⟨rfl, rfl, rfl⟩
  exact ⟨_, results_tmp rfl _ _ _, ⟨i, rfl⟩, Chg.setCell (p := ⟨g, 1, none⟩) (Chg.of_below (HBW.out.trans (HB2.out.mono (by omega)))) (.inl rfl) _⟩
set_option maxRecDepth 100000 in
set_option maxHeartbeats 4000000 in
theorem row_mbad (g base : Nat) (v : Value) (op : Bool) (ls : List (List Int)) (s : ByteArray) (i : Int) (a1 : Addr) (w : World) (hr : ufRow g v op w) (ho : rowOf base v ls w) (hlen : ls.length ≤ 100000) (hs : s.size ≤ 100000) (hb : base ≤ w.heap.size)
    (hG : w.cell? ⟨1, 0, none⟩ = some (ese a1)) (hp : Lib.hasPrefix s.data.toList [32] = true) (hcf : cfB s = true) :
    Calls Tryz.prog 49 #[.pointer (some ⟨g, 0, none⟩), .int .i64 i, .string s] w fun e w' => RowE (none) g base v a1 w e w' := by
  have hmf : ∀ (fn : Fn) (first cap : Array Value) (w : World), (Instr.makeFunc fn first cap).run Tryz.prog w = .ok (.func fn first cap) w := fun _ _ _ _ => rfl
  obtain ⟨W, hW⟩ : ∃ W, (w.alloc (.cells #[.pointer (some ⟨g, 0, none⟩)] 75)).alloc (.cells #[.string s] 9) = W := ⟨_, rfl⟩
  have hsz : W.heap.size = w.heap.size + 2 := by rw [← hW]; simp
  have hbW : Below w.heap.size w W := by rw [← hW]; exact bl_alloc (bl_alloc (Below.refl _ _) _) _
  have rB : W.heap[w.heap.size]? = some (.cells #[.pointer (some ⟨g, 0, none⟩)] 75 (0, 0)) := by rw [← hW]; repeat (first | exact ag_new _ _ _ (by simp) | refine ag_old ?_)
  have rS : W.heap[w.heap.size + 1]? = some (.cells #[.string s] 9 (0, 0)) := by rw [← hW]; repeat (first | exact ag_new _ _ _ (by simp) | refine ag_old ?_)
  have hlt := hr.cells.2.2.2.2
  have hr2 : ufRow g v op W := (hbW.block g hlt).trans hr
  have hGl := lt_of_cell hG
  have KEEP := Lib.hid (fun (w' : World) (hb' : Below W.heap.size W w') => (⟨hb', cell_of_row w' _ 0 _ _ _ ((Chg.of_below (S := fun _ => False) hb').heap rB (fun h => h)), cell_of_row w' _ 0 _ _ _ ((Chg.of_below (S := fun _ => False) hb').heap rS (fun h => h)),
    (ufRow.cells (show ufRow g v op w' from (Chg.of_below (S := fun _ => False) hb').heap hr2 (fun h => h))).2.1, (hb'.cell (p := ⟨1, 0, none⟩) (by show 1 < _; omega)).trans ((hbW.cell (p := ⟨1, 0, none⟩) hGl).trans hG)⟩ :
    Below W.heap.size W w' ∧ w'.cell? ⟨w.heap.size, 0, none⟩ = some (.pointer (some ⟨g, 0, none⟩)) ∧ w'.cell? ⟨w.heap.size + 1, 0, none⟩ = some (.string s) ∧ w'.cell? ⟨g, 1, none⟩ = some (.bool op) ∧ w'.cell? ⟨1, 0, none⟩ = some (ese a1)))
  have HCF := Lib.hid (fun w => contF_c s w)
  rw [hcf] at HCF
  have HP := Lib.hid (fun W => pre_c s true hp W)
  clear hcf
  have HR := Lib.hid hr
  have HO := Lib.hid ho
  have HBW := Lib.hid hbW
  have RBW := Lib.hid rB
  have RSW := Lib.hid rS
  clear hr ho hr2 rB rS hbW hG hGl
  obtain ⟨_, kB, kS, kO, kG⟩ := KEEP.out _ (Below.refl _ _)
  go_enter_defers Tryz.func49, Tryz.ntmps49
  go_wp2_with fail
  clear hW
  refine (HP.out _).mono ?_
  rintro e w1 ⟨rfl, hw1⟩
  subst w1
  go_wp2_with fail
  refine wp_only ?_
  refine wp_region_held_drew (S := fun w' => Below W.heap.size W w' ∧ w'.cell? ⟨w.heap.size, 0, none⟩ = some (.pointer (some ⟨g, 0, none⟩)) ∧ w'.cell? ⟨w.heap.size + 1, 0, none⟩ = some (.string s) ∧ w'.cell? ⟨g, 1, none⟩ = some (.bool op) ∧ w'.cell? ⟨1, 0, none⟩ = some (ese a1)) (by kernel_rfl) (KEEP.out _ (Below.drew (Below.refl _ _))) (fun hHeld => ?_)
  refine takeD (i := 0) (v := ?v0) (some 12) #[true, false, false, false, false, false, false, false, false, false, false, false, false, false, false, false, false, false, false] rfl rfl rfl (by kernel_rfl) (by kernel_rfl) (by kernel_rfl) (fun _ _ _ h => h) (Or.inl ⟨by rfl, ?y0⟩) (by assumption) ?r0
  case y0 => intro w hSw; (try dsimp only at hSw); go_simp; (try rfl)
  try simp only [Act.put, List.setIfInBounds_toArray, List.set_cons_zero, List.set_cons_succ]
  refine takeD (i := 1) (v := ?v1) (some 13) #[true, true, false, false, false, false, false, false, false, false, false, false, false, false, false, false, false, false, false] rfl rfl rfl (by kernel_rfl) (by kernel_rfl) (by kernel_rfl) (fun _ _ _ h => h) (Or.inl ⟨by rfl, ?y1⟩) (by assumption) ?r1
  case y1 => intro w hSw; (try dsimp only at hSw); go_simp; (try rfl)
  try simp only [Act.put, List.setIfInBounds_toArray, List.set_cons_zero, List.set_cons_succ]
  refine takeD (i := 3) (v := ?v3) (some 15) #[true, true, false, true, false, false, false, false, false, false, false, false, false, false, false, false, false, false, false] rfl rfl rfl (by kernel_rfl) (by kernel_rfl) (by kernel_rfl) (fun _ _ _ h => h) (Or.inl ⟨by rfl, ?y3⟩) (by assumption) ?r3
  case y3 => intro w hSw; (try dsimp only at hSw); go_simp; (try rfl)
  try simp only [Act.put, List.setIfInBounds_toArray, List.set_cons_zero, List.set_cons_succ]
  refine takeD (i := 5) (v := ?v5) (some 17) #[true, true, false, true, false, true, false, false, false, false, false, false, false, false, false, false, false, false, false] rfl rfl rfl (by kernel_rfl) (by kernel_rfl) (by kernel_rfl) (fun _ _ _ h => h) (Or.inl ⟨by rfl, ?y5⟩) (by assumption) ?r5
  case y5 => intro w hSw; (try dsimp only at hSw); go_simp; (try rfl)
  try simp only [Act.put, List.setIfInBounds_toArray, List.set_cons_zero, List.set_cons_succ]
  refine takeD (i := 14) (v := ?v14) (some 26) #[true, true, false, true, false, true, false, false, false, false, false, false, false, false, true, false, false, false, false] rfl rfl rfl (by kernel_rfl) (by kernel_rfl) (by kernel_rfl) (fun _ _ _ h => h) (Or.inl ⟨by rfl, ?y14⟩) (by assumption) ?r14
  case y14 => intro w hSw; (try dsimp only at hSw); go_simp; (try rfl)
  try simp only [Act.put, List.setIfInBounds_toArray, List.set_cons_zero, List.set_cons_succ]
  refine wpAnyH_ready (rs := [2]) (by kernel_rfl) (by simp) ?_
  refine AllReadyH.cons rfl (fun K hK => ?_) AllReadyH.nil
  go_simp
  go_at_call 52
  refine (HCF.out _).mono ?_
  rintro e w1 ⟨rfl, hb1⟩
  have hb1' : Below W.heap.size W w1 := (Below.drew (Below.refl _ _)).trans hb1
  refine hK.out _ _ (KEEP.out _ hb1') (fun hHeldN6 => ?_)
  clear hK K
  try simp only [Act.put, List.setIfInBounds_toArray, List.set_cons_zero, List.set_cons_succ]
  refine takeD (i := 4) (v := ?v4) (some 16) #[true, true, true, true, true, true, false, false, false, false, false, false, false, false, true, false, false, false, false] rfl rfl rfl (by kernel_rfl) (by kernel_rfl) (by kernel_rfl) (fun _ _ _ h => h) (Or.inl ⟨by rfl, ?y4⟩) (by assumption) ?r4
  case y4 => intro w hSw; (try dsimp only at hSw); go_simp; (try rfl)
  try simp only [Act.put, List.setIfInBounds_toArray, List.set_cons_zero, List.set_cons_succ]
  refine takeD (i := 6) (v := ?v6) (some 18) #[true, true, true, true, true, true, true, false, false, false, false, false, false, false, true, false, false, false, false] rfl rfl rfl (by kernel_rfl) (by kernel_rfl) (by kernel_rfl) (fun _ _ _ h => h) (Or.inl ⟨by rfl, ?y6⟩) (by assumption) ?r6
  case y6 => intro w hSw; (try dsimp only at hSw); go_simp; (try rfl)
  try simp only [Act.put, List.setIfInBounds_toArray, List.set_cons_zero, List.set_cons_succ]
  refine takeD (i := 7) (v := ?v7) (some 19) #[true, true, true, true, true, true, true, true, false, false, false, false, false, false, true, false, false, false, false] rfl rfl rfl (by kernel_rfl) (by kernel_rfl) (by kernel_rfl) (fun _ _ _ h => h) (Or.inl ⟨by rfl, ?y7⟩) (by assumption) ?r7
  case y7 => intro w hSw; (try dsimp only at hSw); go_simp; (try rfl)
  try simp only [Act.put, List.setIfInBounds_toArray, List.set_cons_zero, List.set_cons_succ]
  refine takeD (i := 8) (v := ?v8) (some 20) #[true, true, true, true, true, true, true, true, true, false, false, false, false, false, true, false, false, false, false] rfl rfl rfl (by kernel_rfl) (by kernel_rfl) (by kernel_rfl) (fun _ _ _ h => h) (Or.inl ⟨by rfl, ?y8⟩) (by assumption) ?r8
  case y8 => intro w hSw; (try dsimp only at hSw); go_simp; (try rfl)
  try simp only [Act.put, List.setIfInBounds_toArray, List.set_cons_zero, List.set_cons_succ]
  refine takeD (i := 9) (v := ?v9) (some 21) #[true, true, true, true, true, true, true, true, true, true, false, false, false, false, true, false, false, false, false] rfl rfl rfl (by kernel_rfl) (by kernel_rfl) (by kernel_rfl) (fun _ _ _ h => h) (Or.inl ⟨by rfl, ?y9⟩) (by assumption) ?r9
  case y9 => intro w hSw; (try dsimp only at hSw); go_simp; (try rfl)
  try simp only [Act.put, List.setIfInBounds_toArray, List.set_cons_zero, List.set_cons_succ]
  refine takeD (i := 10) (v := ?v10) (some 22) #[true, true, true, true, true, true, true, true, true, true, true, false, false, false, true, false, false, false, false] rfl rfl rfl (by kernel_rfl) (by kernel_rfl) (by kernel_rfl) (fun _ _ _ h => h) (Or.inl ⟨by rfl, ?y10⟩) (by assumption) ?r10
  case y10 => intro w hSw; (try dsimp only at hSw); go_simp; (try rfl)
  try simp only [Act.put, List.setIfInBounds_toArray, List.set_cons_zero, List.set_cons_succ]
  refine takeD (i := 11) (v := ?v11) (some 23) #[true, true, true, true, true, true, true, true, true, true, true, true, false, false, true, false, false, false, false] rfl rfl rfl (by kernel_rfl) (by kernel_rfl) (by kernel_rfl) (fun _ _ _ h => h) (Or.inl ⟨by rfl, ?y11⟩) (by assumption) ?r11
  case y11 => intro w hSw; (try dsimp only at hSw); go_simp; (try rfl)
  try simp only [Act.put, List.setIfInBounds_toArray, List.set_cons_zero, List.set_cons_succ]
  refine takeD (i := 12) (v := ?v12) (some 24) #[true, true, true, true, true, true, true, true, true, true, true, true, true, false, true, false, false, false, false] rfl rfl rfl (by kernel_rfl) (by kernel_rfl) (by kernel_rfl) (fun _ _ _ h => h) (Or.inl ⟨by rfl, ?y12⟩) (by assumption) ?r12
  case y12 => intro w hSw; (try dsimp only at hSw); go_simp; (try rfl)
  try simp only [Act.put, List.setIfInBounds_toArray, List.set_cons_zero, List.set_cons_succ]
  refine takeD (i := 13) (v := ?v13) (some 25) #[true, true, true, true, true, true, true, true, true, true, true, true, true, true, true, false, false, false, false] rfl rfl rfl (by kernel_rfl) (by kernel_rfl) (by kernel_rfl) (fun _ _ _ h => h) (Or.inl ⟨by rfl, ?y13⟩) (by assumption) ?r13
  case y13 => intro w hSw; (try dsimp only at hSw); go_simp; (try rfl)
  try simp only [Act.put, List.setIfInBounds_toArray, List.set_cons_zero, List.set_cons_succ]
  refine takeD (i := 15) (v := ?v15) (some 27) #[true, true, true, true, true, true, true, true, true, true, true, true, true, true, true, true, false, false, false] rfl rfl rfl (by kernel_rfl) (by kernel_rfl) (by kernel_rfl) (fun _ _ _ h => h) (Or.inl ⟨by rfl, ?y15⟩) (by assumption) ?r15
  case y15 => intro w hSw; (try dsimp only at hSw); go_simp; (try rfl)
  try simp only [Act.put, List.setIfInBounds_toArray, List.set_cons_zero, List.set_cons_succ]
  refine wpAnyH_ready (rs := [16]) (by kernel_rfl) (by simp) ?_
  refine AllReadyH.cons rfl (fun K hK => ?_) AllReadyH.nil
  go_simp
  refine hK.out _ _ (KEEP.out _ (hb1'.alloc hb1'.size _)) (fun hHeldN17 => ?_)
  clear hK K
  try simp only [Act.put, List.setIfInBounds_toArray, List.set_cons_zero, List.set_cons_succ]
  refine wpAnyH_ready (rs := [17]) (by kernel_rfl) (by simp) ?_
  refine AllReadyH.cons rfl (fun K hK => ?_) AllReadyH.nil
  go_simp
  go_at_call 24
  refine (first2_true i (!op) a1 a1 w1.heap.size _ (World.alloc_heap_new _ _)).mono ?_
  rintro e w2 ⟨rfl, hb2⟩
  have hb2' : Below W.heap.size W w2 := (hb1'.alloc hb1'.size _).trans (hb2.mono (by have := hb1'.size; simp; omega))
  refine hK.out _ _ (KEEP.out _ hb2') (fun hHeldN18 => ?_)
  clear hK K
  try simp only [Act.put, List.setIfInBounds_toArray, List.set_cons_zero, List.set_cons_succ]
  refine takeD (i := 18) (v := ?v18) (some 8) #[true, true, true, true, true, true, true, true, true, true, true, true, true, true, true, true, true, true, true] rfl rfl rfl (by kernel_rfl) (by kernel_rfl) (by kernel_rfl) (fun _ _ _ h => h) (Or.inl ⟨by rfl, ?y18⟩) (by assumption) ?r18
  case y18 => intro w hSw; (try dsimp only at hSw); go_simp; (try rfl)
  try simp only [Act.put, List.setIfInBounds_toArray, List.set_cons_zero, List.set_cons_succ]
  refine wpAnyH_done (by kernel_rfl) ?_ _
  have HB2 := Lib.hid hb2'
  clear hb1 hb1' hb2 hb2' kB kS kO kG
  go_wp2_with fail
  refine leaves_cons (f := 77) (args := #[.pointer (some ⟨w.heap.size + 1, 0, none⟩), .pointer (some ⟨w.heap.size, 0, none⟩)]) (by simp) (by simp [go_sem]) ?_
  have hu2 : ufRow g v op w2 := (HB2.out.block g (by have := HR.out.cells.2.2.2.2; omega)).trans ((HBW.out.block g HR.out.cells.2.2.2.2).trans HR.out)
  refine (row1_d g (w.heap.size + 1) w.heap.size v op s .returning _ hu2 (KEEP.out w2 HB2.out).2.2.1 (KEEP.out w2 HB2.out).2.1).mono ?_
  rintro e u' w3 ⟨rfl, rfl, rfl⟩
  exact ⟨_, results_tmp rfl _ _ _, ⟨i, rfl⟩, Chg.setCell (p := ⟨g, 1, none⟩) (Chg.of_below (HBW.out.trans (HB2.out.mono (by omega)))) (.inl rfl) _⟩
set_option maxRecDepth 100000 in
set_option maxHeartbeats 4000000 in
theorem row_mclosed (g base : Nat) (v : Value) (ls : List (List Int)) (s : ByteArray) (i : Int) (a1 : Addr) (w : World) (hr : ufRow g v false w) (ho : rowOf base v ls w) (hlen : ls.length ≤ 100000) (hs : s.size ≤ 100000) (hb : base ≤ w.heap.size)
    (hG : w.cell? ⟨1, 0, none⟩ = some (ese a1)) (hp : Lib.hasPrefix s.data.toList [32] = true) (hcf : cfB s = false) :
    Calls Tryz.prog 49 #[.pointer (some ⟨g, 0, none⟩), .int .i64 i, .string s] w fun e w' => RowE (none) g base v a1 w e w' := by
  have hmf : ∀ (fn : Fn) (first cap : Array Value) (w : World), (Instr.makeFunc fn first cap).run Tryz.prog w = .ok (.func fn first cap) w := fun _ _ _ _ => rfl
  obtain ⟨W, hW⟩ : ∃ W, (w.alloc (.cells #[.pointer (some ⟨g, 0, none⟩)] 75)).alloc (.cells #[.string s] 9) = W := ⟨_, rfl⟩
  have hsz : W.heap.size = w.heap.size + 2 := by rw [← hW]; simp
  have hbW : Below w.heap.size w W := by rw [← hW]; exact bl_alloc (bl_alloc (Below.refl _ _) _) _
  have rB : W.heap[w.heap.size]? = some (.cells #[.pointer (some ⟨g, 0, none⟩)] 75 (0, 0)) := by rw [← hW]; repeat (first | exact ag_new _ _ _ (by simp) | refine ag_old ?_)
  have rS : W.heap[w.heap.size + 1]? = some (.cells #[.string s] 9 (0, 0)) := by rw [← hW]; repeat (first | exact ag_new _ _ _ (by simp) | refine ag_old ?_)
  have hlt := hr.cells.2.2.2.2
  have hr2 : ufRow g v false W := (hbW.block g hlt).trans hr
  have hGl := lt_of_cell hG
  have KEEP := Lib.hid (fun (w' : World) (hb' : Below W.heap.size W w') => (⟨hb', cell_of_row w' _ 0 _ _ _ ((Chg.of_below (S := fun _ => False) hb').heap rB (fun h => h)), cell_of_row w' _ 0 _ _ _ ((Chg.of_below (S := fun _ => False) hb').heap rS (fun h => h)),
    (ufRow.cells (show ufRow g v false w' from (Chg.of_below (S := fun _ => False) hb').heap hr2 (fun h => h))).2.1, (hb'.cell (p := ⟨1, 0, none⟩) (by show 1 < _; omega)).trans ((hbW.cell (p := ⟨1, 0, none⟩) hGl).trans hG)⟩ :
    Below W.heap.size W w' ∧ w'.cell? ⟨w.heap.size, 0, none⟩ = some (.pointer (some ⟨g, 0, none⟩)) ∧ w'.cell? ⟨w.heap.size + 1, 0, none⟩ = some (.string s) ∧ w'.cell? ⟨g, 1, none⟩ = some (.bool false) ∧ w'.cell? ⟨1, 0, none⟩ = some (ese a1)))
  have HCF := Lib.hid (fun w => contF_c s w)
  rw [hcf] at HCF
  have HP := Lib.hid (fun W => pre_c s true hp W)
  clear hcf
  have HR := Lib.hid hr
  have HO := Lib.hid ho
  have HBW := Lib.hid hbW
  have RBW := Lib.hid rB
  have RSW := Lib.hid rS
  clear hr ho hr2 rB rS hbW hG hGl
  obtain ⟨_, kB, kS, kO, kG⟩ := KEEP.out _ (Below.refl _ _)
  go_enter_defers Tryz.func49, Tryz.ntmps49
  go_wp2_with fail
  clear hW
  refine (HP.out _).mono ?_
  rintro e w1 ⟨rfl, hw1⟩
  subst w1
  go_wp2_with fail
  refine wp_only ?_
  refine wp_region_held_drew (S := fun w' => Below W.heap.size W w' ∧ w'.cell? ⟨w.heap.size, 0, none⟩ = some (.pointer (some ⟨g, 0, none⟩)) ∧ w'.cell? ⟨w.heap.size + 1, 0, none⟩ = some (.string s) ∧ w'.cell? ⟨g, 1, none⟩ = some (.bool false) ∧ w'.cell? ⟨1, 0, none⟩ = some (ese a1)) (by kernel_rfl) (KEEP.out _ (Below.drew (Below.refl _ _))) (fun hHeld => ?_)
  refine takeD (i := 0) (v := ?v0) (some 12) #[true, false, false, false, false, false, false, false, false, false, false, false, false, false, false, false, false, false, false] rfl rfl rfl (by kernel_rfl) (by kernel_rfl) (by kernel_rfl) (fun _ _ _ h => h) (Or.inl ⟨by rfl, ?y0⟩) (by assumption) ?r0
  case y0 => intro w hSw; (try dsimp only at hSw); go_simp; (try rfl)
  try simp only [Act.put, List.setIfInBounds_toArray, List.set_cons_zero, List.set_cons_succ]
  refine takeD (i := 1) (v := ?v1) (some 13) #[true, true, false, false, false, false, false, false, false, false, false, false, false, false, false, false, false, false, false] rfl rfl rfl (by kernel_rfl) (by kernel_rfl) (by kernel_rfl) (fun _ _ _ h => h) (Or.inl ⟨by rfl, ?y1⟩) (by assumption) ?r1
  case y1 => intro w hSw; (try dsimp only at hSw); go_simp; (try rfl)
  try simp only [Act.put, List.setIfInBounds_toArray, List.set_cons_zero, List.set_cons_succ]
  refine takeD (i := 3) (v := ?v3) (some 15) #[true, true, false, true, false, false, false, false, false, false, false, false, false, false, false, false, false, false, false] rfl rfl rfl (by kernel_rfl) (by kernel_rfl) (by kernel_rfl) (fun _ _ _ h => h) (Or.inl ⟨by rfl, ?y3⟩) (by assumption) ?r3
  case y3 => intro w hSw; (try dsimp only at hSw); go_simp; (try rfl)
  try simp only [Act.put, List.setIfInBounds_toArray, List.set_cons_zero, List.set_cons_succ]
  refine takeD (i := 5) (v := ?v5) (some 17) #[true, true, false, true, false, true, false, false, false, false, false, false, false, false, false, false, false, false, false] rfl rfl rfl (by kernel_rfl) (by kernel_rfl) (by kernel_rfl) (fun _ _ _ h => h) (Or.inl ⟨by rfl, ?y5⟩) (by assumption) ?r5
  case y5 => intro w hSw; (try dsimp only at hSw); go_simp; (try rfl)
  try simp only [Act.put, List.setIfInBounds_toArray, List.set_cons_zero, List.set_cons_succ]
  refine takeD (i := 14) (v := ?v14) (some 26) #[true, true, false, true, false, true, false, false, false, false, false, false, false, false, true, false, false, false, false] rfl rfl rfl (by kernel_rfl) (by kernel_rfl) (by kernel_rfl) (fun _ _ _ h => h) (Or.inl ⟨by rfl, ?y14⟩) (by assumption) ?r14
  case y14 => intro w hSw; (try dsimp only at hSw); go_simp; (try rfl)
  try simp only [Act.put, List.setIfInBounds_toArray, List.set_cons_zero, List.set_cons_succ]
  refine wpAnyH_ready (rs := [2]) (by kernel_rfl) (by simp) ?_
  refine AllReadyH.cons rfl (fun K hK => ?_) AllReadyH.nil
  go_simp
  go_at_call 52
  refine (HCF.out _).mono ?_
  rintro e w1 ⟨rfl, hb1⟩
  have hb1' : Below W.heap.size W w1 := (Below.drew (Below.refl _ _)).trans hb1
  refine hK.out _ _ (KEEP.out _ hb1') (fun hHeldN6 => ?_)
  clear hK K
  try simp only [Act.put, List.setIfInBounds_toArray, List.set_cons_zero, List.set_cons_succ]
  refine takeD (i := 4) (v := ?v4) (some 16) #[true, true, true, true, true, true, false, false, false, false, false, false, false, false, true, false, false, false, false] rfl rfl rfl (by kernel_rfl) (by kernel_rfl) (by kernel_rfl) (fun _ _ _ h => h) (Or.inl ⟨by rfl, ?y4⟩) (by assumption) ?r4
  case y4 => intro w hSw; (try dsimp only at hSw); go_simp; (try rfl)
  try simp only [Act.put, List.setIfInBounds_toArray, List.set_cons_zero, List.set_cons_succ]
  refine takeD (i := 6) (v := ?v6) (some 18) #[true, true, true, true, true, true, true, false, false, false, false, false, false, false, true, false, false, false, false] rfl rfl rfl (by kernel_rfl) (by kernel_rfl) (by kernel_rfl) (fun _ _ _ h => h) (Or.inl ⟨by rfl, ?y6⟩) (by assumption) ?r6
  case y6 => intro w hSw; (try dsimp only at hSw); go_simp; (try rfl)
  try simp only [Act.put, List.setIfInBounds_toArray, List.set_cons_zero, List.set_cons_succ]
  refine takeD (i := 7) (v := ?v7) (some 19) #[true, true, true, true, true, true, true, true, false, false, false, false, false, false, true, false, false, false, false] rfl rfl rfl (by kernel_rfl) (by kernel_rfl) (by kernel_rfl) (fun _ _ _ h => h) (Or.inl ⟨by rfl, ?y7⟩) (by assumption) ?r7
  case y7 => intro w hSw; (try dsimp only at hSw); go_simp; (try rfl)
  try simp only [Act.put, List.setIfInBounds_toArray, List.set_cons_zero, List.set_cons_succ]
  refine takeD (i := 8) (v := ?v8) (some 20) #[true, true, true, true, true, true, true, true, true, false, false, false, false, false, true, false, false, false, false] rfl rfl rfl (by kernel_rfl) (by kernel_rfl) (by kernel_rfl) (fun _ _ _ h => h) (Or.inl ⟨by rfl, ?y8⟩) (by assumption) ?r8
  case y8 => intro w hSw; (try dsimp only at hSw); go_simp; (try rfl)
  try simp only [Act.put, List.setIfInBounds_toArray, List.set_cons_zero, List.set_cons_succ]
  refine takeD (i := 9) (v := ?v9) (some 21) #[true, true, true, true, true, true, true, true, true, true, false, false, false, false, true, false, false, false, false] rfl rfl rfl (by kernel_rfl) (by kernel_rfl) (by kernel_rfl) (fun _ _ _ h => h) (Or.inl ⟨by rfl, ?y9⟩) (by assumption) ?r9
  case y9 => intro w hSw; (try dsimp only at hSw); go_simp; (try rfl)
  try simp only [Act.put, List.setIfInBounds_toArray, List.set_cons_zero, List.set_cons_succ]
  refine takeD (i := 10) (v := ?v10) (some 22) #[true, true, true, true, true, true, true, true, true, true, true, false, false, false, true, false, false, false, false] rfl rfl rfl (by kernel_rfl) (by kernel_rfl) (by kernel_rfl) (fun _ _ _ h => h) (Or.inl ⟨by rfl, ?y10⟩) (by assumption) ?r10
  case y10 => intro w hSw; (try dsimp only at hSw); go_simp; (try rfl)
  try simp only [Act.put, List.setIfInBounds_toArray, List.set_cons_zero, List.set_cons_succ]
  refine takeD (i := 11) (v := ?v11) (some 23) #[true, true, true, true, true, true, true, true, true, true, true, true, false, false, true, false, false, false, false] rfl rfl rfl (by kernel_rfl) (by kernel_rfl) (by kernel_rfl) (fun _ _ _ h => h) (Or.inl ⟨by rfl, ?y11⟩) (by assumption) ?r11
  case y11 => intro w hSw; (try dsimp only at hSw); go_simp; (try rfl)
  try simp only [Act.put, List.setIfInBounds_toArray, List.set_cons_zero, List.set_cons_succ]
  refine takeD (i := 12) (v := ?v12) (some 24) #[true, true, true, true, true, true, true, true, true, true, true, true, true, false, true, false, false, false, false] rfl rfl rfl (by kernel_rfl) (by kernel_rfl) (by kernel_rfl) (fun _ _ _ h => h) (Or.inl ⟨by rfl, ?y12⟩) (by assumption) ?r12
  case y12 => intro w hSw; (try dsimp only at hSw); go_simp; (try rfl)
  try simp only [Act.put, List.setIfInBounds_toArray, List.set_cons_zero, List.set_cons_succ]
  refine takeD (i := 13) (v := ?v13) (some 25) #[true, true, true, true, true, true, true, true, true, true, true, true, true, true, true, false, false, false, false] rfl rfl rfl (by kernel_rfl) (by kernel_rfl) (by kernel_rfl) (fun _ _ _ h => h) (Or.inl ⟨by rfl, ?y13⟩) (by assumption) ?r13
  case y13 => intro w hSw; (try dsimp only at hSw); go_simp; (try rfl)
  try simp only [Act.put, List.setIfInBounds_toArray, List.set_cons_zero, List.set_cons_succ]
  refine takeD (i := 15) (v := ?v15) (some 27) #[true, true, true, true, true, true, true, true, true, true, true, true, true, true, true, true, false, false, false] rfl rfl rfl (by kernel_rfl) (by kernel_rfl) (by kernel_rfl) (fun _ _ _ h => h) (Or.inl ⟨by rfl, ?y15⟩) (by assumption) ?r15
  case y15 => intro w hSw; (try dsimp only at hSw); go_simp; (try rfl)
  try simp only [Act.put, List.setIfInBounds_toArray, List.set_cons_zero, List.set_cons_succ]
  refine wpAnyH_ready (rs := [16]) (by kernel_rfl) (by simp) ?_
  refine AllReadyH.cons rfl (fun K hK => ?_) AllReadyH.nil
  go_simp
  refine hK.out _ _ (KEEP.out _ (hb1'.alloc hb1'.size _)) (fun hHeldN17 => ?_)
  clear hK K
  try simp only [Act.put, List.setIfInBounds_toArray, List.set_cons_zero, List.set_cons_succ]
  refine wpAnyH_ready (rs := [17]) (by kernel_rfl) (by simp) ?_
  refine AllReadyH.cons rfl (fun K hK => ?_) AllReadyH.nil
  go_simp
  go_at_call 24
  refine (first2_false_true i a1 a1 w1.heap.size _ (World.alloc_heap_new _ _)).mono ?_
  rintro e w2 ⟨rfl, hb2⟩
  have hb2' : Below W.heap.size W w2 := (hb1'.alloc hb1'.size _).trans (hb2.mono (by have := hb1'.size; simp; omega))
  refine hK.out _ _ (KEEP.out _ hb2') (fun hHeldN18 => ?_)
  clear hK K
  try simp only [Act.put, List.setIfInBounds_toArray, List.set_cons_zero, List.set_cons_succ]
  refine takeD (i := 18) (v := ?v18) (some 8) #[true, true, true, true, true, true, true, true, true, true, true, true, true, true, true, true, true, true, true] rfl rfl rfl (by kernel_rfl) (by kernel_rfl) (by kernel_rfl) (fun _ _ _ h => h) (Or.inl ⟨by rfl, ?y18⟩) (by assumption) ?r18
  case y18 => intro w hSw; (try dsimp only at hSw); go_simp; (try rfl)
  try simp only [Act.put, List.setIfInBounds_toArray, List.set_cons_zero, List.set_cons_succ]
  refine wpAnyH_done (by kernel_rfl) ?_ _
  have HB2 := Lib.hid hb2'
  clear hb1 hb1' hb2 hb2' kB kS kO kG
  go_wp2_with fail
  refine leaves_cons (f := 77) (args := #[.pointer (some ⟨w.heap.size + 1, 0, none⟩), .pointer (some ⟨w.heap.size, 0, none⟩)]) (by simp) (by simp [go_sem]) ?_
  have hu2 : ufRow g v false w2 := (HB2.out.block g (by have := HR.out.cells.2.2.2.2; omega)).trans ((HBW.out.block g HR.out.cells.2.2.2.2).trans HR.out)
  refine (row1_d g (w.heap.size + 1) w.heap.size v false s .returning _ hu2 (KEEP.out w2 HB2.out).2.2.1 (KEEP.out w2 HB2.out).2.1).mono ?_
  rintro e u' w3 ⟨rfl, rfl, rfl⟩
  exact ⟨_, results_tmp rfl _ _ _, ⟨i, rfl⟩, Chg.setCell (p := ⟨g, 1, none⟩) (Chg.of_below (HBW.out.trans (HB2.out.mono (by omega)))) (.inl rfl) _⟩
set_option maxRecDepth 100000 in
set_option maxHeartbeats 4000000 in
theorem row_nok (g base : Nat) (v : Value) (op : Bool) (ls : List (List Int)) (s : ByteArray) (i : Int) (a1 : Addr) (w : World) (hr : ufRow g v op w) (ho : rowOf base v ls w) (hlen : ls.length ≤ 100000) (hs : s.size ≤ 100000) (hb : base ≤ w.heap.size)
    (hG : w.cell? ⟨1, 0, none⟩ = some (ese a1)) (hp : Lib.hasPrefix s.data.toList [32] = false) (hcf : cfB s = false) :
    Calls Tryz.prog 49 #[.pointer (some ⟨g, 0, none⟩), .int .i64 i, .string s] w fun e w' => RowE (some (ls ++ [bl s], !s.toList.isEmpty)) g base v a1 w e w' := by
  have hmf : ∀ (fn : Fn) (first cap : Array Value) (w : World), (Instr.makeFunc fn first cap).run Tryz.prog w = .ok (.func fn first cap) w := fun _ _ _ _ => rfl
  obtain ⟨W, hW⟩ : ∃ W, (w.alloc (.cells #[.pointer (some ⟨g, 0, none⟩)] 75)).alloc (.cells #[.string s] 9) = W := ⟨_, rfl⟩
  have hsz : W.heap.size = w.heap.size + 2 := by rw [← hW]; simp
  have hbW : Below w.heap.size w W := by rw [← hW]; exact bl_alloc (bl_alloc (Below.refl _ _) _) _
  have rB : W.heap[w.heap.size]? = some (.cells #[.pointer (some ⟨g, 0, none⟩)] 75 (0, 0)) := by rw [← hW]; repeat (first | exact ag_new _ _ _ (by simp) | refine ag_old ?_)
  have rS : W.heap[w.heap.size + 1]? = some (.cells #[.string s] 9 (0, 0)) := by rw [← hW]; repeat (first | exact ag_new _ _ _ (by simp) | refine ag_old ?_)
  have hlt := hr.cells.2.2.2.2
  have hr2 : ufRow g v op W := (hbW.block g hlt).trans hr
  have hGl := lt_of_cell hG
  have KEEP := Lib.hid (fun (w' : World) (hb' : Below W.heap.size W w') => (⟨hb', cell_of_row w' _ 0 _ _ _ ((Chg.of_below (S := fun _ => False) hb').heap rB (fun h => h)), cell_of_row w' _ 0 _ _ _ ((Chg.of_below (S := fun _ => False) hb').heap rS (fun h => h)),
    (ufRow.cells (show ufRow g v op w' from (Chg.of_below (S := fun _ => False) hb').heap hr2 (fun h => h))).2.1, (hb'.cell (p := ⟨1, 0, none⟩) (by show 1 < _; omega)).trans ((hbW.cell (p := ⟨1, 0, none⟩) hGl).trans hG)⟩ :
    Below W.heap.size W w' ∧ w'.cell? ⟨w.heap.size, 0, none⟩ = some (.pointer (some ⟨g, 0, none⟩)) ∧ w'.cell? ⟨w.heap.size + 1, 0, none⟩ = some (.string s) ∧ w'.cell? ⟨g, 1, none⟩ = some (.bool op) ∧ w'.cell? ⟨1, 0, none⟩ = some (ese a1)))
  have HCF := Lib.hid (fun w => contF_c s w)
  rw [hcf] at HCF
  have HP := Lib.hid (fun W => pre_c s false hp W)
  clear hcf
  have HR := Lib.hid hr
  have HO := Lib.hid ho
  have HBW := Lib.hid hbW
  have RBW := Lib.hid rB
  have RSW := Lib.hid rS
  clear hr ho hr2 rB rS hbW hG hGl
  obtain ⟨_, kB, kS, kO, kG⟩ := KEEP.out _ (Below.refl _ _)
  go_enter_defers Tryz.func49, Tryz.ntmps49
  go_wp2_with fail
  clear hW
  refine (HP.out _).mono ?_
  rintro e w1 ⟨rfl, hw1⟩
  subst w1
  go_wp2_with fail
  refine wp_only ?_
  refine wp_region_held_drew (S := fun w' => Below W.heap.size W w' ∧ w'.cell? ⟨w.heap.size, 0, none⟩ = some (.pointer (some ⟨g, 0, none⟩)) ∧ w'.cell? ⟨w.heap.size + 1, 0, none⟩ = some (.string s) ∧ w'.cell? ⟨g, 1, none⟩ = some (.bool op) ∧ w'.cell? ⟨1, 0, none⟩ = some (ese a1)) (by kernel_rfl) (KEEP.out _ (Below.drew (Below.refl _ _))) (fun hHeld => ?_)
  refine takeD (i := 0) (v := ?v0) (some 12) #[true, false, false, false, false, false, false, false, false, false, false, false, false, false, false, false, false, false, false] rfl rfl rfl (by kernel_rfl) (by kernel_rfl) (by kernel_rfl) (fun _ _ _ h => h) (Or.inl ⟨by rfl, ?y0⟩) (by assumption) ?r0
  case y0 => intro w hSw; (try dsimp only at hSw); go_simp; (try rfl)
  try simp only [Act.put, List.setIfInBounds_toArray, List.set_cons_zero, List.set_cons_succ]
  refine takeD (i := 1) (v := ?v1) (some 13) #[true, true, false, false, false, false, false, false, false, false, false, false, false, false, false, false, false, false, false] rfl rfl rfl (by kernel_rfl) (by kernel_rfl) (by kernel_rfl) (fun _ _ _ h => h) (Or.inl ⟨by rfl, ?y1⟩) (by assumption) ?r1
  case y1 => intro w hSw; (try dsimp only at hSw); go_simp; (try rfl)
  try simp only [Act.put, List.setIfInBounds_toArray, List.set_cons_zero, List.set_cons_succ]
  refine takeD (i := 3) (v := ?v3) (some 15) #[true, true, false, true, false, false, false, false, false, false, false, false, false, false, false, false, false, false, false] rfl rfl rfl (by kernel_rfl) (by kernel_rfl) (by kernel_rfl) (fun _ _ _ h => h) (Or.inl ⟨by rfl, ?y3⟩) (by assumption) ?r3
  case y3 => intro w hSw; (try dsimp only at hSw); go_simp; (try rfl)
  try simp only [Act.put, List.setIfInBounds_toArray, List.set_cons_zero, List.set_cons_succ]
  refine takeD (i := 5) (v := ?v5) (some 17) #[true, true, false, true, false, true, false, false, false, false, false, false, false, false, false, false, false, false, false] rfl rfl rfl (by kernel_rfl) (by kernel_rfl) (by kernel_rfl) (fun _ _ _ h => h) (Or.inl ⟨by rfl, ?y5⟩) (by assumption) ?r5
  case y5 => intro w hSw; (try dsimp only at hSw); go_simp; (try rfl)
  try simp only [Act.put, List.setIfInBounds_toArray, List.set_cons_zero, List.set_cons_succ]
  refine takeD (i := 14) (v := ?v14) (some 26) #[true, true, false, true, false, true, false, false, false, false, false, false, false, false, true, false, false, false, false] rfl rfl rfl (by kernel_rfl) (by kernel_rfl) (by kernel_rfl) (fun _ _ _ h => h) (Or.inl ⟨by rfl, ?y14⟩) (by assumption) ?r14
  case y14 => intro w hSw; (try dsimp only at hSw); go_simp; (try rfl)
  try simp only [Act.put, List.setIfInBounds_toArray, List.set_cons_zero, List.set_cons_succ]
  refine wpAnyH_ready (rs := [2]) (by kernel_rfl) (by simp) ?_
  refine AllReadyH.cons rfl (fun K hK => ?_) AllReadyH.nil
  go_simp
  go_at_call 52
  refine (HCF.out _).mono ?_
  rintro e w1 ⟨rfl, hb1⟩
  have hb1' : Below W.heap.size W w1 := (Below.drew (Below.refl _ _)).trans hb1
  refine hK.out _ _ (KEEP.out _ hb1') (fun hHeldN6 => ?_)
  clear hK K
  try simp only [Act.put, List.setIfInBounds_toArray, List.set_cons_zero, List.set_cons_succ]
  refine takeD (i := 4) (v := ?v4) (some 16) #[true, true, true, true, true, true, false, false, false, false, false, false, false, false, true, false, false, false, false] rfl rfl rfl (by kernel_rfl) (by kernel_rfl) (by kernel_rfl) (fun _ _ _ h => h) (Or.inl ⟨by rfl, ?y4⟩) (by assumption) ?r4
  case y4 => intro w hSw; (try dsimp only at hSw); go_simp; (try rfl)
  try simp only [Act.put, List.setIfInBounds_toArray, List.set_cons_zero, List.set_cons_succ]
  refine takeD (i := 6) (v := ?v6) (some 18) #[true, true, true, true, true, true, true, false, false, false, false, false, false, false, true, false, false, false, false] rfl rfl rfl (by kernel_rfl) (by kernel_rfl) (by kernel_rfl) (fun _ _ _ h => h) (Or.inl ⟨by rfl, ?y6⟩) (by assumption) ?r6
  case y6 => intro w hSw; (try dsimp only at hSw); go_simp; (try rfl)
  try simp only [Act.put, List.setIfInBounds_toArray, List.set_cons_zero, List.set_cons_succ]
  refine takeD (i := 7) (v := undef) (some 19) #[true, true, true, true, true, true, true, true, false, false, false, false, false, false, true, false, false, false, false] rfl rfl rfl (by kernel_rfl) (by kernel_rfl) (by kernel_rfl) (fun _ _ _ h => h) (Or.inr ⟨by rfl, rfl⟩) (by assumption) ?r7
  try simp only [Act.put, List.setIfInBounds_toArray, List.set_cons_zero, List.set_cons_succ]
  refine takeD (i := 8) (v := undef) (some 20) #[true, true, true, true, true, true, true, true, true, false, false, false, false, false, true, false, false, false, false] rfl rfl rfl (by kernel_rfl) (by kernel_rfl) (by kernel_rfl) (fun _ _ _ h => h) (Or.inr ⟨by rfl, rfl⟩) (by assumption) ?r8
  try simp only [Act.put, List.setIfInBounds_toArray, List.set_cons_zero, List.set_cons_succ]
  refine takeD (i := 9) (v := undef) (some 21) #[true, true, true, true, true, true, true, true, true, true, false, false, false, false, true, false, false, false, false] rfl rfl rfl (by kernel_rfl) (by kernel_rfl) (by kernel_rfl) (fun _ _ _ h => h) (Or.inr ⟨by rfl, rfl⟩) (by assumption) ?r9
  try simp only [Act.put, List.setIfInBounds_toArray, List.set_cons_zero, List.set_cons_succ]
  refine takeD (i := 10) (v := undef) (some 22) #[true, true, true, true, true, true, true, true, true, true, true, false, false, false, true, false, false, false, false] rfl rfl rfl (by kernel_rfl) (by kernel_rfl) (by kernel_rfl) (fun _ _ _ h => h) (Or.inr ⟨by rfl, rfl⟩) (by assumption) ?r10
  try simp only [Act.put, List.setIfInBounds_toArray, List.set_cons_zero, List.set_cons_succ]
  refine takeD (i := 11) (v := undef) (some 23) #[true, true, true, true, true, true, true, true, true, true, true, true, false, false, true, false, false, false, false] rfl rfl rfl (by kernel_rfl) (by kernel_rfl) (by kernel_rfl) (fun _ _ _ h => h) (Or.inr ⟨by rfl, rfl⟩) (by assumption) ?r11
  try simp only [Act.put, List.setIfInBounds_toArray, List.set_cons_zero, List.set_cons_succ]
  refine takeD (i := 12) (v := undef) (some 24) #[true, true, true, true, true, true, true, true, true, true, true, true, true, false, true, false, false, false, false] rfl rfl rfl (by kernel_rfl) (by kernel_rfl) (by kernel_rfl) (fun _ _ _ h => h) (Or.inr ⟨by rfl, rfl⟩) (by assumption) ?r12
  try simp only [Act.put, List.setIfInBounds_toArray, List.set_cons_zero, List.set_cons_succ]
  refine takeD (i := 13) (v := ?v13) (some 25) #[true, true, true, true, true, true, true, true, true, true, true, true, true, true, true, false, false, false, false] rfl rfl rfl (by kernel_rfl) (by kernel_rfl) (by kernel_rfl) (fun _ _ _ h => h) (Or.inl ⟨by rfl, ?y13⟩) (by assumption) ?r13
  case y13 => intro w hSw; (try dsimp only at hSw); go_simp; (try rfl)
  try simp only [Act.put, List.setIfInBounds_toArray, List.set_cons_zero, List.set_cons_succ]
  refine takeD (i := 15) (v := ?v15) (some 27) #[true, true, true, true, true, true, true, true, true, true, true, true, true, true, true, true, false, false, false] rfl rfl rfl (by kernel_rfl) (by kernel_rfl) (by kernel_rfl) (fun _ _ _ h => h) (Or.inl ⟨by rfl, ?y15⟩) (by assumption) ?r15
  case y15 => intro w hSw; (try dsimp only at hSw); go_simp; (try rfl)
  try simp only [Act.put, List.setIfInBounds_toArray, List.set_cons_zero, List.set_cons_succ]
  refine wpAnyH_ready (rs := [16]) (by kernel_rfl) (by simp) ?_
  refine AllReadyH.cons rfl (fun K hK => ?_) AllReadyH.nil
  go_simp
  refine hK.out _ _ (KEEP.out _ (hb1'.alloc hb1'.size _)) (fun hHeldN11 => ?_)
  clear hK K
  try simp only [Act.put, List.setIfInBounds_toArray, List.set_cons_zero, List.set_cons_succ]
  refine wpAnyH_ready (rs := [17]) (by kernel_rfl) (by simp) ?_
  refine AllReadyH.cons rfl (fun K hK => ?_) AllReadyH.nil
  go_simp
  go_at_call 24
  refine (first2_false_false i a1 a1 w1.heap.size _ (World.alloc_heap_new _ _)).mono ?_
  rintro e w2 ⟨rfl, hb2⟩
  have hb2' : Below W.heap.size W w2 := (hb1'.alloc hb1'.size _).trans (hb2.mono (by have := hb1'.size; simp; omega))
  refine hK.out _ _ (KEEP.out _ hb2') (fun hHeldN12 => ?_)
  clear hK K
  try simp only [Act.put, List.setIfInBounds_toArray, List.set_cons_zero, List.set_cons_succ]
  refine takeD (i := 18) (v := ?v18) (some 8) #[true, true, true, true, true, true, true, true, true, true, true, true, true, true, true, true, true, true, true] rfl rfl rfl (by kernel_rfl) (by kernel_rfl) (by kernel_rfl) (fun _ _ _ h => h) (Or.inl ⟨by rfl, ?y18⟩) (by assumption) ?r18
  case y18 => intro w hSw; (try dsimp only at hSw); go_simp; (try rfl)
  try simp only [Act.put, List.setIfInBounds_toArray, List.set_cons_zero, List.set_cons_succ]
  refine wpAnyH_done (by kernel_rfl) ?_ _
  have HB2 := Lib.hid hb2'
  have hu2 : ufRow g v op w2 := (HB2.out.block g (by have := HR.out.cells.2.2.2.2; omega)).trans ((HBW.out.block g HR.out.cells.2.2.2.2).trans HR.out)
  have ho2 : rowOf base v ls w2 := own_move HO.out (fun r hr => by
    have := own_lt HO.out r hr
    exact (HB2.out.block r (by omega)).trans (HBW.out.block r this))
  have rB2 := (Chg.of_below (S := fun _ => False) HB2.out).heap RBW.out (fun h => h)
  have rS2 := (Chg.of_below (S := fun _ => False) HB2.out).heap RSW.out (fun h => h)
  have hnB : ∀ j, w.heap.size ≤ j → ¬ (j = g ∨ v.ownBlock = some j) := fun j hj h => h.elim (fun e => by have := HR.out.cells.2.2.2.2; omega) (fun e => by have := own_lt HO.out j e; omega)
  have hs2 : w.heap.size ≤ w2.heap.size := by have := HB2.out.size; omega
  have HU2 := Lib.hid hu2
  have HO2 := Lib.hid ho2
  have RB2 := Lib.hid rB2
  have RS2 := Lib.hid rS2
  have HNB := Lib.hid hnB
  clear hb1 hb1' hb2 hb2' kB kS kO kG hu2 ho2 rB2 rS2 hnB
  go_wp2_with fail
  refine wp_only ?_
  refine wp_region_held_drew (S := fun w' => w'.cell? ⟨w.heap.size, 0, none⟩ = some (.pointer (some ⟨g, 0, none⟩)) ∧ w'.cell? ⟨w.heap.size + 1, 0, none⟩ = some (.string s)) (by kernel_rfl) (⟨cell_of_row w2 _ 0 _ _ _ RB2.out, cell_of_row w2 _ 0 _ _ _ RS2.out⟩) (fun hHeld => ?_)
  refine takeD (i := 0) (v := ?vb0) (some 40) #[true, false, false, false, false] rfl rfl rfl (by kernel_rfl) (by kernel_rfl) (by kernel_rfl) (fun _ _ _ h => h) (Or.inl ⟨by rfl, ?yb0⟩) (by assumption) ?rb0
  case yb0 => intro w hSw; (try dsimp only at hSw); go_simp; (try rfl)
  try simp only [Act.put, List.setIfInBounds_toArray, List.set_cons_zero, List.set_cons_succ]
  refine takeD (i := 1) (v := ?vb1) (some 41) #[true, true, false, false, false] rfl rfl rfl (by kernel_rfl) (by kernel_rfl) (by kernel_rfl) (fun _ _ _ h => h) (Or.inl ⟨by rfl, ?yb1⟩) (by assumption) ?rb1
  case yb1 => intro w hSw; (try dsimp only at hSw); go_simp; (try rfl)
  try simp only [Act.put, List.setIfInBounds_toArray, List.set_cons_zero, List.set_cons_succ]
  refine takeD (i := 2) (v := ?vb2) (some 42) #[true, true, true, false, false] rfl rfl rfl (by kernel_rfl) (by kernel_rfl) (by kernel_rfl) (fun _ _ _ h => h) (Or.inl ⟨by rfl, ?yb2⟩) (by assumption) ?rb2
  case yb2 => intro w hSw; (try dsimp only at hSw); go_simp; (try rfl)
  try simp only [Act.put, List.setIfInBounds_toArray, List.set_cons_zero, List.set_cons_succ]
  refine takeD (i := 3) (v := ?vb3) (some 43) #[true, true, true, true, false] rfl rfl rfl (by kernel_rfl) (by kernel_rfl) (by kernel_rfl) (fun _ _ _ h => h) (Or.inl ⟨by rfl, ?yb3⟩) (by assumption) ?rb3
  case yb3 => intro w hSw; (try dsimp only at hSw); go_simp; (try rfl)
  try simp only [Act.put, List.setIfInBounds_toArray, List.set_cons_zero, List.set_cons_succ]
  refine wpAnyH_ready (rs := [4]) (by kernel_rfl) (by simp) ?_
  refine AllReadyH.cons rfl (fun K hK => ?_) AllReadyH.nil
  go_simp
  go_at_call 80
  refine (begin_c g base v op ls s w2.drew HU2.out HO2.out hlen (by show base ≤ w2.heap.size; omega)).mono ?_
  rintro e w3 ⟨rfl, v', hu3, ho3, ht3⟩
  have HU3 := Lib.hid hu3
  have HO3 := Lib.hid ho3
  have HT3 := Lib.hid ht3
  have RB3 := Lib.hid (HT3.out.1.heap (show w2.drew.heap[w.heap.size]? = _ from RB2.out) (HNB.out _ (Nat.le_refl _)))
  have RS3 := Lib.hid (HT3.out.1.heap (show w2.drew.heap[w.heap.size + 1]? = _ from RS2.out) (HNB.out _ (by omega)))
  clear hu3 ho3 ht3
  refine hK.out _ _ (⟨cell_of_row _ _ 0 _ _ _ RB3.out, cell_of_row _ _ 0 _ _ _ RS3.out⟩) (fun hHeldN5 => ?_)
  clear hK K
  try simp only [Act.put, List.setIfInBounds_toArray, List.set_cons_zero, List.set_cons_succ]
  refine wpAnyH_done (by kernel_rfl) ?_ _
  go_wp2_with fail
  refine leaves_cons (f := 77) (args := #[.pointer (some ⟨w.heap.size + 1, 0, none⟩), .pointer (some ⟨w.heap.size, 0, none⟩)]) (by simp) (by simp [go_sem]) ?_
  refine (row1_d g (w.heap.size + 1) w.heap.size v' op s .returning _ HU3.out (cell_of_row _ _ 0 _ _ _ RS3.out) (cell_of_row _ _ 0 _ _ _ RB3.out)).mono ?_
  rintro e u' w4 ⟨rfl, rfl, rfl⟩
  exact ⟨_, results_tmp rfl _ _ _, rfl, v', HU3.out.set1 _, HO3.out.set (uf_not_row HU3.out HO3.out) 1 _, Chg.setCell (p := ⟨g, 1, none⟩) ((Chg.of_below (HBW.out.trans ((Below.drew HB2.out).mono (by omega)))).trans HT3.out.1) (.inl rfl) _, fun r hr => (HT3.out.2 r hr).imp id (fun h => by have : w2.heap.size ≤ r := h; omega)⟩
set_option maxRecDepth 100000 in
set_option maxHeartbeats 4000000 in
theorem row_mopen (g base : Nat) (v : Value) (init : List (List Int)) (last : List Int) (s : ByteArray) (i : Int) (a1 : Addr) (w : World) (hr : ufRow g v true w) (ho : rowOf base v (init ++ [last]) w) (hlen : (init ++ [last]).length ≤ 100000) (hs : s.size ≤ 100000) (hb : base ≤ w.heap.size)
    (hG : w.cell? ⟨1, 0, none⟩ = some (ese a1)) (hp : Lib.hasPrefix s.data.toList [32] = true) (hcf : cfB s = false) (hla : last.length ≤ 800000) (h1s : 1 ≤ s.size) :
    Calls Tryz.prog 49 #[.pointer (some ⟨g, 0, none⟩), .int .i64 i, .string s] w fun e w' => RowE (some (init ++ [last ++ bl (s.extract 1 s.size)], !s.toList.isEmpty)) g base v a1 w e w' := by
  have hmf : ∀ (fn : Fn) (first cap : Array Value) (w : World), (Instr.makeFunc fn first cap).run Tryz.prog w = .ok (.func fn first cap) w := fun _ _ _ _ => rfl
  obtain ⟨W, hW⟩ : ∃ W, (w.alloc (.cells #[.pointer (some ⟨g, 0, none⟩)] 75)).alloc (.cells #[.string s] 9) = W := ⟨_, rfl⟩
  have hsz : W.heap.size = w.heap.size + 2 := by rw [← hW]; simp
  have hbW : Below w.heap.size w W := by rw [← hW]; exact bl_alloc (bl_alloc (Below.refl _ _) _) _
  have rB : W.heap[w.heap.size]? = some (.cells #[.pointer (some ⟨g, 0, none⟩)] 75 (0, 0)) := by rw [← hW]; repeat (first | exact ag_new _ _ _ (by simp) | refine ag_old ?_)
  have rS : W.heap[w.heap.size + 1]? = some (.cells #[.string s] 9 (0, 0)) := by rw [← hW]; repeat (first | exact ag_new _ _ _ (by simp) | refine ag_old ?_)
  have hlt := hr.cells.2.2.2.2
  have hr2 : ufRow g v true W := (hbW.block g hlt).trans hr
  have hGl := lt_of_cell hG
  have KEEP := Lib.hid (fun (w' : World) (hb' : Below W.heap.size W w') => (⟨hb', cell_of_row w' _ 0 _ _ _ ((Chg.of_below (S := fun _ => False) hb').heap rB (fun h => h)), cell_of_row w' _ 0 _ _ _ ((Chg.of_below (S := fun _ => False) hb').heap rS (fun h => h)),
    (ufRow.cells (show ufRow g v true w' from (Chg.of_below (S := fun _ => False) hb').heap hr2 (fun h => h))).2.1, (hb'.cell (p := ⟨1, 0, none⟩) (by show 1 < _; omega)).trans ((hbW.cell (p := ⟨1, 0, none⟩) hGl).trans hG)⟩ :
    Below W.heap.size W w' ∧ w'.cell? ⟨w.heap.size, 0, none⟩ = some (.pointer (some ⟨g, 0, none⟩)) ∧ w'.cell? ⟨w.heap.size + 1, 0, none⟩ = some (.string s) ∧ w'.cell? ⟨g, 1, none⟩ = some (.bool true) ∧ w'.cell? ⟨1, 0, none⟩ = some (ese a1)))
  have q1 : (1 : Int) ≤ s.size := by omega
  have HCF := Lib.hid (fun w => contF_c s w)
  rw [hcf] at HCF
  have HP := Lib.hid (fun W => pre_c s true hp W)
  clear hcf
  have HR := Lib.hid hr
  have HO := Lib.hid ho
  have HBW := Lib.hid hbW
  have RBW := Lib.hid rB
  have RSW := Lib.hid rS
  clear hr ho hr2 rB rS hbW hG hGl
  obtain ⟨_, kB, kS, kO, kG⟩ := KEEP.out _ (Below.refl _ _)
  go_enter_defers Tryz.func49, Tryz.ntmps49
  go_wp2_with fail
  clear hW
  refine (HP.out _).mono ?_
  rintro e w1 ⟨rfl, hw1⟩
  subst w1
  go_wp2_with fail
  refine wp_only ?_
  refine wp_region_held_drew (S := fun w' => Below W.heap.size W w' ∧ w'.cell? ⟨w.heap.size, 0, none⟩ = some (.pointer (some ⟨g, 0, none⟩)) ∧ w'.cell? ⟨w.heap.size + 1, 0, none⟩ = some (.string s) ∧ w'.cell? ⟨g, 1, none⟩ = some (.bool true) ∧ w'.cell? ⟨1, 0, none⟩ = some (ese a1)) (by kernel_rfl) (KEEP.out _ (Below.drew (Below.refl _ _))) (fun hHeld => ?_)
  refine takeD (i := 0) (v := ?v0) (some 12) #[true, false, false, false, false, false, false, false, false, false, false, false, false, false, false, false, false, false, false] rfl rfl rfl (by kernel_rfl) (by kernel_rfl) (by kernel_rfl) (fun _ _ _ h => h) (Or.inl ⟨by rfl, ?y0⟩) (by assumption) ?r0
  case y0 => intro w hSw; (try dsimp only at hSw); go_simp; (try rfl)
  try simp only [Act.put, List.setIfInBounds_toArray, List.set_cons_zero, List.set_cons_succ]
  refine takeD (i := 1) (v := ?v1) (some 13) #[true, true, false, false, false, false, false, false, false, false, false, false, false, false, false, false, false, false, false] rfl rfl rfl (by kernel_rfl) (by kernel_rfl) (by kernel_rfl) (fun _ _ _ h => h) (Or.inl ⟨by rfl, ?y1⟩) (by assumption) ?r1
  case y1 => intro w hSw; (try dsimp only at hSw); go_simp; (try rfl)
  try simp only [Act.put, List.setIfInBounds_toArray, List.set_cons_zero, List.set_cons_succ]
  refine takeD (i := 3) (v := ?v3) (some 15) #[true, true, false, true, false, false, false, false, false, false, false, false, false, false, false, false, false, false, false] rfl rfl rfl (by kernel_rfl) (by kernel_rfl) (by kernel_rfl) (fun _ _ _ h => h) (Or.inl ⟨by rfl, ?y3⟩) (by assumption) ?r3
  case y3 => intro w hSw; (try dsimp only at hSw); go_simp; (try rfl)
  try simp only [Act.put, List.setIfInBounds_toArray, List.set_cons_zero, List.set_cons_succ]
  refine takeD (i := 5) (v := ?v5) (some 17) #[true, true, false, true, false, true, false, false, false, false, false, false, false, false, false, false, false, false, false] rfl rfl rfl (by kernel_rfl) (by kernel_rfl) (by kernel_rfl) (fun _ _ _ h => h) (Or.inl ⟨by rfl, ?y5⟩) (by assumption) ?r5
  case y5 => intro w hSw; (try dsimp only at hSw); go_simp; (try rfl)
  try simp only [Act.put, List.setIfInBounds_toArray, List.set_cons_zero, List.set_cons_succ]
  refine takeD (i := 14) (v := ?v14) (some 26) #[true, true, false, true, false, true, false, false, false, false, false, false, false, false, true, false, false, false, false] rfl rfl rfl (by kernel_rfl) (by kernel_rfl) (by kernel_rfl) (fun _ _ _ h => h) (Or.inl ⟨by rfl, ?y14⟩) (by assumption) ?r14
  case y14 => intro w hSw; (try dsimp only at hSw); go_simp; (try rfl)
  try simp only [Act.put, List.setIfInBounds_toArray, List.set_cons_zero, List.set_cons_succ]
  refine wpAnyH_ready (rs := [2]) (by kernel_rfl) (by simp) ?_
  refine AllReadyH.cons rfl (fun K hK => ?_) AllReadyH.nil
  go_simp
  go_at_call 52
  refine (HCF.out _).mono ?_
  rintro e w1 ⟨rfl, hb1⟩
  have hb1' : Below W.heap.size W w1 := (Below.drew (Below.refl _ _)).trans hb1
  refine hK.out _ _ (KEEP.out _ hb1') (fun hHeldN6 => ?_)
  clear hK K
  try simp only [Act.put, List.setIfInBounds_toArray, List.set_cons_zero, List.set_cons_succ]
  refine takeD (i := 4) (v := ?v4) (some 16) #[true, true, true, true, true, true, false, false, false, false, false, false, false, false, true, false, false, false, false] rfl rfl rfl (by kernel_rfl) (by kernel_rfl) (by kernel_rfl) (fun _ _ _ h => h) (Or.inl ⟨by rfl, ?y4⟩) (by assumption) ?r4
  case y4 => intro w hSw; (try dsimp only at hSw); go_simp; (try rfl)
  try simp only [Act.put, List.setIfInBounds_toArray, List.set_cons_zero, List.set_cons_succ]
  refine takeD (i := 6) (v := ?v6) (some 18) #[true, true, true, true, true, true, true, false, false, false, false, false, false, false, true, false, false, false, false] rfl rfl rfl (by kernel_rfl) (by kernel_rfl) (by kernel_rfl) (fun _ _ _ h => h) (Or.inl ⟨by rfl, ?y6⟩) (by assumption) ?r6
  case y6 => intro w hSw; (try dsimp only at hSw); go_simp; (try rfl)
  try simp only [Act.put, List.setIfInBounds_toArray, List.set_cons_zero, List.set_cons_succ]
  refine takeD (i := 7) (v := ?v7) (some 19) #[true, true, true, true, true, true, true, true, false, false, false, false, false, false, true, false, false, false, false] rfl rfl rfl (by kernel_rfl) (by kernel_rfl) (by kernel_rfl) (fun _ _ _ h => h) (Or.inl ⟨by rfl, ?y7⟩) (by assumption) ?r7
  case y7 => intro w hSw; (try dsimp only at hSw); go_simp; (try rfl)
  try simp only [Act.put, List.setIfInBounds_toArray, List.set_cons_zero, List.set_cons_succ]
  refine takeD (i := 8) (v := ?v8) (some 20) #[true, true, true, true, true, true, true, true, true, false, false, false, false, false, true, false, false, false, false] rfl rfl rfl (by kernel_rfl) (by kernel_rfl) (by kernel_rfl) (fun _ _ _ h => h) (Or.inl ⟨by rfl, ?y8⟩) (by assumption) ?r8
  case y8 => intro w hSw; (try dsimp only at hSw); go_simp; (try rfl)
  try simp only [Act.put, List.setIfInBounds_toArray, List.set_cons_zero, List.set_cons_succ]
  refine takeD (i := 9) (v := ?v9) (some 21) #[true, true, true, true, true, true, true, true, true, true, false, false, false, false, true, false, false, false, false] rfl rfl rfl (by kernel_rfl) (by kernel_rfl) (by kernel_rfl) (fun _ _ _ h => h) (Or.inl ⟨by rfl, ?y9⟩) (by assumption) ?r9
  case y9 => intro w hSw; (try dsimp only at hSw); go_simp; (try rfl)
  try simp only [Act.put, List.setIfInBounds_toArray, List.set_cons_zero, List.set_cons_succ]
  refine takeD (i := 10) (v := ?v10) (some 22) #[true, true, true, true, true, true, true, true, true, true, true, false, false, false, true, false, false, false, false] rfl rfl rfl (by kernel_rfl) (by kernel_rfl) (by kernel_rfl) (fun _ _ _ h => h) (Or.inl ⟨by rfl, ?y10⟩) (by assumption) ?r10
  case y10 => intro w hSw; (try dsimp only at hSw); go_simp; (try rfl)
  try simp only [Act.put, List.setIfInBounds_toArray, List.set_cons_zero, List.set_cons_succ]
  refine takeD (i := 11) (v := ?v11) (some 23) #[true, true, true, true, true, true, true, true, true, true, true, true, false, false, true, false, false, false, false] rfl rfl rfl (by kernel_rfl) (by kernel_rfl) (by kernel_rfl) (fun _ _ _ h => h) (Or.inl ⟨by rfl, ?y11⟩) (by assumption) ?r11
  case y11 => intro w hSw; (try dsimp only at hSw); go_simp; (try rfl)
  try simp only [Act.put, List.setIfInBounds_toArray, List.set_cons_zero, List.set_cons_succ]
  refine takeD (i := 12) (v := ?v12) (some 24) #[true, true, true, true, true, true, true, true, true, true, true, true, true, false, true, false, false, false, false] rfl rfl rfl (by kernel_rfl) (by kernel_rfl) (by kernel_rfl) (fun _ _ _ h => h) (Or.inl ⟨by rfl, ?y12⟩) (by assumption) ?r12
  case y12 => intro w hSw; (try dsimp only at hSw); go_simp; (try rfl)
  try simp only [Act.put, List.setIfInBounds_toArray, List.set_cons_zero, List.set_cons_succ]
  refine takeD (i := 13) (v := ?v13) (some 25) #[true, true, true, true, true, true, true, true, true, true, true, true, true, true, true, false, false, false, false] rfl rfl rfl (by kernel_rfl) (by kernel_rfl) (by kernel_rfl) (fun _ _ _ h => h) (Or.inl ⟨by rfl, ?y13⟩) (by assumption) ?r13
  case y13 => intro w hSw; (try dsimp only at hSw); go_simp; (try rfl)
  try simp only [Act.put, List.setIfInBounds_toArray, List.set_cons_zero, List.set_cons_succ]
  refine takeD (i := 15) (v := ?v15) (some 27) #[true, true, true, true, true, true, true, true, true, true, true, true, true, true, true, true, false, false, false] rfl rfl rfl (by kernel_rfl) (by kernel_rfl) (by kernel_rfl) (fun _ _ _ h => h) (Or.inl ⟨by rfl, ?y15⟩) (by assumption) ?r15
  case y15 => intro w hSw; (try dsimp only at hSw); go_simp; (try rfl)
  try simp only [Act.put, List.setIfInBounds_toArray, List.set_cons_zero, List.set_cons_succ]
  refine wpAnyH_ready (rs := [16]) (by kernel_rfl) (by simp) ?_
  refine AllReadyH.cons rfl (fun K hK => ?_) AllReadyH.nil
  go_simp
  refine hK.out _ _ (KEEP.out _ (hb1'.alloc hb1'.size _)) (fun hHeldN17 => ?_)
  clear hK K
  try simp only [Act.put, List.setIfInBounds_toArray, List.set_cons_zero, List.set_cons_succ]
  refine wpAnyH_ready (rs := [17]) (by kernel_rfl) (by simp) ?_
  refine AllReadyH.cons rfl (fun K hK => ?_) AllReadyH.nil
  go_simp
  go_at_call 24
  refine (first2_false_false i a1 a1 w1.heap.size _ (World.alloc_heap_new _ _)).mono ?_
  rintro e w2 ⟨rfl, hb2⟩
  have hb2' : Below W.heap.size W w2 := (hb1'.alloc hb1'.size _).trans (hb2.mono (by have := hb1'.size; simp; omega))
  refine hK.out _ _ (KEEP.out _ hb2') (fun hHeldN18 => ?_)
  clear hK K
  try simp only [Act.put, List.setIfInBounds_toArray, List.set_cons_zero, List.set_cons_succ]
  refine takeD (i := 18) (v := ?v18) (some 8) #[true, true, true, true, true, true, true, true, true, true, true, true, true, true, true, true, true, true, true] rfl rfl rfl (by kernel_rfl) (by kernel_rfl) (by kernel_rfl) (fun _ _ _ h => h) (Or.inl ⟨by rfl, ?y18⟩) (by assumption) ?r18
  case y18 => intro w hSw; (try dsimp only at hSw); go_simp; (try rfl)
  try simp only [Act.put, List.setIfInBounds_toArray, List.set_cons_zero, List.set_cons_succ]
  refine wpAnyH_done (by kernel_rfl) ?_ _
  have HB2 := Lib.hid hb2'
  have hu2 : ufRow g v true w2 := (HB2.out.block g (by have := HR.out.cells.2.2.2.2; omega)).trans ((HBW.out.block g HR.out.cells.2.2.2.2).trans HR.out)
  have ho2 : rowOf base v (init ++ [last]) w2 := own_move HO.out (fun r hr => by
    have := own_lt HO.out r hr
    exact (HB2.out.block r (by omega)).trans (HBW.out.block r this))
  have rB2 := (Chg.of_below (S := fun _ => False) HB2.out).heap RBW.out (fun h => h)
  have rS2 := (Chg.of_below (S := fun _ => False) HB2.out).heap RSW.out (fun h => h)
  have hnB : ∀ j, w.heap.size ≤ j → ¬ (j = g ∨ v.ownBlock = some j) := fun j hj h => h.elim (fun e => by have := HR.out.cells.2.2.2.2; omega) (fun e => by have := own_lt HO.out j e; omega)
  have hs2 : w.heap.size ≤ w2.heap.size := by have := HB2.out.size; omega
  have HU2 := Lib.hid hu2
  have HO2 := Lib.hid ho2
  have RB2 := Lib.hid rB2
  have RS2 := Lib.hid rS2
  have HNB := Lib.hid hnB
  clear hb1 hb1' hb2 hb2' kB kS kO kG hu2 ho2 rB2 rS2 hnB
  go_wp2_with fail
  refine wp_only ?_
  refine wp_region_held_drew (S := fun w' => w'.cell? ⟨w.heap.size, 0, none⟩ = some (.pointer (some ⟨g, 0, none⟩)) ∧ w'.cell? ⟨w.heap.size + 1, 0, none⟩ = some (.string s)) (by kernel_rfl) (⟨cell_of_row w2 _ 0 _ _ _ RB2.out, cell_of_row w2 _ 0 _ _ _ RS2.out⟩) (fun hHeld => ?_)
  refine takeD (i := 0) (v := ?vb0) (some 34) #[true, false, false, false, false, false] rfl rfl rfl (by kernel_rfl) (by kernel_rfl) (by kernel_rfl) (fun _ _ _ h => h) (Or.inl ⟨by rfl, ?yb0⟩) (by assumption) ?rb0
  case yb0 => intro w hSw; (try dsimp only at hSw); go_simp; (try rfl)
  try simp only [Act.put, List.setIfInBounds_toArray, List.set_cons_zero, List.set_cons_succ]
  refine takeD (i := 1) (v := ?vb1) (some 35) #[true, true, false, false, false, false] rfl rfl rfl (by kernel_rfl) (by kernel_rfl) (by kernel_rfl) (fun _ _ _ h => h) (Or.inl ⟨by rfl, ?yb1⟩) (by assumption) ?rb1
  case yb1 => intro w hSw; (try dsimp only at hSw); go_simp; (try rfl)
  try simp only [Act.put, List.setIfInBounds_toArray, List.set_cons_zero, List.set_cons_succ]
  refine takeD (i := 2) (v := ?vb2) (some 36) #[true, true, true, false, false, false] rfl rfl rfl (by kernel_rfl) (by kernel_rfl) (by kernel_rfl) (fun _ _ _ h => h) (Or.inl ⟨by rfl, ?yb2⟩) (by assumption) ?rb2
  case yb2 => intro w hSw; (try dsimp only at hSw); go_simp; (try rfl)
  try simp only [Act.put, List.setIfInBounds_toArray, List.set_cons_zero, List.set_cons_succ]
  refine takeD (i := 3) (v := ?vb3) (some 37) #[true, true, true, true, false, false] rfl rfl rfl (by kernel_rfl) (by kernel_rfl) (by kernel_rfl) (fun _ _ _ h => h) (Or.inl ⟨by rfl, ?yb3⟩) (by assumption) ?rb3
  case yb3 => intro w hSw; (try dsimp only at hSw); go_simp; (try rfl)
  try simp only [Act.put, List.setIfInBounds_toArray, List.set_cons_zero, List.set_cons_succ]
  refine takeD (i := 4) (v := ?vb4) (some 38) #[true, true, true, true, true, false] rfl rfl rfl (by kernel_rfl) (by kernel_rfl) (by kernel_rfl) (fun _ _ _ h => h) (Or.inl ⟨by rfl, ?yb4⟩) (by assumption) ?rb4
  case yb4 => intro w hSw; (try dsimp only at hSw); go_simp; (try rfl)
  try simp only [Act.put, List.setIfInBounds_toArray, List.set_cons_zero, List.set_cons_succ]
  refine wpAnyH_ready (rs := [5]) (by kernel_rfl) (by simp) ?_
  refine AllReadyH.cons rfl (fun K hK => ?_) AllReadyH.nil
  go_simp
  go_at_call 79
  refine (more_c g base v true init last (s.extract 1 s.size) w2.drew HU2.out HO2.out (by rw [List.length_append] at hlen; omega) (by rw [ByteArray.size_extract]; omega)).mono ?_
  rintro e w3 ⟨rfl, v', hu3, ho3, ht3⟩
  have HU3 := Lib.hid hu3
  have HO3 := Lib.hid ho3
  have HT3 := Lib.hid ht3
  have RB3 := Lib.hid (HT3.out.1.heap (show w2.drew.heap[w.heap.size]? = _ from RB2.out) (HNB.out _ (Nat.le_refl _)))
  have RS3 := Lib.hid (HT3.out.1.heap (show w2.drew.heap[w.heap.size + 1]? = _ from RS2.out) (HNB.out _ (by omega)))
  clear hu3 ho3 ht3
  refine hK.out _ _ (⟨cell_of_row _ _ 0 _ _ _ RB3.out, cell_of_row _ _ 0 _ _ _ RS3.out⟩) (fun hHeldN6 => ?_)
  clear hK K
  try simp only [Act.put, List.setIfInBounds_toArray, List.set_cons_zero, List.set_cons_succ]
  refine wpAnyH_done (by kernel_rfl) ?_ _
  go_wp2_with fail
  refine leaves_cons (f := 77) (args := #[.pointer (some ⟨w.heap.size + 1, 0, none⟩), .pointer (some ⟨w.heap.size, 0, none⟩)]) (by simp) (by simp [go_sem]) ?_
  refine (row1_d g (w.heap.size + 1) w.heap.size v' true s .returning _ HU3.out (cell_of_row _ _ 0 _ _ _ RS3.out) (cell_of_row _ _ 0 _ _ _ RB3.out)).mono ?_
  rintro e u' w4 ⟨rfl, rfl, rfl⟩
  exact ⟨_, results_tmp rfl _ _ _, rfl, v', HU3.out.set1 _, HO3.out.set (uf_not_row HU3.out HO3.out) 1 _, Chg.setCell (p := ⟨g, 1, none⟩) ((Chg.of_below (HBW.out.trans ((Below.drew HB2.out).mono (by omega)))).trans HT3.out.1) (.inl rfl) _, fun r hr => (HT3.out.2 r hr).imp id (fun h => by have : w2.heap.size ≤ r := h; omega)⟩
end Fold
end Go.Proofs.YtjnfoocmilbdlaaGreatDoor
/- bridges between the library's words on texts and lists of bytes' numbers. No program in sight. -/
namespace Go.Proofs.YtjnfoocmilbdlaaGreatDoor
set_option linter.unusedSimpArgs false
set_option linter.unusedVariables false
namespace Fold
open Go.RowKit Go.Proofs.YtjnfoocmilbdlaaGreatDoorW.PrintWords Go.Proofs.YtjnfoocmilbdlaaGreatDoor.PureB Go.Proofs.YtjnfoocmilbdlaaGreatDoor.Code
/-- a function over runes that says yes beyond ASCII: somewhere in a text, just if at some byte -/
theorem idx_from (p : Nat → Bool) (hp : ∀ r, 128 ≤ r → p r = true) (s : ByteArray) : ∀ (f pos : Nat), s.size ≤ pos + f → (0 ≤ Lib.idxFuncFrom p true s f pos ↔ ∃ j : Nat, pos ≤ j ∧ ∃ h : j < s.size, p (s[j]'h).toNat = true)
  | 0, pos, h => ⟨fun q => by simp [Lib.idxFuncFrom] at q, fun ⟨j, h1, h2, _⟩ => by omega⟩
  | f + 1, pos, h => by
    unfold Lib.idxFuncFrom
    by_cases hlt : pos < s.size
    · rw [if_pos hlt]
      have ih := idx_from p hp s f
      by_cases ha : (s[pos]'hlt).toNat < 128
      · rw [decode_ascii s pos hlt ha]
        simp only
        by_cases ho : p (s[pos]'hlt).toNat = true
        · rw [if_pos (by simp [ho])]
          exact ⟨fun _ => ⟨pos, Nat.le_refl _, hlt, ho⟩, fun _ => by omega⟩
        · rw [if_neg (by simp [ho]), ih (pos + 1) (by omega)]
          constructor
          · rintro ⟨j, h1, h2⟩; exact ⟨j, by omega, h2⟩
          · rintro ⟨j, h1, h2, h3⟩
            refine ⟨j, ?_, h2, h3⟩
            rcases Nat.lt_or_ge pos j with h4 | h4
            · exact h4
            · obtain rfl : j = pos := by omega
              exact absurd h3 ho
      · have hd := decode_high s pos hlt (by omega)
        rw [if_pos (by simp [hp _ hd.1])]
        exact ⟨fun _ => ⟨pos, Nat.le_refl _, hlt, hp _ (by omega)⟩, fun _ => by omega⟩
    · rw [if_neg hlt]
      exact ⟨fun q => by omega, fun ⟨j, h1, h2, _⟩ => by omega⟩
theorem idx_any (p : Nat → Bool) (hp : ∀ r, 128 ≤ r → p r = true) (q : Int → Bool) (s : ByteArray) (hq : ∀ b : UInt8, p b.toNat = q (b.toNat : Int)) : decide (0 ≤ Lib.idxFunc p true s) = (bl s).any q := by
  rw [Bool.eq_iff_iff, decide_eq_true_eq, List.any_eq_true]
  unfold Lib.idxFunc
  rw [idx_from p hp s s.size 0 (by omega)]
  constructor
  · rintro ⟨j, _, hj, h⟩
    exact ⟨((s[j]'hj).toNat : Int), List.mem_map.2 ⟨s[j], Array.getElem_mem_toList (xs := s.data) hj, rfl⟩, by rw [← hq]; exact h⟩
  · rintro ⟨x, hx, h⟩
    obtain ⟨b, hb, rfl⟩ := List.mem_map.1 hx
    obtain ⟨j, hj, e⟩ := List.mem_iff_getElem.1 hb
    rw [Array.length_toList] at hj
    refine ⟨j, Nat.zero_le _, hj, ?_⟩
    have e2 : (s[j]'hj) = b := by rw [← e]; rfl
    rw [e2, hq]; exact h
theorem pre_bl (s : ByteArray) (c : UInt8) : Lib.hasPrefix s.data.toList [c] = match bl s with | x :: _ => decide (x = (c.toNat : Int)) | [] => false := by
  unfold Lib.hasPrefix bl
  cases s.data.toList with
  | nil => rfl
  | cons x r =>
    simp only [List.map_cons, List.isPrefixOf, Bool.and_true]
    rw [Bool.eq_iff_iff, beq_iff_eq, decide_eq_true_eq]
    exact ⟨fun e => by rw [e], fun e => UInt8.toNat_inj.1 (by omega)⟩
theorem suf_strip (s : ByteArray) : nm (Lib.trimSuffix s.data.toList [13]) = stripR (bl s) := by
  unfold Lib.trimSuffix Lib.hasSuffix stripR bl nm
  generalize s.data.toList = l
  rcases List.eq_nil_or_concat l with rfl | ⟨r, x, rfl⟩
  · rfl
  · have h1 : ([13] : List UInt8).isSuffixOf (r ++ [x]) = (x == 13) := by
      simp only [List.isSuffixOf, List.reverse_append, List.reverse_cons, List.reverse_nil, List.nil_append, List.cons_append, List.isPrefixOf, Bool.and_true]
      rw [Bool.eq_iff_iff, beq_iff_eq, beq_iff_eq]
      exact eq_comm
    have h2 : ((r ++ [x]).map fun b : UInt8 => (b.toNat : Int)).getLast? = some (x.toNat : Int) := by simp
    rw [List.concat_eq_append, h1, h2]
    by_cases hx : x = 13
    · subst hx
      simp
    · have hb : (x == 13) = false := by rw [beq_eq_false_iff_ne]; exact hx
      have hn : ¬ (some (x.toNat : Int) = some 13) := fun e => hx (UInt8.toNat_inj.1 (by have := Option.some.inj e; simp; omega))
      rw [hb, if_neg (by decide), if_neg hn]
theorem trim_blanks (s : ByteArray) : nm (Lib.trimLeftB s.data.toList 32) = blanks (bl s) := by
  unfold Lib.trimLeftB bl nm
  induction s.data.toList with
  | nil => rfl
  | cons x r ih =>
    simp only [List.dropWhile_cons, List.map_cons, blanks]
    by_cases hx : x = 32
    · subst hx
      simpa using ih
    · have hb : (x == 32) = false := by rw [beq_eq_false_iff_ne]; exact hx
      have hn : ¬ ((x.toNat : Int) = 32) := fun e => hx (UInt8.toNat_inj.1 (by simp; omega))
      rw [hb, if_neg (by decide), if_neg hn]
      rfl
theorem trimp_bl (s : ByteArray) (c : UInt8) : nm (Lib.trimPrefix s.data.toList [c]) = match bl s with | x :: r => if x = (c.toNat : Int) then r else x :: r | [] => [] := by
  have h := pre_bl s c
  unfold Lib.trimPrefix
  rw [h]
  unfold bl nm
  cases s.data.toList with
  | nil => rfl
  | cons x r =>
    simp only [List.map_cons]
    by_cases hx : (x.toNat : Int) = (c.toNat : Int)
    · rw [if_pos hx, if_pos (by simpa using hx)]
      rfl
    · rw [if_neg hx, if_neg (by simpa using hx)]
      rfl
end Fold
end Go.Proofs.YtjnfoocmilbdlaaGreatDoor
/- fold's unfolder: row, whole; the library's functions in plain words. -/
namespace Go.Proofs.YtjnfoocmilbdlaaGreatDoor
set_option linter.unusedSimpArgs false
set_option linter.unusedVariables false
namespace Fold
open Go.RowKit Go.Shelf Go.Proofs.YtjnfoocmilbdlaaGreatDoorW.PrintWords Go.Proofs.YtjnfoocmilbdlaaGreatDoor.PureB
open Go.Proofs.YtjnfoocmilbdlaaGreatDoor.Code (bl bl_len bl_get bl_byte Byt son_bl bl_son bl_extract bl_append)
theorem cfB_bad (s : ByteArray) : cfB s = badRow (bl s) := by
  unfold cfB badRow
  refine idx_any pBad (fun r hr => by unfold pBad; apply decide_eq_true; omega) _ s (fun b => ?_)
  unfold pBad
  rw [decide_eq_decide]
  omega
theorem isE_bl (s : ByteArray) : (!s.toList.isEmpty) = match bl s with | [] => false | _ :: _ => true := by
  have : s.toList = s.data.toList := Lib.toList_data s
  rw [this]
  unfold bl
  cases s.data.toList <;> rfl
theorem row_c (g base : Nat) (v : Value) (op : Bool) (ls : List (List Int)) (s : ByteArray) (i : Int) (a1 : Addr) (w : World) (hr : ufRow g v op w) (ho : rowOf base v ls w) (hlen : ls.length ≤ 100000) (hla : ∀ l ∈ ls, l.length ≤ 800000) (hop : op = true → ls ≠ []) (hs : s.size ≤ 100000) (hb : base ≤ w.heap.size)
    (hG : w.cell? ⟨1, 0, none⟩ = some (ese a1)) :
    Calls Tryz.prog 49 #[.pointer (some ⟨g, 0, none⟩), .int .i64 i, .string s] w fun e w' => RowE (uStep ls op (bl s)) g base v a1 w e w' := by
  have hpre := pre_bl s 32
  have hcf := cfB_bad s
  have hem := isE_bl s
  cases hc : badRow (bl s) with
  | true =>
    rw [hc] at hcf
    have hu : uStep ls op (bl s) = none := by unfold uStep; rw [hc]; rfl
    rw [hu]
    cases hp : Lib.hasPrefix s.data.toList [32] with
    | true => exact row_mbad g base v op ls s i a1 w hr ho hlen hs hb hG hp hcf
    | false => exact row_nbad g base v op ls s i a1 w hr ho hlen hs hb hG hp hcf
  | false =>
    rw [hc] at hcf
    have hu : uStep ls op (bl s) = match bl s with
      | [] => some (ls ++ [[]], false)
      | c :: t => if c = 32 then (if op then some (addLast ls t, true) else none) else some (ls ++ [c :: t], true) := by unfold uStep; rw [hc]; rfl
    cases hbl : bl s with
    | nil =>
      rw [hbl] at hpre hem hu
      rw [hu]
      have := row_nok g base v op ls s i a1 w hr ho hlen hs hb hG hpre hcf
      rw [hem, hbl] at this
      exact this
    | cons c t =>
      rw [hbl] at hpre hem hu
      rw [hu]
      by_cases h32 : c = 32
      · have hpre' : Lib.hasPrefix s.data.toList [32] = true := by rw [hpre]; exact decide_eq_true (by rw [h32]; rfl)
        simp only [if_pos h32]
        cases op with
        | false => exact row_mclosed g base v ls s i a1 w hr ho hlen hs hb hG hpre' hcf
        | true =>
          have hne := hop rfl
          obtain ⟨init, last, rfl, hil⟩ := last_split ls (ls.length - 1) (by have := List.length_pos_iff.2 hne; omega)
          have hsz : 1 ≤ s.size := by rw [← bl_len, hbl]; simp
          have := row_mopen g base v init last s i a1 w hr ho hlen hs hb hG hpre' hcf (hla last (by simp)) hsz
          rw [hem, bl_extract, List.take_of_length_le (by rw [bl_len]; exact Nat.le_refl _), hbl] at this
          rw [if_pos rfl, addLast_app]
          exact this
      · have hpre' : Lib.hasPrefix s.data.toList [32] = false := by rw [hpre]; exact decide_eq_false (fun e => h32 e)
        simp only [if_neg h32]
        have := row_nok g base v op ls s i a1 w hr ho hlen hs hb hG hpre' hcf
        rw [hem, hbl] at this
        exact this
/-! The library's functions. -/
theorem chg_drewN (w : World) (n : Nat) : Chg (fun _ => False) w (w.drewN n) := Chg.of_below (below_drewN w n)
def CutE (c : UInt8) (s : ByteArray) (W : World) (e : Ending) (w' : World) : Prop :=
  e = .returned (.tuple #[.string (strOfNums (cutL c.toNat (bl s)).1), .string (strOfNums (cutL c.toNat (bl s)).2.1), .bool (cutL c.toNat (bl s)).2.2]) ∧ Chg (fun _ => False) W w' ∧ Below W.heap.size W w' ∧ w'.heap = W.heap
theorem cut_c (c : UInt8) (s : ByteArray) (M : Int) (W : World) (hs : s.size ≤ 1000000) (hM : W.cell? ⟨6, 0, none⟩ = some (.int .i64 M)) :
    Calls Tryz.prog 58 #[.string s, .string ⟨#[c]⟩] W fun e w' => CutE c s W e w' := by
  refine (Tryz.strings_Cut s ⟨#[c]⟩ M W (by omega) hM).mono ?_
  rintro e w' ⟨rfl, n, rfl⟩
  obtain ⟨h1, h2, h3⟩ := cut_one c s.data.toList
  have e1 : ((⟨#[c]⟩ : ByteArray).data.toList) = [c] := rfl
  refine ⟨?_, chg_drewN W n, below_drewN W n, rfl⟩
  rw [e1, mk_son, mk_son, h1, h2, h3]
  rfl
theorem trimsuf_c (s : ByteArray) (W : World) (hs : s.size ≤ 1000000) :
    Calls Tryz.prog 76 #[.string s, .string ⟨#[13]⟩] W fun e w' => e = .returned (.string (strOfNums (stripR (bl s)))) ∧ w' = W := by
  refine (Tryz.strings_TrimSuffix s ⟨#[13]⟩ W (by omega)).mono ?_
  rintro e w' ⟨rfl, rfl⟩
  have e1 : ((⟨#[13]⟩ : ByteArray).data.toList) = [13] := rfl
  rw [e1, mk_son, suf_strip]
  exact ⟨rfl, rfl⟩
theorem triml_c (s : ByteArray) (W : World) :
    Calls Tryz.prog 61 #[.string s, .string ⟨#[32]⟩] W fun e w' => e = .returned (.string (strOfNums (blanks (bl s)))) ∧ w' = W := by
  refine (Tryz.strings_TrimLeft_one s 32 (by decide) W).mono ?_
  rintro e w' ⟨rfl, rfl⟩
  rw [mk_son, trim_blanks]
  exact ⟨rfl, rfl⟩
/-- what is behind a colon -/
def unC (l : List Int) : List Int × Bool := match l with | x :: r => if x = 58 then (r, true) else (x :: r, false) | [] => ([], false)
theorem cutp_c (s : ByteArray) (W : World) :
    Calls Tryz.prog 59 #[.string s, .string ⟨#[58]⟩] W fun e w' => e = .returned (.tuple #[.string (strOfNums (unC (bl s)).1), .bool (unC (bl s)).2]) ∧ w' = W := by
  refine (Tryz.strings_CutPrefix s ⟨#[58]⟩ W).mono ?_
  rintro e w' ⟨rfl, rfl⟩
  have e1 : ((⟨#[58]⟩ : ByteArray).data.toList) = [58] := rfl
  rw [e1, mk_son, trimp_bl, pre_bl]
  refine ⟨?_, rfl⟩
  unfold unC
  cases bl s with
  | nil => rfl
  | cons x r =>
    by_cases hx : x = 58
    · subst hx; rfl
    · have hx2 : ¬ (x = (((58 : UInt8).toNat : Nat) : Int)) := hx
      simp only [if_neg hx, if_neg hx2, decide_eq_false hx2]
end Fold
end Go.Proofs.YtjnfoocmilbdlaaGreatDoor
/- the rows of a text, one by one. -/
namespace Go.Proofs.YtjnfoocmilbdlaaGreatDoor
set_option linter.unusedSimpArgs false
set_option linter.unusedVariables false
namespace Fold
open Go.RowKit Go.Shelf Go.Proofs.YtjnfoocmilbdlaaGreatDoorW.PrintWords Go.Proofs.YtjnfoocmilbdlaaGreatDoor.PureB
open Go.Proofs.YtjnfoocmilbdlaaGreatDoor.Code (bl bl_len bl_get bl_byte Byt son_bl bl_son bl_extract bl_append)
attribute [local go_sem] Oper.semAt_some
/-- rows with their places -/
def rowsP : Nat → List (List Int) → List (Int × List Int)
  | _, [] => []
  | k, r :: rs => ((k : Int), r) :: rowsP (k + 1) rs
theorem rowsP_len : ∀ (rs : List (List Int)) (k : Nat), (rowsP k rs).length = rs.length
  | [], _ => rfl
  | _ :: rs, k => by simp only [rowsP, List.length_cons, rowsP_len rs (k + 1)]
theorem rowsP_get : ∀ (rs : List (List Int)) (k j : Nat), (rowsP k rs)[j]? = rs[j]?.map fun r => (((k + j : Nat) : Int), r)
  | [], _, _ => by simp [rowsP]
  | r :: rs, k, 0 => by simp [rowsP]
  | r :: rs, k, j + 1 => by
    simp only [rowsP, List.getElem?_cons_succ]
    rw [rowsP_get rs (k + 1) j, show k + 1 + j = k + (j + 1) by omega]
def strSz : Value → Nat
  | .string s => s.size
  | _ => 0
theorem rows_any (s : ByteArray) (w : World) : Calls Tryz.prog 48 #[.string s] w
    fun e w' => e = .returned (.func (.func 75) #[] #[.pointer (some ⟨w.heap.size, 0, none⟩)]) ∧ w' = w.alloc (.cells #[.string s] 9) := by
  go_enter Tryz.func48, Tryz.ntmps48
  go_wp2
  go_ret
  exact ⟨rfl, rfl⟩
theorem rows_step (rest : ByteArray) (h0 : 0 < rest.size) (a b : List Int) (f : Bool) (hcut : cutL 10 (bl rest) = (a, b, f)) :
    rowsL (rest.size + 1) (bl rest) = (if f then stripR a else a) :: rowsL ((strOfNums b).size + 1) (bl (strOfNums b)) ∧ (strOfNums b).size < rest.size ∧ Byt a ∧ Byt b ∧ a.length ≤ rest.size := by
  have hl := cutL_len 10 (bl rest)
  have hby := cutL_byt 10 (bl rest) (bl_byte rest)
  rw [hcut, bl_len] at hl
  rw [hcut] at hby
  have hb : b.length < rest.size := by
    cases f with
    | false => have := (hl.2.1 rfl).1; simp only at this; rw [this]; exact h0
    | true => have := hl.2.2 rfl; simp only at this; omega
  have hs : (strOfNums b).size = b.length := son_size b
  refine ⟨?_, by omega, hby.1, hby.2, by have := hl.1; simp only at this; omega⟩
  rw [bl_son b hby.2, hs]
  cases hc : bl rest with
  | nil => have := bl_len rest; rw [hc] at this; simp at this; omega
  | cons c r =>
    rw [hc] at hcut
    simp only [rowsL, hcut]
    rw [rowsL_more rest.size (b.length + 1) b hb (Nat.lt_succ_self _)]
set_option maxRecDepth 100000 in
set_option maxHeartbeats 4000000 in
theorem rows_it (m : Nat) (hm : 1 ≤ m) (s : ByteArray) (hs : s.size ≤ 100000) (B : Nat) (M : Int) (Rd : Nat → Prop) (rM : Rd 6) (rB : ¬ Rd B) :
    IterD Fence.wide m Tryz.prog 75 #[.pointer (some ⟨B, 0, none⟩)] (fun x : Int × List Int => #[.int .i64 x.1, .string (strOfNums x.2)]) (rowsP 0 (rowsL (s.size + 1) (bl s))) Rd
      (fun U W => Boxed W B 9 (.string s) ∧ ¬ U B ∧ W.cell? ⟨6, 0, none⟩ = some (.int .i64 M)) (fun _ => True) := by
  intro l J Jx U0 W ⟨wB, uB, wM⟩ hU hR hJ hJx hY h0
  have HJ := Lib.hid hJ
  have HY := Lib.hid hY
  have HR := Lib.hid hR
  clear hJ hJx hY hR
  refine callsIn_of_wp Tryz.func75 rfl trivial ?_ rfl
  simp only [Tryz.ntmps75, List.size_toArray, List.length_cons, List.length_nil, Nat.reduceAdd, Nat.reduceSub, Array.replicate_succ, Array.replicate_zero, List.push_toArray, List.append_toArray, List.nil_append, List.cons_append]
  refine wpIn_wide.2 (wp_scope_straight ((wpIn_wide (n := m)).1 (wpIn_seq (wpIn_label ?_))))
  gi_wp2_with fail
  gi_loopw [3] (fun v wr => ∃ (k : Nat) (rest : ByteArray) (U : Nat → Prop), v = .int .i64 k ∧ J k U wr ∧ (∀ j, U j → j < wr.heap.size ∧ ¬ Rd j) ∧ ¬ U B ∧ Boxed wr B 9 (.string rest) ∧ wr.cell? ⟨6, 0, none⟩ = some (.int .i64 M) ∧
      RowKit.Hid ((rowsL (s.size + 1) (bl s)).drop k = rowsL (rest.size + 1) (bl rest)) ∧ k + rest.size ≤ s.size ∧ k ≤ (rowsL (s.size + 1) (bl s)).length ∧ W.heap.size ≤ wr.heap.size)
    (fun _ wr => strSz ((wr.cell? ⟨B, 0, none⟩).getD undef))
  case atStart => exact ⟨0, s, U0, rfl, h0, hU, uB, wB, wM, Lib.hid rfl, by omega, Nat.zero_le _, Nat.le_refl _⟩
  case round =>
    obtain ⟨k, rest, U, rfl, hJk, hUk, uB, rB', rM', HD, hk, hkl, hWs⟩ := hrel
    have c0 := rB'.cell
    by_cases h0 : rest.size = 0
    · have hre : rest = ⟨#[]⟩ := by
        apply ByteArray.ext
        exact Array.eq_empty_of_size_eq_zero h0
      subst hre
      have hkk : k = (rowsP 0 (rowsL (s.size + 1) (bl s))).length := by
        rw [rowsP_len]
        have h1 := HD.out
        have h2 : rowsL ((⟨#[]⟩ : ByteArray).size + 1) (bl ⟨#[]⟩) = [] := rfl
        rw [h2] at h1
        have := List.drop_eq_nil_iff.1 h1
        omega
      have HKK := Lib.hid hkk
      clear hkk
      gi_wp2_with fail
      try rw [Exit.noGoto_normal]
      go_end0
      exact ⟨⟨_, rfl⟩, hWs, .inl ⟨U, hUk, by rw [← HKK.out]; exact hJk, trivial⟩⟩
    · have hpos : 0 < rest.size := by omega
      have hne : rest ≠ ⟨#[]⟩ := by rintro rfl; exact h0 rfl
      have hne2 : (rest.toList == ([] : List UInt8)) = false := by
        rw [beq_eq_false_iff_ne]
        intro e
        rw [ByteArray.toList_eq] at e
        exact hne (ByteArray.ext (Array.toList_inj.1 e))
      have hne1 : rest.toList.isEmpty = false := by
        rw [← hne2]
        cases rest.toList <;> rfl
      obtain ⟨⟨a, b, f⟩, hcut⟩ : ∃ q, cutL 10 (bl rest) = q := ⟨_, rfl⟩
      have HST := Lib.hid (rows_step rest hpos a b f hcut)
      have hcc := cut_c 10 rest M wr (by omega) rM'
      unfold CutE at hcc
      have e10 : (((10 : UInt8).toNat : Nat) : Int) = 10 := rfl
      rw [e10, hcut] at hcc
      have HCC := Lib.hid hcc
      clear hcut hcc hne
      cases f with
      | true =>
        have hx : (rowsP 0 (rowsL (s.size + 1) (bl s)))[k]? = some ((k : Int), stripR a) := by
          rw [rowsP_get]
          have := congrArg (·[0]?) HD.out
          simp only [List.getElem?_drop, Nat.add_zero] at this
          rw [this, HST.out.1]
          simp
        have hlk : k < (rowsL (s.size + 1) (bl s)).length := by rw [← rowsP_len _ 0]; exact (List.getElem?_eq_some_iff.1 hx).1
        have HLK := Lib.hid hlk
        have HX := Lib.hid hx
        clear hx hlk
        gi_wp2_with fail
        refine ⟨trivial, (callsIn_wide.2 HCC.out).mono ?_⟩
        rintro e w2 ⟨rfl, hch, hbw, hhp⟩
        have hJ2 : J k U w2 := HJ.out _ _ _ _ hJk (hch.mono (fun _ h => h.elim))
        have hU2 : ∀ j, U j → j < w2.heap.size ∧ ¬ Rd j := fun j hj => ⟨by rw [hhp]; exact (hUk j hj).1, (hUk j hj).2⟩
        have rB2 : Boxed w2 B 9 (.string rest) := hch.heap rB' (fun h => h)
        have rM2 := hch.cell rM' (fun h => h)
        have hW2 : W.heap.size ≤ w2.heap.size := by rw [hhp]; exact hWs
        have FIN := Lib.hid (fun (U' : Nat → Prop) (W4 : World) (hst : UStep U w2 U' W4) => by
          have old : ∀ j, j < w2.heap.size → ¬ U j → ¬ U' j := fun j hj hn h => by
            rcases hst.old j h with h2 | h2
            · exact hn h2
            · omega
          exact (⟨hst.chg.heap rB2 uB, fun j hj => ⟨hst.lt j hj, fun hr => by
              rcases hst.old j hj with h2 | h2
              · exact (hU2 j h2).2 hr
              · have := HR.out j hr; omega⟩, old _ (Array.getElem?_eq_some_iff.1 rB2).1 uB, hst.chg.cell rM2 (fun h => (hUk _ h).2 rM), Nat.le_trans hW2 hst.chg.size⟩ :
            Boxed W4 B 9 (.string rest) ∧ (∀ j, U' j → j < W4.heap.size ∧ ¬ Rd j) ∧ ¬ U' B ∧ W4.cell? ⟨6, 0, none⟩ = some (.int .i64 M) ∧ W.heap.size ≤ W4.heap.size))
        obtain ⟨fn, tmps, assign, body, hy, hYR⟩ := HY.out k _ U w2 HX.out hU2 hJ2
        clear hch hbw hhp rB2 rM2 hW2
        have hts := trimsuf_c (strOfNums a) w2 (by rw [son_size]; have := HST.out.2.2.2.2; omega)
        rw [bl_son a HST.out.2.2.1] at hts
        have HTS := Lib.hid hts
        clear hts
        gi_wp2_with fail
        refine ⟨trivial, (callsIn_wide.2 HTS.out).mono ?_⟩
        rintro e w3 ⟨rfl, hw3⟩
        subst w3
        gi_wp2_with fail
        refine hYR.mono ?_
        rintro e W4 (⟨rfl, U', hst, hJ4⟩ | ⟨rfl, U', hst, hJx4⟩)
        · obtain ⟨q1, q2, q3, q4, q5⟩ := FIN.out U' W4 hst
          have c4 := q1.cell
          have f4 := q1.frozen
          have HQ := Lib.hid (by have := HST.out.2.1; omega : k + 1 + (strOfNums b).size ≤ s.size)
          have hw1 : wrap64 ((k : Int) + 1) = (k : Int) + 1 := by unfold wrap64; omega
          gi_wp2_with fail
          go_roundw
          case rel => exact ⟨k + 1, strOfNums b, U', by simp, HJ.out _ _ _ _ hJ4 (Chg.setCell (p := ⟨B, 0, none⟩) (Chg.refl _ W4) ⟨q3, rB⟩ _), fun j hj => ⟨by have := (q2 j hj).1; simpa [World.setCell] using this, (q2 j hj).2⟩, q3, q1.set _, ((Chg.setCell (p := ⟨B, 0, none⟩) (Chg.refl (fun j => j = B) W4) rfl (.string (strOfNums b))).cell q4 (fun e => rB (e ▸ rM))), Lib.hid (by
            rw [← List.drop_drop, HD.out, HST.out.1]
            rfl), HQ.out, HLK.out, by simpa [World.setCell] using q5⟩
          case measure =>
            rw [(q1.set (.string (strOfNums b))).cell, c0]
            exact HST.out.2.1
        · gi_wp2_with fail
          try rw [Exit.noGoto_normal]
          go_end0
          obtain ⟨q1, q2, q3, q4, q5⟩ := FIN.out U' W4 hst
          exact ⟨⟨_, rfl⟩, q5, .inr ⟨k + 1, by rw [rowsP_len]; exact HLK.out, U', q2, hJx4⟩⟩
      | false =>
        have hx : (rowsP 0 (rowsL (s.size + 1) (bl s)))[k]? = some ((k : Int), a) := by
          rw [rowsP_get]
          have := congrArg (·[0]?) HD.out
          simp only [List.getElem?_drop, Nat.add_zero] at this
          rw [this, HST.out.1]
          simp
        have hlk : k < (rowsL (s.size + 1) (bl s)).length := by rw [← rowsP_len _ 0]; exact (List.getElem?_eq_some_iff.1 hx).1
        have HLK := Lib.hid hlk
        have HX := Lib.hid hx
        clear hx hlk
        gi_wp2_with fail
        refine ⟨trivial, (callsIn_wide.2 HCC.out).mono ?_⟩
        rintro e w2 ⟨rfl, hch, hbw, hhp⟩
        have hJ2 : J k U w2 := HJ.out _ _ _ _ hJk (hch.mono (fun _ h => h.elim))
        have hU2 : ∀ j, U j → j < w2.heap.size ∧ ¬ Rd j := fun j hj => ⟨by rw [hhp]; exact (hUk j hj).1, (hUk j hj).2⟩
        have rB2 : Boxed w2 B 9 (.string rest) := hch.heap rB' (fun h => h)
        have rM2 := hch.cell rM' (fun h => h)
        have hW2 : W.heap.size ≤ w2.heap.size := by rw [hhp]; exact hWs
        have FIN := Lib.hid (fun (U' : Nat → Prop) (W4 : World) (hst : UStep U w2 U' W4) => by
          have old : ∀ j, j < w2.heap.size → ¬ U j → ¬ U' j := fun j hj hn h => by
            rcases hst.old j h with h2 | h2
            · exact hn h2
            · omega
          exact (⟨hst.chg.heap rB2 uB, fun j hj => ⟨hst.lt j hj, fun hr => by
              rcases hst.old j hj with h2 | h2
              · exact (hU2 j h2).2 hr
              · have := HR.out j hr; omega⟩, old _ (Array.getElem?_eq_some_iff.1 rB2).1 uB, hst.chg.cell rM2 (fun h => (hUk _ h).2 rM), Nat.le_trans hW2 hst.chg.size⟩ :
            Boxed W4 B 9 (.string rest) ∧ (∀ j, U' j → j < W4.heap.size ∧ ¬ Rd j) ∧ ¬ U' B ∧ W4.cell? ⟨6, 0, none⟩ = some (.int .i64 M) ∧ W.heap.size ≤ W4.heap.size))
        obtain ⟨fn, tmps, assign, body, hy, hYR⟩ := HY.out k _ U w2 HX.out hU2 hJ2
        clear hch hbw hhp rB2 rM2 hW2
        gi_wp2_with fail
        refine hYR.mono ?_
        rintro e W4 (⟨rfl, U', hst, hJ4⟩ | ⟨rfl, U', hst, hJx4⟩)
        · obtain ⟨q1, q2, q3, q4, q5⟩ := FIN.out U' W4 hst
          have c4 := q1.cell
          have f4 := q1.frozen
          have HQ := Lib.hid (by have := HST.out.2.1; omega : k + 1 + (strOfNums b).size ≤ s.size)
          have hw1 : wrap64 ((k : Int) + 1) = (k : Int) + 1 := by unfold wrap64; omega
          gi_wp2_with fail
          go_roundw
          case rel => exact ⟨k + 1, strOfNums b, U', by simp, HJ.out _ _ _ _ hJ4 (Chg.setCell (p := ⟨B, 0, none⟩) (Chg.refl _ W4) ⟨q3, rB⟩ _), fun j hj => ⟨by have := (q2 j hj).1; simpa [World.setCell] using this, (q2 j hj).2⟩, q3, q1.set _, ((Chg.setCell (p := ⟨B, 0, none⟩) (Chg.refl (fun j => j = B) W4) rfl (.string (strOfNums b))).cell q4 (fun e => rB (e ▸ rM))), Lib.hid (by
            rw [← List.drop_drop, HD.out, HST.out.1]
            rfl), HQ.out, HLK.out, by simpa [World.setCell] using q5⟩
          case measure =>
            rw [(q1.set (.string (strOfNums b))).cell, c0]
            exact HST.out.2.1
        · gi_wp2_with fail
          try rw [Exit.noGoto_normal]
          go_end0
          obtain ⟨q1, q2, q3, q4, q5⟩ := FIN.out U' W4 hst
          exact ⟨⟨_, rfl⟩, q5, .inr ⟨k + 1, by rw [rowsP_len]; exact HLK.out, U', q2, hJx4⟩⟩

end Fold
end Go.Proofs.YtjnfoocmilbdlaaGreatDoor
/- what rows come to, one behind the other. No program in sight. -/
namespace Go.Proofs.YtjnfoocmilbdlaaGreatDoor
set_option linter.unusedSimpArgs false
set_option linter.unusedVariables false
namespace Fold
open Go.RowKit Go.Proofs.YtjnfoocmilbdlaaGreatDoorW.PrintWords Go.Proofs.YtjnfoocmilbdlaaGreatDoor.PureB Go.Proofs.YtjnfoocmilbdlaaGreatDoor.Code
def tot (ls : List (List Int)) : Nat := (ls.map List.length).sum
theorem tot_app (a b : List (List Int)) : tot (a ++ b) = tot a + tot b := by simp [tot]
theorem tot_one (l : List Int) : tot [l] = l.length := by simp [tot]
theorem le_tot {l : List Int} {ls : List (List Int)} (h : l ∈ ls) : l.length ≤ tot ls := by
  obtain ⟨a, b, rfl⟩ := List.append_of_mem h
  rw [tot_app, show l :: b = [l] ++ b from rfl, tot_app, tot_one]
  omega
theorem uStep_ok {ls : List (List Int)} {op : Bool} {r : List Int} {p : List (List Int) × Bool} (hop : op = true → ls ≠ []) (h : uStep ls op r = some p) :
    p.1.length ≤ ls.length + 1 ∧ tot p.1 ≤ tot ls + r.length ∧ p.1 ≠ [] ∧ ((∀ l ∈ ls, Byt l) → Byt r → ∀ l ∈ p.1, Byt l) := by
  unfold uStep at h
  split at h
  · cases h
  · split at h
    · obtain rfl := Option.some.inj h
      refine ⟨by simp, by rw [tot_app, tot_one]; exact Nat.le_refl _, by simp, fun h1 _ l hl => ?_⟩
      rcases List.mem_append.1 hl with q | q
      · exact h1 l q
      · obtain rfl := List.mem_singleton.1 q
        exact fun x hx => by cases hx
    · rename_i c t
      split at h
      · split at h
        · rename_i ho
          obtain rfl := Option.some.inj h
          have hne := hop ho
          have hsp : ls.dropLast ++ [ls.getLast hne] = ls := List.dropLast_concat_getLast hne
          have hgl : ls.getLast?.getD [] = ls.getLast hne := by rw [List.getLast?_eq_some_getLast hne]; rfl
          have ht : tot ls = tot ls.dropLast + (ls.getLast hne).length := by rw [← tot_one, ← tot_app, hsp]
          unfold addLast
          rw [hgl]
          refine ⟨by simp [List.length_dropLast], ?_, by simp, fun h1 h2 l hl => ?_⟩
          · rw [tot_app, tot_one, List.length_append, ht, List.length_cons]; omega
          · rcases List.mem_append.1 hl with q | q
            · exact h1 l (List.dropLast_subset ls q)
            · obtain rfl := List.mem_singleton.1 q
              intro x hx
              rcases List.mem_append.1 hx with q | q
              · exact h1 _ (List.getLast_mem hne) x q
              · exact h2 x (by simp [q])
        · cases h
      · obtain rfl := Option.some.inj h
        refine ⟨by simp, by rw [tot_app, tot_one]; exact Nat.le_refl _, by simp, fun h1 h2 l hl => ?_⟩
        rcases List.mem_append.1 hl with q | q
        · exact h1 l q
        · obtain rfl := List.mem_singleton.1 q
          exact h2
theorem uAll_app : ∀ (rs rs' : List (List Int)) (ls : List (List Int)) (op : Bool), uAll (rs ++ rs') ls op = (uAll rs ls op).bind fun p => uAll rs' p.1 p.2
  | [], _, _, _ => rfl
  | r :: rs, rs', ls, op => by
    simp only [List.cons_append, uAll]
    cases uStep ls op r with
    | none => rfl
    | some p => exact uAll_app rs rs' p.1 p.2
theorem uAll_one (r : List Int) (ls : List (List Int)) (op : Bool) : uAll [r] ls op = uStep ls op r := by
  simp only [uAll]
  cases uStep ls op r <;> rfl
theorem uAll_ok : ∀ (rs ls : List (List Int)) (op : Bool) (p : List (List Int) × Bool), (op = true → ls ≠ []) → uAll rs ls op = some p →
    p.1.length ≤ ls.length + rs.length ∧ tot p.1 ≤ tot ls + tot rs ∧ (p.2 = true → p.1 ≠ []) ∧ ((∀ l ∈ ls, Byt l) → (∀ l ∈ rs, Byt l) → ∀ l ∈ p.1, Byt l)
  | [], ls, op, p, hop, h => by
    obtain rfl := Option.some.inj h
    exact ⟨Nat.le_refl _, by simp [tot], hop, fun h1 _ => h1⟩
  | r :: rs, ls, op, p, hop, h => by
    simp only [uAll] at h
    obtain ⟨q, hq, h2⟩ := Option.bind_eq_some_iff.1 h
    obtain ⟨a1, a2, a3, a4⟩ := uStep_ok hop hq
    obtain ⟨b1, b2, b3, b4⟩ := uAll_ok rs q.1 q.2 p (fun _ => a3) h2
    refine ⟨by simp only [List.length_cons]; omega, ?_, b3, fun h1 h2 => b4 (a4 h1 (h2 r (by simp))) (fun l hl => h2 l (by simp [hl]))⟩
    have : tot (r :: rs) = r.length + tot rs := by simp [tot]
    omega
theorem rowsL_tot : ∀ (f : Nat) (l : List Int), tot (rowsL f l) ≤ l.length
  | 0, _ => Nat.zero_le _
  | f + 1, [] => Nat.le_refl _
  | f + 1, c :: r => by
    have hl := cutL_len 10 (c :: r)
    have ih := rowsL_tot f (cutL 10 (c :: r)).2.1
    have hs := stripR_len (cutL 10 (c :: r)).1
    simp only [rowsL]
    have : ∀ (a : List Int) (b : List (List Int)), tot (a :: b) = a.length + tot b := fun a b => by simp [tot]
    rw [this]
    split <;> omega
/-- an end that comes early -/
theorem uAll_none (rs : List (List Int)) (k : Nat) (r : List Int) (ls : List (List Int)) (op : Bool) (hk : rs[k]? = some r) (h1 : uAll (rs.take k) [] false = some (ls, op)) (h2 : uStep ls op r = none) : uAll rs [] false = none := by
  have hlt := (List.getElem?_eq_some_iff.1 hk).1
  have e : rs = rs.take k ++ r :: rs.drop (k + 1) := by
    rw [← (List.getElem?_eq_some_iff.1 hk).2, List.getElem_cons_drop, List.take_append_drop]
  rw [e, uAll_app, h1]
  show (uStep ls op r).bind _ = none
  rw [h2]
  rfl
theorem uAll_succ (rs : List (List Int)) (k : Nat) (r : List Int) (ls : List (List Int)) (op : Bool) (hk : rs[k]? = some r) (h1 : uAll (rs.take k) [] false = some (ls, op)) : uAll (rs.take (k + 1)) [] false = uStep ls op r := by
  rw [List.take_add_one, hk, uAll_app, h1]
  exact uAll_one r ls op
end Fold
end Go.Proofs.YtjnfoocmilbdlaaGreatDoor
