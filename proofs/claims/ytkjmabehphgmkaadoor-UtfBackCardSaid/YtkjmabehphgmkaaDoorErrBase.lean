/- Go's own errors.As and errors.Is at this seat: closed facts on the entries of internal/reflectlite, and the contracts at nil. -/
import Derived.Test.YtkjmabehphgmkaaDoorBase
import Derived.WalkKit
import Derived.LaidEql
import Derived.Stop.Asserts
import Derived.RowKitTokens
import Derived.WalkLawsBesides
import Derived.WalkSpells
import Derived.Laws.Rows
import Derived.Laws.Tables
namespace Go.Proofs.YtkjmabehphgmkaaDoor
set_option linter.unusedSimpArgs false
set_option linter.unusedVariables false
open Go.RowKit Go.Extern.Stop Go.Stop Go.Extern

/-- errors.As(nil, target). -/
theorem as_nil (t : Value) (w : World) :
    Calls Tryd.prog 33 #[.nilIface, t] w fun e w' => e = .returned (.bool false) ∧ w = w' := by
  go_enter Tryd.func33, Tryd.ntmps33
  go_wp2
  go_ret
  exact ⟨rfl, rfl⟩

/-- errors.Is(nil, x). -/
theorem is_nil (b : Addr) (w : World) :
    Calls Tryd.prog 42 #[.nilIface, .iface 111 (.pointer (some b))] w fun e w' => e = .returned (.bool false) ∧ w = w' := by
  have hn := run_eql_iface_nil_left (P := Tryd.prog) w 111 (.pointer (some b)) Tryd.underlying39
  go_enter Tryd.func42, Tryd.ntmps42
  go_wp2
  go_ret
  exact ⟨rfl, rfl⟩

theorem rlm (z : Sem Value) (f : TypeId → Addr → Nat → Nat → Sem Value) (v : Value) :
    ReflectliteValue.method z f #[v] = (do match ← ReflectliteValue.parts v with | none => z | some (t, a, fl) => f t a fl (fl % 32)) := rfl
theorem rls (v x : Value) : ReflectliteValue.set #[v, x] = (do
    let (some (dst, a, fl), some (src, b, _)) := (← ReflectliteValue.parts v, ← ReflectliteValue.parts x)
      | unsupported (.noEntry "extern/(internal/reflectlite.Value).Set.zeroValue")
    if fl / ReflectliteValue.flagAddr % 2 == 0 then unsupported (.noEntry "extern/(internal/reflectlite.Value).Set.unaddressable")
    let val ← loadVar src b
    if ← Rtype.directlyAssignable dst src then storeVar dst a val
    else if ← Rtype.implements dst src then
      if (← Rtype.kind src) == 20 then
        match val with
        | .nilIface => unsupported (.noEntry "extern/reflectlite: a nil value of one interface type handed on as a value of another")
        | _ => storeVar dst a val
      else storeVar dst a (.iface src val)
    else panicString ("reflectlite.Set: value of type " ++ (← Rtype.spelt src) ++ " is not assignable to type " ++ (← Rtype.spelt dst))
    pure (.tuple #[])) := rfl

theorem eMethodKind (h : Value) (w : World) : (Go.method 241 91 (.agg #[h]) "Kind").run Tryd.prog w = .ok (74, h) w := by kernel_rfl
theorem eMethodElem (h : Value) (w : World) : (Go.method 241 91 (.agg #[h]) "Elem").run Tryd.prog w = .ok (86, .agg #[h]) w := by kernel_rfl
theorem eMethodImplements (h : Value) (w : World) : (Go.method 241 91 (.agg #[h]) "Implements").run Tryd.prog w = .ok (87, .agg #[h]) w := by kernel_rfl
theorem eMethodAssignableTo (h : Value) (w : World) : (Go.method 241 91 (.agg #[h]) "AssignableTo").run Tryd.prog w = .ok (84, .agg #[h]) w := by kernel_rfl
theorem eMethodComparable (v : Value) (w : World) : (Go.method 241 91 v "Comparable").run Tryd.prog w = .ok (85, v) w := by kernel_rfl
theorem eTypeOfES (v : Value) (w : World) : (ReflectliteType.typeOf #[.iface 111 v]).run Tryd.prog w = .ok (.iface 91 (.agg #[.pointer (some ⟨4, 111, none⟩)])) w := by kernel_rfl
/-- the model's entry for (rtype).Comparable, under a name -/
def cmpE : Array Value → Sem Value := ReflectliteType.method fun t => do Rtype.noPackHeld "Comparable" t; pure (.bool (← typeInfo t).comparable)
theorem eComparableES (w : World) : (cmpE #[.agg #[.pointer (some ⟨4, 111, none⟩)]]).run Tryd.prog w = .ok (.bool true) w := by kernel_rfl
theorem eComp : (Tryd.prog.info? 111).map (·.comparable) = some true := by kernel_rfl
theorem eSize : (Tryd.prog.info? 130).map (·.size) = some 1 := by kernel_rfl
theorem eNoIs (v : Value) (xT : TypeId) (w : World) : (Instr.typeAssert (.iface 111 v) xT 108 true).run Tryd.prog w = .ok (.tuple #[.nilIface, .bool false]) w := run_typeAssert_lacksB Tryd.underlying108 (by kernel_rfl) (by kernel_rfl) v xT w
theorem eNoUnwrap (v : Value) (xT : TypeId) (w : World) : (Instr.typeAssert (.iface 111 v) xT 98 true).run Tryd.prog w = .ok (.tuple #[.nilIface, .bool false]) w := run_typeAssert_lacksB Tryd.underlying98 (by kernel_rfl) (by kernel_rfl) v xT w
theorem eNoUnwraps (v : Value) (xT : TypeId) (w : World) : (Instr.typeAssert (.iface 111 v) xT 99 true).run Tryd.prog w = .ok (.tuple #[.nilIface, .bool false]) w := run_typeAssert_lacksB Tryd.underlying99 (by kernel_rfl) (by kernel_rfl) v xT w
end Go.Proofs.YtkjmabehphgmkaaDoor
