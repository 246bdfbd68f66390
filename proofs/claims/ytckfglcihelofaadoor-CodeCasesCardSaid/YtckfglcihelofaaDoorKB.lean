/- KB: several texts of this seat laid as one. -/
import Derived.Test.YtckfglcihelofaaDoorKA
import Derived.Below
import Derived.Lib.SmallJoins
import Derived.StillTailTactics
import Derived.Deep.AppendLies
import Derived.Laws.BitsAllLaws
import Derived.Laws.Bits128
import Derived.Deep.RegionHeld3
/- Go's own errors.As and errors.Is at the errors of one package: a struct of one number, that wraps the package's one sentinel. -/
namespace Go.Proofs.YtckfglcihelofaaDoor
set_option linter.unusedSimpArgs false
set_option linter.unusedVariables false
namespace Code
open Go.RowKit Go.Extern.Stop Go.Stop Go.Extern

/-- the error as a value -/
abbrev werr (n : Int) : Value := .iface 73 (.agg #[.int .i64 n])

theorem valueOfPW (t : Addr) (w : World) : (ReflectliteValue.unpack (.iface 76 (.pointer (some t)))).run Tryd.prog w
    = .ok (.agg #[.pointer (some ⟨7, 76, none⟩), .pointer (some ⟨w.heap.size, 0, none⟩), .int .u64 150]) (w.alloc (.cells #[.pointer (some t)] 76)) := by kernel_rfl
theorem typePW (a : Addr) (w : World) : (ReflectliteValue.methodAny (ReflectliteValue.valueError "reflectlite.Value.Type" 0) (fun t _ _ _ => ReflectliteType.toType t) #[.agg #[.pointer (some ⟨7, 76, none⟩), .pointer (some a), .int .u64 150]]).run Tryd.prog w
    = .ok (.iface 126 (.agg #[.pointer (some ⟨7, 76, none⟩)])) w := by kernel_rfl
theorem kindPW (w : World) : ((ReflectliteType.abiMethod fun t => (fun a : Nat => Value.int IntKind.u8 (a : Int)) <$> Rtype.kind t) #[.pointer (some ⟨7, 76, none⟩)]).run Tryd.prog w = .ok (.int .u8 22) w := by kernel_rfl
theorem kindW (w : World) : ((ReflectliteType.abiMethod fun t => (fun a : Nat => Value.int IntKind.u8 (a : Int)) <$> Rtype.kind t) #[.pointer (some ⟨7, 73, none⟩)]).run Tryd.prog w = .ok (.int .u8 25) w := by kernel_rfl
theorem partsPW (a : Addr) (w : World) : (ReflectliteValue.parts (.agg #[.pointer (some ⟨7, 76, none⟩), .pointer (some a), .int .u64 150])).run Tryd.prog w = .ok (some (76, a, 150)) w := by kernel_rfl
theorem isNilPW (a p : Addr) (W : World) (ha : W.cell? a = some (.pointer (some p))) :
    (ReflectliteValue.method (ReflectliteValue.valueError "reflectlite.Value.IsNil" 0) ReflectliteValue.isNil #[.agg #[.pointer (some ⟨7, 76, none⟩), .pointer (some a), .int .u64 150]]).run Tryd.prog W = .ok (.bool false) W := by
  rw [rlm]
  simp only [Sem.run_bind, partsPW, Result.andThen]
  simp [ReflectliteValue.isNil, loadVar, isAgg, underlying, Tryd.underlying76, ha, Result.andThen]
theorem elemPW (w : World) : (ReflectliteType.method ReflectliteType.elem #[.agg #[.pointer (some ⟨7, 76, none⟩)]]).run Tryd.prog w = .ok (.iface 126 (.agg #[.pointer (some ⟨7, 73, none⟩)])) w := by kernel_rfl
theorem implementsW (w : World) : (ReflectliteType.relation "Implements" ReflectliteType.implements_ #[.agg #[.pointer (some ⟨7, 73, none⟩)], .iface 126 (.agg #[.pointer (some ⟨7, 39, none⟩)])]).run Tryd.prog w = .ok (.bool true) w := by kernel_rfl
theorem typeOfW (v : Value) (w : World) : (ReflectliteType.typeOf #[.iface 73 v]).run Tryd.prog w = .ok (.iface 126 (.agg #[.pointer (some ⟨7, 73, none⟩)])) w := by kernel_rfl
theorem assignableW (w : World) : (ReflectliteType.relation "AssignableTo" ReflectliteType.assignableTo #[.agg #[.pointer (some ⟨7, 73, none⟩)], .iface 126 (.agg #[.pointer (some ⟨7, 73, none⟩)])]).run Tryd.prog w = .ok (.bool true) w := by kernel_rfl
theorem valueOfW (n : Int) (w : World) : (ReflectliteValue.unpack (werr n)).run Tryd.prog w
    = .ok (.agg #[.pointer (some ⟨7, 73, none⟩), .pointer (some ⟨w.heap.size, 0, none⟩), .int .u64 153]) (w.alloc (.cells #[.int .i64 n] 73)) := by kernel_rfl
theorem elemOfPW (w : World) : (Rtype.elem? 76).run Tryd.prog w = .ok (some 73) w := by kernel_rfl
theorem mkW (p : Addr) (w : World) : (ReflectliteValue.mk 73 p ReflectliteValue.flagAddr).run Tryd.prog w = .ok (.agg #[.pointer (some ⟨7, 73, none⟩), .pointer (some p), .int .u64 409]) w := by kernel_rfl
theorem elemVPW (a p : Addr) (W : World) (ha : W.cell? a = some (.pointer (some p))) :
    (ReflectliteValue.method (ReflectliteValue.valueError "reflectlite.Value.Elem" 0) ReflectliteValue.elem #[.agg #[.pointer (some ⟨7, 76, none⟩), .pointer (some a), .int .u64 150]]).run Tryd.prog W
      = .ok (.agg #[.pointer (some ⟨7, 73, none⟩), .pointer (some p), .int .u64 409]) W := by
  rw [rlm]
  simp only [Sem.run_bind, partsPW, Result.andThen]
  simp [ReflectliteValue.elem, loadVar, isAgg, underlying, Tryd.underlying76, ha, Result.andThen, elemOfPW, mkW]
theorem partsWa (a : Addr) (w : World) : (ReflectliteValue.parts (.agg #[.pointer (some ⟨7, 73, none⟩), .pointer (some a), .int .u64 409])).run Tryd.prog w = .ok (some (73, a, 409)) w := by kernel_rfl
theorem partsW (a : Addr) (w : World) : (ReflectliteValue.parts (.agg #[.pointer (some ⟨7, 73, none⟩), .pointer (some a), .int .u64 153])).run Tryd.prog w = .ok (some (73, a, 153)) w := by kernel_rfl
theorem directW (w : World) : (Rtype.directlyAssignable 73 73).run Tryd.prog w = .ok true w := by kernel_rfl
theorem sizeW : (Tryd.prog.info? 73).map (·.size) = some 1 := by kernel_rfl
theorem setW (g gb : Nat) (v0 : Value) (old : Array Value) (W : World) (hb : W.heap[gb]? = some (.cells #[v0] 73 (0, 0))) (ht : W.heap[g]? = some (.cells old 73 (0, 0))) (ho : old.size = 1) (h1 : (#[v0] : Array Value).all (·.oneCell') = true) :
    (ReflectliteValue.set #[.agg #[.pointer (some ⟨7, 73, none⟩), .pointer (some ⟨g, 0, none⟩), .int .u64 409], .agg #[.pointer (some ⟨7, 73, none⟩), .pointer (some ⟨gb, 0, none⟩), .int .u64 153]]).run Tryd.prog W
      = .ok (.tuple #[]) (W.setRow g #[v0]) := by
  rw [rls]
  simp only [Sem.run_bind, partsWa, partsW, Result.andThen]
  simp [ReflectliteValue.flagAddr, run_loadVar_row (P := Tryd.prog) W gb 73 73 #[v0] (0, 0) _ hb Tryd.underlying73 rfl sizeW, Result.andThen, directW, run_storeVar_row (P := Tryd.prog) W g 73 73 old #[v0] ht sizeW ho h1]

set_option maxHeartbeats 4000000 in
theorem as_hit (n : Int) (g : Nat) (old : Array Value) (w : World) (hg : w.cell? ⟨2, 0, none⟩ = some (.iface 126 (.agg #[.pointer (some ⟨7, 39, none⟩)])))
    (ht : w.heap[g]? = some (.cells old 73 (0, 0))) (ho : old.size = 1) :
    Calls Tryd.prog 63 #[werr n, .iface 76 (.pointer (some ⟨g, 0, none⟩))] w fun ev w' => ev = .returned (.bool true) ∧ Below g w w' ∧ w'.heap[g]? = some (.cells #[.int .i64 n] 73 (0, 0)) := by
  have h6 := @run_callFunc_extern Tryd.prog 77 _ (fun args => ReflectliteValue.unpack (args.getD 0 (.tuple #[]))) Tryd.func77 (by kernel_rfl) (by kernel_rfl) (by kernel_rfl) (by kernel_rfl)
  have h7 := @run_callFunc_extern Tryd.prog 78 _ (ReflectliteValue.methodAny (ReflectliteValue.valueError "reflectlite.Value.Type" 0) (fun t _ _ _ => ReflectliteType.toType t)) Tryd.func78 (by kernel_rfl) (by kernel_rfl) (by kernel_rfl) (by kernel_rfl)
  have h8 := @run_callFunc_extern Tryd.prog 79 _ (ReflectliteValue.method (ReflectliteValue.valueError "reflectlite.Value.IsNil" 0) ReflectliteValue.isNil) Tryd.func79 (by kernel_rfl) (by kernel_rfl) (by kernel_rfl) (by kernel_rfl)
  have h27 := @run_callFunc_extern Tryd.prog 121 _ (ReflectliteType.abiMethod fun t => do pure (.int .u8 (← Rtype.kind t))) Tryd.func121 (by kernel_rfl) (by kernel_rfl) (by kernel_rfl) (by kernel_rfl)
  have h37 := @run_callFunc_extern Tryd.prog 135 _ (ReflectliteType.method ReflectliteType.elem) Tryd.func135 (by kernel_rfl) (by kernel_rfl) (by kernel_rfl) (by kernel_rfl)
  have h38 := @run_callFunc_extern Tryd.prog 136 _ (ReflectliteType.relation "Implements" ReflectliteType.implements_) Tryd.func136 (by kernel_rfl) (by kernel_rfl) (by kernel_rfl) (by kernel_rfl)
  have h10 := @run_callFunc_extern Tryd.prog 75 _ ReflectliteType.typeOf Tryd.func75 (by kernel_rfl) (by kernel_rfl) (by kernel_rfl) (by kernel_rfl)
  have h35 := @run_callFunc_extern Tryd.prog 133 _ (ReflectliteType.relation "AssignableTo" ReflectliteType.assignableTo) Tryd.func133 (by kernel_rfl) (by kernel_rfl) (by kernel_rfl) (by kernel_rfl)
  have h11 := @run_callFunc_extern Tryd.prog 94 _ (ReflectliteValue.method (ReflectliteValue.valueError "reflectlite.Value.Elem" 0) ReflectliteValue.elem) Tryd.func94 (by kernel_rfl) (by kernel_rfl) (by kernel_rfl) (by kernel_rfl)
  have h12 := @run_callFunc_extern Tryd.prog 95 _ ReflectliteValue.set Tryd.func95 (by kernel_rfl) (by kernel_rfl) (by kernel_rfl) (by kernel_rfl)
  have tO := typeOfW
  have mA := eMethodAssignableTo
  have a25 := assignableW
  have v25 := valueOfW n
  have f6 := valueOfPW
  have f7 := typePW
  have mK := eMethodKind
  have mE := eMethodElem
  have mI := eMethodImplements
  have k27 := kindPW
  have k25 := kindW
  have e27 := elemPW
  have i25 := implementsW
  obtain ⟨W1, hW1⟩ : ∃ W1, (w.alloc (.cells #[.pointer (some ⟨g, 0, none⟩)] 76)).alloc (.cells #[.pointer (some ⟨7, 76, none⟩), .pointer (some ⟨w.heap.size, 0, none⟩), .int .u64 150] 99) = W1 := ⟨_, rfl⟩
  have n8 := isNilPW ⟨w.heap.size, 0, none⟩ ⟨g, 0, none⟩ ((w.alloc (.cells #[.pointer (some ⟨g, 0, none⟩)] 76)).alloc (.cells #[.pointer (some ⟨7, 76, none⟩), .pointer (some ⟨w.heap.size, 0, none⟩), .int .u64 150] 99)) (by simp)
  have hlt : 2 < w.heap.size := by
    rcases Nat.lt_or_ge 2 w.heap.size with h | h
    · exact h
    · simp [World.cell?, Array.getElem?_eq_none h] at hg
  have hg2 : ((w.alloc (.cells #[.pointer (some ⟨g, 0, none⟩)] 76)).alloc (.cells #[.pointer (some ⟨7, 76, none⟩), .pointer (some ⟨w.heap.size, 0, none⟩), .int .u64 150] 99)).cell? ⟨2, 0, none⟩ = some (.iface 126 (.agg #[.pointer (some ⟨7, 39, none⟩)])) := by
    rw [World.cell?_alloc_lt _ _ ⟨2, 0, none⟩ (by simp; omega), World.cell?_alloc_lt _ _ ⟨2, 0, none⟩ hlt]; exact hg
  have htl : g < w.heap.size := (Array.getElem?_eq_some_iff.1 ht).1
  have el := elemVPW ⟨w.heap.size, 0, none⟩ ⟨g, 0, none⟩ (((w.alloc (.cells #[.pointer (some ⟨g, 0, none⟩)] 76)).alloc (.cells #[.pointer (some ⟨7, 76, none⟩), .pointer (some ⟨w.heap.size, 0, none⟩), .int .u64 150] 99)).alloc (.cells #[.pointer (some ⟨7, 76, none⟩), .pointer (some ⟨w.heap.size, 0, none⟩), .int .u64 150] 99)) (by rw [World.cell?_alloc_lt _ _ ⟨w.heap.size, 0, none⟩ (by simp; omega)]; simp)
  obtain ⟨W4, hW4⟩ : ∃ W4, (((w.alloc (.cells #[.pointer (some ⟨g, 0, none⟩)] 76)).alloc (.cells #[.pointer (some ⟨7, 76, none⟩), .pointer (some ⟨w.heap.size, 0, none⟩), .int .u64 150] 99)).alloc (.cells #[.pointer (some ⟨7, 76, none⟩), .pointer (some ⟨w.heap.size, 0, none⟩), .int .u64 150] 99)).alloc (.cells #[.int .i64 n] 73) = W4 := ⟨_, rfl⟩
  have hB4 : Below (g + 1) w W4 := by rw [← hW4]; exact ((((Below.refl _ w).alloc (by omega) _).alloc (by simp; omega) _).alloc (by simp; omega) _).alloc (by simp; omega) _
  have ht4 : W4.heap[g]? = some (.cells old 73 (0, 0)) := (hB4.block g (by omega)).trans ht
  have hb4 : W4.heap[w.heap.size + 1 + 1 + 1]? = some (.cells #[.int .i64 n] 73 (0, 0)) := by
    rw [← hW4]
    show (Array.push _ _)[_]? = _
    rw [Array.getElem?_push, if_pos (by simp)]
  have st := setW g (w.heap.size + 1 + 1 + 1) (.int .i64 n) old W4 hb4 ht4 ho (by simp [Value.oneCell'])
  have HR := setRow_heap (cs := #[.int .i64 n]) ht4
  have HB := setRow_below (g := g) (hB4.mono (Nat.le_succ g)) (Nat.le_refl _) #[.int .i64 n]
  rw [← hW4] at st HR HB
  have HR' : Hid _ := HR
  have HB' : Hid _ := HB
  clear HR HB hW1 ht4 hb4 hB4 hW4 ht ho
  go_enter Tryd.func63, Tryd.ntmps63
  go_wp2
  refine wp_loop_rounds 1 ?_
  rw [rounds_succ]
  go_wp2
  go_ret
  exact ⟨rfl, HB'.out, HR'.out⟩

/-! errors.Is -/
theorem noIsW (v : Value) (xT : TypeId) (w : World) : (Instr.typeAssert (.iface 73 v) xT 128 true).run Tryd.prog w = .ok (.tuple #[.nilIface, .bool false]) w := run_typeAssert_lacksB Tryd.underlying128 (by kernel_rfl) (by kernel_rfl) v xT w
theorem hasUnwrapW (v : Value) (xT : TypeId) (w : World) : (Instr.typeAssert (.iface 73 v) xT 131 true).run Tryd.prog w = .ok (.tuple #[.iface 73 v, .bool true]) w := run_typeAssert_hasB Tryd.underlying131 (by kernel_rfl) v xT w
theorem methodUnwrapW (v : Value) (w : World) : (Go.method 287 73 v "Unwrap").run Tryd.prog w = .ok (126, v) w := by kernel_rfl

/-- errors.Is(wrong{n}, the package's own sentinel): it is. -/
theorem is_same (n : Int) (b : Addr) (w : World) (hg : w.cell? ⟨0, 0, none⟩ = some (.iface 156 (.pointer (some b)))) :
    Calls Tryd.prog 62 #[werr n, .iface 156 (.pointer (some b))] w fun e w' => e = .returned (.bool true) ∧ Below w.heap.size w w' := by
  obtain ⟨i, hi, hcmp⟩ := Option.map_eq_some_iff.1 eComp
  obtain ⟨j, hj, hjs⟩ := Option.map_eq_some_iff.1 eSize
  have h8 := @run_callFunc_extern Tryd.prog 75 _ Extern.ReflectliteType.typeOf Tryd.func75 (by kernel_rfl) (by kernel_rfl) (by kernel_rfl) (by kernel_rfl)
  have h32 := @run_callFunc_extern Tryd.prog 134 _ cmpE Tryd.func134 (by kernel_rfl) (by kernel_rfl) (by kernel_rfl) (by kernel_rfl)
  have tT := eTypeOfES
  have cT := eComparableES
  have mR := eMethodComparable
  have nE := eNoIs
  have uE := eNoUnwrap
  have vE := eNoUnwraps
  have nW := noIsW
  have uW := hasUnwrapW
  have mU := methodUnwrapW
  have hlt := lt_of_cell hg
  simp only at hlt
  have heq := fun w => run_eql_iface_ptr_same (P := Tryd.prog) w b Tryd.underlying39 Tryd.underlying156 hi hcmp hj
  have hty := fun w => run_eql_iface_types (P := Tryd.prog) 73 156 (.agg #[.int .i64 n]) (.pointer (some b)) Tryd.underlying39 (by decide) w
  go_enter Tryd.func62, Tryd.ntmps62
  go_wp2
  refine wp_loop_rounds 2 ?_
  rw [rounds_succ]
  go_wp2
  rw [rounds_succ]
  go_wp2
  go_ret
  exact ⟨rfl, by repeat (first | exact Below.refl _ _ | refine Below.alloc ?_ (by simp) _)⟩
end Code
end Go.Proofs.YtckfglcihelofaaDoor
/- What the package-level variables of one package hold. -/
namespace Go.Proofs.YtckfglcihelofaaDoor
set_option linter.unusedSimpArgs false
set_option linter.unusedVariables false
namespace Code
open Go.RowKit
structure GA (a0 : Addr) (w : World) : Prop where
  et : w.cell? ⟨2, 0, none⟩ = some (.iface 126 (.agg #[.pointer (some ⟨7, 39, none⟩)]))
  g0 : w.cell? ⟨0, 0, none⟩ = some (.iface 156 (.pointer (some a0)))
  h0 : ∃ c t, w.heap[a0.block]? = some (.cells c t (0, 0))
theorem GA.below {a0 : Addr} {w w' : World} (h : GA a0 w) (hb : Below w.heap.size w w') : GA a0 w' where
  et := (hb.cell (lt_of_cell h.et)).trans h.et
  g0 := (hb.cell (lt_of_cell h.g0)).trans h.g0
  h0 := by obtain ⟨c, t, hc⟩ := h.h0; exact ⟨c, t, (hb.block _ (Array.getElem?_eq_some_iff.1 hc).1).trans hc⟩
end Code
end Go.Proofs.YtckfglcihelofaaDoor
/- code's worth. -/
namespace Go.Proofs.YtckfglcihelofaaDoor
set_option linter.unusedSimpArgs false
set_option linter.unusedVariables false
namespace Code
open Go.RowKit Go.Shelf Go.Proofs.YtckfglcihelofaaDoorW.PrintWords
attribute [local go_sem] Oper.semAt_some
/-- the signs lie in block b -/
def Signs (b : Nat) (w : World) : Prop := ∀ j : Nat, j < 64 → w.cell? ⟨b, j, none⟩ = some (.int .u8 (b64 j))
def wV (c : Int) : Value := .tuple #[.int .i64 ((worthL c).getD 0), .bool (worthL c).isSome]
theorem wV_hit (k : Nat) (hk : k < 64) (c : Int) (h : b64 k = c) : wV c = .tuple #[.int .i64 k, .bool true] := by
  have := worth_b64 k (by omega) (by omega)
  rw [h] at this
  simp [wV, this]
theorem wV_no (c : Int) (h : ∀ k : Nat, k < 64 → b64 k ≠ c) : wV c = .tuple #[.int .i64 0, .bool false] := by
  have : worthL c = none := by
    cases e : worthL c with
    | none => rfl
    | some v =>
      obtain ⟨h0, h1, h2⟩ := b64_worth c v e
      exact absurd (by rw [show ((v.toNat : Nat) : Int) = v by omega]; exact h2) (h v.toNat (by omega))
  simp [wV, this]
set_option maxHeartbeats 4000000 in
set_option maxRecDepth 1000000 in
theorem worth_c (b : Nat) (c : Int) (w : World) (h : Signs b w) :
    Calls Tryd.prog 74 #[.pointer (some ⟨b, 0, none⟩), .int .u8 c] w fun e w' => e = .returned (wV c) ∧ Below w.heap.size w w' := by
  have H := Lib.hid h
  clear h
  go_enter Tryd.func74, Tryd.ntmps74
  go_wp2
  go_loopw [9] (fun i wr => ∃ j : Nat, i = .int .i64 j ∧ j ≤ 64 ∧ RowKit.Hid (∀ k : Nat, k < j → b64 k ≠ c) ∧ Below w.heap.size w wr)
    (fun i _ => 64 - (intOf i).toNat)
  case atStart =>
    exact ⟨0, rfl, Nat.zero_le _, Lib.hid (fun k hk => absurd hk (Nat.not_lt_zero _)), Below.refl _ _⟩
  case round =>
    obtain ⟨j, rfl, hj, HV, hb⟩ := hrel
    by_cases hlt : j < 64
    · have hc := (hb.cell (lt_of_cell (H.out j hlt))).trans (H.out j hlt)
      by_cases hq : b64 j = c
      · have HQ := Lib.hid (wV_hit j hlt c hq)
        rw [hq] at hc
        clear hq
        go_wp2_with fail
        all_goals first | go_region | skip
        all_goals go_wp2_with fail
        all_goals refine bodyPost_ret (v := .tuple #[.int .i64 j, .bool true]) (by simp [results, Tryd.results74, go_sem]) rfl ⟨by rw [HQ.out], by repeat (first | exact hb | refine Below.drew ?_)⟩
      · go_wp2_with fail
        all_goals first | go_region | skip
        all_goals go_wp2_with fail
        go_roundw
        case rel => exact ⟨j + 1, by simp, by omega, Lib.hid (fun k hk => by
          rcases Nat.lt_or_ge k j with h1 | h1
          · exact HV.out k h1
          · rw [show k = j by omega]; exact hq), by repeat (first | exact hb | refine Below.drew ?_)⟩
        case measure => simp [intOf]; omega
    · obtain rfl : j = 64 := by omega
      have HQ := Lib.hid (wV_no c HV.out)
      go_wp2_with fail
      refine bodyPost_ret (v := .tuple #[.int .i64 0, .bool false]) (by simp [results, Tryd.results74, go_sem]) rfl ⟨by rw [HQ.out], by repeat (first | exact hb | refine Below.drew ?_)⟩
end Code
end Go.Proofs.YtckfglcihelofaaDoor
/- code's Hex. -/
namespace Go.Proofs.YtckfglcihelofaaDoor
set_option linter.unusedSimpArgs false
set_option linter.unusedVariables false
namespace Code
open Go.RowKit Go.Shelf Go.Proofs.YtckfglcihelofaaDoorW.PrintWords Go.Proofs.YtckfglcihelofaaDoor.PureB
attribute [local go_sem] Oper.semAt_some
/-- a text's bytes lie in block b -/
def BytesAt (s : ByteArray) (b : Nat) (w : World) : Prop := ∀ j : Nat, j < s.size → w.cell? ⟨b, j, none⟩ = some (.int .u8 (bt s j))
theorem bytesWorld_at (w : World) (e : TypeId) (s : ByteArray) : BytesAt s w.heap.size (Lib.bytesWorld w e s) := by
  intro j hj
  rw [Lib.bytesWorld_cell w e s j hj, bt_nat s j hj]
  congr 3
  rw [List.getD_eq_getElem?_getD, Array.getElem?_toList, Array.getElem?_eq_getElem hj]
  rfl
theorem dg_at (i : Int) (h0 : 0 ≤ i) (h1 : i < 16) : bt ⟨#[48, 49, 50, 51, 52, 53, 54, 55, 56, 57, 97, 98, 99, 100, 101, 102]⟩ i = dg i := by
  obtain ⟨k, rfl⟩ : ∃ k : Nat, i = k := ⟨i.toNat, by omega⟩
  have : k < 16 := by omega
  revert h0 h1
  revert k
  decide
theorem own_base {w : World} {base : Nat} {e : TypeId} {size : Nat} {v : Value} {n : Nat} {xs : List Value} (h : w.ownsRow base e size v n xs) : ∀ k, v.ownBlock = some k → base ≤ k := by
  intro k hk
  rcases h.2 with ⟨hv, _⟩ | ⟨g, cap, cur, hv, hb, _⟩
  · rw [hv] at hk; simp [Value.ownBlock] at hk
  · rw [hv] at hk; simp [Value.ownBlock] at hk; omega
theorem hex_succ (s : ByteArray) (j : Nat) (h : j < s.size) : hexL ((bl s).take (j + 1)) = hexL ((bl s).take j) ++ [dg (bt s j / 16), dg (bt s j % 16)] := by
  rw [List.take_add_one, bl_get s j h]
  simp [hexL]
theorem nums_append (k : IntKind) (a b : List Int) : nums k (a ++ b) = nums k a ++ nums k b := by simp [nums]
theorem hexL_len (l : List Int) : (hexL l).length = 2 * l.length := by
  induction l with
  | nil => rfl
  | cons a l ih => simp [hexL] at ih ⊢; omega
set_option maxHeartbeats 4000000 in
set_option maxRecDepth 1000000 in
theorem Hex_c (s : ByteArray) (hs : s.size ≤ 4611686018427) (w : World) :
    Calls Tryd.prog 34 #[.string s] w fun e w' => e = .returned (.string (strOfNums (hexL (bl s)))) ∧ Below w.heap.size w w' := by
  obtain ⟨w1, hw1⟩ : ∃ x, Lib.bytesWorld w 5 s = x := ⟨_, rfl⟩
  have hconv := Lib.run_convert_string_bytes (P := Tryd.prog) w 9 29 5 s Tryd.underlying9 Tryd.underlying29 Tryd.underlying5
  have hB1 := Joins.below_bytesWorld w.heap.size w 5 s (Nat.le_refl _)
  have hs1 := Lib.bytesWorld_size w 5 s
  have hat := bytesWorld_at w 5 s
  rw [hw1] at hconv hB1 hs1 hat
  have HAT := Lib.hid hat
  have HB1 := Lib.hid hB1
  obtain ⟨i0, hi, hz0, hz1, hz2⟩ := info_parts Bld.infoByte
  clear hw1 hat hB1
  generalize grownCap w s.size 0 5 = cap at hconv
  go_enter Tryd.func34, Tryd.ntmps34
  go_wp2_with fail
  go_loopw [3, 9] (fun v i wr => ∃ j : Nat, i = .int .i64 j ∧ j ≤ s.size ∧ wr.ownsRow (w.heap.size + 1) 5 1 v (2 * j) (nums .u8 (hexL ((bl s).take j))) ∧ Below (w.heap.size + 1) w1 wr)
    (fun _ i _ => s.size - (intOf i).toNat)
  case atStart =>
    exact ⟨0, rfl, Nat.zero_le _, World.ownsRow_nil _ _ _ _, Below.refl _ _⟩
  case round =>
    obtain ⟨j, rfl, hj, hr, hb⟩ := hrel
    by_cases hlt : j < s.size
    · have hc := HAT.out j hlt
      have hc := (hb.cell (by simp)).trans hc
      have hbr := bt_range s j
      obtain ⟨x, hx⟩ : ∃ x, bt s j = x := ⟨_, rfl⟩
      rw [hx] at hc hbr
      have HX := Lib.hid hx
      clear hx
      have g1 : 0 ≤ x / 16 := by omega
      have g2 : x / 16 < 16 := by omega
      have g3 : (x / 16).toNat < 16 := by omega
      have g4 : 0 ≤ x % 16 := by omega
      have g5 : x % 16 < 16 := by omega
      have g6 : (x % 16).toNat < 16 := by omega
      have d1 : (((⟨#[48, 49, 50, 51, 52, 53, 54, 55, 56, 57, 97, 98, 99, 100, 101, 102]⟩ : ByteArray)[(x / 16).toNat]'g3).toNat : Int) = dg (x / 16) := by
        rw [← dg_at _ g1 g2, ← bt_nat _ _ g3, show (((x / 16).toNat : Nat) : Int) = x / 16 by omega]
      have d2 : (((⟨#[48, 49, 50, 51, 52, 53, 54, 55, 56, 57, 97, 98, 99, 100, 101, 102]⟩ : ByteArray)[(x % 16).toNat]'g6).toNat : Int) = dg (x % 16) := by
        rw [← dg_at _ g4 g5, ← bt_nat _ _ g6, show (((x % 16).toNat : Nat) : Int) = x % 16 by omega]
      have hand : bits BinOp.and IntKind.u8 x 15 = x % 16 := by
        rw [u8_and x 15 (by omega) (by omega) (by omega) (by omega), show (15 : Int).toNat = 2 ^ 4 - 1 from rfl, Nat.and_two_pow_sub_one_eq_mod]
        omega
      have HR := Lib.hid hr
      have HS : Hid (w.heap.size + 1 ≤ wr.heap.size) := hs1 ▸ hb.size
      have HJ := Lib.hid (show 2 * j + 2 ≤ 140737488355328 by omega)
      clear hr
      go_wp2_with fail
      have HN : Hid (∀ (i : Nat) (u : Value), [Value.int .u8 (dg (x / 16)), .int .u8 (dg (x % 16))][i]? = some u → (wr.drew.alloc (.cells #[.int .u8 (dg (x / 16)), .int .u8 (dg (x % 16))] 5)).cell? ((⟨wr.heap.size, 0, none⟩ : Addr).add i) = some u) := World.news_of_block (World.alloc_heap_new wr.drew (.cells #[.int .u8 (dg (x / 16)), .int .u8 (dg (x % 16))] 5))
      have HR2 : Hid ((wr.drew.alloc (.cells #[.int .u8 (dg (x / 16)), .int .u8 (dg (x % 16))] 5)).ownsRow (w.heap.size + 1) 5 1 u3 (2 * j) (nums .u8 (hexL ((bl s).take j)))) := HR.out.alloc _
      have HL : Hid (w.heap.size + 1 ≤ (wr.drew.alloc (.cells #[.int .u8 (dg (x / 16)), .int .u8 (dg (x % 16))] 5)).heap.size) := Nat.le_trans HS.out (by simp)
      go_region_law (refine step_append_lies (wr.drew.alloc (.cells #[.int .u8 (dg (x / 16)), .int .u8 (dg (x % 16))] 5)) rfl (.tmp 13) (.tmp 20) 29 rfl (w.heap.size + 1) 5 i0 (.int .u8 0) 1 1 Tryd.underlying29 hi hz0 hz1 hz2 rfl (by decide) u3 (2 * j) (nums .u8 (hexL ((bl s).take j))) (by simp [Act.eval, Act.put]) HR2.out ⟨wr.heap.size, 0, none⟩ 2 2 [.int .u8 (dg (x / 16)), .int .u8 (dg (x % 16))] (by simp [Act.eval, Act.put]) rfl HN.out (by simp [Value.oneCell']) (by decide) (by unfold maxLen; have := HJ.out; omega) (by have := HJ.out; omega) HL.out _ rfl ?_; intro g c2 w3 ho hg _ _; have HO := Lib.hid ho; have HG := Lib.hid hg; clear ho hg)
      all_goals go_wp2_with fail
      all_goals
        go_roundw
        case rel =>
          refine ⟨j + 1, by simp, by omega, ?_, ((hb.alloc (by have := HS.out; omega) _).drew).grown HG.out (Nat.le_trans HS.out (by simp)) (own_base HR.out)⟩
          rw [hex_succ s j hlt, nums_append, HX.out]
          exact HO.out
        case measure => simp [intOf]; omega
    · obtain rfl : j = s.size := by omega
      rw [List.take_of_length_le (by rw [bl_len]; omega), show 2 * s.size = (hexL (bl s)).length by rw [hexL_len, bl_len]] at hr
      obtain ⟨A', c', rfl, hrd⟩ := own_reads hr
      have hst := string_of_reads (P := Tryd.prog) (w := wr) (src := 29) (dst := 9) (c := c') Tryd.underlying29 Tryd.underlying5 Tryd.underlying9 hrd
      have HB := Lib.hid hb
      clear hr hrd hb
      go_wp2_with fail
      refine bodyPost_ret (v := .string (strOfNums (hexL (bl s)))) (by simp [results, Tryd.results34, go_sem]) rfl ⟨rfl, HB1.out.trans ((HB.out).mono (by omega))⟩
end Code
end Go.Proofs.YtckfglcihelofaaDoor
/- bits as code joins them. No program in sight. -/
namespace Go.Proofs.YtckfglcihelofaaDoor
set_option linter.unusedSimpArgs false
set_option linter.unusedVariables false
namespace Code
theorem and63 (n : Int) : bits .and .i64 n 63 = n % 64 := by
  have h63 : (BitVec.ofInt 64 63).toNat = 2 ^ 6 - 1 := by decide
  have key : (BitVec.ofInt 64 n &&& BitVec.ofInt 64 63).toNat = (n % ((2 ^ 64 : Nat) : Int)).toNat % 2 ^ 6 := by
    rw [BitVec.toNat_and, BitVec.toNat_ofInt, h63, Nat.and_two_pow_sub_one_eq_mod]
  show IntKind.i64.wrap ((BitVec.ofInt 64 n &&& BitVec.ofInt 64 63).toNat : Nat) = n % 64
  rw [key, IntKind.wrap_i64]
  omega
theorem or_hi (i : Nat) (x y : Int) (hx0 : 0 ≤ x) (hx : x % 2 ^ i = 0) (hx1 : x < 2 ^ 40) (hy0 : 0 ≤ y) (hy : y < 2 ^ i) (hy1 : y < 2 ^ 40) : bits .or .i64 x y = x + y :=
  bits_join .i64 40 (by decide) (fun n h0 h1 => by rw [IntKind.wrap_i64]; omega) i x y hx0 hx hx1 hy0 hy hy1
theorem or_lo (i : Nat) (x y : Int) (hx0 : 0 ≤ x) (hx : x % 2 ^ i = 0) (hx1 : x < 2 ^ 40) (hy0 : 0 ≤ y) (hy : y < 2 ^ i) (hy1 : y < 2 ^ 40) : bits .or .i64 y x = x + y := by
  have : bits .or .i64 y x = bits .or .i64 x y := by simp only [bits, BitVec.or_comm]
  rw [this, or_hi i x y hx0 hx hx1 hy0 hy hy1]
end Code
end Go.Proofs.YtckfglcihelofaaDoor
/- code's group. -/
namespace Go.Proofs.YtckfglcihelofaaDoor
set_option linter.unusedSimpArgs false
set_option linter.unusedVariables false
namespace Code
open Go.RowKit Go.Shelf Go.Proofs.YtckfglcihelofaaDoorW.PrintWords Go.Proofs.YtckfglcihelofaaDoor.PureB
attribute [local go_sem] Oper.semAt_some
theorem lay4 (w : World) (t : TypeId) (a b c d : Int) : ReadsInt (w.alloc (.cells #[.int .u8 a, .int .u8 b, .int .u8 c, .int .u8 d] t)) .u8 (some ⟨w.heap.size, 0, none⟩) 4 [a, b, c, d] := by
  refine ⟨rfl, by decide, fun _ => ⟨_, rfl, fun j hj => ?_⟩⟩
  refine World.news_of_block (World.alloc_heap_new w _) j _ ?_
  match j, hj with
  | 0, _ => rfl
  | 1, _ => rfl
  | 2, _ => rfl
  | 3, _ => rfl
theorem conv4 (w : World) (a b c d : Int) : (convert 29 9 (.slice (some ⟨w.heap.size, 0, none⟩) 4 4)).run Tryd.prog (w.alloc (.cells #[.int .u8 a, .int .u8 b, .int .u8 c, .int .u8 d] 81)) = .ok (.string (strOfNums [a, b, c, d])) (w.alloc (.cells #[.int .u8 a, .int .u8 b, .int .u8 c, .int .u8 d] 81)) :=
  string_of_reads (P := Tryd.prog) (src := 29) (dst := 9) (c := 4) Tryd.underlying29 Tryd.underlying5 Tryd.underlying9 (lay4 w _ a b c d)
set_option maxHeartbeats 4000000 in
set_option maxRecDepth 1000000 in
theorem group1 (b : Nat) (s : ByteArray) (x : Int) (hsz : s.size = 1) (hx : bt s (0 : Nat) = x) (w : World) (hb : b < w.heap.size) (h : Signs b w) :
    Calls Tryd.prog 53 #[.pointer (some ⟨b, 0, none⟩), .string s] w fun e w' => e = .returned (.string (strOfNums [b64 (x / 4), b64 (x % 4 * 16), 61, 61])) ∧ Below w.heap.size w w' := by
  have rx := bt_range s (0 : Nat)
  rw [hx] at rx
  rw [bt_nat s 0 (by omega)] at hx
  have H0 := h (x / 4).toNat (by omega)
  rw [show (((x / 4).toNat : Nat) : Int) = x / 4 by omega] at H0
  have p0 : 0 ≤ x / 4 := by omega
  have q0 : x / 4 < 64 := by omega
  have H1 := h (x % 4 * 16).toNat (by omega)
  rw [show (((x % 4 * 16).toNat : Nat) : Int) = x % 4 * 16 by omega] at H1
  have p1 : 0 ≤ x % 4 * 16 := by omega
  have q1 : x % 4 * 16 < 64 := by omega
  have e0 : bits BinOp.or IntKind.i64 0 (x * 65536) = x * 65536 := by rw [or_lo 16 (x * 65536) 0 (by omega) (by omega) (by omega) (by omega) (by omega) (by omega)]; omega
  have f1 : bits BinOp.and IntKind.i64 ((x * 65536) / 4096) 63 = x % 4 * 16 := by rw [and63]; omega
  have f0 : bits BinOp.and IntKind.i64 ((x * 65536) / 262144) 63 = x / 4 := by rw [and63]; omega
  have hne : b ≠ w.heap.size := by omega
  have hne' : w.heap.size ≠ b := by omega
  have hst := conv4 w (b64 (x / 4)) (b64 (x % 4 * 16)) (61) (61)
  clear h
  go_enter Tryd.func53, Tryd.ntmps53
  go_wp2_with fail
  go_ret
  exact ⟨rfl, (Below.refl _ _).alloc (Nat.le_refl _) _⟩
set_option maxHeartbeats 4000000 in
set_option maxRecDepth 1000000 in
theorem group2 (b : Nat) (s : ByteArray) (x y : Int) (hsz : s.size = 2) (hx : bt s (0 : Nat) = x) (hy : bt s (1 : Nat) = y) (w : World) (hb : b < w.heap.size) (h : Signs b w) :
    Calls Tryd.prog 53 #[.pointer (some ⟨b, 0, none⟩), .string s] w fun e w' => e = .returned (.string (strOfNums [b64 (x / 4), b64 (x % 4 * 16 + y / 16), b64 (y % 16 * 4), 61])) ∧ Below w.heap.size w w' := by
  have rx := bt_range s (0 : Nat)
  rw [hx] at rx
  rw [bt_nat s 0 (by omega)] at hx
  have ry := bt_range s (1 : Nat)
  rw [hy] at ry
  rw [bt_nat s 1 (by omega)] at hy
  have H0 := h (x / 4).toNat (by omega)
  rw [show (((x / 4).toNat : Nat) : Int) = x / 4 by omega] at H0
  have p0 : 0 ≤ x / 4 := by omega
  have q0 : x / 4 < 64 := by omega
  have H1 := h (x % 4 * 16 + y / 16).toNat (by omega)
  rw [show (((x % 4 * 16 + y / 16).toNat : Nat) : Int) = x % 4 * 16 + y / 16 by omega] at H1
  have p1 : 0 ≤ x % 4 * 16 + y / 16 := by omega
  have q1 : x % 4 * 16 + y / 16 < 64 := by omega
  have H2 := h (y % 16 * 4).toNat (by omega)
  rw [show (((y % 16 * 4).toNat : Nat) : Int) = y % 16 * 4 by omega] at H2
  have p2 : 0 ≤ y % 16 * 4 := by omega
  have q2 : y % 16 * 4 < 64 := by omega
  have e0 : bits BinOp.or IntKind.i64 0 (y * 256) = y * 256 := by rw [or_lo 8 (y * 256) 0 (by omega) (by omega) (by omega) (by omega) (by omega) (by omega)]; omega
  have e1 : bits BinOp.or IntKind.i64 (y * 256) (x * 65536) = x * 65536 + y * 256 := or_lo 16 (x * 65536) (y * 256) (by omega) (by omega) (by omega) (by omega) (by omega) (by omega)
  have f2 : bits BinOp.and IntKind.i64 (y * 256 / 64) 63 = y % 16 * 4 := by rw [and63]; omega
  have f1 : bits BinOp.and IntKind.i64 ((x * 65536 + y * 256) / 4096) 63 = x % 4 * 16 + y / 16 := by rw [and63]; omega
  have f0 : bits BinOp.and IntKind.i64 ((x * 65536 + y * 256) / 262144) 63 = x / 4 := by rw [and63]; omega
  have hne : b ≠ w.heap.size := by omega
  have hne' : w.heap.size ≠ b := by omega
  have hst := conv4 w (b64 (x / 4)) (b64 (x % 4 * 16 + y / 16)) (b64 (y % 16 * 4)) (61)
  clear h
  go_enter Tryd.func53, Tryd.ntmps53
  go_wp2_with fail
  go_ret
  exact ⟨rfl, (Below.refl _ _).alloc (Nat.le_refl _) _⟩
set_option maxHeartbeats 4000000 in
set_option maxRecDepth 1000000 in
theorem group3 (b : Nat) (s : ByteArray) (x y z : Int) (hsz : s.size = 3) (hx : bt s (0 : Nat) = x) (hy : bt s (1 : Nat) = y) (hz : bt s (2 : Nat) = z) (w : World) (hb : b < w.heap.size) (h : Signs b w) :
    Calls Tryd.prog 53 #[.pointer (some ⟨b, 0, none⟩), .string s] w fun e w' => e = .returned (.string (strOfNums [b64 (x / 4), b64 (x % 4 * 16 + y / 16), b64 (y % 16 * 4 + z / 64), b64 (z % 64)])) ∧ Below w.heap.size w w' := by
  have rx := bt_range s (0 : Nat)
  rw [hx] at rx
  rw [bt_nat s 0 (by omega)] at hx
  have ry := bt_range s (1 : Nat)
  rw [hy] at ry
  rw [bt_nat s 1 (by omega)] at hy
  have rz := bt_range s (2 : Nat)
  rw [hz] at rz
  rw [bt_nat s 2 (by omega)] at hz
  have H0 := h (x / 4).toNat (by omega)
  rw [show (((x / 4).toNat : Nat) : Int) = x / 4 by omega] at H0
  have p0 : 0 ≤ x / 4 := by omega
  have q0 : x / 4 < 64 := by omega
  have H1 := h (x % 4 * 16 + y / 16).toNat (by omega)
  rw [show (((x % 4 * 16 + y / 16).toNat : Nat) : Int) = x % 4 * 16 + y / 16 by omega] at H1
  have p1 : 0 ≤ x % 4 * 16 + y / 16 := by omega
  have q1 : x % 4 * 16 + y / 16 < 64 := by omega
  have H2 := h (y % 16 * 4 + z / 64).toNat (by omega)
  rw [show (((y % 16 * 4 + z / 64).toNat : Nat) : Int) = y % 16 * 4 + z / 64 by omega] at H2
  have p2 : 0 ≤ y % 16 * 4 + z / 64 := by omega
  have q2 : y % 16 * 4 + z / 64 < 64 := by omega
  have H3 := h (z % 64).toNat (by omega)
  rw [show (((z % 64).toNat : Nat) : Int) = z % 64 by omega] at H3
  have p3 : 0 ≤ z % 64 := by omega
  have q3 : z % 64 < 64 := by omega
  have e0 : bits BinOp.or IntKind.i64 0 z = z := by rw [or_hi 8 0 z (by omega) (by omega) (by omega) (by omega) (by omega) (by omega)]; omega
  have e1 : bits BinOp.or IntKind.i64 z (y * 256) = y * 256 + z := or_lo 8 (y * 256) z (by omega) (by omega) (by omega) (by omega) (by omega) (by omega)
  have e2 : bits BinOp.or IntKind.i64 (y * 256 + z) (x * 65536) = x * 65536 + y * 256 + z := by rw [or_lo 16 (x * 65536) (y * 256 + z) (by omega) (by omega) (by omega) (by omega) (by omega) (by omega)]; omega
  have f3 : bits BinOp.and IntKind.i64 z 63 = z % 64 := and63 z
  have f2 : bits BinOp.and IntKind.i64 ((y * 256 + z) / 64) 63 = y % 16 * 4 + z / 64 := by rw [and63]; omega
  have f1 : bits BinOp.and IntKind.i64 ((x * 65536 + y * 256 + z) / 4096) 63 = x % 4 * 16 + y / 16 := by rw [and63]; omega
  have f0 : bits BinOp.and IntKind.i64 ((x * 65536 + y * 256 + z) / 262144) 63 = x / 4 := by rw [and63]; omega
  have hne : b ≠ w.heap.size := by omega
  have hne' : w.heap.size ≠ b := by omega
  have hst := conv4 w (b64 (x / 4)) (b64 (x % 4 * 16 + y / 16)) (b64 (y % 16 * 4 + z / 64)) (b64 (z % 64))
  clear h
  go_enter Tryd.func53, Tryd.ntmps53
  go_wp2_with fail
  go_ret
  exact ⟨rfl, (Below.refl _ _).alloc (Nat.le_refl _) _⟩
end Code
end Go.Proofs.YtckfglcihelofaaDoor
/- code's told. -/
namespace Go.Proofs.YtckfglcihelofaaDoor
set_option linter.unusedSimpArgs false
set_option linter.unusedVariables false
namespace Code
open Go.RowKit Go.Shelf Go.Proofs.YtckfglcihelofaaDoorW.PrintWords
attribute [local go_sem] Oper.semAt_some
set_option maxHeartbeats 2000000 in
theorem told_nil (a0 : Addr) (w : World) (h : GA a0 w) : Calls Tryd.prog 46 #[.nilIface] w fun e w' => e = .returned (.int .i64 0) ∧ Below w.heap.size w w' := by
  have hB0 : Below w.heap.size w (w.alloc (.cells #[.int .i64 0] 73)) := (Below.refl _ _).alloc (Nat.le_refl _) _
  have g0 := (h.below hB0).g0
  go_enter Tryd.func46, Tryd.ntmps46
  go_wp2_with (first
    | (go_at_call 62; refine (is_nil a0 _).mono ?_; rintro e w' ⟨rfl, rfl⟩))
  go_ret
  exact ⟨rfl, by repeat (first | exact hB0 | refine Below.drew ?_)⟩
set_option maxHeartbeats 2000000 in
theorem told_bad (n : Int) (a0 : Addr) (w : World) (h : GA a0 w) : Calls Tryd.prog 46 #[werr n] w fun e w' => e = .returned (.int .i64 50) ∧ Below w.heap.size w w' := by
  have hB0 : Below w.heap.size w (w.alloc (.cells #[.int .i64 0] 73)) := (Below.refl _ _).alloc (Nat.le_refl _) _
  have g0 := (h.below hB0).g0
  have HG := Lib.hid h
  have HB0 := Lib.hid hB0
  clear h hB0
  go_enter Tryd.func46, Tryd.ntmps46
  go_wp2_with (go_at_call 62; refine (is_same n a0 _ g0).mono ?_)
  rintro e w1 ⟨rfl, hb⟩
  have hB1 := bl_trans HB0.out hb
  have hr1 : w1.heap[w.heap.size]? = some (.cells #[.int .i64 0] 73 (0, 0)) := (Chg.of_below (S := fun _ => False) hb).heap (World.alloc_heap_new w _) (by simp)
  have hG1 := HG.out.below hB1
  go_wp2_with (go_at_call 63; refine (as_hit n w.heap.size _ _ hG1.et hr1 rfl).mono ?_)
  rintro e w2 ⟨rfl, hb2, hr2⟩
  go_wp2_with fail
  go_ret
  exact ⟨rfl, hB1.trans hb2⟩
end Code
end Go.Proofs.YtckfglcihelofaaDoor
/- code's groups: the closure. -/
namespace Go.Proofs.YtckfglcihelofaaDoor
set_option linter.unusedSimpArgs false
set_option linter.unusedVariables false
namespace Code
open Go.RowKit Go.Shelf Go.Proofs.YtckfglcihelofaaDoorW.PrintWords
attribute [local go_sem] Oper.semAt_some
theorem groups_any (s : ByteArray) (n : Int) (w : World) : Calls Tryd.prog 51 #[.string s, .int .i64 n] w
    fun e w' => e = .returned (.func (.func 65) #[] #[.pointer (some ⟨w.heap.size, 0, none⟩), .pointer (some ⟨w.heap.size + 1, 0, none⟩)]) ∧ w' = (w.alloc (.cells #[.string s] 9)).alloc (.cells #[.int .i64 n] 3) := by
  go_enter Tryd.func51, Tryd.ntmps51
  go_wp2
  go_ret
  exact ⟨rfl, rfl⟩
end Code
end Go.Proofs.YtckfglcihelofaaDoor
/- code's groups: the iterator. -/
namespace Go.Proofs.YtckfglcihelofaaDoor
set_option linter.unusedSimpArgs false
set_option linter.unusedVariables false
namespace Code
open Go.RowKit Go.Shelf Go.Proofs.YtckfglcihelofaaDoorW.PrintWords
attribute [local go_sem] Oper.semAt_some
/-- A text's pieces of n bytes, each with its place. -/
def pcs (s : ByteArray) (n : Nat) : List (Int × ByteArray) := (List.range ((s.size + n - 1) / n)).map fun j => (((j * n : Nat) : Int), s.extract (j * n) (min (j * n + n) s.size))
theorem pcs_len (s : ByteArray) (n : Nat) : (pcs s n).length = (s.size + n - 1) / n := by simp [pcs]
theorem pcs_get (s : ByteArray) (n j : Nat) (h : j < (s.size + n - 1) / n) : (pcs s n)[j]? = some (((j * n : Nat) : Int), s.extract (j * n) (min (j * n + n) s.size)) := by
  simp [pcs, h]
theorem lt_pcs (s : ByteArray) (n j : Nat) (hn : 1 ≤ n) : j < (s.size + n - 1) / n ↔ j * n < s.size := by
  rw [Nat.lt_div_iff_mul_lt (by omega)]
  omega
def PB (s : ByteArray) (n : Nat) (B C : Nat) (W : World) : Prop := W.heap[B]? = some (.cells #[.string s] 9 (0, 0)) ∧ W.heap[C]? = some (.cells #[.int .i64 n] 3 (0, 0))
set_option maxRecDepth 100000 in
set_option maxHeartbeats 2000000 in
theorem groups_it (m : Nat) (hm : 1 ≤ m) (s : ByteArray) (hs : s.size ≤ 4611686018427387904) (n : Nat) (hn : 1 ≤ n) (hn2 : n ≤ 1000) (B C : Nat) :
    IterE Fence.wide m Tryd.prog 65 #[.pointer (some ⟨B, 0, none⟩), .pointer (some ⟨C, 0, none⟩)] (fun x : Int × ByteArray => #[.int .i64 x.1, .string x.2]) (pcs s n) (PB s n B C) := by
  intro l J Jx W hW hJ hJx hY h0
  have HW := Lib.hid hW
  have HJ := Lib.hid hJ
  have HY := Lib.hid hY
  clear hW hJ hY
  refine callsIn_of_wp Tryd.func65 rfl trivial ?_ rfl
  simp only [Tryd.ntmps65, List.size_toArray, List.length_cons, List.length_nil, Nat.reduceAdd, Nat.reduceSub, Array.replicate_succ, Array.replicate_zero, List.push_toArray, List.append_toArray, List.nil_append, List.cons_append]
  refine wpIn_wide.2 (wp_scope_straight ((wpIn_wide (n := m)).1 (wpIn_seq (wpIn_label ?_))))
  gi_wp2_with fail
  gi_loopw [4] (fun v wr => ∃ k : Nat, v = .int .i64 (k * n : Nat) ∧ k ≤ (pcs s n).length ∧ k * n ≤ s.size + n ∧ J k wr)
    (fun v _ => s.size + n - (intOf v).toNat)
  case atStart => exact ⟨0, by simp, Nat.zero_le _, by omega, h0⟩
  case round =>
    obtain ⟨k, rfl, hk, hkn, hJk⟩ := hrel
    obtain ⟨rB, rC⟩ := HW.out k _ hJk
    have c0 := cell_of_row wr B 0 _ _ _ rB
    have c1 := cell_of_row wr C 0 _ _ _ rC
    simp at c0 c1
    by_cases hlt : k * n < s.size
    · have hkl : k < (s.size + n - 1) / n := (lt_pcs s n k hn).2 hlt
      have hx := pcs_get s n k hkl
      have hkn3 : k * n + n = (k + 1) * n := by rw [Nat.add_mul, Nat.one_mul]
      have hlen : (pcs s n).length = (s.size + n - 1) / n := pcs_len s n
      obtain ⟨a, ha⟩ : ∃ a, k * n = a := ⟨_, rfl⟩
      rw [ha] at hlt hkn hx hkn3
      have YY := fun (A : World) (hA : J k A) => HY.out k _ A hx hA
      have hmin : (min ((a : Int) + n) s.size).toNat = min (a + n) s.size := by omega
      obtain ⟨fn, tmps, assign, body, hy, hYR⟩ := YY wr hJk
      simp only [← hmin] at hy
      rw [ha]
      clear hx YY hmin
      have HJx := Lib.hid hJx
      clear hJx
      gi_wp2_with fail
      refine hYR.mono ?_
      rintro e W4 (⟨rfl, hJ4⟩ | ⟨rfl, hJx4⟩)
      · obtain ⟨r4, q4⟩ := HW.out _ _ hJ4
        have d1 := cell_of_row W4 C 0 _ _ _ q4
        simp at d1
        have hw : wrap64 ((a : Int) + n) = a + n := by unfold wrap64; omega
        gi_wp2_with fail
        go_roundw
        case rel => exact ⟨k + 1, by rw [← hkn3]; simp, by omega, by omega, hJ4⟩
        case measure => simp [intOf]; omega
      · gi_wp2_with fail
        try rw [Exit.noGoto_normal]
        go_end0
        exact ⟨⟨_, rfl⟩, .inr ⟨k + 1, by omega, hJx4⟩⟩
    · have hkk : k = (pcs s n).length := by
        have : ¬ k < (s.size + n - 1) / n := fun h => hlt ((lt_pcs s n k hn).1 h)
        rw [pcs_len] at hk ⊢
        omega
      obtain ⟨a, ha⟩ : ∃ a, k * n = a := ⟨_, rfl⟩
      rw [ha] at hlt
      rw [ha]
      gi_wp2_with fail
      try rw [Exit.noGoto_normal]
      go_end0
      exact ⟨⟨_, rfl⟩, .inl (by rw [← hkk]; exact hJk)⟩
end Code
end Go.Proofs.YtckfglcihelofaaDoor
/- code's all: the signs. -/
namespace Go.Proofs.YtckfglcihelofaaDoor
set_option linter.unusedSimpArgs false
set_option linter.unusedVariables false
namespace Code
open Go.RowKit Go.Shelf Go.Proofs.YtckfglcihelofaaDoorW.PrintWords
attribute [local go_sem] Oper.semAt_some
/-- the first i signs stand in block b -/
def SW (b : Nat) (i : Nat) (w : World) : Prop := ∃ cs : Array Value, w.heap[b]? = some (.cells cs 46 (0, 0)) ∧ cs.size = 64 ∧ ∀ j : Nat, j < i → cs[j]? = some (.int .u8 (b64 j))
/-- a row of signs, to be written -/
def ZW (b : Nat) (w : World) : Prop := ∃ cs : Array Value, w.heap[b]? = some (.cells cs 46 (0, 0)) ∧ cs.size = 64
theorem SW.fresh (w : World) (o : Array Value) (ho : o.size = 64) : SW w.heap.size 0 (w.alloc (.cells o 46 (0, 0))) := ⟨o, World.alloc_heap_new w _, ho, fun j hj => absurd hj (Nat.not_lt_zero _)⟩
theorem SW.keep {b i : Nat} {A B : World} (h : SW b i A) (hb : B.heap[b]? = A.heap[b]?) : SW b i B := by
  obtain ⟨cs, h1, h2, h3⟩ := h
  exact ⟨cs, hb.trans h1, h2, h3⟩
theorem ZW.keep {b : Nat} {A B : World} (h : ZW b A) (hb : B.heap[b]? = A.heap[b]?) : ZW b B := by
  obtain ⟨cs, h1, h2⟩ := h
  exact ⟨cs, hb.trans h1, h2⟩
theorem SW.lt {b i : Nat} {A : World} (h : SW b i A) : b < A.heap.size := by
  obtain ⟨cs, h1, _⟩ := h
  exact (Array.getElem?_eq_some_iff.1 h1).1
theorem ZW.lt {b : Nat} {A : World} (h : ZW b A) : b < A.heap.size := by
  obtain ⟨cs, h1, _⟩ := h
  exact (Array.getElem?_eq_some_iff.1 h1).1
theorem SW.set {b i : Nat} {A : World} (h : SW b i A) (hi : i < 64) (x : Int) (hx : x = b64 i) : SW b (i + 1) (A.setCell ⟨b, i, none⟩ (.int .u8 x)) := by
  obtain ⟨cs, h1, h2, h3⟩ := h
  refine ⟨cs.setIfInBounds i (.int .u8 x), ?_, by simpa using h2, fun j hj => ?_⟩
  · simp only [World.setCell, Array.getElem?_modify, h1]
    simp
  · rw [Array.getElem?_setIfInBounds]
    by_cases hji : i = j
    · subst hji
      simp [h2, hi, hx]
    · simp [hji, h3 j (by omega)]
theorem SW.addr {b i : Nat} {A : World} (h : SW b i A) (j : Nat) (hj : j < 64) : ∃ v, A.cell? ⟨b, j, none⟩ = some v := by
  obtain ⟨cs, h1, h2, _⟩ := h
  exact ⟨cs[j], by rw [cell_of_row A b j _ _ _ h1, Array.getElem?_eq_getElem (by omega)]⟩
theorem SW.frozen {b i : Nat} {A : World} (h : SW b i A) (j : Nat) : A.frozen? ⟨b, j, none⟩ = false := by
  obtain ⟨cs, h1, h2, _⟩ := h
  exact Lib.frozen_of_heap h1 j
def bse (k : Nat) : Nat := if k = 0 then 0 else if k = 1 then 26 else if k = 2 then 52 else if k = 3 then 62 else if k = 4 then 63 else 64
theorem sizeSigns : (Tryd.prog.info? 46).map (·.size) = some 64 := by kernel_rfl
set_option maxHeartbeats 8000000 in
set_option maxRecDepth 1000000 in
theorem all_c (w : World) :
    Calls Tryd.prog 50 #[] w fun e w' => ∃ cs : Array Value, e = .returned (.agg cs) ∧ cs.size = 64 ∧ (∀ j : Nat, j < 64 → cs[j]? = some (.int .u8 (b64 j))) ∧ Below w.heap.size w w' := by
  go_enter Tryd.func50, Tryd.ntmps50
  go_wp2_with fail
  go_loopw [2, 12] (fun i k wr => ∃ j : Nat, k = .int .i64 j ∧ j ≤ 5 ∧ i = .int .i64 (bse j) ∧ SW (w.heap.size + 1) (bse j) wr ∧ ZW w.heap.size wr ∧ Below w.heap.size w wr)
    (fun _ k _ => 5 - (intOf k).toNat)
  case atStart =>
    refine ⟨0, rfl, by omega, rfl, ?_, ?_, bl_alloc (bl_alloc (Below.refl _ _) _) _⟩
    · have := SW.fresh (w.alloc (.cells (Array.replicate 64 (.int .u8 0)) 46 (0, 0))) (Array.replicate 64 (.int .u8 0)) (by simp)
      rw [World.size_alloc] at this
      exact this
    · exact ⟨_, (Below.heap_alloc _ _ _ (by simp)).trans (World.alloc_heap_new w _), by simp⟩
  case round =>
    obtain ⟨k, rfl, hk, rfl, hS, hZ, hb⟩ := hrel
    have HS := Lib.hid hS
    have HZ := Lib.hid hZ
    have HB := Lib.hid hb
    have hlt1 := hS.lt
    have hlt0 := hZ.lt
    clear hS hZ hb
    by_cases h5 : k = 5
    · subst h5
      obtain ⟨cs, g1, g2, g3⟩ := HS.out
      obtain ⟨cz, z1, z2⟩ := HZ.out
      have G3 := Lib.hid g3
      clear g3
      have hone : cs.all (·.oneCell') = true := by
        rw [Array.all_eq_true_iff_forall_mem]
        intro v hv
        obtain ⟨j, hj⟩ := Array.mem_iff_getElem?.1 hv
        have hj64 : j < 64 := by have := (Array.getElem?_eq_some_iff.1 hj).1; omega
        rw [G3.out j hj64] at hj
        obtain rfl := Option.some.inj hj
        rfl
      go_wp2_with (first
        | (refine wpList_load_row rfl 46 _ rfl (w.heap.size + 1) rfl 46 cs _ _ g1 Tryd.underlying46 rfl (by rw [sizeSigns, g2]) ?_)
        | (refine wpList_store_row rfl 46 _ _ rfl w.heap.size cs rfl rfl 46 cz z1 (by rw [sizeSigns, g2]) (by rw [z2, g2]) hone ?_))
      refine bodyPost_ret (v := .agg cs) (results_cell_row (p := 0) rfl _ _ w.heap.size 46 cs (0, 0) _ rfl (setRow_heap z1) Tryd.underlying46 rfl (by rw [sizeSigns, g2])) rfl ⟨cs, rfl, g2, G3.out, setRow_below HB.out (Nat.le_refl _) _⟩
    · rcases (show k = 0 ∨ k = 1 ∨ k = 2 ∨ k = 3 ∨ k = 4 by omega) with rfl | rfl | rfl | rfl | rfl
      · have HS2 : SW (w.heap.size + 1) 0 wr := HS.out
        have hA : Below w.heap.size w (wr.alloc (.cells #[.int .u8 65, .int .u8 90] 78 (0, 0))) := HB.out.alloc HB.out.size _
        have hkeep : ∀ b, b < wr.heap.size → (wr.alloc (.cells #[.int .u8 65, .int .u8 90] 78 (0, 0))).heap[b]? = wr.heap[b]? := fun b hb => Below.heap_alloc _ _ _ hb
        have hg := World.alloc_heap_new wr (.cells #[.int .u8 65, .int .u8 90] 78 (0, 0))
        have hix : (Instr.index 79 (.agg #[.int .u8 65, .int .u8 90, .int .u8 97, .int .u8 122, .int .u8 48, .int .u8 57, .int .u8 43, .int .u8 43, .int .u8 47, .int .u8 47]) (.int .i64 0)).run Tryd.prog wr = .ok (.agg #[.int .u8 65, .int .u8 90]) wr := by kernel_rfl
        rw [show bse 0 = 0 from rfl]
        go_wp2_with fail
        go_loopw [2, 5] (fun i c W => ∃ j : Nat, i = .int .i64 (0 + j : Nat) ∧ c = .int .u8 (65 + j : Nat) ∧ j ≤ 26 ∧ SW (w.heap.size + 1) (0 + j) W ∧ ZW w.heap.size W ∧ Below w.heap.size w W ∧ W.heap[wr.heap.size]? = some (.cells #[.int .u8 65, .int .u8 90] 78 (0, 0)))
          (fun _ c _ => 256 - (intOf c).toNat)
        case atStart =>
          exact ⟨0, rfl, rfl, by omega, HS2.keep (hkeep _ hlt1), HZ.out.keep (hkeep _ hlt0), hA, hg⟩
        case round =>
          obtain ⟨j, rfl, rfl, hj, hS, hZ, hb, hr⟩ := hrel
          have c1 := cell_of_row wr _ 1 _ _ _ hr
          simp at c1
          have HS3 := Lib.hid hS
          have HZ3 := Lib.hid hZ
          have HB3 := Lib.hid hb
          by_cases hjn : j < 26
          · have hp : 0 + j < 64 := by omega
            obtain ⟨v0, hv0⟩ := hS.addr (0 + j) hp
            have hf0 := hS.frozen (0 + j)
            have hw1 : IntKind.u8.wrap ((65 + j : Nat) + 1 : Int) = (65 + j + 1 : Nat) := by rw [IntKind.wrap_u8]; omega
            have hle : ((65 + j : Nat) : Int) ≤ 90 := by omega
            clear hS hZ hb
            obtain ⟨p, hp2⟩ : ∃ p : Nat, p = 0 + j := ⟨_, rfl⟩
            obtain ⟨q, hq2⟩ : ∃ q : Nat, q = 65 + j := ⟨_, rfl⟩
            rw [← hp2] at hp hv0 hf0 HS3 ⊢
            rw [← hq2] at hw1 hle ⊢
            have HP := Lib.hid hp2
            have HQ := Lib.hid hq2
            have HR := Lib.hid hr
            clear hp2 hq2 hr
            go_wp2_with fail
            go_roundw
            case rel =>
              refine ⟨j + 1, by have := HP.out; simp; omega, by have := HQ.out; simp [hw1]; omega, by omega, ?_, HZ3.out.keep (Below.heap_setCell _ _ _ _ (by simp)), HB3.out.setCell (by simp) _, (Below.heap_setCell _ _ _ _ (by simp; omega)).trans HR.out⟩
              rw [show 0 + (j + 1) = p + 1 by have := HP.out; omega]
              exact HS3.out.set hp _ (by rw [HP.out, HQ.out]; unfold b64; repeat' split <;> omega)
            case measure => simp [intOf, hw1]; omega
          · obtain rfl : j = 26 := by omega
            clear hS hZ hb hr
            go_wp2_with fail
            go_roundw
            case rel => exact ⟨0 + 1, rfl, by omega, rfl, HS3.out, HZ3.out, HB3.out⟩
            case measure => simp [intOf]
      · have HS2 : SW (w.heap.size + 1) 26 wr := HS.out
        have hA : Below w.heap.size w (wr.alloc (.cells #[.int .u8 97, .int .u8 122] 78 (0, 0))) := HB.out.alloc HB.out.size _
        have hkeep : ∀ b, b < wr.heap.size → (wr.alloc (.cells #[.int .u8 97, .int .u8 122] 78 (0, 0))).heap[b]? = wr.heap[b]? := fun b hb => Below.heap_alloc _ _ _ hb
        have hg := World.alloc_heap_new wr (.cells #[.int .u8 97, .int .u8 122] 78 (0, 0))
        have hix : (Instr.index 79 (.agg #[.int .u8 65, .int .u8 90, .int .u8 97, .int .u8 122, .int .u8 48, .int .u8 57, .int .u8 43, .int .u8 43, .int .u8 47, .int .u8 47]) (.int .i64 1)).run Tryd.prog wr = .ok (.agg #[.int .u8 97, .int .u8 122]) wr := by kernel_rfl
        rw [show bse 1 = 26 from rfl]
        go_wp2_with fail
        go_loopw [2, 5] (fun i c W => ∃ j : Nat, i = .int .i64 (26 + j : Nat) ∧ c = .int .u8 (97 + j : Nat) ∧ j ≤ 26 ∧ SW (w.heap.size + 1) (26 + j) W ∧ ZW w.heap.size W ∧ Below w.heap.size w W ∧ W.heap[wr.heap.size]? = some (.cells #[.int .u8 97, .int .u8 122] 78 (0, 0)))
          (fun _ c _ => 256 - (intOf c).toNat)
        case atStart =>
          exact ⟨0, rfl, rfl, by omega, HS2.keep (hkeep _ hlt1), HZ.out.keep (hkeep _ hlt0), hA, hg⟩
        case round =>
          obtain ⟨j, rfl, rfl, hj, hS, hZ, hb, hr⟩ := hrel
          have c1 := cell_of_row wr _ 1 _ _ _ hr
          simp at c1
          have HS3 := Lib.hid hS
          have HZ3 := Lib.hid hZ
          have HB3 := Lib.hid hb
          by_cases hjn : j < 26
          · have hp : 26 + j < 64 := by omega
            obtain ⟨v0, hv0⟩ := hS.addr (26 + j) hp
            have hf0 := hS.frozen (26 + j)
            have hw1 : IntKind.u8.wrap ((97 + j : Nat) + 1 : Int) = (97 + j + 1 : Nat) := by rw [IntKind.wrap_u8]; omega
            have hle : ((97 + j : Nat) : Int) ≤ 122 := by omega
            clear hS hZ hb
            obtain ⟨p, hp2⟩ : ∃ p : Nat, p = 26 + j := ⟨_, rfl⟩
            obtain ⟨q, hq2⟩ : ∃ q : Nat, q = 97 + j := ⟨_, rfl⟩
            rw [← hp2] at hp hv0 hf0 HS3 ⊢
            rw [← hq2] at hw1 hle ⊢
            have HP := Lib.hid hp2
            have HQ := Lib.hid hq2
            have HR := Lib.hid hr
            clear hp2 hq2 hr
            go_wp2_with fail
            go_roundw
            case rel =>
              refine ⟨j + 1, by have := HP.out; simp; omega, by have := HQ.out; simp [hw1]; omega, by omega, ?_, HZ3.out.keep (Below.heap_setCell _ _ _ _ (by simp)), HB3.out.setCell (by simp) _, (Below.heap_setCell _ _ _ _ (by simp; omega)).trans HR.out⟩
              rw [show 26 + (j + 1) = p + 1 by have := HP.out; omega]
              exact HS3.out.set hp _ (by rw [HP.out, HQ.out]; unfold b64; repeat' split <;> omega)
            case measure => simp [intOf, hw1]; omega
          · obtain rfl : j = 26 := by omega
            clear hS hZ hb hr
            go_wp2_with fail
            go_roundw
            case rel => exact ⟨1 + 1, rfl, by omega, rfl, HS3.out, HZ3.out, HB3.out⟩
            case measure => simp [intOf]
      · have HS2 : SW (w.heap.size + 1) 52 wr := HS.out
        have hA : Below w.heap.size w (wr.alloc (.cells #[.int .u8 48, .int .u8 57] 78 (0, 0))) := HB.out.alloc HB.out.size _
        have hkeep : ∀ b, b < wr.heap.size → (wr.alloc (.cells #[.int .u8 48, .int .u8 57] 78 (0, 0))).heap[b]? = wr.heap[b]? := fun b hb => Below.heap_alloc _ _ _ hb
        have hg := World.alloc_heap_new wr (.cells #[.int .u8 48, .int .u8 57] 78 (0, 0))
        have hix : (Instr.index 79 (.agg #[.int .u8 65, .int .u8 90, .int .u8 97, .int .u8 122, .int .u8 48, .int .u8 57, .int .u8 43, .int .u8 43, .int .u8 47, .int .u8 47]) (.int .i64 2)).run Tryd.prog wr = .ok (.agg #[.int .u8 48, .int .u8 57]) wr := by kernel_rfl
        rw [show bse 2 = 52 from rfl]
        go_wp2_with fail
        go_loopw [2, 5] (fun i c W => ∃ j : Nat, i = .int .i64 (52 + j : Nat) ∧ c = .int .u8 (48 + j : Nat) ∧ j ≤ 10 ∧ SW (w.heap.size + 1) (52 + j) W ∧ ZW w.heap.size W ∧ Below w.heap.size w W ∧ W.heap[wr.heap.size]? = some (.cells #[.int .u8 48, .int .u8 57] 78 (0, 0)))
          (fun _ c _ => 256 - (intOf c).toNat)
        case atStart =>
          exact ⟨0, rfl, rfl, by omega, HS2.keep (hkeep _ hlt1), HZ.out.keep (hkeep _ hlt0), hA, hg⟩
        case round =>
          obtain ⟨j, rfl, rfl, hj, hS, hZ, hb, hr⟩ := hrel
          have c1 := cell_of_row wr _ 1 _ _ _ hr
          simp at c1
          have HS3 := Lib.hid hS
          have HZ3 := Lib.hid hZ
          have HB3 := Lib.hid hb
          by_cases hjn : j < 10
          · have hp : 52 + j < 64 := by omega
            obtain ⟨v0, hv0⟩ := hS.addr (52 + j) hp
            have hf0 := hS.frozen (52 + j)
            have hw1 : IntKind.u8.wrap ((48 + j : Nat) + 1 : Int) = (48 + j + 1 : Nat) := by rw [IntKind.wrap_u8]; omega
            have hle : ((48 + j : Nat) : Int) ≤ 57 := by omega
            clear hS hZ hb
            obtain ⟨p, hp2⟩ : ∃ p : Nat, p = 52 + j := ⟨_, rfl⟩
            obtain ⟨q, hq2⟩ : ∃ q : Nat, q = 48 + j := ⟨_, rfl⟩
            rw [← hp2] at hp hv0 hf0 HS3 ⊢
            rw [← hq2] at hw1 hle ⊢
            have HP := Lib.hid hp2
            have HQ := Lib.hid hq2
            have HR := Lib.hid hr
            clear hp2 hq2 hr
            go_wp2_with fail
            go_roundw
            case rel =>
              refine ⟨j + 1, by have := HP.out; simp; omega, by have := HQ.out; simp [hw1]; omega, by omega, ?_, HZ3.out.keep (Below.heap_setCell _ _ _ _ (by simp)), HB3.out.setCell (by simp) _, (Below.heap_setCell _ _ _ _ (by simp; omega)).trans HR.out⟩
              rw [show 52 + (j + 1) = p + 1 by have := HP.out; omega]
              exact HS3.out.set hp _ (by rw [HP.out, HQ.out]; unfold b64; repeat' split <;> omega)
            case measure => simp [intOf, hw1]; omega
          · obtain rfl : j = 10 := by omega
            clear hS hZ hb hr
            go_wp2_with fail
            go_roundw
            case rel => exact ⟨2 + 1, rfl, by omega, rfl, HS3.out, HZ3.out, HB3.out⟩
            case measure => simp [intOf]
      · have HS2 : SW (w.heap.size + 1) 62 wr := HS.out
        have hA : Below w.heap.size w (wr.alloc (.cells #[.int .u8 43, .int .u8 43] 78 (0, 0))) := HB.out.alloc HB.out.size _
        have hkeep : ∀ b, b < wr.heap.size → (wr.alloc (.cells #[.int .u8 43, .int .u8 43] 78 (0, 0))).heap[b]? = wr.heap[b]? := fun b hb => Below.heap_alloc _ _ _ hb
        have hg := World.alloc_heap_new wr (.cells #[.int .u8 43, .int .u8 43] 78 (0, 0))
        have hix : (Instr.index 79 (.agg #[.int .u8 65, .int .u8 90, .int .u8 97, .int .u8 122, .int .u8 48, .int .u8 57, .int .u8 43, .int .u8 43, .int .u8 47, .int .u8 47]) (.int .i64 3)).run Tryd.prog wr = .ok (.agg #[.int .u8 43, .int .u8 43]) wr := by kernel_rfl
        rw [show bse 3 = 62 from rfl]
        go_wp2_with fail
        go_loopw [2, 5] (fun i c W => ∃ j : Nat, i = .int .i64 (62 + j : Nat) ∧ c = .int .u8 (43 + j : Nat) ∧ j ≤ 1 ∧ SW (w.heap.size + 1) (62 + j) W ∧ ZW w.heap.size W ∧ Below w.heap.size w W ∧ W.heap[wr.heap.size]? = some (.cells #[.int .u8 43, .int .u8 43] 78 (0, 0)))
          (fun _ c _ => 256 - (intOf c).toNat)
        case atStart =>
          exact ⟨0, rfl, rfl, by omega, HS2.keep (hkeep _ hlt1), HZ.out.keep (hkeep _ hlt0), hA, hg⟩
        case round =>
          obtain ⟨j, rfl, rfl, hj, hS, hZ, hb, hr⟩ := hrel
          have c1 := cell_of_row wr _ 1 _ _ _ hr
          simp at c1
          have HS3 := Lib.hid hS
          have HZ3 := Lib.hid hZ
          have HB3 := Lib.hid hb
          by_cases hjn : j < 1
          · have hp : 62 + j < 64 := by omega
            obtain ⟨v0, hv0⟩ := hS.addr (62 + j) hp
            have hf0 := hS.frozen (62 + j)
            have hw1 : IntKind.u8.wrap ((43 + j : Nat) + 1 : Int) = (43 + j + 1 : Nat) := by rw [IntKind.wrap_u8]; omega
            have hle : ((43 + j : Nat) : Int) ≤ 43 := by omega
            clear hS hZ hb
            obtain ⟨p, hp2⟩ : ∃ p : Nat, p = 62 + j := ⟨_, rfl⟩
            obtain ⟨q, hq2⟩ : ∃ q : Nat, q = 43 + j := ⟨_, rfl⟩
            rw [← hp2] at hp hv0 hf0 HS3 ⊢
            rw [← hq2] at hw1 hle ⊢
            have HP := Lib.hid hp2
            have HQ := Lib.hid hq2
            have HR := Lib.hid hr
            clear hp2 hq2 hr
            go_wp2_with fail
            go_roundw
            case rel =>
              refine ⟨j + 1, by have := HP.out; simp; omega, by have := HQ.out; simp [hw1]; omega, by omega, ?_, HZ3.out.keep (Below.heap_setCell _ _ _ _ (by simp)), HB3.out.setCell (by simp) _, (Below.heap_setCell _ _ _ _ (by simp; omega)).trans HR.out⟩
              rw [show 62 + (j + 1) = p + 1 by have := HP.out; omega]
              exact HS3.out.set hp _ (by rw [HP.out, HQ.out]; unfold b64; repeat' split <;> omega)
            case measure => simp [intOf, hw1]; omega
          · obtain rfl : j = 1 := by omega
            clear hS hZ hb hr
            go_wp2_with fail
            go_roundw
            case rel => exact ⟨3 + 1, rfl, by omega, rfl, HS3.out, HZ3.out, HB3.out⟩
            case measure => simp [intOf]
      · have HS2 : SW (w.heap.size + 1) 63 wr := HS.out
        have hA : Below w.heap.size w (wr.alloc (.cells #[.int .u8 47, .int .u8 47] 78 (0, 0))) := HB.out.alloc HB.out.size _
        have hkeep : ∀ b, b < wr.heap.size → (wr.alloc (.cells #[.int .u8 47, .int .u8 47] 78 (0, 0))).heap[b]? = wr.heap[b]? := fun b hb => Below.heap_alloc _ _ _ hb
        have hg := World.alloc_heap_new wr (.cells #[.int .u8 47, .int .u8 47] 78 (0, 0))
        have hix : (Instr.index 79 (.agg #[.int .u8 65, .int .u8 90, .int .u8 97, .int .u8 122, .int .u8 48, .int .u8 57, .int .u8 43, .int .u8 43, .int .u8 47, .int .u8 47]) (.int .i64 4)).run Tryd.prog wr = .ok (.agg #[.int .u8 47, .int .u8 47]) wr := by kernel_rfl
        rw [show bse 4 = 63 from rfl]
        go_wp2_with fail
        go_loopw [2, 5] (fun i c W => ∃ j : Nat, i = .int .i64 (63 + j : Nat) ∧ c = .int .u8 (47 + j : Nat) ∧ j ≤ 1 ∧ SW (w.heap.size + 1) (63 + j) W ∧ ZW w.heap.size W ∧ Below w.heap.size w W ∧ W.heap[wr.heap.size]? = some (.cells #[.int .u8 47, .int .u8 47] 78 (0, 0)))
          (fun _ c _ => 256 - (intOf c).toNat)
        case atStart =>
          exact ⟨0, rfl, rfl, by omega, HS2.keep (hkeep _ hlt1), HZ.out.keep (hkeep _ hlt0), hA, hg⟩
        case round =>
          obtain ⟨j, rfl, rfl, hj, hS, hZ, hb, hr⟩ := hrel
          have c1 := cell_of_row wr _ 1 _ _ _ hr
          simp at c1
          have HS3 := Lib.hid hS
          have HZ3 := Lib.hid hZ
          have HB3 := Lib.hid hb
          by_cases hjn : j < 1
          · have hp : 63 + j < 64 := by omega
            obtain ⟨v0, hv0⟩ := hS.addr (63 + j) hp
            have hf0 := hS.frozen (63 + j)
            have hw1 : IntKind.u8.wrap ((47 + j : Nat) + 1 : Int) = (47 + j + 1 : Nat) := by rw [IntKind.wrap_u8]; omega
            have hle : ((47 + j : Nat) : Int) ≤ 47 := by omega
            clear hS hZ hb
            obtain ⟨p, hp2⟩ : ∃ p : Nat, p = 63 + j := ⟨_, rfl⟩
            obtain ⟨q, hq2⟩ : ∃ q : Nat, q = 47 + j := ⟨_, rfl⟩
            rw [← hp2] at hp hv0 hf0 HS3 ⊢
            rw [← hq2] at hw1 hle ⊢
            have HP := Lib.hid hp2
            have HQ := Lib.hid hq2
            have HR := Lib.hid hr
            clear hp2 hq2 hr
            go_wp2_with fail
            go_roundw
            case rel =>
              refine ⟨j + 1, by have := HP.out; simp; omega, by have := HQ.out; simp [hw1]; omega, by omega, ?_, HZ3.out.keep (Below.heap_setCell _ _ _ _ (by simp)), HB3.out.setCell (by simp) _, (Below.heap_setCell _ _ _ _ (by simp; omega)).trans HR.out⟩
              rw [show 63 + (j + 1) = p + 1 by have := HP.out; omega]
              exact HS3.out.set hp _ (by rw [HP.out, HQ.out]; unfold b64; repeat' split <;> omega)
            case measure => simp [intOf, hw1]; omega
          · obtain rfl : j = 1 := by omega
            clear hS hZ hb hr
            go_wp2_with fail
            go_roundw
            case rel => exact ⟨4 + 1, rfl, by omega, rfl, HS3.out, HZ3.out, HB3.out⟩
            case measure => simp [intOf]
end Code
end Go.Proofs.YtckfglcihelofaaDoor
/- code's group at any piece; Base. -/
namespace Go.Proofs.YtckfglcihelofaaDoor
set_option linter.unusedSimpArgs false
set_option linter.unusedVariables false
namespace Code
open Go.RowKit Go.Shelf Go.Proofs.YtckfglcihelofaaDoorW.PrintWords
attribute [local go_sem] Oper.semAt_some
theorem bl_one (s : ByteArray) (h : s.size = 1) : bl s = [bt s (0 : Nat)] := by
  have := bl_len s
  apply List.ext_getElem?
  intro j
  match j with
  | 0 => rw [bl_get s 0 (by omega)]; rfl
  | j + 1 => rw [List.getElem?_eq_none (by omega), List.getElem?_eq_none (by simp)]
theorem bl_two (s : ByteArray) (h : s.size = 2) : bl s = [bt s (0 : Nat), bt s (1 : Nat)] := by
  have := bl_len s
  apply List.ext_getElem?
  intro j
  match j with
  | 0 => rw [bl_get s 0 (by omega)]; rfl
  | 1 => rw [bl_get s 1 (by omega)]; rfl
  | j + 2 => rw [List.getElem?_eq_none (by omega), List.getElem?_eq_none (by simp)]
theorem bl_three (s : ByteArray) (h : s.size = 3) : bl s = [bt s (0 : Nat), bt s (1 : Nat), bt s (2 : Nat)] := by
  have := bl_len s
  apply List.ext_getElem?
  intro j
  match j with
  | 0 => rw [bl_get s 0 (by omega)]; rfl
  | 1 => rw [bl_get s 1 (by omega)]; rfl
  | 2 => rw [bl_get s 2 (by omega)]; rfl
  | j + 3 => rw [List.getElem?_eq_none (by omega), List.getElem?_eq_none (by simp)]
theorem group_c (b : Nat) (s : ByteArray) (h1 : 1 ≤ s.size) (h3 : s.size ≤ 3) (w : World) (hb : b < w.heap.size) (h : Signs b w) :
    Calls Tryd.prog 53 #[.pointer (some ⟨b, 0, none⟩), .string s] w fun e w' => e = .returned (.string (strOfNums (baseL (bl s)))) ∧ Below w.heap.size w w' := by
  rcases (show s.size = 1 ∨ s.size = 2 ∨ s.size = 3 by omega) with e | e | e
  · rw [bl_one s e]
    exact group1 b s _ e rfl w hb h
  · rw [bl_two s e]
    exact group2 b s _ _ e rfl rfl w hb h
  · rw [bl_three s e]
    refine (group3 b s _ _ _ e rfl rfl rfl w hb h).mono ?_
    rintro e w' ⟨rfl, hb⟩
    exact ⟨by simp [baseL], hb⟩
theorem Signs.of_row {b : Nat} {A : World} {cs : Array Value} {t : TypeId} {fz : Nat × Nat} (h : A.heap[b]? = some (.cells cs t fz)) (hc : ∀ j : Nat, j < 64 → cs[j]? = some (.int .u8 (b64 j))) : Signs b A := fun j hj => by
  rw [cell_of_row A b j _ _ _ h]; exact hc j hj
theorem fold_set_list : ∀ (l : List Value) (k : Nat) (z : Array Value), z.size = k + l.length →
    ((l.zipIdx k).foldl (fun (cs : Array Value) (x : Value × Nat) => cs.setIfInBounds x.2 x.1) z).size = z.size ∧ ∀ j : Nat, ((l.zipIdx k).foldl (fun (cs : Array Value) (x : Value × Nat) => cs.setIfInBounds x.2 x.1) z)[j]? = if j < k then z[j]? else l[j - k]?
  | [], k, z, h => ⟨rfl, fun j => by
      simp only [List.zipIdx_nil, List.foldl_nil]
      split
      · rfl
      · rw [Array.getElem?_eq_none (by simp at h; omega)]; simp⟩
  | a :: l, k, z, h => by
    simp only [List.zipIdx_cons, List.foldl_cons]
    obtain ⟨h1, h2⟩ := fold_set_list l (k + 1) (z.setIfInBounds k a) (by simp at h ⊢; omega)
    refine ⟨by rw [h1]; simp, fun j => ?_⟩
    rw [h2, Array.getElem?_setIfInBounds]
    simp only [List.length_cons] at h
    by_cases h3 : j < k
    · rw [if_pos (by omega), if_pos h3, if_neg (by omega)]
    · rw [if_neg h3]
      by_cases h4 : j = k
      · subst h4
        rw [if_pos (by omega), if_pos rfl, if_pos (by omega)]; simp
      · rw [if_neg (by omega), show j - k = (j - (k + 1)) + 1 by omega]; simp
theorem fold_set (z cs : Array Value) (h : z.size = 64) (h2 : cs.size = 64) (j : Nat) : (Array.foldl (fun (cs : Array Value) (x : Value × Nat) => cs.setIfInBounds x.2 x.1) z (cs.zipIdx 0) 0 64)[j]? = cs[j]? := by
  have e : (cs.zipIdx 0).size = 64 := by simp [h2]
  rw [← e, ← Array.foldl_toList, Array.toList_zipIdx, (fold_set_list cs.toList 0 z (by simp; omega)).2 j]
  simp
set_option maxRecDepth 100000 in
set_option maxHeartbeats 4000000 in
theorem Base_c (s : ByteArray) (hs : s.size ≤ 4611686018427) (w : World) :
    Calls Tryd.prog 32 #[.string s] w fun e w' => e = .returned (.string (strOfNums (baseL (bl s)))) ∧ Below w.heap.size w w' := by
  refine (callsIn_wide (n := 9)).1 ?_
  refine callsIn_of_wp_marks Tryd.func32 rfl trivial ?_ rfl
  simp only [Tryd.ntmps32, List.size_toArray, List.length_cons, List.length_nil, Nat.reduceAdd, Nat.reduceSub, Array.replicate_succ, Array.replicate_zero, List.push_toArray, List.append_toArray, List.nil_append, List.cons_append]
  gi_wp2_with fail
  refine ⟨trivial, (callsIn_wide.2 (all_c _)).mono ?_⟩
  rintro e w1 ⟨cs, rfl, hcs, hc64, hb1⟩
  gi_wp2_with fail
  generalize hcq : Array.foldl (fun (cs : Array Value) (x : Value × Nat) => cs.setIfInBounds x.2 x.1) _ (cs.zipIdx 0) 0 64 = cq
  have HC : RowKit.Hid (∀ j : Nat, j < 64 → cq[j]? = some (.int .u8 (b64 j))) := Lib.hid (fun j hj => by rw [← hcq, fold_set _ _ (by rfl) hcs]; exact hc64 j hj)
  clear hc64 hcq
  refine ⟨trivial, (callsIn_wide.2 (groups_any s 3 _)).mono ?_⟩
  rintro e w2 ⟨rfl, rfl⟩
  gi_wp2_with fail
  obtain ⟨W, hW⟩ : ∃ W, (((((w1.alloc (.cells cq 49)).alloc (.cells #[.pointer (some ⟨w1.heap.size, 0, none⟩)] 44)).alloc (.cells #[.pointer none, .slice none 0 0] 52)).alloc (.cells #[.string s] 9)).alloc (.cells #[.int .i64 3] 3)) = W := ⟨_, rfl⟩
  have hsz : W.heap.size = w1.heap.size + 5 := by rw [← hW]; simp
  have k0 : W.heap[w1.heap.size]? = some (.cells cq 49 (0, 0)) := by rw [← hW]; repeat (first | exact ag_new _ _ _ (by simp) | refine ag_old ?_)
  have k1 : W.heap[w1.heap.size + 1]? = some (.cells #[.pointer (some ⟨w1.heap.size, 0, none⟩)] 44 (0, 0)) := by rw [← hW]; repeat (first | exact ag_new _ _ _ (by simp) | refine ag_old ?_)
  have kb : W.heap[w1.heap.size + 2]? = some (.cells #[.pointer none, .slice none 0 0] 52 (0, 0)) := by rw [← hW]; repeat (first | exact ag_new _ _ _ (by simp) | refine ag_old ?_)
  have k3 : W.heap[w1.heap.size + 3]? = some (.cells #[.string s] 9 (0, 0)) := by rw [← hW]; repeat (first | exact ag_new _ _ _ (by simp) | refine ag_old ?_)
  have k4 : W.heap[w1.heap.size + 4]? = some (.cells #[.int .i64 3] 3 (0, 0)) := by rw [← hW]; repeat (first | exact ag_new _ _ _ (by simp) | refine ag_old ?_)
  have hbW : Below w.heap.size w W := by rw [← hW]; exact bl_alloc (bl_alloc (bl_alloc (bl_alloc (bl_alloc hb1 _) _) _) _) _
  have hw1 := hb1.size
  rw [hW]
  clear hW hb1
  generalize w1.heap.size = n1 at hsz k0 k1 kb k3 k4 hw1 ⊢
  have HIT := Lib.hid (groups_it (9 - 1) (by decide) s (by omega) 3 (by decide) (by decide) (n1 + 3) (n1 + 4))
  have HI0 := Lib.hid (Lib.IsBuilderF.of (b := n1 + 2) (B := n1 + 2) (.inl ⟨Nat.le_refl _, _, kb, World.ownsRow_nil _ _ _ _, by simp [Value.ownBlock]⟩) : Lib.IsBuilderF 52 5 (n1 + 2) (n1 + 2) [] W)
  refine wpIn_range_itE1 rfl (by decide) (gf := 65) (lb := #[.pointer (some ⟨n1 + 3, 0, none⟩), .pointer (some ⟨n1 + 4, 0, none⟩)]) rfl trivial (enters_of Tryd.func65 (by kernel_rfl) rfl)
    HIT.out (fun _ => rfl)
    (fun k A => A.heap[n1]? = some (.cells cq 49 (0, 0)) ∧ A.heap[n1 + 1]? = some (.cells #[.pointer (some ⟨n1, 0, none⟩)] 44 (0, 0)) ∧ PB s 3 (n1 + 3) (n1 + 4) A ∧
      Lib.IsBuilderF 52 5 (n1 + 2) (n1 + 2) (nums .u8 (baseL ((bl s).take (k * 3)))) A ∧ Bld.BOff (n1 + 2) (n1 + 5) A ∧ Below w.heap.size w A ∧ n1 + 5 ≤ A.heap.size) (fun _ _ _ => False)
    (fun k A h => h.2.2.1) ?hI (fun _ _ _ _ h _ => h) ⟨k0, k1, ⟨k3, k4⟩, by simpa [baseL, nums] using HI0.out, Bld.BOff.fresh kb, hbW, by omega⟩
    ?a1 ?assign ?body ?done ?stop
  case assign =>
    intro l x A K hK
    gi_wp2_with fail
    exact hK
  case stop => rintro c j B _ h; exact h.elim
  case hI =>
    rintro k A B ⟨r0, r1, ⟨r3, r4⟩, hI, ho, hb, hs⟩ _ hc
    rw [hsz] at hc
    have z : ∀ j, j < 5 → ¬ LZ (n1 + 5) (n1 + j) := fun j hj h => by rcases h with h | h <;> omega
    exact ⟨hc.heap r0 (z 0 (by omega)), hc.heap r1 (z 1 (by omega)), ⟨hc.heap r3 (z 3 (by omega)), hc.heap r4 (z 4 (by omega))⟩, Bld.isB_chg hI ho (z 2 (by omega)) hc, ho.keep (hc.block _ (by omega) (z 2 (by omega))),
      Below.chg hb (hc.mono (T := fun k => n1 + 5 ≤ k) (fun k hk => by rcases hk with hk | hk <;> omega)) (by omega) (fun k hk => by have : n1 + 5 ≤ k := hk; omega), Nat.le_trans hs hc.size⟩
  case body =>
    rintro k x A hl hz hx ⟨r0, r1, ⟨r3, r4⟩, hI, ho, hb, hs⟩ hs2
    rw [hsz] at hl hz hs2 ⊢
    have hkl : k < (s.size + 3 - 1) / 3 := by rw [← pcs_len]; exact (List.getElem?_eq_some_iff.1 hx).1
    rw [pcs_get s 3 k hkl] at hx
    have hk3 := (lt_pcs s 3 k (by decide)).1 hkl
    obtain rfl := Option.some.inj hx
    have hps := piece_size s 3 k
    have hbp := bl_piece s 3 k
    obtain ⟨g, hg⟩ : ∃ g, s.extract (k * 3) (min (k * 3 + 3) s.size) = g := ⟨_, rfl⟩
    rw [hg] at hps hbp ⊢
    have hgb : ∀ x ∈ baseL (bl g), 0 ≤ x ∧ x < 256 := baseL_byte _ (bl_byte g)
    have HGr := Lib.hid (group_c n1 g (by omega) (by omega) A (by omega) (Signs.of_row r0 HC.out))
    have hstep : nums .u8 (baseL ((bl s).take ((k + 1) * 3))) = nums .u8 (baseL ((bl s).take (k * 3))) ++ Lib.strCells (strOfNums (baseL (bl g))) := by
      rw [baseL_step _ _ (by rw [bl_len]; exact hk3), Bld.nums_app, Bld.strCells_son _ hgb, hbp]
    have HST := Lib.hid hstep
    have c1 := cell_of_row A (n1 + 1) 0 _ _ _ r1
    simp at c1
    have HI := Lib.hid hI
    have HO := Lib.hid ho
    have HL := Lib.hid hl
    have hlen : (nums .u8 (baseL ((bl s).take (k * 3)))).length + (strOfNums (baseL (bl g))).size ≤ 140737488355328 := by
      rw [Bld.nums_len, baseL_len, PureB.son_size, baseL_len, List.length_take, bl_len, bl_len]
      omega
    clear hx hg hbp hgb hstep hI ho hl
    gi_wp2_with fail
    refine ⟨trivial, (callsIn_wide.2 HGr.out).mono ?_⟩
    rintro e A1 ⟨rfl, hb1⟩
    have HI1 := HI.out.below hb1
    have HO1 : Bld.BOff (n1 + 2) (n1 + 5) A1 := HO.out.keep (hb1.block _ (by omega))
    have hsA := hb1.size
    gi_wp2_with fail
    refine ⟨trivial, (callsIn_wide.2 (Bld.WriteString_k (n1 + 2) (n1 + 2) _ _ A1 HI1 hlen (by omega))).mono ?_⟩
    rintro e A2 ⟨rfl, hbl2, hb2, hok2⟩
    gi_wp2_with fail
    have hs2' := hb2.size
    have hbl3 : Lib.IsBuilderF 52 5 (n1 + 2) (n1 + 2) (nums .u8 (baseL ((bl s).take ((k + 1) * 3)))) A2 := by rw [HST.out]; exact .inr hbl2
    have z1 : A1.heap[n1 + 5]? = some (.deferred (some [])) := (Chg.of_below (S := fun _ => False) hb1).heap hz (fun h => h)
    have z2 : ∃ r, A1.heap[n1 + 5 + 1]? = some (.loop r) := by
      obtain ⟨r, hr⟩ := HL.out
      exact ⟨r, (Chg.of_below (S := fun _ => False) hb1).heap hr (fun h => h)⟩
    have kp : ∀ {j o}, A.heap[j]? = some o → A1.heap[j]? = some o := fun h => (Chg.of_below (S := fun _ => False) hb1).heap h (fun h => h)
    have hlk : LK (n1 + 5) A1 A2 := Bld.LK_kept hs2' hok2 (by rintro (h | h) <;> omega) z1 z2
    have z3 : ∃ r, A2.heap[n1 + 5 + 1]? = some (.loop r) := by
      obtain ⟨r, hr⟩ := z2
      exact ⟨r, hlk.z1.trans hr⟩
    refine ⟨(LK.of_below hb1 (by omega)).trans hlk, Bld.kept_row hok2 (kp r0) (by omega) (by decide), Bld.kept_row hok2 (kp r1) (by omega) (by decide), ⟨Bld.kept_row hok2 (kp r3) (by omega) (by decide), Bld.kept_row hok2 (kp r4) (by omega) (by decide)⟩, hbl3, Bld.BOff.of hbl3 (hlk.z0.trans z1) z3, ?_, by omega⟩
    exact (bl_trans hb hb1).trans (hb2.mono (by omega))
  case done =>
    rintro B ⟨r0, r1, ⟨r3, r4⟩, hI, ho, hb, hs⟩ hs2 hK
    rw [hsz] at hK hs2
    rw [pcs_len, List.take_of_length_le (by rw [bl_len]; omega)] at hI
    have hby := baseL_byte _ (bl_byte s)
    rw [← Bld.byteCells_nums _ hby] at hI
    have HSt := Lib.hid (Tryd.Builder_String_any_k (n1 + 2) (n1 + 2) _ B hI (by omega))
    clear hI hby ho
    gi_wp2_with fail
    refine ⟨trivial, (callsIn_wide.2 HSt.out).mono ?_⟩
    rintro e B2 ⟨rfl, hI2, hb2, hok2⟩
    have hK2 : B2.heap[n1 + 5]? = some (.deferred (some [])) := hok2 _ _ hK (fun e => by have := Option.some.inj e; omega) (by intro c fz e; cases e)
    have hs3 := hb2.size
    gi_wp2_with fail
    refine ⟨by simp, .inl ⟨_, _, rfl, run_takeDeferred hK2, ?_⟩⟩
    refine ⟨_, results_tmp rfl _ _ _, rfl, Below.chg (hb.trans (hb2.mono (by omega))) ((Chg.refl (fun z => w.heap.size ≤ z) B2).putObj (by omega) _) (by omega) (fun z hz => hz)⟩

end Code
end Go.Proofs.YtckfglcihelofaaDoor
/- code's ungroup. -/
namespace Go.Proofs.YtckfglcihelofaaDoor
set_option linter.unusedSimpArgs false
set_option linter.unusedVariables false
namespace Code
open Go.RowKit Go.Shelf Go.Proofs.YtckfglcihelofaaDoorW.PrintWords Go.Proofs.YtckfglcihelofaaDoor.PureB
attribute [local go_sem] Oper.semAt_some
/-- What ungroup and its callers hand back. -/
def ugS (o : Option (List Int)) : Value := .string (match o with | none => ⟨#[]⟩ | some l => strOfNums l)
def ugE (o : Option (List Int)) (n : Int) : Value := match o with | none => werr n | some _ => .nilIface
set_option maxHeartbeats 4000000 in
set_option maxRecDepth 1000000 in
theorem ungroup_c (b : Nat) (s : ByteArray) (at_ : Int) (hs : s.size ≤ 4) (w : World) (hbw : b < w.heap.size) (h : Signs b w) :
    Calls Tryd.prog 61 #[.pointer (some ⟨b, 0, none⟩), .string s, .int .i64 at_] w fun e w' =>
      e = .returned (.tuple #[ugS (ungL (bl s)), ugE (ungL (bl s)) at_]) ∧ Below w.heap.size w w' := by
  obtain ⟨t, ht⟩ : ∃ t : ByteArray, (⟨(Lib.trimRightB s.data.toList 61).toArray⟩ : ByteArray) = t := ⟨_, rfl⟩
  have hT := Tryd.strings_TrimRight_one s 61 (by decide) w (by omega)
  have hst := strip_bl s
  simp only [ht] at hT hst
  have hsl := strip_len (bl s)
  rw [← hst, bl_len, bl_len] at hsl
  obtain ⟨o, ho⟩ : ∃ o, ungL (bl s) = o := ⟨_, rfl⟩
  rw [ho]
  unfold ungL at ho
  rw [← hst] at ho
  have HO := Lib.hid ho
  have HT := Lib.hid hT
  have HS := Lib.hid h
  obtain ⟨w1, hw1⟩ : ∃ x, Lib.bytesWorld w 5 t = x := ⟨_, rfl⟩
  have hconv := Lib.run_convert_string_bytes (P := Tryd.prog) w 9 29 5 t Tryd.underlying9 Tryd.underlying29 Tryd.underlying5
  have hB1 := Joins.below_bytesWorld w.heap.size w 5 t (Nat.le_refl _)
  have hs1 := Lib.bytesWorld_size w 5 t
  have hat := bytesWorld_at w 5 t
  rw [hw1] at hconv hB1 hs1 hat
  have HAT := Lib.hid hat
  have HB1 := Lib.hid hB1
  obtain ⟨i0, hi, hz0, hz1, hz2⟩ := info_parts Bld.infoByte
  clear hw1 hat hB1 hT ht hst h ho
  generalize grownCap w t.size 0 5 = cap at hconv
  go_enter Tryd.func61, Tryd.ntmps61
  go_wp2_with (go_at_call 73; refine HT.out.mono ?_; rintro e w' ⟨rfl, hw⟩; rw [hw]; clear hw)
  go_loopw [8, 9, 20] (fun n bi i wr => ∃ (j : Nat) (vs : List Int), i = .int .i64 j ∧ j ≤ t.size ∧ RowKit.Hid (vals ((bl t).take j) = some vs) ∧ bi = .int .i64 (6 * j : Nat) ∧ n = .int .i64 (nsum vs) ∧ Below (w.heap.size + 1) w1 wr)
    (fun _ _ i _ => t.size - (intOf i).toNat)
  case atStart => exact ⟨0, [], rfl, Nat.zero_le _, Lib.hid rfl, rfl, rfl, Below.refl _ _⟩
  case round =>
    obtain ⟨j, vs, rfl, hj, HV, rfl, rfl, hb⟩ := hrel
    obtain ⟨hvl, hv64⟩ := vals_some _ _ HV.out
    rw [List.length_take, bl_len, Nat.min_eq_left hj] at hvl
    obtain ⟨hn0, hn1⟩ := nsum_bound vs hv64
    rw [hvl] at hn1
    have hbs := hb.size
    by_cases hlt : j < t.size
    · have hn2 : nsum vs < 262144 := by
        clear HV hvl hv64
        rcases (show j = 0 ∨ j = 1 ∨ j = 2 ∨ j = 3 by omega) with rfl | rfl | rfl | rfl <;> simp at hn1 <;> omega
      obtain ⟨n, hn⟩ : ∃ n, nsum vs = n := ⟨_, rfl⟩
      rw [hn] at hn0 hn1 hn2 ⊢
      have hc := (hb.cell (by simp)).trans (HAT.out j hlt)
      have hxj := bl_get t j hlt
      obtain ⟨x, hx⟩ : ∃ x, bt t j = x := ⟨_, rfl⟩
      rw [hx] at hc hxj
      have hsg : Signs b wr := fun q hq => ((HB1.out.trans (hb.mono (by omega))).cell hbw).trans (HS.out q hq)
      have HW := Lib.hid (worth_c b x wr hsg)
      have htk : (bl t).take (j + 1) = (bl t).take j ++ [x] := by rw [List.take_add_one, hxj]; rfl
      cases hwx : worthL x with
      | none =>
        have hnone : vals (bl t) = none := by
          rw [← List.take_append_drop j (bl t), List.drop_eq_getElem_cons (by rw [bl_len]; exact hlt)]
          have : (bl t)[j]'(by rw [bl_len]; exact hlt) = x := by
            have := hxj
            rw [List.getElem?_eq_getElem (by rw [bl_len]; exact hlt)] at this
            exact Option.some.inj this
          rw [this]
          exact vals_none _ _ _ hwx
        have hwv : wV x = .tuple #[.int .i64 0, .bool false] := by simp [wV, hwx]
        have ho2 : o = none := by rw [← HO.out, hnone]; rfl
        rw [hwv] at HW
        clear hsg htk hxj hx hwx hnone
        go_wp2_with (go_at_call 74; refine HW.out.mono ?_; rintro e w2 ⟨rfl, hb2⟩)
        refine bodyPost_ret (v := .tuple #[.string ⟨#[]⟩, werr at_]) (by simp [results, Tryd.results61, go_sem]) rfl ⟨by rw [ho2]; rfl, (HB1.out.trans (hb.mono (by omega))).trans (hb2.mono (by omega))⟩
      | some v =>
        obtain ⟨v0, v1, _⟩ := b64_worth x v hwx
        have hwv : wV x = .tuple #[.int .i64 v, .bool true] := by simp [wV, hwx]
        rw [hwv] at HW
        have hor : bits BinOp.or IntKind.i64 (n * 64) v = n * 64 + v := or_hi 6 (n * 64) v (by omega) (by omega) (by omega) (by omega) (by omega) (by omega)
        have HV2 : RowKit.Hid (vals ((bl t).take (j + 1)) = some (vs ++ [v])) := Lib.hid (by rw [htk]; exact vals_append _ _ _ _ HV.out hwx)
        have HN := Lib.hid hn
        clear hsg htk hxj hx hwx hn
        go_wp2_with (go_at_call 74; refine HW.out.mono ?_; rintro e w2 ⟨rfl, hb2⟩)
        go_roundw
        case rel => exact ⟨j + 1, vs ++ [v], by simp, by omega, HV2, by congr 1, by rw [nsum_append, HN.out], hb.trans (hb2.mono (by omega))⟩
        case measure => simp [intOf]; omega
    · obtain rfl : j = t.size := by omega
      rw [List.take_of_length_le (by rw [bl_len]; omega)] at HV
      have ho2 : o = some (ungV vs) := by rw [← HO.out, HV.out]; rfl
      unfold ungV at ho2
      rw [hvl] at ho2
      have hxb : 0 ≤ nsum vs / 2 ^ (6 * t.size % 8) ∧ nsum vs / 2 ^ (6 * t.size % 8) < 16777216 := by
        clear HV ho2 hlt
        rcases (show t.size = 0 ∨ t.size = 1 ∨ t.size = 2 ∨ t.size = 3 ∨ t.size = 4 by omega) with e | e | e | e | e <;> rw [e] at hn1 ⊢ <;> simp at hn1 ⊢ <;> omega
      obtain ⟨n, hn⟩ : ∃ n, nsum vs = n := ⟨_, rfl⟩
      rw [hn] at hn0 hn1 ho2 hxb ⊢
      obtain ⟨ts, hts⟩ : ∃ ts, t.size = ts := ⟨_, rfl⟩
      rw [hts] at hn1 ho2 hxb hsl hlt hconv ⊢
      have HQ := Lib.hid ho2
      clear ho2 hn HV HO hts
      rcases (show ts = 0 ∨ ts = 1 ∨ ts = 2 ∨ ts = 3 ∨ ts = 4 by omega) with rfl | rfl | rfl | rfl | rfl
      · simp at hxb
        rw [show ((6 * 0 : Nat) : Int) = 0 from rfl]
        try rw [show ((0 : Nat) : Int) = 0 from rfl]
        go_wp2_with fail
        have HQ2 : RowKit.Hid (o = some (bys (n) 0)) := Lib.hid (by rw [HQ.out]; simp)
        generalize hx : n = x at hxb HQ2 ⊢
        clear HQ hx hn0 hn1
        go_loopw [14, 15] (fun ov iv W => ∃ r : Nat, iv = .int .i64 (0 - 1 - r : Int) ∧ r ≤ 0 ∧ W.ownsRow (w.heap.size + 1) 5 1 ov r (nums .u8 ((bys x 0).take r)) ∧ Below (w.heap.size + 1) w1 W)
          (fun _ iv _ => (intOf iv + 1).toNat)
        case atStart => exact ⟨0, rfl, Nat.zero_le _, World.ownsRow_nil _ _ _ _, hb⟩
        case round =>
          obtain ⟨r, rfl, hr, hrow, hb⟩ := hrel
          by_cases hrm : r < 0
          · omega
          · obtain rfl : r = 0 := by omega
            rw [List.take_of_length_le (by rw [bys_len]; exact Nat.le_refl _)] at hrow
            have hll := bys_len x 0
            have hby := bys_byte x 0
            obtain ⟨L, hL⟩ : ∃ L, bys x 0 = L := ⟨_, rfl⟩
            rw [hL] at hrow HQ2 hll hby
            have hrow2 : wr.ownsRow (w.heap.size + 1) 5 1 u14 L.length (nums .u8 L) := by rw [hll]; exact hrow
            clear hrow
            obtain ⟨A', c', rfl, hrd⟩ := own_reads hrow2
            have hst := string_of_reads (P := Tryd.prog) (w := wr) (src := 29) (dst := 9) (c := c') Tryd.underlying29 Tryd.underlying5 Tryd.underlying9 hrd
            rw [hll] at hst
            have HB := Lib.hid hb
            clear hrow2 hrd hb
            go_wp2_with fail
            refine bodyPost_ret (v := .tuple #[.string (strOfNums L), .nilIface]) (by simp [results, Tryd.results61, go_sem]) rfl ⟨by rw [HQ2.out]; rfl, HB1.out.trans ((HB.out).mono (by omega))⟩
      · simp at hxb
        rw [show ((6 * 1 : Nat) : Int) = 6 from rfl]
        try rw [show ((1 : Nat) : Int) = 1 from rfl]
        go_wp2_with fail
        have HQ2 : RowKit.Hid (o = some (bys (n / 64) 0)) := Lib.hid (by rw [HQ.out]; simp)
        generalize hx : n / 64 = x at hxb HQ2 ⊢
        clear HQ hx hn0 hn1
        go_loopw [14, 15] (fun ov iv W => ∃ r : Nat, iv = .int .i64 (0 - 1 - r : Int) ∧ r ≤ 0 ∧ W.ownsRow (w.heap.size + 1) 5 1 ov r (nums .u8 ((bys x 0).take r)) ∧ Below (w.heap.size + 1) w1 W)
          (fun _ iv _ => (intOf iv + 1).toNat)
        case atStart => exact ⟨0, rfl, Nat.zero_le _, World.ownsRow_nil _ _ _ _, hb⟩
        case round =>
          obtain ⟨r, rfl, hr, hrow, hb⟩ := hrel
          by_cases hrm : r < 0
          · omega
          · obtain rfl : r = 0 := by omega
            rw [List.take_of_length_le (by rw [bys_len]; exact Nat.le_refl _)] at hrow
            have hll := bys_len x 0
            have hby := bys_byte x 0
            obtain ⟨L, hL⟩ : ∃ L, bys x 0 = L := ⟨_, rfl⟩
            rw [hL] at hrow HQ2 hll hby
            have hrow2 : wr.ownsRow (w.heap.size + 1) 5 1 u14 L.length (nums .u8 L) := by rw [hll]; exact hrow
            clear hrow
            obtain ⟨A', c', rfl, hrd⟩ := own_reads hrow2
            have hst := string_of_reads (P := Tryd.prog) (w := wr) (src := 29) (dst := 9) (c := c') Tryd.underlying29 Tryd.underlying5 Tryd.underlying9 hrd
            rw [hll] at hst
            have HB := Lib.hid hb
            clear hrow2 hrd hb
            go_wp2_with fail
            refine bodyPost_ret (v := .tuple #[.string (strOfNums L), .nilIface]) (by simp [results, Tryd.results61, go_sem]) rfl ⟨by rw [HQ2.out]; rfl, HB1.out.trans ((HB.out).mono (by omega))⟩
      · simp at hxb
        rw [show ((6 * 2 : Nat) : Int) = 12 from rfl]
        try rw [show ((2 : Nat) : Int) = 2 from rfl]
        go_wp2_with fail
        have HQ2 : RowKit.Hid (o = some (bys (n / 16) 1)) := Lib.hid (by rw [HQ.out]; simp)
        generalize hx : n / 16 = x at hxb HQ2 ⊢
        clear HQ hx hn0 hn1
        go_loopw [14, 15] (fun ov iv W => ∃ r : Nat, iv = .int .i64 (1 - 1 - r : Int) ∧ r ≤ 1 ∧ W.ownsRow (w.heap.size + 1) 5 1 ov r (nums .u8 ((bys x 1).take r)) ∧ Below (w.heap.size + 1) w1 W)
          (fun _ iv _ => (intOf iv + 1).toNat)
        case atStart => exact ⟨0, rfl, Nat.zero_le _, World.ownsRow_nil _ _ _ _, hb⟩
        case round =>
          obtain ⟨r, rfl, hr, hrow, hb⟩ := hrel
          by_cases hrm : r < 1
          · obtain rfl : r = 0 := by omega
            have htk : (bys x 1).take (0 + 1) = (bys x 1).take 0 ++ [x % 256] := by simp [bys, List.range_succ]
            have HTK := Lib.hid htk
            have HB := Lib.hid hb
            have hsW := hb.size
            obtain ⟨y, hy⟩ : ∃ y, x % 256 = y := ⟨_, rfl⟩
            rw [hy] at HTK
            clear htk hb
            go_wp2_with (at_builtin; refine wpList_append_own _ rfl _ _ 29 rfl (w.heap.size + 1) 5 i0 (.int .u8 0) 1 1 Tryd.underlying29 hi hz0 hz1 hz2 rfl (by decide) _ _ _ rfl (hrow.alloc _) ⟨wr.heap.size, 0, none⟩ 1 1 [.int .u8 y] rfl rfl (cell_one_new _ _ _) (by intro u hu; simp at hu; subst hu; rfl) (by unfold maxLen; omega) (by omega) (by simp; omega) ?_)
            intro v' w3 hown' hgrow _
            obtain ⟨g', cap', rfl⟩ := ownsRow_succ hown'
            have hbg := (HB.out.alloc (by omega) (.cells #[.int .u8 y] 5 (0, 0))).grown hgrow (by simp; omega) (own_base hrow)
            have HOW := Lib.hid hown'
            clear hown' hgrow hrow hy
            go_wp2_with fail
            go_roundw
            case rel => exact ⟨1, by simp, by omega, by rw [show 1 = 0 + 1 from rfl, HTK.out, nums_append]; exact HOW.out, hbg⟩
            case measure => simp [intOf]
          · obtain rfl : r = 1 := by omega
            rw [List.take_of_length_le (by rw [bys_len]; exact Nat.le_refl _)] at hrow
            have hll := bys_len x 1
            have hby := bys_byte x 1
            obtain ⟨L, hL⟩ : ∃ L, bys x 1 = L := ⟨_, rfl⟩
            rw [hL] at hrow HQ2 hll hby
            have hrow2 : wr.ownsRow (w.heap.size + 1) 5 1 u14 L.length (nums .u8 L) := by rw [hll]; exact hrow
            clear hrow
            obtain ⟨A', c', rfl, hrd⟩ := own_reads hrow2
            have hst := string_of_reads (P := Tryd.prog) (w := wr) (src := 29) (dst := 9) (c := c') Tryd.underlying29 Tryd.underlying5 Tryd.underlying9 hrd
            rw [hll] at hst
            have HB := Lib.hid hb
            clear hrow2 hrd hb
            go_wp2_with fail
            refine bodyPost_ret (v := .tuple #[.string (strOfNums L), .nilIface]) (by simp [results, Tryd.results61, go_sem]) rfl ⟨by rw [HQ2.out]; rfl, HB1.out.trans ((HB.out).mono (by omega))⟩
      · simp at hxb
        rw [show ((6 * 3 : Nat) : Int) = 18 from rfl]
        try rw [show ((3 : Nat) : Int) = 3 from rfl]
        go_wp2_with fail
        have HQ2 : RowKit.Hid (o = some (bys (n / 4) 2)) := Lib.hid (by rw [HQ.out]; simp)
        generalize hx : n / 4 = x at hxb HQ2 ⊢
        clear HQ hx hn0 hn1
        go_loopw [14, 15] (fun ov iv W => ∃ r : Nat, iv = .int .i64 (2 - 1 - r : Int) ∧ r ≤ 2 ∧ W.ownsRow (w.heap.size + 1) 5 1 ov r (nums .u8 ((bys x 2).take r)) ∧ Below (w.heap.size + 1) w1 W)
          (fun _ iv _ => (intOf iv + 1).toNat)
        case atStart => exact ⟨0, rfl, Nat.zero_le _, World.ownsRow_nil _ _ _ _, hb⟩
        case round =>
          obtain ⟨r, rfl, hr, hrow, hb⟩ := hrel
          by_cases hrm : r < 2
          · rcases (show r = 0 ∨ r = 1 by omega) with rfl | rfl
            · have htk : (bys x 2).take (0 + 1) = (bys x 2).take 0 ++ [x / 256 % 256] := by simp [bys, List.range_succ]
              have HTK := Lib.hid htk
              have HB := Lib.hid hb
              have hsW := hb.size
              obtain ⟨y, hy⟩ : ∃ y, x / 256 % 256 = y := ⟨_, rfl⟩
              rw [hy] at HTK
              clear htk hb
              go_wp2_with (at_builtin; refine wpList_append_own _ rfl _ _ 29 rfl (w.heap.size + 1) 5 i0 (.int .u8 0) 1 1 Tryd.underlying29 hi hz0 hz1 hz2 rfl (by decide) _ _ _ rfl (hrow.alloc _) ⟨wr.heap.size, 0, none⟩ 1 1 [.int .u8 y] rfl rfl (cell_one_new _ _ _) (by intro u hu; simp at hu; subst hu; rfl) (by unfold maxLen; omega) (by omega) (by simp; omega) ?_)
              intro v' w3 hown' hgrow _
              obtain ⟨g', cap', rfl⟩ := ownsRow_succ hown'
              have hbg := (HB.out.alloc (by omega) (.cells #[.int .u8 y] 5 (0, 0))).grown hgrow (by simp; omega) (own_base hrow)
              have HOW := Lib.hid hown'
              clear hown' hgrow hrow hy
              go_wp2_with fail
              go_roundw
              case rel => exact ⟨1, by simp, by omega, by rw [show 1 = 0 + 1 from rfl, HTK.out, nums_append]; exact HOW.out, hbg⟩
              case measure => simp [intOf]
            · have htk : (bys x 2).take (1 + 1) = (bys x 2).take 1 ++ [x % 256] := by simp [bys, List.range_succ]
              have HTK := Lib.hid htk
              have HB := Lib.hid hb
              have hsW := hb.size
              obtain ⟨y, hy⟩ : ∃ y, x % 256 = y := ⟨_, rfl⟩
              rw [hy] at HTK
              clear htk hb
              go_wp2_with (at_builtin; refine wpList_append_own _ rfl _ _ 29 rfl (w.heap.size + 1) 5 i0 (.int .u8 0) 1 1 Tryd.underlying29 hi hz0 hz1 hz2 rfl (by decide) _ _ _ rfl (hrow.alloc _) ⟨wr.heap.size, 0, none⟩ 1 1 [.int .u8 y] rfl rfl (cell_one_new _ _ _) (by intro u hu; simp at hu; subst hu; rfl) (by unfold maxLen; omega) (by omega) (by simp; omega) ?_)
              intro v' w3 hown' hgrow _
              obtain ⟨g', cap', rfl⟩ := ownsRow_succ hown'
              have hbg := (HB.out.alloc (by omega) (.cells #[.int .u8 y] 5 (0, 0))).grown hgrow (by simp; omega) (own_base hrow)
              have HOW := Lib.hid hown'
              clear hown' hgrow hrow hy
              go_wp2_with fail
              go_roundw
              case rel => exact ⟨2, by simp, by omega, by rw [show 2 = 1 + 1 from rfl, HTK.out, nums_append]; exact HOW.out, hbg⟩
              case measure => simp [intOf]
          · obtain rfl : r = 2 := by omega
            rw [List.take_of_length_le (by rw [bys_len]; exact Nat.le_refl _)] at hrow
            have hll := bys_len x 2
            have hby := bys_byte x 2
            obtain ⟨L, hL⟩ : ∃ L, bys x 2 = L := ⟨_, rfl⟩
            rw [hL] at hrow HQ2 hll hby
            have hrow2 : wr.ownsRow (w.heap.size + 1) 5 1 u14 L.length (nums .u8 L) := by rw [hll]; exact hrow
            clear hrow
            obtain ⟨A', c', rfl, hrd⟩ := own_reads hrow2
            have hst := string_of_reads (P := Tryd.prog) (w := wr) (src := 29) (dst := 9) (c := c') Tryd.underlying29 Tryd.underlying5 Tryd.underlying9 hrd
            rw [hll] at hst
            have HB := Lib.hid hb
            clear hrow2 hrd hb
            go_wp2_with fail
            refine bodyPost_ret (v := .tuple #[.string (strOfNums L), .nilIface]) (by simp [results, Tryd.results61, go_sem]) rfl ⟨by rw [HQ2.out]; rfl, HB1.out.trans ((HB.out).mono (by omega))⟩
      · simp at hxb
        rw [show ((6 * 4 : Nat) : Int) = 24 from rfl]
        try rw [show ((4 : Nat) : Int) = 4 from rfl]
        go_wp2_with fail
        have HQ2 : RowKit.Hid (o = some (bys (n) 3)) := Lib.hid (by rw [HQ.out]; simp)
        generalize hx : n = x at hxb HQ2 ⊢
        clear HQ hx hn0 hn1
        go_loopw [14, 15] (fun ov iv W => ∃ r : Nat, iv = .int .i64 (3 - 1 - r : Int) ∧ r ≤ 3 ∧ W.ownsRow (w.heap.size + 1) 5 1 ov r (nums .u8 ((bys x 3).take r)) ∧ Below (w.heap.size + 1) w1 W)
          (fun _ iv _ => (intOf iv + 1).toNat)
        case atStart => exact ⟨0, rfl, Nat.zero_le _, World.ownsRow_nil _ _ _ _, hb⟩
        case round =>
          obtain ⟨r, rfl, hr, hrow, hb⟩ := hrel
          by_cases hrm : r < 3
          · rcases (show r = 0 ∨ r = 1 ∨ r = 2 by omega) with rfl | rfl | rfl
            · have htk : (bys x 3).take (0 + 1) = (bys x 3).take 0 ++ [x / 65536] := by simp [bys, List.range_succ]; omega
              have HTK := Lib.hid htk
              have HB := Lib.hid hb
              have hsW := hb.size
              obtain ⟨y, hy⟩ : ∃ y, x / 65536 = y := ⟨_, rfl⟩
              rw [hy] at HTK
              clear htk hb
              go_wp2_with (at_builtin; refine wpList_append_own _ rfl _ _ 29 rfl (w.heap.size + 1) 5 i0 (.int .u8 0) 1 1 Tryd.underlying29 hi hz0 hz1 hz2 rfl (by decide) _ _ _ rfl (hrow.alloc _) ⟨wr.heap.size, 0, none⟩ 1 1 [.int .u8 y] rfl rfl (cell_one_new _ _ _) (by intro u hu; simp at hu; subst hu; rfl) (by unfold maxLen; omega) (by omega) (by simp; omega) ?_)
              intro v' w3 hown' hgrow _
              obtain ⟨g', cap', rfl⟩ := ownsRow_succ hown'
              have hbg := (HB.out.alloc (by omega) (.cells #[.int .u8 y] 5 (0, 0))).grown hgrow (by simp; omega) (own_base hrow)
              have HOW := Lib.hid hown'
              clear hown' hgrow hrow hy
              go_wp2_with fail
              go_roundw
              case rel => exact ⟨1, by simp, by omega, by rw [show 1 = 0 + 1 from rfl, HTK.out, nums_append]; exact HOW.out, hbg⟩
              case measure => simp [intOf]
            · have htk : (bys x 3).take (1 + 1) = (bys x 3).take 1 ++ [x / 256 % 256] := by simp [bys, List.range_succ]
              have HTK := Lib.hid htk
              have HB := Lib.hid hb
              have hsW := hb.size
              obtain ⟨y, hy⟩ : ∃ y, x / 256 % 256 = y := ⟨_, rfl⟩
              rw [hy] at HTK
              clear htk hb
              go_wp2_with (at_builtin; refine wpList_append_own _ rfl _ _ 29 rfl (w.heap.size + 1) 5 i0 (.int .u8 0) 1 1 Tryd.underlying29 hi hz0 hz1 hz2 rfl (by decide) _ _ _ rfl (hrow.alloc _) ⟨wr.heap.size, 0, none⟩ 1 1 [.int .u8 y] rfl rfl (cell_one_new _ _ _) (by intro u hu; simp at hu; subst hu; rfl) (by unfold maxLen; omega) (by omega) (by simp; omega) ?_)
              intro v' w3 hown' hgrow _
              obtain ⟨g', cap', rfl⟩ := ownsRow_succ hown'
              have hbg := (HB.out.alloc (by omega) (.cells #[.int .u8 y] 5 (0, 0))).grown hgrow (by simp; omega) (own_base hrow)
              have HOW := Lib.hid hown'
              clear hown' hgrow hrow hy
              go_wp2_with fail
              go_roundw
              case rel => exact ⟨2, by simp, by omega, by rw [show 2 = 1 + 1 from rfl, HTK.out, nums_append]; exact HOW.out, hbg⟩
              case measure => simp [intOf]
            · have htk : (bys x 3).take (2 + 1) = (bys x 3).take 2 ++ [x % 256] := by simp [bys, List.range_succ]
              have HTK := Lib.hid htk
              have HB := Lib.hid hb
              have hsW := hb.size
              obtain ⟨y, hy⟩ : ∃ y, x % 256 = y := ⟨_, rfl⟩
              rw [hy] at HTK
              clear htk hb
              go_wp2_with (at_builtin; refine wpList_append_own _ rfl _ _ 29 rfl (w.heap.size + 1) 5 i0 (.int .u8 0) 1 1 Tryd.underlying29 hi hz0 hz1 hz2 rfl (by decide) _ _ _ rfl (hrow.alloc _) ⟨wr.heap.size, 0, none⟩ 1 1 [.int .u8 y] rfl rfl (cell_one_new _ _ _) (by intro u hu; simp at hu; subst hu; rfl) (by unfold maxLen; omega) (by omega) (by simp; omega) ?_)
              intro v' w3 hown' hgrow _
              obtain ⟨g', cap', rfl⟩ := ownsRow_succ hown'
              have hbg := (HB.out.alloc (by omega) (.cells #[.int .u8 y] 5 (0, 0))).grown hgrow (by simp; omega) (own_base hrow)
              have HOW := Lib.hid hown'
              clear hown' hgrow hrow hy
              go_wp2_with fail
              go_roundw
              case rel => exact ⟨3, by simp, by omega, by rw [show 3 = 2 + 1 from rfl, HTK.out, nums_append]; exact HOW.out, hbg⟩
              case measure => simp [intOf]
          · obtain rfl : r = 3 := by omega
            rw [List.take_of_length_le (by rw [bys_len]; exact Nat.le_refl _)] at hrow
            have hll := bys_len x 3
            have hby := bys_byte x 3
            obtain ⟨L, hL⟩ : ∃ L, bys x 3 = L := ⟨_, rfl⟩
            rw [hL] at hrow HQ2 hll hby
            have hrow2 : wr.ownsRow (w.heap.size + 1) 5 1 u14 L.length (nums .u8 L) := by rw [hll]; exact hrow
            clear hrow
            obtain ⟨A', c', rfl, hrd⟩ := own_reads hrow2
            have hst := string_of_reads (P := Tryd.prog) (w := wr) (src := 29) (dst := 9) (c := c') Tryd.underlying29 Tryd.underlying5 Tryd.underlying9 hrd
            rw [hll] at hst
            have HB := Lib.hid hb
            clear hrow2 hrd hb
            go_wp2_with fail
            refine bodyPost_ret (v := .tuple #[.string (strOfNums L), .nilIface]) (by simp [results, Tryd.results61, go_sem]) rfl ⟨by rw [HQ2.out]; rfl, HB1.out.trans ((HB.out).mono (by omega))⟩
end Code
end Go.Proofs.YtckfglcihelofaaDoor
/- code's unbase and Unbase. -/
namespace Go.Proofs.YtckfglcihelofaaDoor
set_option linter.unusedSimpArgs false
set_option linter.unusedVariables false
namespace Code
open Go.RowKit Go.Shelf Go.Proofs.YtckfglcihelofaaDoorW.PrintWords Go.Proofs.YtckfglcihelofaaDoor.PureB
attribute [local go_sem] Oper.semAt_some
set_option maxRecDepth 100000 in
set_option maxHeartbeats 4000000 in
theorem unbase_c (s : ByteArray) (hs : s.size ≤ 4611686018427) (w : World) :
    Calls Tryd.prog 45 #[.string s] w fun e w' => (∃ n, e = .returned (.tuple #[ugS (unbL (bl s)), ugE (unbL (bl s)) n])) ∧ Below w.heap.size w w' := by
  obtain ⟨R, hR⟩ : ∃ R, unbL (bl s) = R := ⟨_, rfl⟩
  rw [hR]
  have HR := Lib.hid hR
  clear hR
  refine (callsIn_wide (n := 9)).1 ?_
  refine callsIn_of_wp_marks Tryd.func45 rfl trivial ?_ rfl
  simp only [Tryd.ntmps45, List.size_toArray, List.length_cons, List.length_nil, Nat.reduceAdd, Nat.reduceSub, Array.replicate_succ, Array.replicate_zero, List.push_toArray, List.append_toArray, List.nil_append, List.cons_append]
  gi_wp2_with fail
  refine ⟨trivial, (callsIn_wide.2 (all_c _)).mono ?_⟩
  rintro e w1 ⟨cs, rfl, hcs, hc64, hb1⟩
  have q0 : w1.heap[w.heap.size]? = some (.cells #[.string ⟨#[]⟩] 9 (0, 0)) := (Chg.of_below (S := fun _ => False) hb1).heap (by repeat (first | exact ag_new _ _ _ (by simp) | refine ag_old ?_)) (fun h => h)
  have q1 : w1.heap[w.heap.size + 1]? = some (.cells #[.nilIface] 39 (0, 0)) := (Chg.of_below (S := fun _ => False) hb1).heap (by repeat (first | exact ag_new _ _ _ (by simp) | refine ag_old ?_)) (fun h => h)
  have hbw1 : Below w.heap.size w w1 := by
    refine Below.trans (bl_alloc (bl_alloc (Below.refl _ _) _) _) (hb1.mono (by simp; omega))
  have hsz1 : w.heap.size + 2 ≤ w1.heap.size := by have := hb1.size; simpa using this
  clear hb1
  gi_wp2_with fail
  generalize hcq : Array.foldl (fun (cs : Array Value) (x : Value × Nat) => cs.setIfInBounds x.2 x.1) _ (cs.zipIdx 0) 0 64 = cq
  have HC : RowKit.Hid (∀ j : Nat, j < 64 → cq[j]? = some (.int .u8 (b64 j))) := Lib.hid (fun j hj => by rw [← hcq, fold_set _ _ (by rfl) hcs]; exact hc64 j hj)
  clear hc64 hcq
  refine ⟨trivial, (callsIn_wide.2 (groups_any s 4 _)).mono ?_⟩
  rintro e w2 ⟨rfl, rfl⟩
  gi_wp2_with fail
  obtain ⟨W, hW⟩ : ∃ W, (((((w1.alloc (.cells cq 49)).alloc (.cells #[.pointer (some ⟨w1.heap.size, 0, none⟩)] 44)).alloc (.cells #[.pointer none, .slice none 0 0] 52)).alloc (.cells #[.string s] 9)).alloc (.cells #[.int .i64 4] 3)) = W := ⟨_, rfl⟩
  have hsz : W.heap.size = w1.heap.size + 5 := by rw [← hW]; simp
  have k0 : W.heap[w1.heap.size]? = some (.cells cq 49 (0, 0)) := by rw [← hW]; repeat (first | exact ag_new _ _ _ (by simp) | refine ag_old ?_)
  have k1 : W.heap[w1.heap.size + 1]? = some (.cells #[.pointer (some ⟨w1.heap.size, 0, none⟩)] 44 (0, 0)) := by rw [← hW]; repeat (first | exact ag_new _ _ _ (by simp) | refine ag_old ?_)
  have kb : W.heap[w1.heap.size + 2]? = some (.cells #[.pointer none, .slice none 0 0] 52 (0, 0)) := by rw [← hW]; repeat (first | exact ag_new _ _ _ (by simp) | refine ag_old ?_)
  have k3 : W.heap[w1.heap.size + 3]? = some (.cells #[.string s] 9 (0, 0)) := by rw [← hW]; repeat (first | exact ag_new _ _ _ (by simp) | refine ag_old ?_)
  have k4 : W.heap[w1.heap.size + 4]? = some (.cells #[.int .i64 4] 3 (0, 0)) := by rw [← hW]; repeat (first | exact ag_new _ _ _ (by simp) | refine ag_old ?_)
  have hbW : Below w.heap.size w W := by rw [← hW]; exact bl_alloc (bl_alloc (bl_alloc (bl_alloc (bl_alloc hbw1 _) _) _) _) _
  have q2 : W.heap[w.heap.size]? = some (.cells #[.string ⟨#[]⟩] 9 (0, 0)) := by rw [← hW]; exact ag_old (ag_old (ag_old (ag_old (ag_old q0))))
  have q3 : W.heap[w.heap.size + 1]? = some (.cells #[.nilIface] 39 (0, 0)) := by rw [← hW]; exact ag_old (ag_old (ag_old (ag_old (ag_old q1))))
  rw [hW]
  clear hW hbw1 q0 q1
  generalize w1.heap.size = n1 at hsz k0 k1 kb k3 k4 hsz1 ⊢
  have HIT := Lib.hid (groups_it (9 - 1) (by decide) s (by omega) 4 (by decide) (by decide) (n1 + 3) (n1 + 4))
  have HI0 := Lib.hid (Lib.IsBuilderF.of (b := n1 + 2) (B := n1 + 2) (.inl ⟨Nat.le_refl _, _, kb, World.ownsRow_nil _ _ _ _, by simp [Value.ownBlock]⟩) : Lib.IsBuilderF 52 5 (n1 + 2) (n1 + 2) [] W)
  refine wpIn_range_itE1 rfl (by decide) (gf := 65) (lb := #[.pointer (some ⟨n1 + 3, 0, none⟩), .pointer (some ⟨n1 + 4, 0, none⟩)]) rfl trivial (enters_of Tryd.func65 (by kernel_rfl) rfl)
    HIT.out (fun _ => rfl)
    (fun k A => A.heap[w.heap.size]? = some (.cells #[.string ⟨#[]⟩] 9 (0, 0)) ∧ A.heap[w.heap.size + 1]? = some (.cells #[.nilIface] 39 (0, 0)) ∧
      A.heap[n1]? = some (.cells cq 49 (0, 0)) ∧ A.heap[n1 + 1]? = some (.cells #[.pointer (some ⟨n1, 0, none⟩)] 44 (0, 0)) ∧ PB s 4 (n1 + 3) (n1 + 4) A ∧
      (∃ acc, rough (pieces (bl s) 4 k) = some acc ∧ Lib.IsBuilderF 52 5 (n1 + 2) (n1 + 2) (nums .u8 acc) A) ∧ Bld.BOff (n1 + 2) (n1 + 5) A ∧ Below w.heap.size w A ∧ n1 + 5 ≤ A.heap.size)
    (fun c k A => c = .ret ∧ R = none ∧ ∃ n, A.heap[w.heap.size]? = some (.cells #[.string ⟨#[]⟩] 9 (0, 0)) ∧ A.heap[w.heap.size + 1]? = some (.cells #[werr n] 39 (0, 0)) ∧ Below w.heap.size w A)
    (fun k A h => h.2.2.2.2.1) ?hI ?hIx ⟨q2, q3, k0, k1, ⟨k3, k4⟩, ⟨[], rfl, by simpa [nums] using HI0.out⟩, Bld.BOff.fresh kb, hbW, by omega⟩
    ?a1 ?assign ?body ?done ?stop
  case assign =>
    intro l x A K hK
    gi_wp2_with fail
    exact hK
  case hI =>
    rintro k A B ⟨p0, p1, r0, r1, ⟨r3, r4⟩, ⟨acc, hacc, hI⟩, ho, hb, hs⟩ _ hc
    rw [hsz] at hc
    have z : ∀ j, j < n1 + 5 → ¬ LZ (n1 + 5) j := fun j hj h => by rcases h with h | h <;> omega
    exact ⟨hc.heap p0 (z _ (by omega)), hc.heap p1 (z _ (by omega)), hc.heap r0 (z _ (by omega)), hc.heap r1 (z _ (by omega)), ⟨hc.heap r3 (z _ (by omega)), hc.heap r4 (z _ (by omega))⟩, ⟨acc, hacc, Bld.isB_chg hI ho (z _ (by omega)) hc⟩, ho.keep (hc.block _ (by omega) (z _ (by omega))),
      Below.chg hb (hc.mono (T := fun k => n1 + 5 ≤ k) (fun k hk => by rcases hk with hk | hk <;> omega)) (by omega) (fun k hk => by have : n1 + 5 ≤ k := hk; omega), Nat.le_trans hs hc.size⟩
  case hIx =>
    rintro c k A B ⟨rfl, hRn, n, p0, p1, hb⟩ hc
    rw [hsz] at hc
    have z : ∀ j, j < n1 + 5 → ¬ LZ (n1 + 5) j := fun j hj h => by rcases h with h | h <;> omega
    have hbs := hb.size
    exact ⟨rfl, hRn, n, hc.heap p0 (z _ (by omega)), hc.heap p1 (z _ (by omega)), Below.chg hb (hc.mono (T := fun k => n1 + 5 ≤ k) (fun k hk => by rcases hk with hk | hk <;> omega)) hbs (fun k hk => by have : n1 + 5 ≤ k := hk; omega)⟩
  case body =>
    rintro k x A hl hz hx ⟨p0, p1, r0, r1, ⟨r3, r4⟩, ⟨acc, hacc, hI⟩, ho, hb, hs⟩ hs2
    rw [hsz] at hl hz hs2 ⊢
    have hkl : k < (s.size + 4 - 1) / 4 := by rw [← pcs_len]; exact (List.getElem?_eq_some_iff.1 hx).1
    rw [pcs_get s 4 k hkl] at hx
    have hk3 := (lt_pcs s 4 k (by decide)).1 hkl
    obtain rfl := Option.some.inj hx
    have hps := piece_size s 4 k
    have hbp := bl_piece s 4 k
    obtain ⟨g, hg⟩ : ∃ g, s.extract (k * 4) (min (k * 4 + 4) s.size) = g := ⟨_, rfl⟩
    rw [hg] at hps hbp ⊢
    have hsg := Signs.of_row r0 HC.out
    have HU := Lib.hid (ungroup_c n1 g (k * 4 : Nat) (by omega) A (by omega) hsg)
    have c1 := cell_of_row A (n1 + 1) 0 _ _ _ r1
    simp at c1
    have HI := Lib.hid hI
    have HO := Lib.hid ho
    have HL := Lib.hid hl
    obtain ⟨hal, hab⟩ := rough_bound _ _ hacc (pieces_le _ _ _)
    rw [pieces_len] at hal
    have HA := Lib.hid hacc
    cases hug : ungL (bl g) with
    | none =>
      rw [hug] at HU
      have hRn : R = none := by
        obtain ⟨r, hr⟩ := pieces_split (bl s) 4 ((s.size + 3) / 4) k (by omega)
        rw [← HR.out]
        unfold unbL
        rw [bl_len, hr, rough_none _ _ _ (by rw [← hbp]; exact hug)]
      clear hx hg hbp hI ho hl hsg hacc hug
      have f0 : A.frozen? ⟨w.heap.size, 0, none⟩ = false := Lib.frozen_of_heap p0 0
      have f1 : A.frozen? ⟨w.heap.size + 1, 0, none⟩ = false := Lib.frozen_of_heap p1 0
      gi_wp2_with fail
      refine ⟨trivial, (callsIn_wide.2 HU.out).mono ?_⟩
      rintro e A1 ⟨rfl, hb1⟩
      have kp : ∀ {j o}, A.heap[j]? = some o → A1.heap[j]? = some o := fun h => (Chg.of_below (S := fun _ => False) hb1).heap h (fun h => h)
      have p0' := kp p0
      have p1' := kp p1
      have e0 := cell_of_row A1 w.heap.size 0 _ _ _ p0'
      have e1 := cell_of_row A1 (w.heap.size + 1) 0 _ _ _ p1'
      simp at e0 e1
      have f0' : A1.frozen? ⟨w.heap.size, 0, none⟩ = false := Lib.frozen_of_heap p0' 0
      have f1' : A1.frozen? ⟨w.heap.size + 1, 0, none⟩ = false := Lib.frozen_of_heap p1' 0
      simp only [ugS, ugE]
      gi_wp2_with fail
      have g0 : Boxed (A1.setCell ⟨w.heap.size, 0, none⟩ (.string ⟨#[]⟩)) w.heap.size 9 (.string ⟨#[]⟩) := Boxed.set (v := .string ⟨#[]⟩) _ p0'
      have g1 : Boxed (A1.setCell ⟨w.heap.size, 0, none⟩ (.string ⟨#[]⟩)) (w.heap.size + 1) 39 .nilIface := (Below.heap_setCell _ _ _ _ (by simp)).trans p1'
      have g2 := Boxed.set (v := .nilIface) (werr (k * 4)) g1
      have g3 : ((A1.setCell ⟨w.heap.size, 0, none⟩ (.string ⟨#[]⟩)).setCell ⟨w.heap.size + 1, 0, none⟩ (werr (k * 4))).heap[w.heap.size]? = some (.cells #[.string ⟨#[]⟩] 9 (0, 0)) := (Below.heap_setCell _ _ _ _ (by simp)).trans g0
      have hc : Chg (fun j => j = w.heap.size ∨ j = w.heap.size + 1) A1 ((A1.setCell ⟨w.heap.size, 0, none⟩ (.string ⟨#[]⟩)).setCell ⟨w.heap.size + 1, 0, none⟩ (werr (k * 4))) := ((Chg.refl _ _).setCell (.inl rfl) _).setCell (.inr rfl) _
      have hsA := hb1.size
      exact ⟨(LK.of_below hb1 (by omega)).trans (LK.of_chg hc (by omega) (by rintro j hj (h | h) <;> omega)), rfl, hRn, _, g3, g2, Below.chg (bl_trans hb hb1) hc (by omega) (by rintro j (h | h) <;> omega)⟩
    | some L =>
      rw [hug] at HU
      obtain ⟨hL3, hLb⟩ := ungL_bound _ _ hug (by rw [bl_len]; omega)
      have hacc2 : rough (pieces (bl s) 4 (k + 1)) = some (acc ++ L) := by
        rw [pieces_succ]
        exact rough_append _ _ _ _ hacc (by rw [← hbp]; exact hug)
      have HA2 := Lib.hid hacc2
      have hstep : nums .u8 (acc ++ L) = nums .u8 acc ++ Lib.strCells (strOfNums L) := by rw [Bld.nums_app, Bld.strCells_son _ hLb]
      have HST := Lib.hid hstep
      have hlen : (nums .u8 acc).length + (strOfNums L).size ≤ 140737488355328 := by rw [Bld.nums_len, son_size]; omega
      clear hx hg hbp hI ho hl hsg hacc hug hacc2 hstep
      gi_wp2_with fail
      refine ⟨trivial, (callsIn_wide.2 HU.out).mono ?_⟩
      rintro e A1 ⟨rfl, hb1⟩
      have HI1 := HI.out.below hb1
      have HO1 : Bld.BOff (n1 + 2) (n1 + 5) A1 := HO.out.keep (hb1.block _ (by omega))
      have hsA := hb1.size
      simp only [ugS, ugE]
      gi_wp2_with fail
      refine ⟨trivial, (callsIn_wide.2 (Bld.WriteString_k (n1 + 2) (n1 + 2) _ _ A1 HI1 hlen (by omega))).mono ?_⟩
      rintro e A2 ⟨rfl, hbl2, hb2, hok2⟩
      gi_wp2_with fail
      have hs2' := hb2.size
      have hbl3 : Lib.IsBuilderF 52 5 (n1 + 2) (n1 + 2) (nums .u8 (acc ++ L)) A2 := by rw [HST.out]; exact .inr hbl2
      have z1 : A1.heap[n1 + 5]? = some (.deferred (some [])) := (Chg.of_below (S := fun _ => False) hb1).heap hz (fun h => h)
      have z2 : ∃ r, A1.heap[n1 + 5 + 1]? = some (.loop r) := by
        obtain ⟨r, hr⟩ := HL.out
        exact ⟨r, (Chg.of_below (S := fun _ => False) hb1).heap hr (fun h => h)⟩
      have kp : ∀ {j o}, A.heap[j]? = some o → A1.heap[j]? = some o := fun h => (Chg.of_below (S := fun _ => False) hb1).heap h (fun h => h)
      have hlk : LK (n1 + 5) A1 A2 := Bld.LK_kept hs2' hok2 (by rintro (h | h) <;> omega) z1 z2
      have z3 : ∃ r, A2.heap[n1 + 5 + 1]? = some (.loop r) := by
        obtain ⟨r, hr⟩ := z2
        exact ⟨r, hlk.z1.trans hr⟩
      refine ⟨(LK.of_below hb1 (by omega)).trans hlk, Bld.kept_row hok2 (kp p0) (by omega) (by decide), Bld.kept_row hok2 (kp p1) (by omega) (by decide), Bld.kept_row hok2 (kp r0) (by omega) (by decide), Bld.kept_row hok2 (kp r1) (by omega) (by decide), ⟨Bld.kept_row hok2 (kp r3) (by omega) (by decide), Bld.kept_row hok2 (kp r4) (by omega) (by decide)⟩, ⟨_, HA2.out, hbl3⟩, Bld.BOff.of hbl3 (hlk.z0.trans z1) z3, ?_, by omega⟩
      exact (bl_trans hb hb1).trans (hb2.mono (by omega))
  case stop =>
    rintro c k B hkl ⟨rfl, hRn, n, p0, p1, hb⟩ hs2 hK
    rw [hsz] at hK hs2
    have e0 := cell_of_row B w.heap.size 0 _ _ _ p0
    have e1 := cell_of_row B (w.heap.size + 1) 0 _ _ _ p1
    simp at e0 e1
    have hbs := hb.size
    gi_wp2_with fail
    refine ⟨by simp, .inl ⟨_, _, rfl, run_takeDeferred (by first | exact hK | (rw [hsz]; exact hK)), ?_⟩⟩
    have hkc : ∀ j, j < B.heap.size → j < n1 + 5 → (B.putObj W.heap.size (.deferred none)).heap[j]? = B.heap[j]? := fun j _ hj => World.putObj_heap_other (by omega)
    have e0' : (B.putObj W.heap.size (.deferred none)).cell? ⟨w.heap.size, 0, none⟩ = some (.string ⟨#[]⟩) := (World.cell?_of_block (w := B) (hkc w.heap.size (by omega) (by omega))).trans e0
    have e1' : (B.putObj W.heap.size (.deferred none)).cell? ⟨w.heap.size + 1, 0, none⟩ = some (werr n) := (World.cell?_of_block (w := B) (hkc (w.heap.size + 1) (by omega) (by omega))).trans e1
    refine ⟨_, results_cell2 rfl _ _ rfl rfl Tryd.underlying9 Tryd.underlying39 rfl rfl e0' e1', ⟨n, by rw [hRn]; rfl⟩, Below.chg hb ((Chg.refl (fun z => w.heap.size ≤ z) B).putObj (by omega) _) hbs (fun z hz => hz)⟩
  case done =>
    rintro B ⟨p0, p1, r0, r1, ⟨r3, r4⟩, ⟨acc, hacc, hI⟩, ho, hb, hs⟩ hs2 hK
    rw [hsz] at hK hs2
    rw [pcs_len] at hacc
    obtain ⟨hal, hab⟩ := rough_bound _ _ hacc (pieces_le _ _ _)
    rw [pieces_len] at hal
    rw [← Bld.byteCells_nums _ hab] at hI
    have HSt := Lib.hid (Tryd.Builder_String_any_k (n1 + 2) (n1 + 2) _ B hI (by omega))
    obtain ⟨t, ht⟩ : ∃ t, strOfNums acc = t := ⟨_, rfl⟩
    have hta : bl t = acc := by rw [← ht, bl_son _ hab]
    have hts : t.size = acc.length := by rw [← ht, son_size]
    have HBa := Lib.hid (Base_c t (by omega))
    rw [show (⟨(List.map (fun x : Int => x.toNat.toUInt8) acc).toArray⟩ : ByteArray) = t from ht] at HSt
    have hU : unbL (bl s) = if baseL acc = bl s then some acc else none := by
      unfold unbL
      rw [bl_len, show (s.size + 3) / 4 = (s.size + 4 - 1) / 4 from rfl, hacc]
    have HU := Lib.hid hU
    rw [hta] at HBa
    have HT := Lib.hid ht
    clear hI ho hacc hU ht
    gi_wp2_with fail
    refine ⟨trivial, (callsIn_wide.2 HSt.out).mono ?_⟩
    rintro e B2 ⟨rfl, hI2, hb2, hok2⟩
    have hK2 : B2.heap[n1 + 5]? = some (.deferred (some [])) := hok2 _ _ hK (fun e => by have := Option.some.inj e; omega) (by intro c fz e; cases e)
    have p0' := Bld.kept_row hok2 p0 (by omega) (by decide)
    have p1' := Bld.kept_row hok2 p1 (by omega) (by decide)
    have hs3 := hb2.size
    clear hI2
    gi_wp2_with fail
    refine ⟨trivial, (callsIn_wide.2 (HBa.out B2)).mono ?_⟩
    rintro e B3 ⟨rfl, hb3⟩
    have kp : ∀ {j o}, B2.heap[j]? = some o → B3.heap[j]? = some o := fun h => (Chg.of_below (S := fun _ => False) hb3).heap h (fun h => h)
    have hK3 := kp hK2
    have p0'' := kp p0'
    have p1'' := kp p1'
    have hs4 := hb3.size
    have e0 := cell_of_row B3 w.heap.size 0 _ _ _ p0''
    have e1 := cell_of_row B3 (w.heap.size + 1) 0 _ _ _ p1''
    simp at e0 e1
    have f0' : B3.frozen? ⟨w.heap.size, 0, none⟩ = false := Lib.frozen_of_heap p0'' 0
    have f1' : B3.frozen? ⟨w.heap.size + 1, 0, none⟩ = false := Lib.frozen_of_heap p1'' 0
    have hbB3 : Below w.heap.size w B3 := (hb.trans (hb2.mono (by omega))).trans (hb3.mono (by omega))
    by_cases heq : strOfNums (baseL acc) = s
    · have hRv : R = some acc := by
        rw [← HR.out, HU.out, if_pos]
        rw [← heq, bl_son _ (baseL_byte _ hab)]
      gi_wp2_with fail
      have g0 : Boxed (B3.setCell ⟨w.heap.size, 0, none⟩ (.string t)) w.heap.size 9 (.string t) := Boxed.set (v := .string ⟨#[]⟩) _ p0''
      have g1 : Boxed (B3.setCell ⟨w.heap.size, 0, none⟩ (.string t)) (w.heap.size + 1) 39 .nilIface := (Below.heap_setCell _ _ _ _ (by simp)).trans p1''
      have g2 := Boxed.set (v := .nilIface) .nilIface g1
      have g3 : Boxed ((B3.setCell ⟨w.heap.size, 0, none⟩ (.string t)).setCell ⟨w.heap.size + 1, 0, none⟩ .nilIface) w.heap.size 9 (.string t) := (Below.heap_setCell _ _ _ _ (by simp)).trans g0
      have hc : Chg (fun j => j = w.heap.size ∨ j = w.heap.size + 1) B3 ((B3.setCell ⟨w.heap.size, 0, none⟩ (.string t)).setCell ⟨w.heap.size + 1, 0, none⟩ .nilIface) := ((Chg.refl _ _).setCell (.inl rfl) _).setCell (.inr rfl) _
      have hK4 := hc.heap hK3 (by rintro (h | h) <;> omega)
      obtain ⟨B4, hB4⟩ : ∃ B4, (B3.setCell ⟨w.heap.size, 0, none⟩ (.string t)).setCell ⟨w.heap.size + 1, 0, none⟩ .nilIface = B4 := ⟨_, rfl⟩
      have hbB4 : Below w.heap.size w B4 := by rw [← hB4]; exact Below.chg hbB3 hc (by omega) (by rintro j (h | h) <;> omega)
      have hs5 := hc.size
      rw [hB4] at g2 g3 hK4 hs5 ⊢
      have hkc : ∀ j, j < n1 + 5 → (B4.putObj (n1 + 5) (.deferred none)).heap[j]? = B4.heap[j]? := fun j hj => World.putObj_heap_other (by omega)
      have e0' := (World.cell?_of_block (w := B4) (a := ⟨w.heap.size, 0, none⟩) (hkc w.heap.size (by omega))).trans g3.cell
      have e1' := (World.cell?_of_block (w := B4) (a := ⟨w.heap.size + 1, 0, none⟩) (hkc (w.heap.size + 1) (by omega))).trans g2.cell
      refine ⟨by simp, .inl ⟨_, _, rfl, run_takeDeferred hK4, ?_⟩⟩
      refine ⟨_, results_cell2 rfl _ _ rfl rfl Tryd.underlying9 Tryd.underlying39 rfl rfl e0' e1', ⟨s.size, by rw [hRv]; unfold ugS ugE; rw [← HT.out]⟩, Below.chg hbB4 ((Chg.refl (fun z => w.heap.size ≤ z) B4).putObj (by omega) _) (by omega) (fun z hz => hz)⟩
    · have hRv : R = none := by
        rw [← HR.out, HU.out, if_neg]
        intro e
        exact heq (by rw [e, son_bl])
      have hbf : ((strOfNums (baseL acc)).toList == s.toList) = false := by
        rw [beq_eq_false_iff_ne]
        intro e
        apply heq
        rw [ByteArray.toList_eq, ByteArray.toList_eq] at e
        exact ByteArray.ext (Array.toList_inj.1 e)
      gi_wp2_with fail
      have g0 : Boxed (B3.setCell ⟨w.heap.size, 0, none⟩ (.string ⟨#[]⟩)) w.heap.size 9 (.string ⟨#[]⟩) := Boxed.set (v := .string ⟨#[]⟩) _ p0''
      have g1 : Boxed (B3.setCell ⟨w.heap.size, 0, none⟩ (.string ⟨#[]⟩)) (w.heap.size + 1) 39 .nilIface := (Below.heap_setCell _ _ _ _ (by simp)).trans p1''
      have g2 := Boxed.set (v := .nilIface) (werr s.size) g1
      have g3 : Boxed ((B3.setCell ⟨w.heap.size, 0, none⟩ (.string ⟨#[]⟩)).setCell ⟨w.heap.size + 1, 0, none⟩ (werr s.size)) w.heap.size 9 (.string ⟨#[]⟩) := (Below.heap_setCell _ _ _ _ (by simp)).trans g0
      have hc : Chg (fun j => j = w.heap.size ∨ j = w.heap.size + 1) B3 ((B3.setCell ⟨w.heap.size, 0, none⟩ (.string ⟨#[]⟩)).setCell ⟨w.heap.size + 1, 0, none⟩ (werr s.size)) := ((Chg.refl _ _).setCell (.inl rfl) _).setCell (.inr rfl) _
      have hK4 := hc.heap hK3 (by rintro (h | h) <;> omega)
      obtain ⟨B4, hB4⟩ : ∃ B4, (B3.setCell ⟨w.heap.size, 0, none⟩ (.string ⟨#[]⟩)).setCell ⟨w.heap.size + 1, 0, none⟩ (werr s.size) = B4 := ⟨_, rfl⟩
      have hbB4 : Below w.heap.size w B4 := by rw [← hB4]; exact Below.chg hbB3 hc (by omega) (by rintro j (h | h) <;> omega)
      have hs5 := hc.size
      rw [hB4] at g2 g3 hK4 hs5 ⊢
      have hkc : ∀ j, j < n1 + 5 → (B4.putObj (n1 + 5) (.deferred none)).heap[j]? = B4.heap[j]? := fun j hj => World.putObj_heap_other (by omega)
      have e0' := (World.cell?_of_block (w := B4) (a := ⟨w.heap.size, 0, none⟩) (hkc w.heap.size (by omega))).trans g3.cell
      have e1' := (World.cell?_of_block (w := B4) (a := ⟨w.heap.size + 1, 0, none⟩) (hkc (w.heap.size + 1) (by omega))).trans g2.cell
      refine ⟨by simp, .inl ⟨_, _, rfl, run_takeDeferred hK4, ?_⟩⟩
      refine ⟨_, results_cell2 rfl _ _ rfl rfl Tryd.underlying9 Tryd.underlying39 rfl rfl e0' e1', ⟨s.size, by rw [hRv]; rfl⟩, Below.chg hbB4 ((Chg.refl (fun z => w.heap.size ≤ z) B4).putObj (by omega) _) (by omega) (fun z hz => hz)⟩

end Code
end Go.Proofs.YtckfglcihelofaaDoor
/- code's Unbase. -/
namespace Go.Proofs.YtckfglcihelofaaDoor
set_option linter.unusedSimpArgs false
set_option linter.unusedVariables false
namespace Code
open Go.RowKit Go.Shelf Go.Proofs.YtckfglcihelofaaDoorW.PrintWords Go.Proofs.YtckfglcihelofaaDoor.PureB
attribute [local go_sem] Oper.semAt_some
/-- the error's number -/
def ubN (o : Option (List Int)) : Int := match o with | none => 50 | some _ => 0
/-- the text -/
def ubT (o : Option (List Int)) : ByteArray := match o with | none => ⟨#[]⟩ | some l => strOfNums l
set_option maxHeartbeats 2000000 in
theorem Unbase_c (s : ByteArray) (hs : s.size ≤ 4611686018427) (a0 : Addr) (w : World) (h : GA a0 w) :
    Calls Tryd.prog 28 #[.string s] w fun e w' => e = .returned (.tuple #[.string (ubT (unbL (bl s))), .int .i64 (ubN (unbL (bl s)))]) ∧ Below w.heap.size w w' := by
  have HU := Lib.hid (unbase_c s hs w)
  obtain ⟨o, ho⟩ : ∃ o, unbL (bl s) = o := ⟨_, rfl⟩
  rw [ho] at HU ⊢
  have HG := Lib.hid h
  clear ho h
  go_enter Tryd.func28, Tryd.ntmps28
  go_wp2_with (go_at_call 45; refine HU.out.mono ?_)
  rintro e w1 ⟨⟨n, rfl⟩, hb⟩
  cases o with
  | none =>
    have HT := Lib.hid (told_bad n a0 w1 (HG.out.below hb))
    simp only [ugS, ugE]
    go_wp2_with (go_at_call 46; refine HT.out.mono ?_)
    rintro e w2 ⟨rfl, hb2⟩
    go_wp2_with fail
    go_ret2
    exact ⟨rfl, bl_trans hb hb2⟩
  | some l =>
    have HT := Lib.hid (told_nil a0 w1 (HG.out.below hb))
    simp only [ugS, ugE]
    go_wp2_with (go_at_call 46; refine HT.out.mono ?_)
    rintro e w2 ⟨rfl, hb2⟩
    go_wp2_with fail
    go_ret2
    exact ⟨rfl, bl_trans hb hb2⟩
end Code
end Go.Proofs.YtckfglcihelofaaDoor
/- code's unhex and Unhex. -/
namespace Go.Proofs.YtckfglcihelofaaDoor
set_option linter.unusedSimpArgs false
set_option linter.unusedVariables false
namespace Code
open Go.RowKit Go.Shelf Go.Proofs.YtckfglcihelofaaDoorW.PrintWords Go.Proofs.YtckfglcihelofaaDoor.PureB
attribute [local go_sem] Oper.semAt_some
theorem iterAt_chg1 {S : Nat → Prop} (w : World) (k : Nat) (s : ByteArray) (pos : Nat) (h : S k) : Chg S w (w.iterAt k s pos) :=
  ⟨rfl, rfl, rfl, by rw [Lib.iterAt_size]; exact Nat.le_refl _, fun j _ hj => Lib.iterAt_other w k j s pos (fun e => hj (e ▸ h))⟩
theorem dv_dl (b : Nat) (h : ¬ (65 ≤ b ∧ b ≤ 70)) : dv (b : Int) = dl b := by
  unfold dv dl
  repeat' split
  all_goals omega
theorem dv_high (b : Nat) (h : 128 ≤ b) : dv (b : Int) < 0 := by
  unfold dv
  repeat' split
  all_goals omega
set_option maxHeartbeats 8000000 in
set_option maxRecDepth 1000000 in
theorem unhex_c (s : ByteArray) (hs : s.size ≤ 4611686018427) (w : World) :
    Calls Tryd.prog 48 #[.string s] w fun e w' => (∃ n, e = .returned (.tuple #[ugS (unhR (bl s)), ugE (unhR (bl s)) n])) ∧ Below w.heap.size w w' := by
  obtain ⟨R, hR⟩ : ∃ R, unhR (bl s) = R := ⟨_, rfl⟩
  rw [hR]
  have HR := Lib.hid hR
  clear hR
  obtain ⟨i0, hi, hz0, hz1, hz2⟩ := info_parts Bld.infoByte
  go_enter Tryd.func48, Tryd.ntmps48
  go_wp2_with fail
  go_loopw [4, 5] (fun ov hv wr => ∃ (pos : Nat) (acc : List Int) (h : Int), pos ≤ s.size ∧ RowKit.Hid (hx ((bl s).take pos) [] (-1) = some (acc, h)) ∧ hv = .int .i64 h ∧
      wr.ownsRow (w.heap.size + 1) 5 1 ov acc.length (nums .u8 acc) ∧ wr.heap[w.heap.size]? = some (.stringIter s pos) ∧ Below w.heap.size w wr ∧ w.heap.size + 1 ≤ wr.heap.size)
    (fun _ _ wr => s.size - wr.iterPos w.heap.size)
  case atStart => exact ⟨0, [], -1, Nat.zero_le _, Lib.hid rfl, rfl, World.ownsRow_nil _ _ _ _, World.iter_heap w s 0, (Below.refl _ _).alloc (Nat.le_refl _) _, by simp [World.iter]⟩
  case round =>
    obtain ⟨pos, acc, h, hp, HX, rfl, hrow, hit, hb, hsz⟩ := hrel
    have HIT := Lib.hid hit
    obtain ⟨⟨hh0, hh1⟩, hab, hal⟩ := hx_bound _ _ _ _ _ HX.out (by simp) (by omega)
    rw [List.length_take, bl_len, Nat.min_eq_left hp] at hal
    simp only [List.length_nil, Nat.zero_add] at hal
    have hob := own_base hrow
    by_cases hlt : pos < s.size
    · have hnx0 : ∀ ty, (Instr.next (.pointer (some ⟨w.heap.size, 0, none⟩)) true ty).run Tryd.prog wr = _ := fun ty => Lib.run_next_any_at wr w.heap.size s pos ty hit hlt
      have hxj := bl_get s pos hlt
      rw [bt_nat s pos hlt] at hxj
      have hspl : bl s = (bl s).take pos ++ (((s[pos]'hlt).toNat : Nat) : Int) :: (bl s).drop (pos + 1) := by
        have h1 : pos < (bl s).length := by rw [bl_len]; exact hlt
        rw [List.getElem?_eq_getElem h1] at hxj
        conv => lhs; rw [← List.take_append_drop pos (bl s), List.drop_eq_getElem_cons h1, Option.some.inj hxj]
      by_cases ha : (s[pos]'hlt).toNat < 128
      · have hd := decode_ascii s pos hlt ha
        rw [hd] at hnx0
        have hta : (bl s).take (pos + 1) = (bl s).take pos ++ [(((s[pos]'hlt).toNat : Nat) : Int)] := by rw [List.take_add_one, hxj]; rfl
        obtain ⟨c, hc⟩ : ∃ c, (s[pos]'hlt).toNat = c := ⟨_, rfl⟩
        rw [hc] at hnx0 ha hspl hta
        obtain ⟨W2, hW2⟩ : ∃ W2, wr.iterAt w.heap.size s (pos + 1) = W2 := ⟨_, rfl⟩
        have hnx : ∀ ty, (Instr.next (.pointer (some ⟨w.heap.size, 0, none⟩)) true ty).run Tryd.prog wr = .ok (.tuple #[.bool true, .int .i64 pos, .int .i32 c]) W2 := fun ty => by rw [hnx0]; simp only [hW2]
        have cW : Chg (fun j => j = w.heap.size) wr W2 := by rw [← hW2]; exact iterAt_chg1 wr _ s _ rfl
        have hit2 : W2.heap[w.heap.size]? = some (.stringIter s (pos + 1)) := by rw [← hW2]; exact Lib.iterAt_heap wr _ s pos _ hit
        have hb2 : Below w.heap.size w W2 := Below.chg hb (cW.mono (T := fun k => w.heap.size ≤ k) (fun k hk => by omega)) (by omega) (fun k hk => hk)
        have hsz2 := cW.size
        have hrow2 : W2.ownsRow (w.heap.size + 1) 5 1 u4 acc.length (nums .u8 acc) := own_move hrow (fun r hr => cW.block r (own_lt hrow r hr) (by have := hob r hr; omega))
        have HIR : RowKit.Hid (Calls Tryd.prog 64 #[.string ⟨#[48, 49, 50, 51, 52, 53, 54, 55, 56, 57, 97, 98, 99, 100, 101, 102]⟩, .int .i32 c] W2 fun e w' => e = .returned (.int .i64 (dl c)) ∧ w' = W2) := by
          have h1 := Tryd.strings_IndexRune_ascii DG (c : Int) W2 (by omega) (by omega)
          rw [show ((c : Int)).toNat.toUInt8 = c.toUInt8 by simp, ib_val c ha] at h1
          exact Lib.hid h1
        have HTA := Lib.hid hta
        have HSP := Lib.hid hspl
        clear hW2 hnx0 hd hc hit hta hspl hxj cW hrow hob
        by_cases hup : 65 ≤ c ∧ c ≤ 70
        · obtain ⟨d, hd⟩ : ∃ d : Int, (c : Int) - 65 + 10 = d := ⟨_, rfl⟩
          have HD : RowKit.Hid (dv (c : Int) = d) := Lib.hid (by unfold dv; rw [if_neg (by omega), if_neg (by omega), if_pos (by omega)]; omega)
          have u1 : (65 : Int) ≤ c := by omega
          have u2' : (c : Int) ≤ 70 := by omega
          have u3' : IntKind.i32.wrap ((c : Int) - 65) = c - 65 := by rw [IntKind.wrap_i32]; omega
          clear hup
          by_cases hd0 : d < 0
          · omega
          · have hd16 : d < 16 := by rw [← HD.out]; exact dv_lt _
            by_cases hh : h < 0
            · have HX2 : RowKit.Hid (hx ((bl s).take (pos + 1)) [] (-1) = some (acc, d)) := Lib.hid (by
                rw [HTA.out, hx_append _ _ _ _ _ _ HX.out]
                simp only [hx]
                rw [if_neg (by rw [HD.out]; exact hd0), if_pos hh, HD.out])
              have HRW := Lib.hid hrow2
              clear hrow2
              go_wp2_with (go_at_call 64; refine HIR.out.mono ?_; rintro e w' ⟨rfl, hw⟩; rw [hw]; clear hw)
              go_roundw
              case rel => exact ⟨pos + 1, acc, d, by omega, HX2, rfl, HRW.out, hit2, hb2, by omega⟩
              case measure => simp only [World.iterPos, hit2, HIT.out]; omega
            · have hor : bits BinOp.or IntKind.i64 (h * 16) d = h * 16 + d := or_hi 4 (h * 16) d (by omega) (by omega) (by omega) (by omega) (by omega) (by omega)
              have hmod : (h * 16 + d) % 256 = h * 16 + d := by omega
              have HX2 : RowKit.Hid (hx ((bl s).take (pos + 1)) [] (-1) = some (acc ++ [h * 16 + d], -1)) := Lib.hid (by
                rw [HTA.out, hx_append _ _ _ _ _ _ HX.out]
                simp only [hx]
                rw [if_neg (by rw [HD.out]; exact hd0), if_neg hh, HD.out])
              obtain ⟨y, hy⟩ : ∃ y, h * 16 + d = y := ⟨_, rfl⟩
              rw [hy] at hor hmod HX2
              have hal2 : acc.length + 1 ≤ 140737488355328 := by omega
              go_wp2_with (first
                | (go_at_call 64; refine HIR.out.mono ?_; rintro e w' ⟨rfl, hw⟩; rw [hw]; clear hw)
                | (at_builtin; refine wpList_append_own _ rfl _ _ 29 rfl (w.heap.size + 1) 5 i0 (.int .u8 0) 1 1 Tryd.underlying29 hi hz0 hz1 hz2 rfl (by decide) _ _ _ rfl (hrow2.alloc _) ⟨W2.heap.size, 0, none⟩ 1 1 [.int .u8 y] rfl rfl (cell_one_new _ _ _) (by intro u hu; simp at hu; subst hu; rfl) (by unfold maxLen; omega) (by omega) (by simp; omega) ?_))
              intro v' w3 hown' hgrow _
              obtain ⟨g', cap', rfl⟩ := ownsRow_succ hown'
              have hob2 := own_base hrow2
              have hbg := (hb2.alloc (by omega) (.cells #[.int .u8 y] 5 (0, 0))).grown hgrow (by simp; omega) (fun k hk => by have := hob2 k hk; omega)
              have hit3 : w3.heap[w.heap.size]? = some (.stringIter s (pos + 1)) := by
                rw [hgrow.block _ (by simp; omega) (fun e => by have := hob2 _ e.symm; omega)]
                exact ag_old hit2
              have hsz3 := hgrow.size
              have HOW := Lib.hid hown'
              clear hown' hgrow hrow2 hy
              go_wp2_with fail
              go_roundw
              case rel => exact ⟨pos + 1, acc ++ [y], -1, by omega, HX2, rfl, by rw [List.length_append, nums_append]; exact HOW.out, hit3, hbg, by simp at hsz3; omega⟩
              case measure => simp only [World.iterPos, hit3, HIT.out]; omega
        · obtain ⟨d, hd⟩ : ∃ d : Int, dl c = d := ⟨_, rfl⟩
          have HD : RowKit.Hid (dv (c : Int) = d) := Lib.hid (by rw [dv_dl c hup, hd])
          rw [hd] at HIR
          clear hd
          by_cases h65 : c < 65
          · have u1 : ¬ (65 : Int) ≤ c := by omega
            clear hup
            by_cases hd0 : d < 0
            · have hRn : R = none := by
                rw [← HR.out, HSP.out]
                unfold unhR
                rw [hx_none _ _ _ (by rw [HD.out]; exact hd0)]
              clear hrow2
              go_wp2_with (go_at_call 64; refine HIR.out.mono ?_; rintro e w' ⟨rfl, hw⟩; rw [hw]; clear hw)
              refine bodyPost_ret (v := .tuple #[.string ⟨#[]⟩, werr pos]) (by simp [results, Tryd.results48, go_sem]) rfl ⟨⟨pos, by first | rfl | (rw [hRn]; rfl)⟩, hb2⟩
            · have hd16 : d < 16 := by rw [← HD.out]; exact dv_lt _
              by_cases hh : h < 0
              · have HX2 : RowKit.Hid (hx ((bl s).take (pos + 1)) [] (-1) = some (acc, d)) := Lib.hid (by
                  rw [HTA.out, hx_append _ _ _ _ _ _ HX.out]
                  simp only [hx]
                  rw [if_neg (by rw [HD.out]; exact hd0), if_pos hh, HD.out])
                have HRW := Lib.hid hrow2
                clear hrow2
                go_wp2_with (go_at_call 64; refine HIR.out.mono ?_; rintro e w' ⟨rfl, hw⟩; rw [hw]; clear hw)
                go_roundw
                case rel => exact ⟨pos + 1, acc, d, by omega, HX2, rfl, HRW.out, hit2, hb2, by omega⟩
                case measure => simp only [World.iterPos, hit2, HIT.out]; omega
              · have hor : bits BinOp.or IntKind.i64 (h * 16) d = h * 16 + d := or_hi 4 (h * 16) d (by omega) (by omega) (by omega) (by omega) (by omega) (by omega)
                have hmod : (h * 16 + d) % 256 = h * 16 + d := by omega
                have HX2 : RowKit.Hid (hx ((bl s).take (pos + 1)) [] (-1) = some (acc ++ [h * 16 + d], -1)) := Lib.hid (by
                  rw [HTA.out, hx_append _ _ _ _ _ _ HX.out]
                  simp only [hx]
                  rw [if_neg (by rw [HD.out]; exact hd0), if_neg hh, HD.out])
                obtain ⟨y, hy⟩ : ∃ y, h * 16 + d = y := ⟨_, rfl⟩
                rw [hy] at hor hmod HX2
                have hal2 : acc.length + 1 ≤ 140737488355328 := by omega
                go_wp2_with (first
                  | (go_at_call 64; refine HIR.out.mono ?_; rintro e w' ⟨rfl, hw⟩; rw [hw]; clear hw)
                  | (at_builtin; refine wpList_append_own _ rfl _ _ 29 rfl (w.heap.size + 1) 5 i0 (.int .u8 0) 1 1 Tryd.underlying29 hi hz0 hz1 hz2 rfl (by decide) _ _ _ rfl (hrow2.alloc _) ⟨W2.heap.size, 0, none⟩ 1 1 [.int .u8 y] rfl rfl (cell_one_new _ _ _) (by intro u hu; simp at hu; subst hu; rfl) (by unfold maxLen; omega) (by omega) (by simp; omega) ?_))
                intro v' w3 hown' hgrow _
                obtain ⟨g', cap', rfl⟩ := ownsRow_succ hown'
                have hob2 := own_base hrow2
                have hbg := (hb2.alloc (by omega) (.cells #[.int .u8 y] 5 (0, 0))).grown hgrow (by simp; omega) (fun k hk => by have := hob2 k hk; omega)
                have hit3 : w3.heap[w.heap.size]? = some (.stringIter s (pos + 1)) := by
                  rw [hgrow.block _ (by simp; omega) (fun e => by have := hob2 _ e.symm; omega)]
                  exact ag_old hit2
                have hsz3 := hgrow.size
                have HOW := Lib.hid hown'
                clear hown' hgrow hrow2 hy
                go_wp2_with fail
                go_roundw
                case rel => exact ⟨pos + 1, acc ++ [y], -1, by omega, HX2, rfl, by rw [List.length_append, nums_append]; exact HOW.out, hit3, hbg, by simp at hsz3; omega⟩
                case measure => simp only [World.iterPos, hit3, HIT.out]; omega
          · have u1 : (65 : Int) ≤ c := by omega
            have u2' : ¬ (c : Int) ≤ 70 := by omega
            clear hup
            by_cases hd0 : d < 0
            · have hRn : R = none := by
                rw [← HR.out, HSP.out]
                unfold unhR
                rw [hx_none _ _ _ (by rw [HD.out]; exact hd0)]
              clear hrow2
              go_wp2_with (go_at_call 64; refine HIR.out.mono ?_; rintro e w' ⟨rfl, hw⟩; rw [hw]; clear hw)
              refine bodyPost_ret (v := .tuple #[.string ⟨#[]⟩, werr pos]) (by simp [results, Tryd.results48, go_sem]) rfl ⟨⟨pos, by first | rfl | (rw [hRn]; rfl)⟩, hb2⟩
            · have hd16 : d < 16 := by rw [← HD.out]; exact dv_lt _
              by_cases hh : h < 0
              · have HX2 : RowKit.Hid (hx ((bl s).take (pos + 1)) [] (-1) = some (acc, d)) := Lib.hid (by
                  rw [HTA.out, hx_append _ _ _ _ _ _ HX.out]
                  simp only [hx]
                  rw [if_neg (by rw [HD.out]; exact hd0), if_pos hh, HD.out])
                have HRW := Lib.hid hrow2
                clear hrow2
                go_wp2_with (go_at_call 64; refine HIR.out.mono ?_; rintro e w' ⟨rfl, hw⟩; rw [hw]; clear hw)
                go_roundw
                case rel => exact ⟨pos + 1, acc, d, by omega, HX2, rfl, HRW.out, hit2, hb2, by omega⟩
                case measure => simp only [World.iterPos, hit2, HIT.out]; omega
              · have hor : bits BinOp.or IntKind.i64 (h * 16) d = h * 16 + d := or_hi 4 (h * 16) d (by omega) (by omega) (by omega) (by omega) (by omega) (by omega)
                have hmod : (h * 16 + d) % 256 = h * 16 + d := by omega
                have HX2 : RowKit.Hid (hx ((bl s).take (pos + 1)) [] (-1) = some (acc ++ [h * 16 + d], -1)) := Lib.hid (by
                  rw [HTA.out, hx_append _ _ _ _ _ _ HX.out]
                  simp only [hx]
                  rw [if_neg (by rw [HD.out]; exact hd0), if_neg hh, HD.out])
                obtain ⟨y, hy⟩ : ∃ y, h * 16 + d = y := ⟨_, rfl⟩
                rw [hy] at hor hmod HX2
                have hal2 : acc.length + 1 ≤ 140737488355328 := by omega
                go_wp2_with (first
                  | (go_at_call 64; refine HIR.out.mono ?_; rintro e w' ⟨rfl, hw⟩; rw [hw]; clear hw)
                  | (at_builtin; refine wpList_append_own _ rfl _ _ 29 rfl (w.heap.size + 1) 5 i0 (.int .u8 0) 1 1 Tryd.underlying29 hi hz0 hz1 hz2 rfl (by decide) _ _ _ rfl (hrow2.alloc _) ⟨W2.heap.size, 0, none⟩ 1 1 [.int .u8 y] rfl rfl (cell_one_new _ _ _) (by intro u hu; simp at hu; subst hu; rfl) (by unfold maxLen; omega) (by omega) (by simp; omega) ?_))
                intro v' w3 hown' hgrow _
                obtain ⟨g', cap', rfl⟩ := ownsRow_succ hown'
                have hob2 := own_base hrow2
                have hbg := (hb2.alloc (by omega) (.cells #[.int .u8 y] 5 (0, 0))).grown hgrow (by simp; omega) (fun k hk => by have := hob2 k hk; omega)
                have hit3 : w3.heap[w.heap.size]? = some (.stringIter s (pos + 1)) := by
                  rw [hgrow.block _ (by simp; omega) (fun e => by have := hob2 _ e.symm; omega)]
                  exact ag_old hit2
                have hsz3 := hgrow.size
                have HOW := Lib.hid hown'
                clear hown' hgrow hrow2 hy
                go_wp2_with fail
                go_roundw
                case rel => exact ⟨pos + 1, acc ++ [y], -1, by omega, HX2, rfl, by rw [List.length_append, nums_append]; exact HOW.out, hit3, hbg, by simp at hsz3; omega⟩
                case measure => simp only [World.iterPos, hit3, HIT.out]; omega
      · have hnh := decode_high s pos hlt (by omega)
        have hvr := decode_ok s pos
        obtain ⟨⟨c, n⟩, hcn⟩ : ∃ q, Utf8.decode s pos = q := ⟨_, rfl⟩
        rw [hcn] at hnh hnx0 hvr
        simp only at hnh hnx0 hvr
        obtain ⟨W2, hW2⟩ : ∃ W2, wr.iterAt w.heap.size s (pos + n) = W2 := ⟨_, rfl⟩
        have hnx : ∀ ty, (Instr.next (.pointer (some ⟨w.heap.size, 0, none⟩)) true ty).run Tryd.prog wr = .ok (.tuple #[.bool true, .int .i64 pos, .int .i32 c]) W2 := fun ty => by rw [hnx0]; simp only [hW2]
        have cW : Chg (fun j => j = w.heap.size) wr W2 := by rw [← hW2]; exact iterAt_chg1 wr _ s _ rfl
        have hb2 : Below w.heap.size w W2 := Below.chg hb (cW.mono (T := fun k => w.heap.size ≤ k) (fun k hk => by omega)) (by omega) (fun k hk => hk)
        have HIR : RowKit.Hid (Calls Tryd.prog 64 #[.string ⟨#[48, 49, 50, 51, 52, 53, 54, 55, 56, 57, 97, 98, 99, 100, 101, 102]⟩, .int .i32 c] W2 fun e w' => e = .returned (.int .i64 (-1)) ∧ Below W2.heap.size W2 w') :=
          Lib.hid (Idx.high DG (by decide) (by decide) DG_ascii c (by omega) hvr W2)
        have hRn : R = none := by
          rw [← HR.out, hspl]
          unfold unhR
          rw [hx_none _ _ _ (dv_high _ (by omega))]
        have u1 : (65 : Int) ≤ c := by omega
        have u2' : ¬ (c : Int) ≤ 70 := by omega
        clear hW2 hnx0 hcn hit hspl hxj cW hrow hob hvr
        go_wp2_with (go_at_call 64; refine HIR.out.mono ?_; rintro e w3 ⟨rfl, hb3⟩)
        refine bodyPost_ret (v := .tuple #[.string ⟨#[]⟩, werr pos]) (by simp [results, Tryd.results48, go_sem]) rfl ⟨⟨pos, by first | rfl | (rw [hRn]; rfl)⟩, bl_trans hb2 hb3⟩
    · have hnx : ∀ ty, (Instr.next (.pointer (some ⟨w.heap.size, 0, none⟩)) true ty).run Tryd.prog wr = _ := fun ty => Lib.run_next_end_at wr w.heap.size s pos ty hit hlt
      obtain rfl : pos = s.size := by omega
      have hfull : (bl s).take s.size = bl s := List.take_of_length_le (by rw [bl_len]; omega)
      rw [hfull] at HX
      clear hit hfull
      by_cases hh : 0 ≤ h
      · have hRn : R = none := by rw [← HR.out]; unfold unhR; rw [HX.out]; simp [hh]
        clear hrow
        go_wp2_with fail
        refine bodyPost_ret (v := .tuple #[.string ⟨#[]⟩, werr s.size]) (by simp [results, Tryd.results48, go_sem]) rfl ⟨⟨s.size, by first | rfl | (rw [hRn]; rfl)⟩, hb⟩
      · have hRn : R = some acc := by rw [← HR.out]; unfold unhR; rw [HX.out]; simp [hh]
        obtain ⟨A', c', rfl, hrd⟩ := own_reads hrow
        have hst := string_of_reads (P := Tryd.prog) (w := wr) (src := 29) (dst := 9) (c := c') Tryd.underlying29 Tryd.underlying5 Tryd.underlying9 hrd
        clear hrow hrd
        go_wp2_with fail
        refine bodyPost_ret (v := .tuple #[.string (strOfNums acc), .nilIface]) (by simp [results, Tryd.results48, go_sem]) rfl ⟨⟨0, by first | rfl | (rw [hRn]; rfl)⟩, hb⟩
set_option maxHeartbeats 2000000 in
theorem Unhex_c (s : ByteArray) (hs : s.size ≤ 4611686018427) (a0 : Addr) (w : World) (h : GA a0 w) :
    Calls Tryd.prog 30 #[.string s] w fun e w' => e = .returned (.tuple #[.string (ubT (unhexL (bl s))), .int .i64 (ubN (unhexL (bl s)))]) ∧ Below w.heap.size w w' := by
  have HU := Lib.hid (unhex_c s hs w)
  rw [unhR_eq] at HU
  obtain ⟨o, ho⟩ : ∃ o, unhexL (bl s) = o := ⟨_, rfl⟩
  rw [ho] at HU ⊢
  have HG := Lib.hid h
  clear ho h
  go_enter Tryd.func30, Tryd.ntmps30
  go_wp2_with (go_at_call 48; refine HU.out.mono ?_)
  rintro e w1 ⟨⟨n, rfl⟩, hb⟩
  cases o with
  | none =>
    have HT := Lib.hid (told_bad n a0 w1 (HG.out.below hb))
    simp only [ugS, ugE]
    go_wp2_with (go_at_call 46; refine HT.out.mono ?_)
    rintro e w2 ⟨rfl, hb2⟩
    go_wp2_with fail
    go_ret2
    exact ⟨rfl, bl_trans hb hb2⟩
  | some l =>
    have HT := Lib.hid (told_nil a0 w1 (HG.out.below hb))
    simp only [ugS, ugE]
    go_wp2_with (go_at_call 46; refine HT.out.mono ?_)
    rintro e w2 ⟨rfl, hb2⟩
    go_wp2_with fail
    go_ret2
    exact ⟨rfl, bl_trans hb hb2⟩
end Code
end Go.Proofs.YtckfglcihelofaaDoor
/- latinerref05's Hex, whose region draws its order. -/
namespace Go.Proofs.YtckfglcihelofaaDoor
set_option linter.unusedSimpArgs false
set_option linter.unusedVariables false
namespace Code
open Go.RowKit Go.Shelf Go.Proofs.YtckfglcihelofaaDoorW.PrintWords Go.Proofs.YtckfglcihelofaaDoor.PureB
attribute [local go_sem] Oper.semAt_some
theorem dg_slice (i : Int) (h0 : 0 ≤ i) (h1 : i < 16) (W : World) : (Instr.slice 9 (.string ⟨#[48, 49, 50, 51, 52, 53, 54, 55, 56, 57, 97, 98, 99, 100, 101, 102]⟩) (some (.int .i64 i)) (some (.int .i64 (i + 1))) none).run Tryd.prog W = .ok (.string (strOfNums [dg i])) W := by
  rw [run_slice_string_if (P := Tryd.prog) (w := W) 9 _ .i64 .i64 i (i + 1) Tryd.underlying9, if_pos ⟨by omega, by show i + 1 ≤ 16; omega⟩, if_pos ⟨h0, by omega⟩]
  congr 2
  obtain ⟨k, rfl⟩ : ∃ k : Nat, i = k := ⟨i.toNat, by omega⟩
  have : k < 16 := by omega
  clear h0 h1
  revert k
  decide
theorem dgs_size (i : Int) : (strOfNums [dg i]).size = 1 := by rw [son_size]; rfl
theorem son_app (a b : List Int) : strOfNums a ++ strOfNums b = strOfNums (a ++ b) := by
  apply ByteArray.ext
  simp [strOfNums, ByteArray.data_append]
set_option maxHeartbeats 4000000 in
set_option maxRecDepth 1000000 in
theorem rHex_c (s : ByteArray) (hs : s.size ≤ 1000000) (w : World) :
    Calls Tryd.prog 35 #[.string s] w fun e w' => e = .returned (.string (strOfNums (hexL (bl s)))) ∧ Below w.heap.size w w' := by
  go_enter Tryd.func35, Tryd.ntmps35
  go_wp2_with fail
  go_loopw [4, 5] (fun x i wr => ∃ j : Nat, i = .int .i64 j ∧ j ≤ s.size ∧ x = .string (strOfNums (hexL ((bl s).take j))) ∧ Below w.heap.size w wr)
    (fun _ i _ => s.size - (intOf i).toNat)
  case atStart => exact ⟨0, rfl, Nat.zero_le _, rfl, Below.refl _ _⟩
  case round =>
    obtain ⟨j, rfl, hj, rfl, hb⟩ := hrel
    by_cases hlt : j < s.size
    · have hst := hex_succ s j hlt
      have hbr := bt_range s j
      have hbn := (bt_nat s j hlt).symm
      obtain ⟨x, hx⟩ : ∃ x, bt s j = x := ⟨_, rfl⟩
      rw [hx] at hbr hst hbn
      obtain ⟨X, hX⟩ : ∃ X, strOfNums (hexL ((bl s).take j)) = X := ⟨_, rfl⟩
      have hXs : X.size = 2 * j := by rw [← hX, son_size, hexL_len, List.length_take, bl_len]; omega
      have hres : strOfNums (hexL ((bl s).take (j + 1))) = X ++ strOfNums [dg (x / 16)] ++ strOfNums [dg (x % 16)] := by
        rw [hst, ← hX, son_app, son_app, List.append_assoc]; rfl
      have HRS := Lib.hid hres
      have hsl1 := dg_slice (x / 16) (by omega) (by omega)
      have hsl2 := dg_slice (x % 16) (by omega) (by omega)
      have z1 := dgs_size (x / 16)
      have z2 := dgs_size (x % 16)
      generalize strOfNums [dg (x / 16)] = S1 at hsl1 z1 HRS
      generalize strOfNums [dg (x % 16)] = S2 at hsl2 z2 HRS
      have y1 : X.size + S1.size ≤ 9223372036854775807 := by omega
      have y2 : (X ++ S1).size + S2.size ≤ 9223372036854775807 := by rw [ByteArray.size_append]; omega
      have y3 : X.size + S1.size + S2.size ≤ 9223372036854775807 := by omega
      obtain ⟨a, ha⟩ : ∃ a, x / 16 = a := ⟨_, rfl⟩
      obtain ⟨b, hb2⟩ : ∃ b, x % 16 = b := ⟨_, rfl⟩
      have q1 : x.tdiv 16 = a := by rw [Int.tdiv_eq_ediv_of_nonneg (by omega)]; exact ha
      have q2 : x.tmod 16 = b := by rw [Int.tmod_eq_emod_of_nonneg (by omega)]; exact hb2
      have a0 : 0 ≤ a := by omega
      have a1 : a < 16 := by omega
      have b0 : 0 ≤ b := by omega
      have b1 : b < 16 := by omega
      have w1 : wrap64 (a + 1) = a + 1 := by unfold wrap64; omega
      have w2 : wrap64 (b + 1) = b + 1 := by unfold wrap64; omega
      have w3 : IntKind.i64.wrap (a + 1) = a + 1 := by rw [IntKind.wrap_i64]; omega
      have w4 : IntKind.i64.wrap (b + 1) = b + 1 := by rw [IntKind.wrap_i64]; omega
      have w5 : wrap64 x = x := by unfold wrap64; omega
      have w6 : wrap64 a = a := by unfold wrap64; omega
      have w7 : IntKind.i64.wrap a = a := by rw [IntKind.wrap_i64]; omega
      rw [ha] at hsl1
      rw [hb2] at hsl2
      rw [hX]
      clear hst hX hx hres
      go_wp2_with fail
      go_region
      all_goals go_wp2_with fail
      all_goals refine ⟨⟨j + 1, by simp, by omega, by rw [HRS.out], by repeat (first | exact hb | refine Below.drew ?_)⟩, by simp [intOf]; omega⟩
    · obtain rfl : j = s.size := by omega
      rw [List.take_of_length_le (by rw [bl_len]; omega)]
      go_wp2_with fail
      refine bodyPost_ret (v := .string (strOfNums (hexL (bl s)))) (by simp [results, Tryd.results35, go_sem]) rfl ⟨rfl, hb⟩
end Code
end Go.Proofs.YtckfglcihelofaaDoor
/- code's exported functions as plain Lean functions, with their contracts in the printer's form. -/
namespace Go.Proofs.YtckfglcihelofaaDoor.ExtCode
set_option linter.unusedSimpArgs false
set_option linter.unusedVariables false
open Go.RowKit Go.Proofs.YtckfglcihelofaaDoorW.PrintWords Go.Proofs.YtckfglcihelofaaDoor.Code
theorem lit1_size (x : UInt8) : (⟨#[x]⟩ : ByteArray).size = 1 := rfl
/-- What the package variables hold. -/
def GW (w : World) : Prop := ∃ a0, Code.GA a0 w
theorem GW.below {w w' : World} (h : GW w) (hb : Below w.heap.size w w') : GW w' := by obtain ⟨a0, h⟩ := h; exact ⟨a0, h.below hb⟩
theorem of_if {α : Type} {c : Prop} [Decidable c] {a b : α} (h : (if c then some a else none) = some b) : c ∧ a = b := by
  split at h
  · rename_i hc; exact ⟨hc, Option.some.inj h⟩
  · cases h
def code_Base.f (a0 : ByteArray) : Option ByteArray := if a0.size ≤ 1000000 then some (strOfNums (baseL (bl a0))) else none
theorem code_Base.calls (a0 : ByteArray) (r : ByteArray) (w : World) (hG : GW w) (h : code_Base.f a0 = some r) :
    Calls Tryd.prog 32 #[.string a0] w fun e w' => e = .returned (.string r) ∧ Below w.heap.size w w' := by
  obtain ⟨hs, rfl⟩ := of_if h
  exact Base_c a0 (by omega) w
def code_Hex.f (a0 : ByteArray) : Option ByteArray := if a0.size ≤ 1000000 then some (strOfNums (hexL (bl a0))) else none
theorem code_Hex.calls (a0 : ByteArray) (r : ByteArray) (w : World) (hG : GW w) (h : code_Hex.f a0 = some r) :
    Calls Tryd.prog 34 #[.string a0] w fun e w' => e = .returned (.string r) ∧ Below w.heap.size w w' := by
  obtain ⟨hs, rfl⟩ := of_if h
  exact Hex_c a0 (by omega) w
def code_Unbase.f (a0 : ByteArray) : Option (ByteArray × Int) := if a0.size ≤ 1000000 then some (ubT (unbL (bl a0)), ubN (unbL (bl a0))) else none
theorem code_Unbase.calls (a0 : ByteArray) (r1 : ByteArray) (r2 : Int) (w : World) (hG : GW w) (h : code_Unbase.f a0 = some (r1, r2)) :
    Calls Tryd.prog 28 #[.string a0] w fun e w' => e = .returned (.tuple #[.string r1, .int .i64 r2]) ∧ Below w.heap.size w w' := by
  obtain ⟨b0, hG⟩ := hG
  obtain ⟨hs, h⟩ := of_if h
  obtain ⟨rfl, rfl⟩ := Prod.mk.inj h
  exact Unbase_c a0 (by omega) b0 w hG
def code_Unhex.f (a0 : ByteArray) : Option (ByteArray × Int) := if a0.size ≤ 1000000 then some (ubT (unhexL (bl a0)), ubN (unhexL (bl a0))) else none
theorem code_Unhex.calls (a0 : ByteArray) (r1 : ByteArray) (r2 : Int) (w : World) (hG : GW w) (h : code_Unhex.f a0 = some (r1, r2)) :
    Calls Tryd.prog 30 #[.string a0] w fun e w' => e = .returned (.tuple #[.string r1, .int .i64 r2]) ∧ Below w.heap.size w w' := by
  obtain ⟨b0, hG⟩ := hG
  obtain ⟨hs, h⟩ := of_if h
  obtain ⟨rfl, rfl⟩ := Prod.mk.inj h
  exact Unhex_c a0 (by omega) b0 w hG
def latinerref05_Hex.f (a0 : ByteArray) : Option ByteArray := if a0.size ≤ 1000000 then some (strOfNums (hexL (bl a0))) else none
theorem latinerref05_Hex.calls (a0 : ByteArray) (r : ByteArray) (w : World) (hG : GW w) (h : latinerref05_Hex.f a0 = some r) :
    Calls Tryd.prog 35 #[.string a0] w fun e w' => e = .returned (.string r) ∧ Below w.heap.size w w' := by
  obtain ⟨hs, rfl⟩ := of_if h
  exact rHex_c a0 (by omega) w
end Go.Proofs.YtckfglcihelofaaDoor.ExtCode
