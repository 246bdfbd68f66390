/- TTlvCodes2: own texts of this seat, laid as one. -/
import Derived.Test.YthnddhgkjkpmfaaDoorTTlvCodes1
/- Small lemmas on worlds that all walks of this seat use. -/
namespace Go.Proofs.YthnddhgkjkpmfaaDoor
set_option linter.unusedSimpArgs false
set_option linter.unusedVariables false
open Go.RowKit
theorem bl_alloc {a w : World} (h : Below a.heap.size a w) (o : Obj) : Below a.heap.size a (w.alloc o) := h.alloc h.size o
theorem bl_trans {a w w' : World} (h : Below a.heap.size a w) (h' : Below w.heap.size w w') : Below a.heap.size a w' := h.trans (h'.mono h.size)
theorem lt_of_cell {w : World} {a : Addr} {v : Value} (h : w.cell? a = some v) : a.block < w.heap.size := by
  rcases Nat.lt_or_ge a.block w.heap.size with h' | h'
  · exact h'
  · simp [World.cell?, Array.getElem?_eq_none h'] at h
theorem setRow_below {g B : Nat} {a w : World} (h : Below B a w) (hp : B ≤ g) (cs : Array Value) : Below B a (w.setRow g cs) := by
  refine h.trans ⟨rfl, rfl, rfl, by simp [World.setRow], fun k hk => ?_⟩
  simp only [World.setRow, Array.getElem?_modify]
  rw [if_neg (by omega)]
theorem setRow_heap {g : Nat} {w : World} {cs old : Array Value} {t : TypeId} (h : w.heap[g]? = some (.cells old t (0, 0))) : (w.setRow g cs).heap[g]? = some (.cells cs t (0, 0)) := by
  simp only [World.setRow, Array.getElem?_modify, h]
  simp
end Go.Proofs.YthnddhgkjkpmfaaDoor
-- Written by this repo's own program over the kit's kinds.py: the values' own types.
namespace Go.Proofs.YthnddhgkjkpmfaaDoor.KTlv
open Go.RowKit Go.Proofs.YthnddhgkjkpmfaaDoorW.PrintWords
set_option linter.unusedVariables false
set_option linter.unusedSimpArgs false
structure S24 where
  f0 : Int
  f1 : ByteArray
  f2 : (List S24)
def z24 : S24 := ⟨(0 : Int), (⟨#[]⟩ : ByteArray), ([] : List S24)⟩
def F24 (d : Kd S24) : Kd S24 := Kd.iso (Kd.pair (Kd.int .i64) (Kd.pair Kd.string (Kd.slice 24 d))) (fun x : S24 => (x.f0, x.f1, x.f2))
theorem mono24 : Kd.Mono F24 := Kd.mono_iso _ (Kd.mono_pair (Kd.mono_const _) (Kd.mono_pair (Kd.mono_const _) (Kd.mono_slice 24 Kd.mono_id)))
theorem sub24 : Kd.Sub F24 [24] := Kd.sub_iso _ (Kd.sub_pair (Kd.sub_const _ (by decide)) (Kd.sub_pair (Kd.sub_const _ (by decide)) (Kd.sub_slice 24 (by decide) Kd.sub_id)))
theorem sz24 : ∀ n, (Kd.upto F24 3 [24] n).sz = 3 := Kd.upto_sz (fun _ => rfl)
def k24 : Kd S24 := Kd.fix F24 3 [24] sz24 (Kd.upto_E sub24)
theorem k24_open {w : World} {x : S24} {cs : List Value} (h : k24.K w x cs) : ∃ A2 c2, cs = [.int .i64 x.f0, .string x.f1, .slice A2 x.f2.length c2] ∧ x.f2.length ≤ c2 ∧ k24.C w A2 x.f2.length x.f2 := by
  obtain ⟨n, h⟩ := h
  cases n with
  | zero => exact h.elim
  | succ n =>
    obtain ⟨_, _, rfl, rfl, ⟨_, _, rfl, rfl, ⟨A2, c2, rfl, l2, g2⟩⟩⟩ := h
    exact ⟨A2, c2, rfl, l2, Kd.fix_C g2⟩
theorem k24_mk (w : World) (x : S24) {A2 : Option Addr} {c2 : Nat} (l2 : x.f2.length ≤ c2) (g2 : k24.C w A2 x.f2.length x.f2) : k24.K w x [.int .i64 x.f0, .string x.f1, .slice A2 x.f2.length c2] := by
  obtain ⟨n2, q2⟩ := Kd.fix_C_back mono24 g2
  have r2 := Kd.upto_C_le mono24 sz24 (show n2 ≤ n2 by omega) q2
  exact ⟨n2 + 1, ⟨[.int .i64 x.f0], [.string x.f1, .slice A2 x.f2.length c2], rfl, rfl, ⟨[.string x.f1], [.slice A2 x.f2.length c2], rfl, rfl, ⟨A2, c2, rfl, l2, r2⟩⟩⟩⟩
theorem k24_mkM (w : World) (base : Nat) (ok : Nat → Prop) (x : S24) {v2 : Value} (g2 : k24.R 24 w base ok v2 x.f2) : k24.M w base ok x [.int .i64 x.f0, .string x.f1, v2] := by
  obtain ⟨n2, q2⟩ := Kd.fix_R_back mono24 g2
  have r2 := Kd.upto_R_le mono24 sz24 (show n2 ≤ n2 by omega) q2
  exact ⟨n2 + 1, ⟨[.int .i64 x.f0], [.string x.f1, v2], rfl, rfl, ⟨[.string x.f1], [v2], rfl, rfl, ⟨v2, rfl, r2⟩⟩⟩⟩
def rd_T24 (xs : List S24) (i : Int) : S24 := xs.getD i.toNat z24
theorem at_T24 {w : World} {A : Option Addr} {n : Nat} {xs : List S24} (h : Kd.C k24 w A n xs) (i : Int) (h0 : 0 ≤ i) (h1 : i < n) : ∃ ad A2 c2, A = some ad ∧ w.cell? (ad.add (i.toNat * 3)) = some (.int .i64 (rd_T24 xs i).f0) ∧ w.cell? ⟨(ad.add (i.toNat * 3)).block, (ad.add (i.toNat * 3)).off + 1, none⟩ = some (.string (rd_T24 xs i).f1) ∧ w.cell? ⟨(ad.add (i.toNat * 3)).block, (ad.add (i.toNat * 3)).off + 2, none⟩ = some (.slice A2 (rd_T24 xs i).f2.length c2) ∧ (rd_T24 xs i).f2.length ≤ c2 ∧ k24.C w A2 (rd_T24 xs i).f2.length (rd_T24 xs i).f2 := by
  obtain ⟨ad, c, e, _, hK, hc0⟩ := Kd.C_get h z24 i h0 h1
  have hc : ∀ j u, c[j]? = some u → w.cell? (ad.add (i.toNat * 3 + j)) = some u := hc0
  obtain ⟨A2, c2, rfl, l2, g2⟩ := k24_open hK
  exact ⟨ad, A2, c2, e, hc 0 _ rfl, by rw [← add_field _ _ 1 (by omega)]; exact hc 1 _ rfl, by rw [← add_field _ _ 2 (by omega)]; exact hc 2 _ rfl, l2, g2⟩
end Go.Proofs.YthnddhgkjkpmfaaDoor.KTlv
/- Texts as rows of bytes: small plain laws. No program in sight. -/
namespace Go.Proofs.YthnddhgkjkpmfaaDoor.PureB
set_option linter.unusedSimpArgs false
set_option linter.unusedVariables false
open Go.RowKit Go.Proofs.YthnddhgkjkpmfaaDoorW.PrintWords
theorem w64 {n : Int} (h : -9223372036854775808 ≤ n) (h2 : n ≤ 9223372036854775807) : wrap64 n = n := by unfold wrap64; omega
theorem son_size (xs : List Int) : (strOfNums xs).size = xs.length := by simp [strOfNums, ByteArray.size]
theorem bt_nat (s : ByteArray) (i : Nat) (h : i < s.size) : bt s (i : Int) = ((s[i]'h).toNat : Int) := dif_pos (by simpa using h)
theorem ba_ext {s t : ByteArray} (h : s.size = t.size) (hb : ∀ j : Nat, j < s.size → bt s j = bt t j) : s = t := by
  apply ByteArray.ext
  apply Array.ext
  · exact h
  · intro i h1 h2
    have := hb i h1
    rw [bt_nat s i h1, bt_nat t i h2] at this
    have h3 : s[i]'h1 = t[i]'h2 := UInt8.toNat_inj.1 (by omega)
    exact h3
theorem toList_inj {s t : ByteArray} : s.toList = t.toList ↔ s = t := by
  rw [Lib.toList_data, Lib.toList_data]
  constructor
  · intro h; apply ByteArray.ext; exact Array.toList_inj.1 h
  · rintro rfl; rfl
theorem toList_nil {s : ByteArray} : s.toList = ([] : List UInt8) ↔ s.size = 0 := by
  rw [Lib.toList_data, Array.toList_eq_nil_iff, ← Array.size_eq_zero_iff]
  exact Iff.rfl
theorem extract_size (s : ByteArray) (a b : Nat) (hb : b ≤ s.size) : (s.extract a b).size = b - a := by simp; omega
end Go.Proofs.YthnddhgkjkpmfaaDoor.PureB
/- Go's own errors.As and errors.Is at this seat: closed facts on the entries of internal/reflectlite, and the contracts at nil. -/
namespace Go.Proofs.YthnddhgkjkpmfaaDoor
set_option linter.unusedSimpArgs false
set_option linter.unusedVariables false
open Go.RowKit Go.Extern.Stop Go.Stop Go.Extern
theorem as_nil (t : Value) (w : World) :
    Calls Tryd.prog 40 #[.nilIface, t] w fun e w' => e = .returned (.bool false) ∧ w = w' := by
  go_enter Tryd.func40, Tryd.ntmps40
  go_wp2
  go_ret
  exact ⟨rfl, rfl⟩
theorem is_nil (b : Addr) (w : World) :
    Calls Tryd.prog 41 #[.nilIface, .iface 148 (.pointer (some b))] w fun e w' => e = .returned (.bool false) ∧ w = w' := by
  have hn := run_eql_iface_nil_left (P := Tryd.prog) w 148 (.pointer (some b)) Tryd.underlying49
  go_enter Tryd.func41, Tryd.ntmps41
  go_wp2
  go_ret
  exact ⟨rfl, rfl⟩
theorem rlm (z : Sem Value) (f : TypeId → Addr → Nat → Nat → Sem Value) (v : Value) :
    ReflectliteValue.method z f #[v] = (do match ← ReflectliteValue.parts v with | none => z | some (t, a, fl) => f t a fl (fl % 32)) := rfl
theorem rls (v x : Value) : ReflectliteValue.set #[v, x] = (do
    let (some (dst, a, fl), some (src, b, _)) := (← ReflectliteValue.parts v, ← ReflectliteValue.parts x)
      | unsupported (.noEntry "extern/(internal/reflectlite.Value).Set.zeroValue")
    if fl / ReflectliteValue.flagAddr % 2 == 0 then unsupported (.noEntry "extern/(internal/reflectlite.Value).Set.unaddressable")
    let val ← loadVar src b
    if ← Rtype.directlyAssignable dst src then storeVar dst a val
    else if ← Rtype.implements dst src then
      if (← Rtype.kind src) == 20 then
        match val with
        | .nilIface => unsupported (.noEntry "extern/reflectlite: a nil value of one interface type handed on as a value of another")
        | _ => storeVar dst a val
      else storeVar dst a (.iface src val)
    else panicString ("reflectlite.Set: value of type " ++ (← Rtype.spelt src) ++ " is not assignable to type " ++ (← Rtype.spelt dst))
    pure (.tuple #[])) := rfl
theorem eMethodKind (h : Value) (w : World) : (Go.method 280 116 (.agg #[h]) "Kind").run Tryd.prog w = .ok (92, h) w := by kernel_rfl
theorem eMethodElem (h : Value) (w : World) : (Go.method 280 116 (.agg #[h]) "Elem").run Tryd.prog w = .ok (106, .agg #[h]) w := by kernel_rfl
theorem eMethodImplements (h : Value) (w : World) : (Go.method 280 116 (.agg #[h]) "Implements").run Tryd.prog w = .ok (107, .agg #[h]) w := by kernel_rfl
theorem eMethodAssignableTo (h : Value) (w : World) : (Go.method 280 116 (.agg #[h]) "AssignableTo").run Tryd.prog w = .ok (104, .agg #[h]) w := by kernel_rfl
theorem eMethodComparable (v : Value) (w : World) : (Go.method 280 116 v "Comparable").run Tryd.prog w = .ok (105, v) w := by kernel_rfl
theorem eTypeOfES (v : Value) (w : World) : (ReflectliteType.typeOf #[.iface 148 v]).run Tryd.prog w = .ok (.iface 116 (.agg #[.pointer (some ⟨9, 148, none⟩)])) w := by kernel_rfl
def cmpE : Array Value → Sem Value := ReflectliteType.method fun t => do Rtype.noPackHeld "Comparable" t; pure (.bool (← typeInfo t).comparable)
theorem eComparableES (w : World) : (cmpE #[.agg #[.pointer (some ⟨9, 148, none⟩)]]).run Tryd.prog w = .ok (.bool true) w := by kernel_rfl
theorem eComp : (Tryd.prog.info? 148).map (·.comparable) = some true := by kernel_rfl
theorem eSize : (Tryd.prog.info? 168).map (·.size) = some 1 := by kernel_rfl
theorem eNoIs (v : Value) (xT : TypeId) (w : World) : (Instr.typeAssert (.iface 148 v) xT 128 true).run Tryd.prog w = .ok (.tuple #[.nilIface, .bool false]) w := run_typeAssert_lacksB Tryd.underlying128 (by kernel_rfl) (by kernel_rfl) v xT w
theorem eNoUnwrap (v : Value) (xT : TypeId) (w : World) : (Instr.typeAssert (.iface 148 v) xT 123 true).run Tryd.prog w = .ok (.tuple #[.nilIface, .bool false]) w := run_typeAssert_lacksB Tryd.underlying123 (by kernel_rfl) (by kernel_rfl) v xT w
theorem eNoUnwraps (v : Value) (xT : TypeId) (w : World) : (Instr.typeAssert (.iface 148 v) xT 125 true).run Tryd.prog w = .ok (.tuple #[.nilIface, .bool false]) w := run_typeAssert_lacksB Tryd.underlying125 (by kernel_rfl) (by kernel_rfl) v xT w
end Go.Proofs.YthnddhgkjkpmfaaDoor
/- Go's own errors.As and errors.Is at the errors of one package: a struct of two cells, the second a sentinel of errors.New's make. -/
namespace Go.Proofs.YthnddhgkjkpmfaaDoor
set_option linter.unusedSimpArgs false
set_option linter.unusedVariables false
namespace Size
open Go.RowKit Go.Extern.Stop Go.Stop Go.Extern
abbrev werr (n : Int) (b : Addr) : Value := .iface 90 (.agg #[.int .i64 n, .iface 148 (.pointer (some b))])
theorem valueOfPW (t : Addr) (w : World) : (ReflectliteValue.unpack (.iface 91 (.pointer (some t)))).run Tryd.prog w
    = .ok (.agg #[.pointer (some ⟨9, 91, none⟩), .pointer (some ⟨w.heap.size, 0, none⟩), .int .u64 150]) (w.alloc (.cells #[.pointer (some t)] 91)) := by kernel_rfl
theorem typePW (a : Addr) (w : World) : (ReflectliteValue.methodAny (ReflectliteValue.valueError "reflectlite.Value.Type" 0) (fun t _ _ _ => ReflectliteType.toType t) #[.agg #[.pointer (some ⟨9, 91, none⟩), .pointer (some a), .int .u64 150]]).run Tryd.prog w
    = .ok (.iface 116 (.agg #[.pointer (some ⟨9, 91, none⟩)])) w := by kernel_rfl
theorem kindPW (w : World) : ((ReflectliteType.abiMethod fun t => (fun a : Nat => Value.int IntKind.u8 (a : Int)) <$> Rtype.kind t) #[.pointer (some ⟨9, 91, none⟩)]).run Tryd.prog w = .ok (.int .u8 22) w := by kernel_rfl
theorem kindW (w : World) : ((ReflectliteType.abiMethod fun t => (fun a : Nat => Value.int IntKind.u8 (a : Int)) <$> Rtype.kind t) #[.pointer (some ⟨9, 90, none⟩)]).run Tryd.prog w = .ok (.int .u8 25) w := by kernel_rfl
theorem partsPW (a : Addr) (w : World) : (ReflectliteValue.parts (.agg #[.pointer (some ⟨9, 91, none⟩), .pointer (some a), .int .u64 150])).run Tryd.prog w = .ok (some (91, a, 150)) w := by kernel_rfl
theorem isNilPW (a p : Addr) (W : World) (ha : W.cell? a = some (.pointer (some p))) :
    (ReflectliteValue.method (ReflectliteValue.valueError "reflectlite.Value.IsNil" 0) ReflectliteValue.isNil #[.agg #[.pointer (some ⟨9, 91, none⟩), .pointer (some a), .int .u64 150]]).run Tryd.prog W = .ok (.bool false) W := by
  rw [rlm]
  simp only [Sem.run_bind, partsPW, Result.andThen]
  simp [ReflectliteValue.isNil, loadVar, isAgg, underlying, Tryd.underlying91, ha, Result.andThen]
theorem elemPW (w : World) : (ReflectliteType.method ReflectliteType.elem #[.agg #[.pointer (some ⟨9, 91, none⟩)]]).run Tryd.prog w = .ok (.iface 116 (.agg #[.pointer (some ⟨9, 90, none⟩)])) w := by kernel_rfl
theorem implementsW (w : World) : (ReflectliteType.relation "Implements" ReflectliteType.implements_ #[.agg #[.pointer (some ⟨9, 90, none⟩)], .iface 116 (.agg #[.pointer (some ⟨9, 49, none⟩)])]).run Tryd.prog w = .ok (.bool true) w := by kernel_rfl
theorem typeOfW (v : Value) (w : World) : (ReflectliteType.typeOf #[.iface 90 v]).run Tryd.prog w = .ok (.iface 116 (.agg #[.pointer (some ⟨9, 90, none⟩)])) w := by kernel_rfl
theorem assignableW (w : World) : (ReflectliteType.relation "AssignableTo" ReflectliteType.assignableTo #[.agg #[.pointer (some ⟨9, 90, none⟩)], .iface 116 (.agg #[.pointer (some ⟨9, 90, none⟩)])]).run Tryd.prog w = .ok (.bool true) w := by kernel_rfl
theorem valueOfW (n : Int) (b : Addr) (w : World) : (ReflectliteValue.unpack (werr n b)).run Tryd.prog w
    = .ok (.agg #[.pointer (some ⟨9, 90, none⟩), .pointer (some ⟨w.heap.size, 0, none⟩), .int .u64 153]) (w.alloc (.cells #[.int .i64 n, .iface 148 (.pointer (some b))] 90)) := by kernel_rfl
theorem elemOfPW (w : World) : (Rtype.elem? 91).run Tryd.prog w = .ok (some 90) w := by kernel_rfl
theorem mkW (p : Addr) (w : World) : (ReflectliteValue.mk 90 p ReflectliteValue.flagAddr).run Tryd.prog w = .ok (.agg #[.pointer (some ⟨9, 90, none⟩), .pointer (some p), .int .u64 409]) w := by kernel_rfl
theorem elemVPW (a p : Addr) (W : World) (ha : W.cell? a = some (.pointer (some p))) :
    (ReflectliteValue.method (ReflectliteValue.valueError "reflectlite.Value.Elem" 0) ReflectliteValue.elem #[.agg #[.pointer (some ⟨9, 91, none⟩), .pointer (some a), .int .u64 150]]).run Tryd.prog W
      = .ok (.agg #[.pointer (some ⟨9, 90, none⟩), .pointer (some p), .int .u64 409]) W := by
  rw [rlm]
  simp only [Sem.run_bind, partsPW, Result.andThen]
  simp [ReflectliteValue.elem, loadVar, isAgg, underlying, Tryd.underlying91, ha, Result.andThen, elemOfPW, mkW]
theorem partsWa (a : Addr) (w : World) : (ReflectliteValue.parts (.agg #[.pointer (some ⟨9, 90, none⟩), .pointer (some a), .int .u64 409])).run Tryd.prog w = .ok (some (90, a, 409)) w := by kernel_rfl
theorem partsW (a : Addr) (w : World) : (ReflectliteValue.parts (.agg #[.pointer (some ⟨9, 90, none⟩), .pointer (some a), .int .u64 153])).run Tryd.prog w = .ok (some (90, a, 153)) w := by kernel_rfl
theorem directW (w : World) : (Rtype.directlyAssignable 90 90).run Tryd.prog w = .ok true w := by kernel_rfl
theorem sizeW : (Tryd.prog.info? 90).map (·.size) = some 2 := by kernel_rfl
theorem setW (g gb : Nat) (v0 v1 : Value) (old : Array Value) (W : World) (hb : W.heap[gb]? = some (.cells #[v0, v1] 90 (0, 0))) (ht : W.heap[g]? = some (.cells old 90 (0, 0))) (ho : old.size = 2) (h1 : (#[v0, v1] : Array Value).all (·.oneCell') = true) :
    (ReflectliteValue.set #[.agg #[.pointer (some ⟨9, 90, none⟩), .pointer (some ⟨g, 0, none⟩), .int .u64 409], .agg #[.pointer (some ⟨9, 90, none⟩), .pointer (some ⟨gb, 0, none⟩), .int .u64 153]]).run Tryd.prog W
      = .ok (.tuple #[]) (W.setRow g #[v0, v1]) := by
  rw [rls]
  simp only [Sem.run_bind, partsWa, partsW, Result.andThen]
  simp [ReflectliteValue.flagAddr, run_loadVar_row (P := Tryd.prog) W gb 90 90 #[v0, v1] (0, 0) _ hb Tryd.underlying90 rfl sizeW, Result.andThen, directW, run_storeVar_row (P := Tryd.prog) W g 90 90 old #[v0, v1] ht sizeW ho h1]
set_option maxHeartbeats 4000000 in
theorem as_hit (n : Int) (b : Addr) (g : Nat) (old : Array Value) (w : World) (hg : w.cell? ⟨7, 0, none⟩ = some (.iface 116 (.agg #[.pointer (some ⟨9, 49, none⟩)])))
    (ht : w.heap[g]? = some (.cells old 90 (0, 0))) (ho : old.size = 2) :
    Calls Tryd.prog 40 #[werr n b, .iface 91 (.pointer (some ⟨g, 0, none⟩))] w fun ev w' => ev = .returned (.bool true) ∧ Below g w w' ∧ w'.heap[g]? = some (.cells #[.int .i64 n, .iface 148 (.pointer (some b))] 90 (0, 0)) := by
  have h6 := @run_callFunc_extern Tryd.prog 52 _ (fun args => ReflectliteValue.unpack (args.getD 0 (.tuple #[]))) Tryd.func52 (by kernel_rfl) (by kernel_rfl) (by kernel_rfl) (by kernel_rfl)
  have h7 := @run_callFunc_extern Tryd.prog 53 _ (ReflectliteValue.methodAny (ReflectliteValue.valueError "reflectlite.Value.Type" 0) (fun t _ _ _ => ReflectliteType.toType t)) Tryd.func53 (by kernel_rfl) (by kernel_rfl) (by kernel_rfl) (by kernel_rfl)
  have h8 := @run_callFunc_extern Tryd.prog 54 _ (ReflectliteValue.method (ReflectliteValue.valueError "reflectlite.Value.IsNil" 0) ReflectliteValue.isNil) Tryd.func54 (by kernel_rfl) (by kernel_rfl) (by kernel_rfl) (by kernel_rfl)
  have h27 := @run_callFunc_extern Tryd.prog 92 _ (ReflectliteType.abiMethod fun t => do pure (.int .u8 (← Rtype.kind t))) Tryd.func92 (by kernel_rfl) (by kernel_rfl) (by kernel_rfl) (by kernel_rfl)
  have h37 := @run_callFunc_extern Tryd.prog 106 _ (ReflectliteType.method ReflectliteType.elem) Tryd.func106 (by kernel_rfl) (by kernel_rfl) (by kernel_rfl) (by kernel_rfl)
  have h38 := @run_callFunc_extern Tryd.prog 107 _ (ReflectliteType.relation "Implements" ReflectliteType.implements_) Tryd.func107 (by kernel_rfl) (by kernel_rfl) (by kernel_rfl) (by kernel_rfl)
  have h10 := @run_callFunc_extern Tryd.prog 56 _ ReflectliteType.typeOf Tryd.func56 (by kernel_rfl) (by kernel_rfl) (by kernel_rfl) (by kernel_rfl)
  have h35 := @run_callFunc_extern Tryd.prog 104 _ (ReflectliteType.relation "AssignableTo" ReflectliteType.assignableTo) Tryd.func104 (by kernel_rfl) (by kernel_rfl) (by kernel_rfl) (by kernel_rfl)
  have h11 := @run_callFunc_extern Tryd.prog 64 _ (ReflectliteValue.method (ReflectliteValue.valueError "reflectlite.Value.Elem" 0) ReflectliteValue.elem) Tryd.func64 (by kernel_rfl) (by kernel_rfl) (by kernel_rfl) (by kernel_rfl)
  have h12 := @run_callFunc_extern Tryd.prog 65 _ ReflectliteValue.set Tryd.func65 (by kernel_rfl) (by kernel_rfl) (by kernel_rfl) (by kernel_rfl)
  have tO := typeOfW
  have mA := eMethodAssignableTo
  have a25 := assignableW
  have v25 := valueOfW n b
  have f6 := valueOfPW
  have f7 := typePW
  have mK := eMethodKind
  have mE := eMethodElem
  have mI := eMethodImplements
  have k27 := kindPW
  have k25 := kindW
  have e27 := elemPW
  have i25 := implementsW
  obtain ⟨W1, hW1⟩ : ∃ W1, (w.alloc (.cells #[.pointer (some ⟨g, 0, none⟩)] 91)).alloc (.cells #[.pointer (some ⟨9, 91, none⟩), .pointer (some ⟨w.heap.size, 0, none⟩), .int .u64 150] 95) = W1 := ⟨_, rfl⟩
  have n8 := isNilPW ⟨w.heap.size, 0, none⟩ ⟨g, 0, none⟩ ((w.alloc (.cells #[.pointer (some ⟨g, 0, none⟩)] 91)).alloc (.cells #[.pointer (some ⟨9, 91, none⟩), .pointer (some ⟨w.heap.size, 0, none⟩), .int .u64 150] 95)) (by simp)
  have hlt : 7 < w.heap.size := by
    rcases Nat.lt_or_ge 7 w.heap.size with h | h
    · exact h
    · simp [World.cell?, Array.getElem?_eq_none h] at hg
  have hg2 : ((w.alloc (.cells #[.pointer (some ⟨g, 0, none⟩)] 91)).alloc (.cells #[.pointer (some ⟨9, 91, none⟩), .pointer (some ⟨w.heap.size, 0, none⟩), .int .u64 150] 95)).cell? ⟨7, 0, none⟩ = some (.iface 116 (.agg #[.pointer (some ⟨9, 49, none⟩)])) := by
    rw [World.cell?_alloc_lt _ _ ⟨7, 0, none⟩ (by simp; omega), World.cell?_alloc_lt _ _ ⟨7, 0, none⟩ hlt]; exact hg
  have htl : g < w.heap.size := (Array.getElem?_eq_some_iff.1 ht).1
  have el := elemVPW ⟨w.heap.size, 0, none⟩ ⟨g, 0, none⟩ (((w.alloc (.cells #[.pointer (some ⟨g, 0, none⟩)] 91)).alloc (.cells #[.pointer (some ⟨9, 91, none⟩), .pointer (some ⟨w.heap.size, 0, none⟩), .int .u64 150] 95)).alloc (.cells #[.pointer (some ⟨9, 91, none⟩), .pointer (some ⟨w.heap.size, 0, none⟩), .int .u64 150] 95)) (by rw [World.cell?_alloc_lt _ _ ⟨w.heap.size, 0, none⟩ (by simp; omega)]; simp)
  obtain ⟨W4, hW4⟩ : ∃ W4, (((w.alloc (.cells #[.pointer (some ⟨g, 0, none⟩)] 91)).alloc (.cells #[.pointer (some ⟨9, 91, none⟩), .pointer (some ⟨w.heap.size, 0, none⟩), .int .u64 150] 95)).alloc (.cells #[.pointer (some ⟨9, 91, none⟩), .pointer (some ⟨w.heap.size, 0, none⟩), .int .u64 150] 95)).alloc (.cells #[.int .i64 n, .iface 148 (.pointer (some b))] 90) = W4 := ⟨_, rfl⟩
  have hB4 : Below (g + 1) w W4 := by rw [← hW4]; exact ((((Below.refl _ w).alloc (by omega) _).alloc (by simp; omega) _).alloc (by simp; omega) _).alloc (by simp; omega) _
  have ht4 : W4.heap[g]? = some (.cells old 90 (0, 0)) := (hB4.block g (by omega)).trans ht
  have hb4 : W4.heap[w.heap.size + 1 + 1 + 1]? = some (.cells #[.int .i64 n, .iface 148 (.pointer (some b))] 90 (0, 0)) := by
    rw [← hW4]
    show (Array.push _ _)[_]? = _
    rw [Array.getElem?_push, if_pos (by simp)]
  have st := setW g (w.heap.size + 1 + 1 + 1) (.int .i64 n) (.iface 148 (.pointer (some b))) old W4 hb4 ht4 ho (by simp [Value.oneCell'])
  have HR := setRow_heap (cs := #[.int .i64 n, .iface 148 (.pointer (some b))]) ht4
  have HB := setRow_below (g := g) (hB4.mono (Nat.le_succ g)) (Nat.le_refl _) #[.int .i64 n, .iface 148 (.pointer (some b))]
  rw [← hW4] at st HR HB
  have HR' : Hid _ := HR
  have HB' : Hid _ := HB
  clear HR HB hW1 ht4 hb4 hB4 hW4 ht ho
  go_enter Tryd.func40, Tryd.ntmps40
  go_wp2
  refine wp_loop_rounds 1 ?_
  rw [rounds_succ]
  go_wp2
  go_ret
  exact ⟨rfl, HB'.out, HR'.out⟩
theorem noIsW (v : Value) (xT : TypeId) (w : World) : (Instr.typeAssert (.iface 90 v) xT 128 true).run Tryd.prog w = .ok (.tuple #[.nilIface, .bool false]) w := run_typeAssert_lacksB Tryd.underlying128 (by kernel_rfl) (by kernel_rfl) v xT w
theorem hasUnwrapW (v : Value) (xT : TypeId) (w : World) : (Instr.typeAssert (.iface 90 v) xT 123 true).run Tryd.prog w = .ok (.tuple #[.iface 90 v, .bool true]) w := run_typeAssert_hasB Tryd.underlying123 (by kernel_rfl) v xT w
theorem methodUnwrapW (v : Value) (w : World) : (Go.method 280 90 v "Unwrap").run Tryd.prog w = .ok (99, v) w := by kernel_rfl
set_option maxHeartbeats 4000000 in
theorem is_same (n : Int) (b : Addr) (w : World) :
    Calls Tryd.prog 41 #[werr n b, .iface 148 (.pointer (some b))] w fun e w' => e = .returned (.bool true) ∧ Below w.heap.size w w' := by
  obtain ⟨i, hi, hcmp⟩ := Option.map_eq_some_iff.1 eComp
  obtain ⟨j, hj, hjs⟩ := Option.map_eq_some_iff.1 eSize
  have h8 := @run_callFunc_extern Tryd.prog 56 _ Extern.ReflectliteType.typeOf Tryd.func56 (by kernel_rfl) (by kernel_rfl) (by kernel_rfl) (by kernel_rfl)
  have h32 := @run_callFunc_extern Tryd.prog 105 _ cmpE Tryd.func105 (by kernel_rfl) (by kernel_rfl) (by kernel_rfl) (by kernel_rfl)
  have tT := eTypeOfES
  have cT := eComparableES
  have mR := eMethodComparable
  have nE := eNoIs
  have uE := eNoUnwrap
  have vE := eNoUnwraps
  have nW := noIsW
  have uW := hasUnwrapW
  have mU := methodUnwrapW
  have heq := fun w => run_eql_iface_ptr_same (P := Tryd.prog) w b Tryd.underlying49 Tryd.underlying148 hi hcmp hj
  have hty := fun w => run_eql_iface_types (P := Tryd.prog) 90 148 (.agg #[.int .i64 n, .iface 148 (.pointer (some b))]) (.pointer (some b)) Tryd.underlying49 (by decide) w
  go_enter Tryd.func41, Tryd.ntmps41
  go_wp2
  refine wp_loop_rounds 2 ?_
  rw [rounds_succ]
  go_wp2
  rw [rounds_succ]
  go_wp2
  go_ret
  exact ⟨rfl, by repeat (first | exact Below.refl _ _ | refine Below.alloc ?_ (by simp) _)⟩
set_option maxHeartbeats 4000000 in
theorem is_other (n : Int) (a b : Addr) (ca cb : Array Value) (ta tb : TypeId) (w : World) (hne : a ≠ b) (ha : w.heap[a.block]? = some (.cells ca ta (0, 0))) (hb : w.heap[b.block]? = some (.cells cb tb (0, 0))) :
    Calls Tryd.prog 41 #[werr n a, .iface 148 (.pointer (some b))] w fun e w' => e = .returned (.bool false) ∧ Below w.heap.size w w' := by
  obtain ⟨i, hi, hcmp⟩ := Option.map_eq_some_iff.1 eComp
  obtain ⟨j, hj, hjs⟩ := Option.map_eq_some_iff.1 eSize
  have h8 := @run_callFunc_extern Tryd.prog 56 _ Extern.ReflectliteType.typeOf Tryd.func56 (by kernel_rfl) (by kernel_rfl) (by kernel_rfl) (by kernel_rfl)
  have h32 := @run_callFunc_extern Tryd.prog 105 _ cmpE Tryd.func105 (by kernel_rfl) (by kernel_rfl) (by kernel_rfl) (by kernel_rfl)
  have tT := eTypeOfES
  have cT := eComparableES
  have mR := eMethodComparable
  have nE := eNoIs
  have uE := eNoUnwrap
  have vE := eNoUnwraps
  have nW := noIsW
  have uW := hasUnwrapW
  have mU := methodUnwrapW
  have hal : a.block < w.heap.size := (Array.getElem?_eq_some_iff.1 ha).1
  have hbl : b.block < w.heap.size := (Array.getElem?_eq_some_iff.1 hb).1
  have heq := fun o => run_eql_iface_ptr_other (P := Tryd.prog) (w.alloc o) Tryd.underlying49 Tryd.underlying148 hi hcmp hj (by rw [hjs]; decide) hne ((Below.heap_alloc w o _ hal).trans ha) ((Below.heap_alloc w o _ hbl).trans hb)
  have hty := fun w => run_eql_iface_types (P := Tryd.prog) 90 148 (.agg #[.int .i64 n, .iface 148 (.pointer (some a))]) (.pointer (some b)) Tryd.underlying49 (by decide) w
  go_enter Tryd.func41, Tryd.ntmps41
  go_wp2
  refine wp_loop_rounds 2 ?_
  rw [rounds_succ]
  go_wp2
  rw [rounds_succ]
  go_wp2
  go_ret
  exact ⟨rfl, by repeat (first | exact Below.refl _ _ | refine Below.alloc ?_ (by simp) _)⟩
end Size
end Go.Proofs.YthnddhgkjkpmfaaDoor
/- What the package-level variables of one package hold. -/
namespace Go.Proofs.YthnddhgkjkpmfaaDoor
set_option linter.unusedSimpArgs false
set_option linter.unusedVariables false
namespace Size
open Go.RowKit
structure GA (a0 a1 a2 : Addr) (w : World) : Prop where
  et : w.cell? ⟨7, 0, none⟩ = some (.iface 116 (.agg #[.pointer (some ⟨9, 49, none⟩)]))
  g0 : w.cell? ⟨5, 0, none⟩ = some (.iface 148 (.pointer (some a0)))
  g1 : w.cell? ⟨6, 0, none⟩ = some (.iface 148 (.pointer (some a1)))
  g2 : w.cell? ⟨4, 0, none⟩ = some (.iface 148 (.pointer (some a2)))
  n01 : a0 ≠ a1
  n02 : a0 ≠ a2
  n12 : a1 ≠ a2
  h0 : ∃ c t, w.heap[a0.block]? = some (.cells c t (0, 0))
  h1 : ∃ c t, w.heap[a1.block]? = some (.cells c t (0, 0))
  h2 : ∃ c t, w.heap[a2.block]? = some (.cells c t (0, 0))
theorem GA.below {a0 a1 a2 : Addr} {w w' : World} (h : GA a0 a1 a2 w) (hb : Below w.heap.size w w') : GA a0 a1 a2 w' where
  et := (hb.cell (lt_of_cell h.et)).trans h.et
  g0 := (hb.cell (lt_of_cell h.g0)).trans h.g0
  g1 := (hb.cell (lt_of_cell h.g1)).trans h.g1
  g2 := (hb.cell (lt_of_cell h.g2)).trans h.g2
  n01 := h.n01
  n02 := h.n02
  n12 := h.n12
  h0 := by obtain ⟨c, t, hc⟩ := h.h0; exact ⟨c, t, (hb.block _ (Array.getElem?_eq_some_iff.1 hc).1).trans hc⟩
  h1 := by obtain ⟨c, t, hc⟩ := h.h1; exact ⟨c, t, (hb.block _ (Array.getElem?_eq_some_iff.1 hc).1).trans hc⟩
  h2 := by obtain ⟨c, t, hc⟩ := h.h2; exact ⟨c, t, (hb.block _ (Array.getElem?_eq_some_iff.1 hc).1).trans hc⟩
end Size
end Go.Proofs.YthnddhgkjkpmfaaDoor
/- size's functions, walked, first part: told, has, first. -/
namespace Go.Proofs.YthnddhgkjkpmfaaDoor
set_option linter.unusedSimpArgs false
set_option linter.unusedVariables false
namespace Size
open Go.RowKit Go.Shelf
attribute [local go_sem] Oper.semAt_some
theorem told_nil (w : World) : Calls Tryd.prog 39 #[.nilIface] w fun e w' => e = .returned (.int .i64 0) ∧ Below w.heap.size w w' := by
  go_enter Tryd.func39, Tryd.ntmps39
  go_wp2_with (go_at_call 40; refine (as_nil _ _).mono ?_; rintro e w' ⟨rfl, rfl⟩)
  go_ret
  exact ⟨rfl, (Below.refl _ _).alloc (Nat.le_refl _) _⟩
theorem told_short (n : Int) (a0 a1 a2 : Addr) (w : World) (h : GA a0 a1 a2 w) :
    Calls Tryd.prog 39 #[werr n a0] w fun e w' => e = .returned (.int .i64 10) ∧ Below w.heap.size w w' := by
  go_enter Tryd.func39, Tryd.ntmps39
  have hB0 : Below w.heap.size w (w.alloc (.cells #[.int .i64 0, .nilIface] 90)) := (Below.refl _ _).alloc (Nat.le_refl _) _
  have hG0 := h.below hB0
  go_wp2_with fail
  refine (as_hit n a0 w.heap.size _ _ hG0.et (World.alloc_heap_new w _) rfl).mono ?_
  rintro e w1 ⟨rfl, hb, hc⟩
  have hB1 := hB0.trans hb
  have hG1 := h.below hB1
  have c0 := cell_of_row w1 w.heap.size 0 _ _ _ hc
  have c1 := cell_of_row w1 w.heap.size 1 _ _ _ hc
  have gB := hG1.g0
  simp at c0 c1
  have hsz := hB1.size
  obtain ⟨ca, ta, hca⟩ := hG1.h0
  obtain ⟨cb, tb, hcb⟩ := hG1.h1
  obtain ⟨cc, tc, hcc⟩ := hG1.h2
  clear hc hG0 hB0 hb
  go_wp2_with fail
  refine (is_same n a0 _).mono ?_
  rintro e w2 ⟨rfl, hb2⟩
  go_wp2_with fail
  go_ret
  exact ⟨rfl, hB1.trans (hb2.mono hsz)⟩
theorem told_form (n : Int) (a0 a1 a2 : Addr) (w : World) (h : GA a0 a1 a2 w) :
    Calls Tryd.prog 39 #[werr n a1] w fun e w' => e = .returned (.int .i64 11) ∧ Below w.heap.size w w' := by
  go_enter Tryd.func39, Tryd.ntmps39
  have hB0 : Below w.heap.size w (w.alloc (.cells #[.int .i64 0, .nilIface] 90)) := (Below.refl _ _).alloc (Nat.le_refl _) _
  have hG0 := h.below hB0
  go_wp2_with fail
  refine (as_hit n a1 w.heap.size _ _ hG0.et (World.alloc_heap_new w _) rfl).mono ?_
  rintro e w1 ⟨rfl, hb, hc⟩
  have hB1 := hB0.trans hb
  have hG1 := h.below hB1
  have c0 := cell_of_row w1 w.heap.size 0 _ _ _ hc
  have c1 := cell_of_row w1 w.heap.size 1 _ _ _ hc
  have gB := hG1.g0
  simp at c0 c1
  have hsz := hB1.size
  obtain ⟨ca, ta, hca⟩ := hG1.h0
  obtain ⟨cb, tb, hcb⟩ := hG1.h1
  obtain ⟨cc, tc, hcc⟩ := hG1.h2
  clear hc hG0 hB0 hb
  go_wp2_with fail
  refine (is_other n a1 a0 cb ca tb ta _ (Ne.symm h.n01) hcb hca).mono ?_
  rintro e w2 ⟨rfl, hb2⟩
  have hB2 := hB1.trans (hb2.mono hsz)
  have hG2 := h.below hB2
  have gB2 := hG2.g1
  have hsz2 := hB2.size
  go_wp2_with fail
  refine (is_same n a1 _).mono ?_
  rintro e w3 ⟨rfl, hb3⟩
  go_wp2_with fail
  go_ret
  exact ⟨rfl, hB2.trans (hb3.mono hsz2)⟩
theorem told_size (n : Int) (a0 a1 a2 : Addr) (w : World) (h : GA a0 a1 a2 w) :
    Calls Tryd.prog 39 #[werr n a2] w fun e w' => e = .returned (.int .i64 12) ∧ Below w.heap.size w w' := by
  go_enter Tryd.func39, Tryd.ntmps39
  have hB0 : Below w.heap.size w (w.alloc (.cells #[.int .i64 0, .nilIface] 90)) := (Below.refl _ _).alloc (Nat.le_refl _) _
  have hG0 := h.below hB0
  go_wp2_with fail
  refine (as_hit n a2 w.heap.size _ _ hG0.et (World.alloc_heap_new w _) rfl).mono ?_
  rintro e w1 ⟨rfl, hb, hc⟩
  have hB1 := hB0.trans hb
  have hG1 := h.below hB1
  have c0 := cell_of_row w1 w.heap.size 0 _ _ _ hc
  have c1 := cell_of_row w1 w.heap.size 1 _ _ _ hc
  have gB := hG1.g0
  simp at c0 c1
  have hsz := hB1.size
  obtain ⟨ca, ta, hca⟩ := hG1.h0
  obtain ⟨cb, tb, hcb⟩ := hG1.h1
  obtain ⟨cc, tc, hcc⟩ := hG1.h2
  clear hc hG0 hB0 hb
  go_wp2_with fail
  refine (is_other n a2 a0 cc ca tc ta _ (Ne.symm h.n02) hcc hca).mono ?_
  rintro e w2 ⟨rfl, hb2⟩
  have hB2 := hB1.trans (hb2.mono hsz)
  have hG2 := h.below hB2
  have gB2 := hG2.g1
  have hsz2 := hB2.size
  go_wp2_with fail
  obtain ⟨cb', tb', hcb'⟩ := hG2.h1
  obtain ⟨cc', tc', hcc'⟩ := hG2.h2
  refine (is_other n a2 a1 cc' cb' tc' tb' _ (Ne.symm h.n12) hcc' hcb').mono ?_
  rintro e w3 ⟨rfl, hb3⟩
  go_wp2_with fail
  go_ret
  exact ⟨rfl, hB2.trans (hb3.mono hsz2)⟩
end Size
end Go.Proofs.YthnddhgkjkpmfaaDoor
namespace Go.Proofs.YthnddhgkjkpmfaaDoor
set_option linter.unusedSimpArgs false
set_option linter.unusedVariables false
namespace Size
open Go.RowKit Go.Shelf
attribute [local go_sem] Oper.semAt_some
theorem has_c (s : ByteArray) (at' n : Int) (w : World) :
    Calls Tryd.prog 77 #[.agg #[.string s, .int .i64 at'], .int .i64 n] w fun e w' => e = .returned (.bool (decide (0 ≤ at' ∧ at' ≤ s.size ∧ n ≤ wrap64 (s.size - at')))) ∧ w' = w.alloc (.cells #[.string s, .int .i64 at'] 143) := by
  go_enter Tryd.func77, Tryd.ntmps77
  go_wp2_with fail
  · go_ret
    refine ⟨?_, rfl⟩
    simp_all
  · go_ret
    refine ⟨?_, rfl⟩
    simp; omega
  · go_ret
    refine ⟨?_, rfl⟩
    simp; omega
abbrev ese (a : Addr) : Value := .iface 148 (.pointer (some a))
theorem first_yes (n : Int) (a : Addr) (g : Nat) (w : World) (hr : w.heap[g]? = some (.cells #[.bool true, ese a] 84 (0, 0))) :
    Calls Tryd.prog 49 #[.int .i64 n, .slice (some ⟨g, 0, none⟩) 1 1] w fun e' w' => e' = .returned (.iface 90 (.agg #[.int .i64 n, ese a])) ∧ w' = w.alloc (.cells #[.bool true, ese a] 84) := by
  go_enter Tryd.func49, Tryd.ntmps49
  have c0 := cell_of_row w g 0 _ _ _ hr
  have c1 := cell_of_row w g 1 _ _ _ hr
  simp at c0 c1
  have hlt := lt_of_cell c0
  go_wp2
  refine wp_loop_rounds 1 ?_; rw [rounds_succ]; go_wp2_with fail
  go_ret
  exact ⟨rfl, rfl⟩
theorem first_no (n : Int) (a : Addr) (g : Nat) (w : World) (hr : w.heap[g]? = some (.cells #[.bool false, ese a] 84 (0, 0))) :
    Calls Tryd.prog 49 #[.int .i64 n, .slice (some ⟨g, 0, none⟩) 1 1] w fun e' w' => e' = .returned .nilIface ∧ w' = w.alloc (.cells #[.bool false, ese a] 84) := by
  go_enter Tryd.func49, Tryd.ntmps49
  have c0 := cell_of_row w g 0 _ _ _ hr
  have c1 := cell_of_row w g 1 _ _ _ hr
  simp at c0 c1
  have hlt := lt_of_cell c0
  go_wp2
  refine wp_loop_rounds 2 ?_; rw [rounds_succ]; go_wp2; rw [rounds_succ]; go_wp2_with fail
  go_ret
  exact ⟨rfl, rfl⟩
end Size
end Go.Proofs.YthnddhgkjkpmfaaDoor
/- A law for 'for x := range f { .. }' of this repo's own: the iterator may keep state of its own in blocks of a set SI that the loop's body leaves alone; the body's blocks are left alone by the iterator. -/
namespace Go.Proofs.YthnddhgkjkpmfaaDoor
set_option linter.unusedSimpArgs false
set_option linter.unusedVariables false
open Go.RowKit
structure Chg (S : Nat → Prop) (A B : World) : Prop where
  os : B.os = A.os
  tape : B.tape = A.tape
  output : B.output = A.output
  size : A.heap.size ≤ B.heap.size
  block : ∀ k, k < A.heap.size → ¬ S k → B.heap[k]? = A.heap[k]?
theorem Chg.refl (S : Nat → Prop) (A : World) : Chg S A A := ⟨rfl, rfl, rfl, Nat.le_refl _, fun _ _ _ => rfl⟩
theorem Chg.trans {S : Nat → Prop} {A B C : World} (h : Chg S A B) (k : Chg S B C) : Chg S A C :=
  ⟨k.os.trans h.os, k.tape.trans h.tape, k.output.trans h.output, Nat.le_trans h.size k.size, fun i hi hs => (k.block i (Nat.lt_of_lt_of_le hi h.size) hs).trans (h.block i hi hs)⟩
theorem Chg.mono {S T : Nat → Prop} {A B : World} (h : Chg S A B) (hst : ∀ k, S k → T k) : Chg T A B := ⟨h.os, h.tape, h.output, h.size, fun k hk hs => h.block k hk (fun hS => hs (hst k hS))⟩
theorem Chg.alloc {S : Nat → Prop} {A B : World} (h : Chg S A B) (o : Obj) : Chg S A (B.alloc o) :=
  h.trans ⟨rfl, rfl, rfl, by simp, fun k hk _ => Below.heap_alloc _ _ _ hk⟩
theorem Chg.drew {S : Nat → Prop} {A B : World} (h : Chg S A B) : Chg S A B.drew := ⟨h.os, h.tape, h.output, h.size, h.block⟩
theorem Chg.setCell {S : Nat → Prop} {A B : World} (h : Chg S A B) {p : Addr} (hp : S p.block) (v : Value) : Chg S A (B.setCell p v) :=
  h.trans ⟨rfl, rfl, rfl, by simp [World.setCell], fun k _ hs => Below.heap_setCell _ _ _ _ (fun e => hs (e ▸ hp))⟩
theorem Chg.putObj {S : Nat → Prop} {A B : World} (h : Chg S A B) {l : Nat} (hl : S l) (o : Obj) : Chg S A (B.putObj l o) :=
  h.trans ⟨rfl, rfl, rfl, by simp, fun k _ hs => World.putObj_heap_other (fun e => hs (e ▸ hl))⟩
theorem Chg.below {S : Nat → Prop} {A B : World} (h : Chg S A B) {C : World} {n : Nat} (hb : Below n B C) (hn : ∀ k, k < A.heap.size → ¬ S k → k < n) : Chg S A C :=
  ⟨hb.os.trans h.os, hb.tape.trans h.tape, hb.output.trans h.output, Nat.le_trans h.size hb.size, fun k hk hs => (hb.block k (hn k hk hs)).trans (h.block k hk hs)⟩
theorem Chg.call {S : Nat → Prop} {A B : World} (h : Chg S A B) {C : World} (hb : Below B.heap.size B C) : Chg S A C := h.below hb (fun _ hk _ => Nat.lt_of_lt_of_le hk h.size)
theorem Chg.grown {S : Nat → Prop} {A B : World} (h : Chg S A B) {C : World} {row : Option Nat} (hg : B.grownBy C row) (hr : ∀ r, row = some r → S r ∨ A.heap.size ≤ r) : Chg S A C :=
  ⟨hg.os.trans h.os, hg.tape.trans h.tape, hg.output.trans h.output, Nat.le_trans h.size hg.size, fun k hk hs => (hg.block k (Nat.lt_of_lt_of_le hk h.size) (fun e => by rcases hr k e.symm with h1 | h1; exact hs h1; omega)).trans (h.block k hk hs)⟩
theorem Below.chg {n : Nat} {a A B : World} (h : Below n a A) {S : Nat → Prop} (hc : Chg S A B) (hn : n ≤ A.heap.size) (hs : ∀ k, S k → n ≤ k) : Below n a B :=
  h.trans ⟨hc.os, hc.tape, hc.output, hc.size, fun k hk => hc.block k (by omega) (fun e => by have := hs k e; omega)⟩
theorem Chg.cell {S : Nat → Prop} {A B : World} (h : Chg S A B) {a : Addr} {v : Value} (hv : A.cell? a = some v) (hs : ¬ S a.block) : B.cell? a = some v :=
  (World.cell?_of_block (w := A) (h.block a.block (lt_of_cell hv) hs)).trans hv
theorem Chg.heap {S : Nat → Prop} {A B : World} (h : Chg S A B) {k : Nat} {o : Obj} (hv : A.heap[k]? = some o) (hs : ¬ S k) : B.heap[k]? = some o :=
  (h.block k (Array.getElem?_eq_some_iff.1 hv).1 hs).trans hv
theorem Chg.of_below {S : Nat → Prop} {A B : World} (h : Below A.heap.size A B) : Chg S A B := (Chg.refl S A).call h
def Iter {α : Type} (F : Fence) (n : Nat) (P : Program) (g : Nat) (lb : Array Value) (encs : α → Array Value) (SI : Nat → Prop) (xs : List α) (W0 : World → Prop) : Prop :=
  ∀ (l : Nat) (J Jx : Nat → World → Prop) (W : World), W0 W → (∀ k A B, J k A → Chg SI A B → J k B) → (∀ k A B, Jx k A → Chg SI A B → Jx k B) →
    (∀ k x A, xs[k]? = some x → J k A → YieldAt F (n - 1) P l (encs x) A fun e B =>
      (e = .returned (.bool true) ∧ J (k + 1) B ∧ Chg (fun j => ¬ SI j) A B) ∨ (e = .returned (.bool false) ∧ Jx (k + 1) B)) →
    J 0 W →
    CallsIn F n P g (#[.func (.yield l) #[] #[]] ++ lb) W fun e B => (∃ v, e = .returned v) ∧ (J xs.length B ∨ ∃ k, k ≤ xs.length ∧ Jx k B)
def SJ (SI : Nat → Prop) (z : Nat) (k : Nat) : Prop := SI k ∨ k = z ∨ k = z + 1
def itPost (T : Nat → Prop) (I : Nat → World → Prop) (Ix : Code → Nat → World → Prop) (k : Nat) (A : World) : Exit → Act → World → Prop
  | .normal, _, B => Chg (fun j => ¬ T j) A B ∧ I k B
  | .ret, _, B => Chg (fun j => ¬ T j) A B ∧ Ix .ret k B
  | .exit id, _, B => Chg (fun j => ¬ T j) A B ∧ Ix (.exit id) k B
  | .goto t, _, B => Chg (fun j => ¬ T j) A B ∧ Ix (.goto t) k B
  | .panic _, _, _ => False
  | .outgrown, _, _ => False
variable {F : Fence} {n : Nat} {P : Program}
theorem wpIn_range_it {α : Type} {g : Operand} {ps : Array Tmp} {assign body : Code} {Q : Exit → Act → World → Prop} {a : Act} {w : World}
    (hro : F.round = none) (h1 : 1 ≤ n) {gf : Nat} {lb : Array Value} (hg : a.eval g = .func (.func gf) #[] lb) (hFg : F.fn gf) (eg : ∀ args w, (callFunc gf args).run P w = .ok (.enter gf args) w)
    {encs : α → Array Value} {SI : Nat → Prop} {xs : List α} {W0 : World → Prop} (hit : Iter F (n - 1) P gf lb encs SI xs W0)
    (hW0 : ∀ W, Chg (fun _ => False) w W → W0 W) (hSI : ∀ k, SI k → k < w.heap.size ∨ w.heap.size + 2 ≤ k) (hps : ∀ x, (encs x).size = ps.size)
    (I : Nat → World → Prop) (Ix : Code → Nat → World → Prop) (hI : ∀ k A B, I k A → Chg (SJ SI w.heap.size) A B → I k B) (hIx : ∀ c k A B, Ix c k A → Chg (SJ SI w.heap.size) A B → Ix c k B) (h0 : I 0 w)
    (Ax : α → Act → World → Prop) (hAx : ∀ x a' A B, Ax x a' A → Chg (SJ SI w.heap.size) A B → Ax x a' B)
    (hassign : ∀ (l k : Nat) (x : α) (A : World) (K : Act → World → Prop), xs[k]? = some x → I k A → (∀ a' B, Chg (fun j => ¬ SJ SI w.heap.size j) A B → I k B → Ax x a' B → K a' B) →
      assign.wpIn (F.inRound l) (n - 1 - 1) P (Exit.then K (fun _ _ _ => False)) { tmps := (ps.zip (encs x)).foldl (fun t (p, v) => t.setIfInBounds p v) a.tmps, defers := [] } A)
    (hbody : ∀ (k : Nat) (x : α) (a' : Act) (A : World), (∃ r, A.heap[w.heap.size + 1]? = some (.loop r)) → xs[k]? = some x → I k A → Ax x a' A → body.wpIn (F.inRound (w.heap.size + 1)) (n - 1 - 1) P (itPost (SJ SI w.heap.size) I Ix (k + 1) A) a' A)
    (hdone : ∀ (B : World), I xs.length B → B.heap[w.heap.size]? = some (.deferred (some [])) → Q .normal { a with defers := { target := .collected w.heap.size, args := #[] } :: a.defers } B)
    (hstop : ∀ (c : Code) (k : Nat) (B : World), k ≤ xs.length → Ix c k B → B.heap[w.heap.size]? = some (.deferred (some [])) → c.wpIn F n P Q { a with defers := { target := .collected w.heap.size, args := #[] } :: a.defers } B) :
    (Code.rangeFunc g ps assign body).wpIn F n P Q a w := by
  refine wpIn_rangeFunc ?_
  intro fn hfn
  rw [hro]
  obtain ⟨rec, hrec⟩ : ∃ rec : LoopState → Option Code → Loop, rec = fun st pe => { state := st, pending := pe, fn, tmps := a.tmps, params := ps, assign, body, defers := w.heap.size } := ⟨_, rfl⟩
  obtain ⟨W1, hW1⟩ : ∃ W1, (w.alloc (.deferred (some []))).alloc (.loop (rec .ready none)) = W1 := ⟨_, rfl⟩
  have hL1 : W1.heap[w.heap.size + 1]? = some (.loop (rec .ready none)) := by
    rw [← hW1]; have := World.alloc_heap_new (w.alloc (.deferred (some []))) (.loop (rec .ready none)); rwa [World.size_alloc] at this
  have hK1 : W1.heap[w.heap.size]? = some (.deferred (some [])) := by
    rw [← hW1]; exact (Below.heap_alloc _ _ _ (by simp)).trans (World.alloc_heap_new w _)
  have hC1 : ∀ S, Chg S w W1 := fun S => by rw [← hW1]; exact ((Chg.refl S w).alloc _).alloc _
  have hI1 : I 0 W1 := hI _ _ _ h0 (hC1 _)
  have hnl : ¬ SI (w.heap.size + 1) := fun h => by have := hSI _ h; omega
  have hnd : ¬ SI w.heap.size := fun h => by have := hSI _ h; omega
  have jl : SJ SI w.heap.size (w.heap.size + 1) := .inr (.inr rfl)
  have jd : SJ SI w.heap.size w.heap.size := .inr (.inl rfl)
  have jm : ∀ k, SI k → SJ SI w.heap.size k := fun k h => .inl h
  have jn : ∀ {A B : World}, Chg (fun j => ¬ SJ SI w.heap.size j) A B → Chg (fun j => ¬ SI j) A B := fun h => h.mono (fun k hk hS => hk (jm k hS))
  refine ⟨w.heap.size + 1, [{ target := .collected w.heap.size, args := #[] }], W1, { target := .fn (.func gf) lb, args := #[.func (.yield (w.heap.size + 1)) #[] #[]] }, W1, gf,
    #[.func (.yield (w.heap.size + 1)) #[] #[]] ++ lb, W1, ?_, ?_, ?_, ?_, fun _ => h1, ?_⟩
  · rw [← hW1, hrec]; exact run_enterLoop_outer _ _ _ _ _
  · simp only [resolve, hg]
    simp [go_sem]
  · intro f' hf'; simp [Target.leads] at hf'; subst hf'; exact hFg
  · simp [invoke, go_sem, eg]
  · refine (hit (w.heap.size + 1)
      (fun k W => I k W ∧ W.heap[w.heap.size + 1]? = some (.loop (rec .ready none)) ∧ W.heap[w.heap.size]? = some (.deferred (some [])))
      (fun k W => ∃ c, Ix c k W ∧ W.heap[w.heap.size + 1]? = some (.loop (rec .done (some c))) ∧ W.heap[w.heap.size]? = some (.deferred (some [])))
      W1 (hW0 _ (hC1 _))
      (fun k A B hs hc => ⟨hI k A B hs.1 (hc.mono jm), hc.heap hs.2.1 hnl, hc.heap hs.2.2 hnd⟩)
      (fun k A B hs hc => by
        obtain ⟨c, hx, hl, hk⟩ := hs
        exact ⟨c, hIx c k A B hx (hc.mono jm), hc.heap hl hnl, hc.heap hk hnd⟩)
      ?_ ⟨hI1, hL1, hK1⟩).mono ?_
    · rintro k x W hx ⟨hi, hl, hk⟩
      have hy := run_yield (P := P) (args := encs x) hl (by rw [hrec]; exact hps x)
      rw [hrec] at hy
      refine ⟨fn, _, assign, body, hy, roundIn_of_wpIn hfn (hassign _ k x W _ hx hi ?_)⟩
      clear hy
      intro a' Wa hca hia hax
      have hl' := hca.heap hl (fun h => h jl)
      have hk' := hca.heap hk (fun h => h jd)
      have hlt : w.heap.size + 1 < Wa.heap.size := (Array.getElem?_eq_some_iff.1 hl').1
      refine ⟨_, run_beginRound hl' (by rw [hrec]), ?_⟩
      obtain ⟨W2, hW2⟩ : ∃ W2, Wa.putObj (w.heap.size + 1) (.loop { rec .ready none with state := .busy }) = W2 := ⟨_, rfl⟩
      have hl2 : W2.heap[w.heap.size + 1]? = some (.loop { rec .ready none with state := .busy }) := by rw [← hW2]; exact World.putObj_heap_same hlt
      have hk2 : W2.heap[w.heap.size]? = some (.deferred (some [])) := by rw [← hW2]; exact (World.putObj_heap_other (by omega)).trans hk'
      have hc2 : Chg (SJ SI w.heap.size) Wa W2 := by rw [← hW2]; exact (Chg.refl _ _).putObj jl _
      have hc2' : Chg (fun j => ¬ SI j) W W2 := by rw [← hW2]; exact (jn hca).putObj hnl _
      rw [hW2]
      refine wpIn_mono (hbody k x a' _ ⟨_, hl2⟩ hx (hI _ _ _ hia hc2) (hAx x a' _ _ hax hc2)) ?_
      have fin : ∀ (jump : Option Code) (W3 : World), Chg (fun j => ¬ SJ SI w.heap.size j) W2 W3 →
          (Instr.endRound (w.heap.size + 1) jump).run P W3 = .ok (.bool jump.isNone) (W3.putObj (w.heap.size + 1) (.loop (rec (if jump.isNone then .ready else .done) jump))) ∧
          (W3.putObj (w.heap.size + 1) (.loop (rec (if jump.isNone then .ready else .done) jump))).heap[w.heap.size + 1]? = some (.loop (rec (if jump.isNone then .ready else .done) jump)) ∧
          (W3.putObj (w.heap.size + 1) (.loop (rec (if jump.isNone then .ready else .done) jump))).heap[w.heap.size]? = some (.deferred (some [])) ∧
          Chg (SJ SI w.heap.size) W3 (W3.putObj (w.heap.size + 1) (.loop (rec (if jump.isNone then .ready else .done) jump))) := fun jump W3 hk3 => by
        have hl3 := hk3.heap hl2 (fun h => h jl)
        have := run_endRound (P := P) jump hl3
        rw [hrec] at this ⊢
        exact ⟨this, World.putObj_heap_same (Array.getElem?_eq_some_iff.1 hl3).1, (World.putObj_heap_other (by omega)).trans (hk3.heap hk2 (fun h => h jd)), (Chg.refl _ _).putObj jl _⟩
      rintro e a3 W3 hp
      cases e with
      | normal =>
        obtain ⟨hk3, hi3⟩ := hp
        obtain ⟨hr, hl4, hk4, hc4⟩ := fin none W3 hk3
        exact ⟨_, _, hr, .inl ⟨rfl, ⟨hI _ _ _ hi3 hc4, hl4, hk4⟩, (hc2'.trans (jn hk3)).putObj hnl _⟩⟩
      | ret =>
        obtain ⟨hk3, hi3⟩ := hp
        obtain ⟨hr, hl4, hk4, hc4⟩ := fin (some .ret) W3 hk3
        exact ⟨_, _, hr, .inr ⟨rfl, .ret, hIx _ _ _ _ hi3 hc4, hl4, hk4⟩⟩
      | exit id =>
        obtain ⟨hk3, hi3⟩ := hp
        obtain ⟨hr, hl4, hk4, hc4⟩ := fin (some (.exit id)) W3 hk3
        exact ⟨_, _, hr, .inr ⟨rfl, .exit id, hIx _ _ _ _ hi3 hc4, hl4, hk4⟩⟩
      | goto t =>
        obtain ⟨hk3, hi3⟩ := hp
        obtain ⟨hr, hl4, hk4, hc4⟩ := fin (some (.goto t)) W3 hk3
        exact ⟨_, _, hr, .inr ⟨rfl, .goto t, hIx _ _ _ _ hi3 hc4, hl4, hk4⟩⟩
      | panic ch => exact hp.elim
      | outgrown => exact hp.elim
    · rintro e W2 ⟨⟨v, rfl⟩, (⟨hi, hl, hk⟩ | ⟨k, hkle, c, hi, hl, hk⟩)⟩
      · exact ⟨none, _, by have := run_endLoop (P := P) hl (by rw [hrec]; simp); rw [hrec] at this; exact this, hdone _ (hI _ _ _ hi ((Chg.refl _ _).putObj jl _)) ((World.putObj_heap_other (by omega)).trans hk)⟩
      · exact ⟨some c, _, by have := run_endLoop (P := P) hl (by rw [hrec]; simp); rw [hrec] at this; exact this, hstop c k _ hkle (hIx _ _ _ _ hi ((Chg.refl _ _).putObj jl _)) ((World.putObj_heap_other (by omega)).trans hk)⟩
theorem wpIn_range_it1 {α : Type} {g : Operand} {ps : Array Tmp} {assign body : Code} {Q : Exit → Act → World → Prop} {a : Act} {w : World}
    (hro : F.round = none) (h1 : 1 ≤ n) {gf : Nat} {lb : Array Value} (hg : a.eval g = .func (.func gf) #[] lb) (hFg : F.fn gf) (eg : ∀ args w, (callFunc gf args).run P w = .ok (.enter gf args) w)
    {encs : α → Array Value} {SI : Nat → Prop} {xs : List α} {W0 : World → Prop} (hit : Iter F (n - 1) P gf lb encs SI xs W0)
    (hW0 : ∀ W, Chg (fun _ => False) w W → W0 W) (hSI : ∀ k, SI k → k < w.heap.size ∨ w.heap.size + 2 ≤ k) (hps : ∀ x, (encs x).size = ps.size)
    (I : Nat → World → Prop) (Ix : Code → Nat → World → Prop) (hI : ∀ k A B, I k A → Chg (SJ SI w.heap.size) A B → I k B) (hIx : ∀ c k A B, Ix c k A → Chg (SJ SI w.heap.size) A B → Ix c k B) (h0 : I 0 w) (a₁ : α → Act)
    (hassign : ∀ (l : Nat) (x : α) (A : World) (K : Act → World → Prop), K (a₁ x) A →
      assign.wpIn (F.inRound l) (n - 1 - 1) P (Exit.then K (fun _ _ _ => False)) { tmps := (ps.zip (encs x)).foldl (fun t (p, v) => t.setIfInBounds p v) a.tmps, defers := [] } A)
    (hbody : ∀ (k : Nat) (x : α) (A : World), (∃ r, A.heap[w.heap.size + 1]? = some (.loop r)) → xs[k]? = some x → I k A → body.wpIn (F.inRound (w.heap.size + 1)) (n - 1 - 1) P (itPost (SJ SI w.heap.size) I Ix (k + 1) A) (a₁ x) A)
    (hdone : ∀ (B : World), I xs.length B → B.heap[w.heap.size]? = some (.deferred (some [])) → Q .normal { a with defers := { target := .collected w.heap.size, args := #[] } :: a.defers } B)
    (hstop : ∀ (c : Code) (k : Nat) (B : World), k ≤ xs.length → Ix c k B → B.heap[w.heap.size]? = some (.deferred (some [])) → c.wpIn F n P Q { a with defers := { target := .collected w.heap.size, args := #[] } :: a.defers } B) :
    (Code.rangeFunc g ps assign body).wpIn F n P Q a w :=
  wpIn_range_it hro h1 hg hFg eg hit hW0 hSI hps I Ix hI hIx h0 (fun x a' _ => a' = a₁ x) (fun _ _ _ _ h _ => h)
    (fun l k x A K _ hi hK => hassign l x A K (hK _ _ (Chg.refl _ _) hi rfl)) (fun k x a' A hr hx hi ha => by subst ha; exact hbody k x A hr hx hi) hdone hstop
theorem ownsRow_chg {W W' : World} {base : Nat} {e : TypeId} {size : Nat} {v : Value} {n : Nat} {xs : List Value} (h : W.ownsRow base e size v n xs) {S : Nat → Prop} (hc : Chg S W W') (hs : ∀ k, S k → k < base) : W'.ownsRow base e size v n xs := by
  obtain ⟨h1, h2⟩ := h
  refine ⟨h1, ?_⟩
  rcases h2 with h2 | ⟨g, cap, cur, hv, hg, hh, r⟩
  · exact .inl h2
  · exact .inr ⟨g, cap, cur, hv, hg, hc.heap hh (fun hS => by have := hs g hS; omega), r⟩
theorem Boxed_chg {W W' : World} {B : Nat} {t : TypeId} {v : Value} (h : Boxed W B t v) {S : Nat → Prop} (hc : Chg S W W') (hs : ¬ S B) : Boxed W' B t v := hc.heap h hs
end Go.Proofs.YthnddhgkjkpmfaaDoor
/- size's iterator. -/
namespace Go.Proofs.YthnddhgkjkpmfaaDoor
set_option linter.unusedSimpArgs false
set_option linter.unusedVariables false
namespace Size
open Go.RowKit Go.Shelf
attribute [local go_sem] Oper.semAt_some
theorem parts_any (n : Int) (w : World) : Calls Tryd.prog 51 #[.int .i64 n] w
    fun e w' => e = .returned (.func (.func 63) #[] #[.pointer (some ⟨w.heap.size, 0, none⟩)]) ∧ w' = w.alloc (.cells #[.int .i64 n] 3) := by
  go_enter Tryd.func51, Tryd.ntmps51
  go_wp2
  go_ret
  exact ⟨rfl, rfl⟩
set_option maxRecDepth 100000 in
set_option maxHeartbeats 1000000 in
theorem parts_it (m : Nat) (hm : 1 ≤ m) (k : Nat) (q : Nat → Int) (hq : ∀ j, q (j + 1) = q j / 256) (h0q : 0 ≤ q 0) (h1q : q 0 ≤ 4611686018427387904) (hpos : ∀ j, j < k → 0 < q j) (hend : q k = 0) (B : Nat) :
    Iter Fence.wide m Tryd.prog 63 #[.pointer (some ⟨B, 0, none⟩)] (fun x : Int => #[.int .u8 x]) (fun j => j = B)
      ((List.range k).map fun j => q j % 256) (fun W => W.heap[B]? = some (.cells #[.int .i64 (q 0)] 3 (0, 0))) := by
  have hqb : ∀ j, 0 ≤ q j ∧ q j ≤ 4611686018427387904 := by
    intro j
    induction j with
    | zero => exact ⟨h0q, h1q⟩
    | succ j ih => rw [hq]; omega
  intro l J Jx W hW hJ hJx hY h0
  refine callsIn_of_wp Tryd.func63 rfl trivial ?_ rfl
  simp only [Tryd.ntmps63, List.size_toArray, List.length_cons, List.length_nil, Nat.reduceAdd, Nat.reduceSub, Array.replicate_succ, Array.replicate_zero, List.push_toArray, List.append_toArray, List.nil_append, List.cons_append]
  refine wpIn_wide.2 (wp_scope_straight ((wpIn_wide (n := m)).1 (wpIn_seq (wpIn_label ?_))))
  try gi_wp2
  gi_loopw [3] (fun _ wr => ∃ j : Nat, j ≤ k ∧ J j wr ∧ wr.heap[B]? = some (.cells #[.int .i64 (q j)] 3 (0, 0)))
    (fun _ wr => (intOf ((wr.cell? ⟨B, 0, none⟩).getD .nilIface)).toNat)
  case atStart => exact ⟨0, Nat.zero_le _, h0, hW⟩
  case round =>
    obtain ⟨j, hj, hJj, hw⟩ := hrel
    have c0 := cell_of_row wr B 0 _ _ _ hw
    simp at c0
    by_cases hlt : j < k
    · obtain ⟨fn, tmps, assign, body, hy, hR⟩ := hY j (q j % 256) wr (by simp [hlt]) hJj
      have hp := hpos j hlt
      gi_wp2
      refine hR.mono ?_
      rintro e W3 (⟨rfl, hJ3, hk3⟩ | ⟨rfl, hJx3⟩)
      · have hw3 := hk3.heap hw (fun h => h rfl)
        have c3 := cell_of_row W3 B 0 _ _ _ hw3
        simp at c3
        have hb3 : Boxed W3 B 3 (.int .i64 (q j)) := hw3
        have fz := hb3.frozen
        have hw6 : wrap64 ((q j).tdiv 256) = q (j + 1) := by
          have := hqb j
          rw [hq, Int.tdiv_eq_ediv_of_nonneg (by omega)]; unfold wrap64; omega
        gi_wp2
        go_roundw
        case rel => exact ⟨j + 1, by omega, hJ _ _ _ hJ3 (Chg.setCell (S := fun j => j = B) (Chg.refl _ _) rfl _), by rw [hq]; exact hb3.set _⟩
        case measure =>
          rw [cell_of_row _ B 0 _ _ _ (hb3.set _)]
          rw [cell_of_row _ B 0 _ _ _ hw]
          simp [intOf, hw6, hq]
          omega
      · gi_wp2
        rw [Exit.noGoto_normal]
        go_end0
        exact ⟨⟨_, rfl⟩, .inr ⟨j + 1, by simp; omega, hJx3⟩⟩
    · obtain rfl : j = k := by omega
      gi_wp2
      try rw [Exit.noGoto_normal]
      go_end0
      exact ⟨⟨_, rfl⟩, .inl (by simpa using hJj)⟩
end Size
end Go.Proofs.YthnddhgkjkpmfaaDoor
/- size's closure that lays a byte ahead. -/
namespace Go.Proofs.YthnddhgkjkpmfaaDoor
set_option linter.unusedSimpArgs false
set_option linter.unusedVariables false
namespace Size
open Go.RowKit Go.Shelf Go.Proofs.YthnddhgkjkpmfaaDoorW.PrintWords
attribute [local go_sem] Oper.semAt_some
theorem info_u8 : (Tryd.prog.info? 5).map (fun i => (i.zero, i.size, i.bytes)) = some (some (.int .u8 0), 1, 1) := by kernel_rfl
theorem box_grown {W w1 : World} {B : Nat} {t : TypeId} {v : Value} (h : Boxed W B t v) (o : Obj) (hg : (W.alloc o).grownBy w1 (some W.heap.size)) : Boxed w1 B t v :=
  (h.alloc o).kept hg (by have := h.lt; simp; omega)
theorem lay_c (b : Int) (B base : Nat) (v : Value) (xs : List Int) (w : World) (hB : B < base) (hbase : base ≤ w.heap.size) (bx : Boxed w B 41 v)
    (ho : w.ownsRow base 5 1 v xs.length (nums .u8 xs)) (hl : xs.length ≤ 10) :
    Calls Tryd.prog 50 #[.int .u8 b, .pointer (some ⟨B, 0, none⟩)] w fun e w' => (∃ r, e = .returned r) ∧
      ∃ v', Boxed w' B 41 v' ∧ w'.ownsRow base 5 1 v' (b :: xs).length (nums .u8 (b :: xs)) ∧ Chg (fun z => z = B) w w' := by
  go_enter Tryd.func50, Tryd.ntmps50
  obtain ⟨A, c, rfl, hrd⟩ := own_reads ho
  have hle := own_le ho
  have hc := bx.cell
  have hlt := lt_of_cell hc
  have hnew : (w.alloc (.cells #[.int .u8 b] 5)).ownsRow base 5 1 (.slice (some ⟨w.heap.size, 0, none⟩) 1 1) [b].length (nums .u8 [b]) := by
    simpa [nums] using own_lit w base 5 .u8 [b] hbase (by simp)
  have HN := Lib.hid hnew
  have HR := Lib.hid (hrd.allocS (.cells #[.int .u8 b] 5))
  obtain ⟨m, hm⟩ : ∃ m, xs.length = m := ⟨_, rfl⟩
  rw [hm] at bx
  have HX := Lib.hid bx
  rw [hm] at hc hle hl
  clear hnew hrd bx ho
  go_wp2_with (at_builtin; refine print_append_row (w0 := w.alloc (.cells #[.int .u8 b] 5)) base rfl _ _ 41 5 .u8 1 rfl Tryd.underlying41 info_u8 (by decide) _ [b] xs A _ _ rfl (by first | rfl | (rw [hm]; rfl)) HN.out HR.out (Below.refl _ _) (by simp; omega) (by simp [hm]; omega) ?_; intro v1 w1 hown1 hb1 hg1 hat1; rw [show ([b] ++ xs).length = m + 1 by simp [hm]] at hown1; obtain ⟨g', cap', rfl⟩ := ownsRow_succ hown1; have HO := Lib.hid hown1; have HG := Lib.hid hg1; clear hown1 hb1 hat1; have bx1 := box_grown HX.out _ hg1; have hc1 := bx1.cell; have hf1 := bx1.frozen; have HX1 := Lib.hid bx1; clear bx1 hg1)
  go_end0
  exact ⟨⟨_, rfl⟩, _, HX1.out.set _, HO.out.kept (grownBy_setCell' w1 B _) (.inr (HX1.out.not_row (by decide) HO.out).symm),
    Chg.setCell (S := fun z => z = B) (Chg.grown ((Chg.refl _ w).alloc _) HG.out fun r er => .inr (by have : w.heap.size = r := by simpa [Act.eval, Value.ownBlock] using er
                                                                                                      omega)) rfl _⟩
end Size
end Go.Proofs.YthnddhgkjkpmfaaDoor
/- size's encoded. -/
namespace Go.Proofs.YthnddhgkjkpmfaaDoor
set_option linter.unusedSimpArgs false
set_option linter.unusedVariables false
namespace Size
open Go.RowKit Go.Shelf Go.Proofs.YthnddhgkjkpmfaaDoorW.PrintWords
attribute [local go_sem] Oper.semAt_some
theorem encoded_no (n : Int) (a0 a1 a2 : Addr) (w : World) (h : GA a0 a1 a2 w) (hn : n < 0 ∨ 16777215 < n) :
    Calls Tryd.prog 38 #[.int .i64 n] w fun e w' => e = .returned (.tuple #[.string ⟨#[]⟩, werr n a2]) ∧ Below w.heap.size w w' := by
  have g2 := h.g2
  refine (callsIn_wide (n := 9)).1 ?_
  refine callsIn_of_wp_marks Tryd.func38 rfl trivial ?_ rfl
  simp only [Tryd.ntmps38, List.size_toArray, List.length_cons, List.length_nil, Nat.reduceAdd, Nat.reduceSub, Array.replicate_succ, Array.replicate_zero, List.push_toArray, List.append_toArray, List.nil_append, List.cons_append]
  have hd : (decide (n < 0) || decide (16777215 < n)) = true := by simpa using hn
  gi_wp2_with fail
  all_goals first | rw [hd] | skip
  all_goals refine ⟨trivial, (callsIn_wide.2 (first_yes n a2 w.heap.size _ (World.alloc_heap_new w _))).mono ?_⟩
  all_goals (rintro e w1 ⟨rfl, hE1⟩; have hb1 := (Below.refl _ (w.alloc (.cells #[.bool true, ese a2] 84))).alloc (Nat.le_refl _) (.cells #[.bool true, ese a2] 84); rw [← hE1] at hb1; clear hE1)
  all_goals gi_wp2
  all_goals exact ⟨_, results_tmp2 rfl _ _ _, rfl, bl_trans ((Below.refl _ _).alloc (Nat.le_refl _) _) hb1⟩
set_option maxRecDepth 100000 in
theorem encoded_1 (n : Int) (a0 a1 a2 : Addr) (w : World) (h : GA a0 a1 a2 w) (hn0 : 0 ≤ n) (hn : n < 128) :
    Calls Tryd.prog 38 #[.int .i64 n] w fun e w' => e = .returned (.tuple #[.string (strOfNums [n]), .nilIface]) ∧ Below w.heap.size w w' := by
  have g2 := h.g2
  refine (callsIn_wide (n := 9)).1 ?_
  refine callsIn_of_wp_marks Tryd.func38 rfl trivial ?_ rfl
  simp only [Tryd.ntmps38, List.size_toArray, List.length_cons, List.length_nil, Nat.reduceAdd, Nat.reduceSub, Array.replicate_succ, Array.replicate_zero, List.push_toArray, List.append_toArray, List.nil_append, List.cons_append]
  have hd : (decide (n < 0) || decide (16777215 < n)) = false := by simp; omega
  gi_wp2_with fail
  refine ⟨trivial, (callsIn_wide.2 (first_no n a2 w.heap.size _ (World.alloc_heap_new w _))).mono ?_⟩
  rintro e w1 ⟨rfl, hE1⟩; have hb1 := (Below.refl _ (w.alloc (.cells #[.bool false, ese a2] 84))).alloc (Nat.le_refl _) (.cells #[.bool false, ese a2] 84); rw [← hE1] at hb1; clear hE1
  have hrow : (w1.alloc (.cells #[.int .u8 n] 5)).ownsRow 0 5 1 (.slice (some ⟨w1.heap.size, 0, none⟩) 1 1) 1 (nums .u8 [n]) := by
    simpa [nums] using own_lit w1 0 5 .u8 [n] (Nat.zero_le _) (by simp)
  have hst := string_of_reads (P := Tryd.prog) (src := 41) (dst := 9) (c := 1) Tryd.underlying41 Tryd.underlying5 Tryd.underlying9 (own_reads' hrow)
  clear hrow
  gi_wp2_with fail
  exact ⟨_, results_tmp2 rfl _ _ _, rfl, bl_alloc (bl_trans ((Below.refl _ _).alloc (Nat.le_refl _) _) hb1) _⟩
def lo (n : Int) (k : Nat) : List Int := (List.range k).map fun j => n / 256 ^ j % 256
theorem lo_len (n : Int) (k : Nat) : (lo n k).length = k := by simp [lo]
set_option maxRecDepth 100000 in
set_option maxHeartbeats 2000000 in
theorem encoded_k (n : Int) (k : Nat) (a0 a1 a2 : Addr) (w : World) (h : GA a0 a1 a2 w) (hn0 : 128 ≤ n) (hn : n ≤ 16777215) (hk : k ≤ 3) (hpos : ∀ j, j < k → 0 < n / 256 ^ j) (hend : n / 256 ^ k = 0) :
    Calls Tryd.prog 38 #[.int .i64 n] w fun e w' => e = .returned (.tuple #[.string (strOfNums ((128 + k) :: (lo n k).reverse)), .nilIface]) ∧ Below w.heap.size w w' := by
  have g2 := h.g2
  have hit := parts_it (9 - 1) (by decide) k (fun j => n / 256 ^ j) (fun j => by rw [Int.pow_succ, Int.ediv_ediv_of_nonneg (by exact Int.pow_nonneg (by decide))]) (by simp; omega) (by simp; omega) hpos hend
  refine (callsIn_wide (n := 9)).1 ?_
  refine callsIn_of_wp_marks Tryd.func38 rfl trivial ?_ rfl
  simp only [Tryd.ntmps38, List.size_toArray, List.length_cons, List.length_nil, Nat.reduceAdd, Nat.reduceSub, Array.replicate_succ, Array.replicate_zero, List.push_toArray, List.append_toArray, List.nil_append, List.cons_append]
  have hd : (decide (n < 0) || decide (16777215 < n)) = false := by simp; omega
  have HIT := Lib.hid hit
  clear hpos hend hit
  gi_wp2_with fail
  refine ⟨trivial, (callsIn_wide.2 (first_no n a2 w.heap.size _ (World.alloc_heap_new w _))).mono ?_⟩
  rintro e w1 ⟨rfl, hE1⟩; have hb1 := (Below.refl _ (w.alloc (.cells #[.bool false, ese a2] 84))).alloc (Nat.le_refl _) (.cells #[.bool false, ese a2] 84); rw [← hE1] at hb1; clear hE1
  gi_wp2_with fail
  refine ⟨trivial, (callsIn_wide.2 (parts_any n _)).mono ?_⟩
  rintro e w2 ⟨rfl, rfl⟩
  gi_wp2_with fail
  have bO : Boxed (w1.alloc (.cells #[.slice none 0 0] 41)) w1.heap.size 41 (.slice none 0 0) := Boxed.new w1 _ _
  have bF : Boxed ((w1.alloc (.cells #[.slice none 0 0] 41)).alloc (.cells #[(.func (.func 50) #[] #[.pointer (some ⟨w1.heap.size, 0, none⟩)])] 85)) (w1.heap.size + 1) 85 (.func (.func 50) #[] #[.pointer (some ⟨w1.heap.size, 0, none⟩)]) := by
    have := Boxed.new (w1.alloc (.cells #[.slice none 0 0] 41)) 85 (.func (.func 50) #[] #[.pointer (some ⟨w1.heap.size, 0, none⟩)]); simpa using this
  have bO' := (bO.alloc (.cells #[(.func (.func 50) #[] #[.pointer (some ⟨w1.heap.size, 0, none⟩)])] 85)).alloc (.cells #[.int .i64 n] 3)
  have bF' := bF.alloc (.cells #[.int .i64 n] 3)
  have hN : (((w1.alloc (.cells #[.slice none 0 0] 41)).alloc (.cells #[(.func (.func 50) #[] #[.pointer (some ⟨w1.heap.size, 0, none⟩)])] 85)).alloc (.cells #[.int .i64 n] 3)).heap[w1.heap.size + 2]? = some (.cells #[.int .i64 n] 3) := by
    have := World.alloc_heap_new ((w1.alloc (.cells #[.slice none 0 0] 41)).alloc (.cells #[(.func (.func 50) #[] #[.pointer (some ⟨w1.heap.size, 0, none⟩)])] 85)) (.cells #[.int .i64 n] 3); simpa using this
  have hsz : (((w1.alloc (.cells #[.slice none 0 0] 41)).alloc (.cells #[(.func (.func 50) #[] #[.pointer (some ⟨w1.heap.size, 0, none⟩)])] 85)).alloc (.cells #[.int .i64 n] 3)).heap.size = w1.heap.size + 3 := by simp
  have hB0 : Below w.heap.size w (((w1.alloc (.cells #[.slice none 0 0] 41)).alloc (.cells #[(.func (.func 50) #[] #[.pointer (some ⟨w1.heap.size, 0, none⟩)])] 85)).alloc (.cells #[.int .i64 n] 3)) := bl_alloc (bl_alloc (bl_alloc (bl_trans ((Below.refl _ _).alloc (Nat.le_refl _) _) hb1) _) _) _
  have hw1 := bl_trans ((Below.refl w.heap.size w).alloc (Nat.le_refl _) (.cells #[.bool false, ese a2] 84)) hb1 |>.size
  have h5 : ∀ z, SJ (fun j => j = w1.heap.size + 2) (((w1.alloc (.cells #[.slice none 0 0] 41)).alloc (.cells #[(.func (.func 50) #[] #[.pointer (some ⟨w1.heap.size, 0, none⟩)])] 85)).alloc (.cells #[.int .i64 n] 3)).heap.size z → w1.heap.size + 2 ≤ z ∧ z < w1.heap.size + 5 := by
    intro z hz; unfold SJ at hz; rw [hsz] at hz; omega
  refine wpIn_range_it1 rfl (by decide) (gf := 63) (lb := #[.pointer (some ⟨w1.heap.size + 2, 0, none⟩)]) rfl trivial (enters_of Tryd.func63 (by kernel_rfl) rfl)
    (HIT.out (w1.heap.size + 2)) (fun W hc => by have := hc.heap hN (by simp); simpa using this) (fun j e => by subst e; left; simp) (fun _ => rfl)
    (fun j W => (∃ v, Boxed W w1.heap.size 41 v ∧ W.ownsRow (w1.heap.size + 5) 5 1 v ((lo n k).take j).reverse.length (nums .u8 ((lo n k).take j).reverse)) ∧ Boxed W (w1.heap.size + 1) 85 (.func (.func 50) #[] #[.pointer (some ⟨w1.heap.size, 0, none⟩)]) ∧ Below w.heap.size w W ∧ w1.heap.size + 3 ≤ W.heap.size)
    (fun _ _ _ => False) ?hI (fun _ _ _ _ h _ => h) ⟨⟨_, bO', World.ownsRow_nil _ _ _ _⟩, bF', hB0, by simp⟩
    ?a1 ?assign ?body ?done ?stop
  case assign =>
    intro l x A K hK
    gi_wp2
    exact hK
  case stop => rintro c j B _ h _; exact h.elim
  case hI =>
    rintro j A B ⟨⟨v, hv, hr⟩, hf, hb, hs⟩ hc
    exact ⟨⟨v, Boxed_chg hv hc (fun h => by have := h5 _ h; omega), ownsRow_chg hr hc (fun z hz => (h5 z hz).2)⟩, Boxed_chg hf hc (fun h => by have := h5 _ h; omega), Below.chg hb hc (by omega) (fun z hz => by have := h5 z hz; omega), by have := hc.size; omega⟩
  case body =>
    rintro j x A ⟨r, hlr⟩ hx ⟨⟨v, hv, hr⟩, hf, hb, hs⟩
    have hAs : w1.heap.size + 5 ≤ A.heap.size := by have := (Array.getElem?_eq_some_iff.1 hlr).1; rw [hsz] at this; omega
    have hjk : j < k := by have := (List.getElem?_eq_some_iff.1 hx).1; simpa using this
    have hc := hv.cell
    have hfc := hf.cell
    have htk : ((lo n k).take (j + 1)).reverse = x :: ((lo n k).take j).reverse := by
      rw [List.take_add_one, show (lo n k)[j]? = some x from hx]; simp
    have HTK := Lib.hid htk
    have HC := Lib.hid (lay_c x w1.heap.size (w1.heap.size + 5) v _ A (by omega) hAs hv hr (by simp; omega))
    clear htk hx hlr
    gi_wp2_with fail
    refine ⟨trivial, ((callsIn_wide.2 HC.out).inRound _).mono ?_⟩
    rintro e w3 ⟨⟨r, rfl⟩, v', hv', hr', hc'⟩
    gi_wp2
    refine ⟨hc'.mono (fun z hz h => ?_), ⟨v', hv', by rw [HTK.out]; exact hr'⟩, hc'.heap hf (by simp), Below.chg hb hc' (by omega) (fun z hz => by omega), by have := hc'.size; omega⟩
    have := h5 _ h; omega
  case done =>
    rintro B ⟨⟨v, hv, hr⟩, hf, hb, hs⟩ hK
    have hBs : w1.heap.size + 4 ≤ B.heap.size := by have := (Array.getElem?_eq_some_iff.1 hK).1; rw [hsz] at this; omega
    have hlen : (List.map (fun j => n / 256 ^ j % 256) (List.range k)).length = k := by simp
    rw [hlen, List.take_of_length_le (by simp [lo]), List.length_reverse, lo_len] at hr
    obtain ⟨A', c', rfl, hrd⟩ := own_reads hr
    have hle := own_le hr
    have hc := hv.cell
    have hfc := hf.cell
    have hlk : (lo n k).reverse.length = k := by simp [lo]
    have hr2 : B.ownsRow (w1.heap.size + 4) 5 1 (.slice A' k c') (lo n k).reverse.length (nums .u8 (lo n k).reverse) := by rw [hlk]; exact own_less hr (by omega)
    have HC := Lib.hid (lay_c (128 + k) w1.heap.size (w1.heap.size + 4) _ _ B (by omega) hBs hv hr2 (by simp [lo]; omega))
    have HB := Lib.hid hb
    rw [hsz] at hK
    have HK := Lib.hid hK
    clear hlen hrd hr hr2 hv hf hK hb
    gi_wp2_with fail
    refine ⟨trivial, (callsIn_wide.2 HC.out).mono ?_⟩
    rintro e w3 ⟨⟨r, rfl⟩, v', hv', hr', hc'⟩
    obtain ⟨A3, c3, rfl, hrd3⟩ := own_reads hr'
    have hle3 := own_le hr'
    have hcc := hv'.cell
    have hst := string_of_reads (P := Tryd.prog) (w := w3) (src := 41) (dst := 9) (c := c3) Tryd.underlying41 Tryd.underlying5 Tryd.underlying9 hrd3
    clear hrd3 hr'
    simp only [List.length_cons, hlk] at hst hcc hle3
    have hK3 := hc'.heap HK.out (by omega)
    gi_wp2_with fail
    refine ⟨by simp, .inl ⟨_, _, rfl, run_takeDeferred hK3, ?_⟩⟩
    exact ⟨_, results_tmp2 rfl _ _ _, rfl, Below.chg (Below.chg HB.out hc' (by omega) (fun z hz => by omega)) ((Chg.refl (fun z => w1.heap.size ≤ z) w3).putObj (by simp) _) (by have := hc'.size; omega) (fun z hz => by omega)⟩
end Size
end Go.Proofs.YthnddhgkjkpmfaaDoor
/- size's Encode and Size. -/
namespace Go.Proofs.YthnddhgkjkpmfaaDoor
set_option linter.unusedSimpArgs false
set_option linter.unusedVariables false
namespace Size
open Go.RowKit Go.Shelf Go.Proofs.YthnddhgkjkpmfaaDoorW.PrintWords
def esz (n : Int) : Nat := if n < 128 then 0 else if n < 256 then 1 else if n < 65536 then 2 else 3
def encS (n : Int) : ByteArray := if n < 0 ∨ 16777215 < n then ⟨#[]⟩ else if n < 128 then strOfNums [n] else strOfNums ((128 + esz n) :: (lo n (esz n)).reverse)
def encE (n : Int) : Int := if n < 0 ∨ 16777215 < n then 12 else 0
theorem encoded_ok (n : Int) (a0 a1 a2 : Addr) (w : World) (h : GA a0 a1 a2 w) (hn : ¬ (n < 0 ∨ 16777215 < n)) :
    Calls Tryd.prog 38 #[.int .i64 n] w fun e w' => e = .returned (.tuple #[.string (encS n), .nilIface]) ∧ Below w.heap.size w w' := by
  unfold encS
  rw [if_neg hn]
  by_cases h1 : n < 128
  · rw [if_pos h1]; exact encoded_1 n a0 a1 a2 w h (by omega) h1
  rw [if_neg h1]
  have p0 : n / 256 ^ 0 = n := by simp
  have p1 : n / 256 ^ 1 = n / 256 := by simp
  have p2 : n / 256 ^ 2 = n / 65536 := rfl
  have p3 : n / 256 ^ 3 = n / 16777216 := rfl
  by_cases h2 : n < 256
  · rw [show esz n = 1 by unfold esz; rw [if_neg h1, if_pos h2]]
    have hp : ∀ j, j < 1 → 0 < n / 256 ^ j := by
      intro j hj
      obtain rfl : j = 0 := by omega
      rw [p0]; omega
    exact encoded_k n 1 a0 a1 a2 w h (by omega) (by omega) (by decide) hp (by rw [p1]; omega)
  by_cases h3 : n < 65536
  · rw [show esz n = 2 by unfold esz; rw [if_neg h1, if_neg h2, if_pos h3]]
    have hp : ∀ j, j < 2 → 0 < n / 256 ^ j := by
      intro j hj
      rcases (show j = 0 ∨ j = 1 by omega) with rfl | rfl
      · rw [p0]; omega
      · rw [p1]; omega
    exact encoded_k n 2 a0 a1 a2 w h (by omega) (by omega) (by decide) hp (by rw [p2]; omega)
  · rw [show esz n = 3 by unfold esz; rw [if_neg h1, if_neg h2, if_neg h3]]
    have hp : ∀ j, j < 3 → 0 < n / 256 ^ j := by
      intro j hj
      rcases (show j = 0 ∨ j = 1 ∨ j = 2 by omega) with rfl | rfl | rfl
      · rw [p0]; omega
      · rw [p1]; omega
      · rw [p2]; omega
    exact encoded_k n 3 a0 a1 a2 w h (by omega) (by omega) (by decide) hp (by rw [p3]; omega)
theorem Encode_c (n : Int) (a0 a1 a2 : Addr) (w : World) (h : GA a0 a1 a2 w) :
    Calls Tryd.prog 25 #[.int .i64 n] w fun e w' => e = .returned (.tuple #[.string (encS n), .int .i64 (encE n)]) ∧ Below w.heap.size w w' := by
  go_enter Tryd.func25, Tryd.ntmps25
  by_cases hn : n < 0 ∨ 16777215 < n
  · have HE := Lib.hid (encoded_no n a0 a1 a2 w h hn)
    unfold encS encE
    rw [if_pos hn, if_pos hn]
    clear hn
    go_wp2_with fail
    refine HE.out.mono ?_
    rintro e w1 ⟨rfl, hb1⟩
    have HT := Lib.hid (told_size n a0 a1 a2 w1 (h.below hb1))
    go_wp2_with fail
    refine HT.out.mono ?_
    rintro e w2 ⟨rfl, hb2⟩
    go_wp2_with fail
    refine bodyPost_ret (v := .tuple #[.string ⟨#[]⟩, .int .i64 12]) (by simp [results, Tryd.results25, go_sem]) rfl ⟨rfl, bl_trans hb1 hb2⟩
  · have HE := Lib.hid (encoded_ok n a0 a1 a2 w h hn)
    unfold encE
    rw [if_neg hn]
    clear hn
    generalize encS n = s at HE ⊢
    go_wp2_with fail
    refine HE.out.mono ?_
    rintro e w1 ⟨rfl, hb1⟩
    have HT := Lib.hid (told_nil w1)
    go_wp2_with fail
    refine HT.out.mono ?_
    rintro e w2 ⟨rfl, hb2⟩
    go_wp2_with fail
    refine bodyPost_ret (v := .tuple #[.string s, .int .i64 0]) (by simp [results, Tryd.results25, go_sem]) rfl ⟨rfl, bl_trans hb1 hb2⟩
end Size
end Go.Proofs.YthnddhgkjkpmfaaDoor
/- size's reader. -/
namespace Go.Proofs.YthnddhgkjkpmfaaDoor
set_option linter.unusedSimpArgs false
set_option linter.unusedVariables false
namespace Size
open Go.RowKit Go.Shelf Go.Proofs.YthnddhgkjkpmfaaDoorW.PrintWords
attribute [local go_sem] Oper.semAt_some
theorem has_b (s : ByteArray) (at' n : Int) (b : Bool) (hb : decide (0 ≤ at' ∧ at' ≤ s.size ∧ n ≤ wrap64 (s.size - at')) = b) (w : World) :
    Calls Tryd.prog 77 #[.agg #[.string s, .int .i64 at'], .int .i64 n] w fun e w' => e = .returned (.bool b) ∧ w' = w.alloc (.cells #[.string s, .int .i64 at'] 143) := by
  rw [← hb]; exact has_c s at' n w
theorem row_two (w : World) (o1 o2 : Obj) : ((w.alloc o1).alloc o2).drew.heap[w.heap.size + 1]? = some o2 := by
  have := World.alloc_heap_new (w.alloc o1) o2
  rw [World.size_alloc] at this
  exact this
set_option maxRecDepth 100000 in
set_option maxHeartbeats 4000000 in
theorem read_short1 (s : ByteArray) (at' : Int) (R : Nat) (a0 a1 a2 : Addr) (w : World) (h : GA a0 a1 a2 w) (hR : w.heap[R]? = some (.cells #[.string s, .int .i64 at', .int .i64 0] 145 (0, 0)))
    (hs : s.size ≤ 100000) (hh : ¬ (0 ≤ at' ∧ at' < s.size)) :
    Calls Tryd.prog 74 #[.pointer (some ⟨R, 0, none⟩)] w fun e w' => e = .returned (werr 0 a0) ∧ Below w.heap.size w w' := by
  go_enter Tryd.func74, Tryd.ntmps74
  have hg := h.g0
  have c0 := cell_of_row w R 0 _ _ _ hR
  have c1 := cell_of_row w R 1 _ _ _ hR
  have c2 := cell_of_row w R 2 _ _ _ hR
  simp at c0 c1 c2
  have hlt := lt_of_cell c0
  have hdec : decide (0 ≤ at' ∧ at' ≤ s.size ∧ 1 ≤ wrap64 (s.size - at')) = false := by
    apply decide_eq_false; unfold wrap64; omega
  go_wp2_with fail
  have hgl := lt_of_cell hg
  simp only at hgl
  have HDEC := Lib.hid hdec
  clear hdec
  have HROW := Lib.hid (row_two w (.cells #[.string s, .int .i64 at'] 143) (.cells #[.bool true, ese a0] 84))
  go_region_with (first
    | (go_at_call 77; refine (has_b s at' 1 _ HDEC.out _).mono ?_; rintro e w' ⟨rfl, rfl⟩)
    | (go_at_call 49; refine (first_yes 0 a0 (w.heap.size + 1) _ HROW.out).mono ?_; rintro e w' ⟨rfl, rfl⟩))
  all_goals (go_wp2_with fail; go_ret; exact ⟨rfl, by repeat (first | exact Below.refl _ _ | refine bl_alloc ?_ _ | refine Below.drew ?_)⟩)
def Cells3 (s : ByteArray) (i n : Int) (R : Nat) (w : World) : Prop := w.heap[R]? = some (.cells #[.string s, .int .i64 i, .int .i64 n] 145 (0, 0))
end Size
end Go.Proofs.YthnddhgkjkpmfaaDoor
/- size's reader, in range. -/
namespace Go.Proofs.YthnddhgkjkpmfaaDoor
set_option linter.unusedSimpArgs false
set_option linter.unusedVariables false
namespace Size
open Go.RowKit Go.Shelf Go.Proofs.YthnddhgkjkpmfaaDoorW.PrintWords
attribute [local go_sem] Oper.semAt_some
theorem set_row {w : World} {b off : Nat} {cs : Array Value} {t : TypeId} (h : w.heap[b]? = some (.cells cs t (0, 0))) (v : Value) : (w.setCell ⟨b, off, none⟩ v).heap[b]? = some (.cells (cs.setIfInBounds off v) t (0, 0)) := by
  obtain ⟨hlt, hk⟩ := Array.getElem?_eq_some_iff.1 h
  show (w.heap.modify b _)[b]? = _
  rw [Array.getElem?_eq_getElem (by rw [Array.size_modify]; exact hlt), Array.getElem_modify_self, hk]
  rfl
theorem frozen_row {w : World} {b off : Nat} {cs : Array Value} {t : TypeId} (h : w.heap[b]? = some (.cells cs t (0, 0))) : w.frozen? ⟨b, off, none⟩ = false := by simp [World.frozen?, h]
def vl (s : ByteArray) (i : Int) (k : Nat) : Int := (List.range k).foldl (fun n (j : Nat) => n * 256 + bt s (i + j)) 0
theorem vl_succ (s : ByteArray) (i : Int) (k : Nat) : vl s i (k + 1) = vl s i k * 256 + bt s (i + k) := by simp [vl, List.range_succ]
def RdPost (s : ByteArray) (at' : Int) (R : Nat) (a0 a1 a2 : Addr) (w : World) : Ending → World → Prop := fun e w' => Chg (fun z => z = R) w w' ∧
  ((bt s at' < 128 ∧ e = .returned .nilIface ∧ Cells3 s (at' + 1) (bt s at') R w') ∨
   ((bt s at' = 128 ∨ 132 < bt s at') ∧ e = .returned (werr (bt s at') a1)) ∨
   (128 < bt s at' ∧ bt s at' ≤ 132 ∧ (s.size : Int) < at' + 1 + (bt s at' - 128) ∧ e = .returned (werr (bt s at' - 128) a0)) ∨
   (128 < bt s at' ∧ bt s at' ≤ 132 ∧ at' + 1 + (bt s at' - 128) ≤ (s.size : Int) ∧ 16777215 < vl s (at' + 1) (bt s at' - 128).toNat ∧ e = .returned (werr (vl s (at' + 1) (bt s at' - 128).toNat) a2)) ∨
   (128 < bt s at' ∧ bt s at' ≤ 132 ∧ at' + 1 + (bt s at' - 128) ≤ (s.size : Int) ∧ vl s (at' + 1) (bt s at' - 128).toNat ≤ 16777215 ∧ e = .returned .nilIface ∧ Cells3 s (at' + 1 + (bt s at' - 128)) (vl s (at' + 1) (bt s at' - 128).toNat) R w'))
set_option maxRecDepth 100000 in
set_option maxHeartbeats 40000000 in
theorem read_in_a (s : ByteArray) (at' : Int) (R : Nat) (a0 a1 a2 : Addr) (w : World) (h : GA a0 a1 a2 w) (hR : Cells3 s at' 0 R w)
    (hs : s.size ≤ 100000) (h0 : 0 ≤ at') (h1 : at' < s.size) (hk : bt s at' < 129 ∨ 132 < bt s at') :
    Calls Tryd.prog 74 #[.pointer (some ⟨R, 0, none⟩)] w (RdPost s at' R a0 a1 a2 w) := by
  go_enter Tryd.func74, Tryd.ntmps74
  have hg := h.g0
  have c0 := cell_of_row w R 0 _ _ _ hR
  have c1 := cell_of_row w R 1 _ _ _ hR
  have c2 := cell_of_row w R 2 _ _ _ hR
  simp at c0 c1 c2
  have hlt := lt_of_cell c0
  have hdec : decide (0 ≤ at' ∧ at' ≤ s.size ∧ 1 ≤ wrap64 (s.size - at')) = true := by
    apply decide_eq_true; unfold wrap64; omega
  go_wp2_with fail
  have hgl := lt_of_cell hg
  simp only at hgl
  have HDEC := Lib.hid hdec
  clear hdec
  have HROW := Lib.hid (row_two w (.cells #[.string s, .int .i64 at'] 143) (.cells #[.bool false, ese a0] 84))
  go_cut [3] from 7 (fun s3 wx => s3 = .nilIface ∧ Below w.heap.size w wx)
  case first =>
    go_region_with (first
      | (go_at_call 77; refine (has_b s at' 1 _ HDEC.out _).mono ?_; rintro e w' ⟨rfl, rfl⟩)
      | (go_at_call 49; refine (first_no 0 a0 (w.heap.size + 1) _ HROW.out).mono ?_; rintro e w' ⟨rfl, rfl⟩))
    all_goals (go_wp2_with fail; go_meet; exact ⟨rfl, by repeat (first | exact Below.refl _ _ | refine bl_alloc ?_ _ | refine Below.drew ?_)⟩)
  case rest =>
    obtain ⟨rfl, hb1⟩ := hcut
    have hR1 : Cells3 s at' 0 R wc := (Chg.of_below (S := fun _ => False) hb1).heap hR (by simp)
    clear c0 c1 c2 hlt hgl HDEC HROW hg
    have c0 := cell_of_row wc R 0 _ _ _ hR1
    have c1 := cell_of_row wc R 1 _ _ _ hR1
    have c2 := cell_of_row wc R 2 _ _ _ hR1
    simp at c0 c1 c2
    have f1 : wc.frozen? ⟨R, 1, none⟩ = false := frozen_row hR1
    have f2 : wc.frozen? ⟨R, 2, none⟩ = false := frozen_row hR1
    have hG1 := h.below hb1
    have e0 := hG1.g0
    have e1 := hG1.g1
    have e2 := hG1.g2
    have r0 : ¬ R = 5 := by rintro rfl; rw [c0] at e0; cases e0
    have r1 : ¬ R = 6 := by rintro rfl; rw [c0] at e1; cases e1
    have r2 : ¬ R = 4 := by rintro rfl; rw [c0] at e2; cases e2
    go_wp2_with fail
    go_region
    have hlt : at'.toNat < s.size := by omega
    obtain ⟨b, hbv⟩ : ∃ b : Int, ((s[at'.toNat]'hlt).toNat : Int) = b := ⟨_, rfl⟩
    have hbb : bt s at' = b := by rw [← hbv]; exact dif_pos hlt
    have hb0 : 0 ≤ b ∧ b ≤ 255 := by have := (s[at'.toNat]'hlt).toNat_lt; omega
    simp only [hbv]
    clear hbv
    have hC : Chg (fun z => z = R) w wc := Chg.of_below hb1
    by_cases k1 : b < 128
    · go_wp2_with fail
      go_ret
      exact ⟨((hC.setCell rfl _).setCell rfl _).drew, .inl ⟨by omega, rfl, by rw [hbb]; exact set_row (set_row hR1 _) _⟩⟩
    by_cases k2 : b = 128
    · go_wp2_with fail
      go_ret
      exact ⟨(hC.setCell rfl _).drew, .inr (.inl ⟨by omega, by rw [hbb, k2]; rfl⟩)⟩
    by_cases k3 : 132 < b
    · go_wp2_with fail
      go_ret
      exact ⟨(hC.setCell rfl _).drew, .inr (.inl ⟨by omega, by rw [hbb]; rfl⟩)⟩
    omega
end Size
end Go.Proofs.YthnddhgkjkpmfaaDoor
/- size's reader, in range. -/
namespace Go.Proofs.YthnddhgkjkpmfaaDoor
set_option linter.unusedSimpArgs false
set_option linter.unusedVariables false
namespace Size
open Go.RowKit Go.Shelf Go.Proofs.YthnddhgkjkpmfaaDoorW.PrintWords
attribute [local go_sem] Oper.semAt_some
set_option maxRecDepth 100000 in
set_option maxHeartbeats 40000000 in
theorem read_in_b (s : ByteArray) (at' : Int) (R : Nat) (a0 a1 a2 : Addr) (w : World) (h : GA a0 a1 a2 w) (hR : Cells3 s at' 0 R w)
    (hs : s.size ≤ 100000) (h0 : 0 ≤ at') (h1 : at' < s.size) (hk1 : 128 < bt s at') (hk2 : bt s at' ≤ 132) (hk3 : (s.size : Int) < at' + 1 + (bt s at' - 128)) :
    Calls Tryd.prog 74 #[.pointer (some ⟨R, 0, none⟩)] w (RdPost s at' R a0 a1 a2 w) := by
  go_enter Tryd.func74, Tryd.ntmps74
  have hg := h.g0
  have c0 := cell_of_row w R 0 _ _ _ hR
  have c1 := cell_of_row w R 1 _ _ _ hR
  have c2 := cell_of_row w R 2 _ _ _ hR
  simp at c0 c1 c2
  have hlt := lt_of_cell c0
  have hdec : decide (0 ≤ at' ∧ at' ≤ s.size ∧ 1 ≤ wrap64 (s.size - at')) = true := by
    apply decide_eq_true; unfold wrap64; omega
  go_wp2_with fail
  have hgl := lt_of_cell hg
  simp only at hgl
  have HDEC := Lib.hid hdec
  clear hdec
  have HROW := Lib.hid (row_two w (.cells #[.string s, .int .i64 at'] 143) (.cells #[.bool false, ese a0] 84))
  go_cut [3] from 7 (fun s3 wx => s3 = .nilIface ∧ Below w.heap.size w wx)
  case first =>
    go_region_with (first
      | (go_at_call 77; refine (has_b s at' 1 _ HDEC.out _).mono ?_; rintro e w' ⟨rfl, rfl⟩)
      | (go_at_call 49; refine (first_no 0 a0 (w.heap.size + 1) _ HROW.out).mono ?_; rintro e w' ⟨rfl, rfl⟩))
    all_goals (go_wp2_with fail; go_meet; exact ⟨rfl, by repeat (first | exact Below.refl _ _ | refine bl_alloc ?_ _ | refine Below.drew ?_)⟩)
  case rest =>
    obtain ⟨rfl, hb1⟩ := hcut
    have hR1 : Cells3 s at' 0 R wc := (Chg.of_below (S := fun _ => False) hb1).heap hR (by simp)
    clear c0 c1 c2 hlt hgl HDEC HROW hg
    have c0 := cell_of_row wc R 0 _ _ _ hR1
    have c1 := cell_of_row wc R 1 _ _ _ hR1
    have c2 := cell_of_row wc R 2 _ _ _ hR1
    simp at c0 c1 c2
    have f1 : wc.frozen? ⟨R, 1, none⟩ = false := frozen_row hR1
    have f2 : wc.frozen? ⟨R, 2, none⟩ = false := frozen_row hR1
    have hG1 := h.below hb1
    have e0 := hG1.g0
    have e1 := hG1.g1
    have e2 := hG1.g2
    have r0 : ¬ R = 5 := by rintro rfl; rw [c0] at e0; cases e0
    have r1 : ¬ R = 6 := by rintro rfl; rw [c0] at e1; cases e1
    have r2 : ¬ R = 4 := by rintro rfl; rw [c0] at e2; cases e2
    go_wp2_with fail
    go_region
    have hlt : at'.toNat < s.size := by omega
    obtain ⟨b, hbv⟩ : ∃ b : Int, ((s[at'.toNat]'hlt).toNat : Int) = b := ⟨_, rfl⟩
    have hbb : bt s at' = b := by rw [← hbv]; exact dif_pos hlt
    have hb0 : 0 ≤ b ∧ b ≤ 255 := by have := (s[at'.toNat]'hlt).toNat_lt; omega
    simp only [hbv]
    clear hbv
    have hC : Chg (fun z => z = R) w wc := Chg.of_below hb1
    rw [hbb] at hk1 hk2 hk3
    go_wp2_with fail
    generalize hW2 : (wc.setCell ⟨R, 1, none⟩ (.int .i64 (at' + 1))).drew = W2
    have hC2 : Chg (fun z => z = R) w W2 := by rw [← hW2]; exact (hC.setCell rfl _).drew
    have hR2 : Cells3 s (at' + 1) 0 R W2 := by rw [← hW2]; exact set_row hR1 _
    have q0 := hC2.cell h.g0 (fun e => r0 e.symm)
    have q2 := hC2.cell h.g2 (fun e => r2 e.symm)
    have qs0 := lt_of_cell q0
    simp only at qs0
    clear c0 c1 c2 f1 f2 e0 e1 e2 hG1 hb1 hC hR1 hW2
    have c0 := cell_of_row W2 R 0 _ _ _ hR2
    have c1 := cell_of_row W2 R 1 _ _ _ hR2
    have c2 := cell_of_row W2 R 2 _ _ _ hR2
    simp at c0 c1 c2
    have hRl := lt_of_cell c0
    simp only at hRl
    obtain ⟨k, hk⟩ : ∃ k : Nat, b - 128 = k := ⟨(b - 128).toNat, by omega⟩
    have HD := Lib.hid (has_b s (at' + 1) (b - 128) false (by apply decide_eq_false; unfold wrap64; omega))
    have HROW := Lib.hid (row_two W2 (.cells #[.string s, .int .i64 (at' + 1)] 143) (.cells #[.bool true, ese a0] 84))
    have HF := Lib.hid (show ∀ w', Chg (fun z => z = R) w w' → RdPost s at' R a0 a1 a2 w (.returned (werr (b - 128) a0)) w' from
      fun w' hc => ⟨hc, .inr (.inr (.inl ⟨by omega, by omega, by rw [hbb]; exact hk3, by rw [hbb]⟩))⟩)
    have HC := Lib.hid hC2
    clear h hR hs h0 h1 hbb hlt hb0 hk1 hk2 hk3 hk r0 r1 r2 q2 c2 hC2 hR2
    go_region_with (first
      | (go_at_call 77; refine (HD.out _).mono ?_; rintro e w' ⟨rfl, rfl⟩)
      | (go_at_call 49; refine (first_yes (b - 128) a0 (W2.heap.size + 1) _ HROW.out).mono ?_; rintro e w' ⟨rfl, rfl⟩))
    all_goals go_wp2_with fail
    all_goals go_ret
    all_goals exact HF.out _ (by repeat (first | exact HC.out | refine Chg.alloc ?_ _ | refine Chg.drew ?_))
end Size
end Go.Proofs.YthnddhgkjkpmfaaDoor
/- size's reader, in range. -/
namespace Go.Proofs.YthnddhgkjkpmfaaDoor
set_option linter.unusedSimpArgs false
set_option linter.unusedVariables false
namespace Size
open Go.RowKit Go.Shelf Go.Proofs.YthnddhgkjkpmfaaDoorW.PrintWords
attribute [local go_sem] Oper.semAt_some
theorem first_yes_b (n : Int) (b : Bool) (hb : b = true) (a : Addr) (g : Nat) (w : World) (hr : w.heap[g]? = some (.cells #[.bool b, ese a] 84 (0, 0))) :
    Calls Tryd.prog 49 #[.int .i64 n, .slice (some ⟨g, 0, none⟩) 1 1] w fun e' w' => e' = .returned (werr n a) ∧ w' = w.alloc (.cells #[.bool b, ese a] 84) := by
  subst hb; exact first_yes n a g w hr
theorem first_no_b (n : Int) (b : Bool) (hb : b = false) (a : Addr) (g : Nat) (w : World) (hr : w.heap[g]? = some (.cells #[.bool b, ese a] 84 (0, 0))) :
    Calls Tryd.prog 49 #[.int .i64 n, .slice (some ⟨g, 0, none⟩) 1 1] w fun e' w' => e' = .returned .nilIface ∧ w' = w.alloc (.cells #[.bool b, ese a] 84) := by
  subst hb; exact first_no n a g w hr
theorem row_one (w : World) (o1 : Obj) : (w.alloc o1).drew.heap[w.heap.size]? = some o1 := World.alloc_heap_new w o1
theorem bt_bd' (s : ByteArray) (i : Int) : 0 ≤ bt s i ∧ bt s i ≤ 255 := by
  unfold bt
  split
  · rename_i h; have := (s[i.toNat]'h).toNat_lt; omega
  · omega
theorem vl_bd4 (s : ByteArray) (i : Int) (k : Nat) (hk : k ≤ 3) : 0 ≤ vl s i k ∧ vl s i k < 16777216 := by
  have h0 : vl s i 0 = 0 := rfl
  have h1 := vl_succ s i 0
  have h2 := vl_succ s i 1
  have h3 := vl_succ s i 2
  have b0 := bt_bd' s (i + (0 : Nat))
  have b1 := bt_bd' s (i + (1 : Nat))
  have b2 := bt_bd' s (i + (2 : Nat))
  simp only [Nat.zero_add, Nat.reduceAdd] at h1 h2 h3
  rcases (show k = 0 ∨ k = 1 ∨ k = 2 ∨ k = 3 by omega) with rfl | rfl | rfl | rfl <;> omega
set_option maxRecDepth 100000 in
set_option maxHeartbeats 40000000 in
theorem read_in_c (s : ByteArray) (at' : Int) (R : Nat) (a0 a1 a2 : Addr) (w : World) (h : GA a0 a1 a2 w) (hR : Cells3 s at' 0 R w)
    (hs : s.size ≤ 100000) (h0 : 0 ≤ at') (h1 : at' < s.size) (hk1 : 128 < bt s at') (hk2 : bt s at' ≤ 132) (hk3 : at' + 1 + (bt s at' - 128) ≤ (s.size : Int)) :
    Calls Tryd.prog 74 #[.pointer (some ⟨R, 0, none⟩)] w (RdPost s at' R a0 a1 a2 w) := by
  go_enter Tryd.func74, Tryd.ntmps74
  have hg := h.g0
  have c0 := cell_of_row w R 0 _ _ _ hR
  have c1 := cell_of_row w R 1 _ _ _ hR
  have c2 := cell_of_row w R 2 _ _ _ hR
  simp at c0 c1 c2
  have hlt := lt_of_cell c0
  have hdec : decide (0 ≤ at' ∧ at' ≤ s.size ∧ 1 ≤ wrap64 (s.size - at')) = true := by
    apply decide_eq_true; unfold wrap64; omega
  go_wp2_with fail
  have hgl := lt_of_cell hg
  simp only at hgl
  have HDEC := Lib.hid hdec
  clear hdec
  have HROW := Lib.hid (row_two w (.cells #[.string s, .int .i64 at'] 143) (.cells #[.bool false, ese a0] 84))
  go_cut [3] from 7 (fun s3 wx => s3 = .nilIface ∧ Below w.heap.size w wx)
  case first =>
    go_region_with (first
      | (go_at_call 77; refine (has_b s at' 1 _ HDEC.out _).mono ?_; rintro e w' ⟨rfl, rfl⟩)
      | (go_at_call 49; refine (first_no 0 a0 (w.heap.size + 1) _ HROW.out).mono ?_; rintro e w' ⟨rfl, rfl⟩))
    all_goals (go_wp2_with fail; go_meet; exact ⟨rfl, by repeat (first | exact Below.refl _ _ | refine bl_alloc ?_ _ | refine Below.drew ?_)⟩)
  case rest =>
    obtain ⟨rfl, hb1⟩ := hcut
    have hR1 : Cells3 s at' 0 R wc := (Chg.of_below (S := fun _ => False) hb1).heap hR (by simp)
    clear c0 c1 c2 hlt hgl HDEC HROW hg
    have c0 := cell_of_row wc R 0 _ _ _ hR1
    have c1 := cell_of_row wc R 1 _ _ _ hR1
    have c2 := cell_of_row wc R 2 _ _ _ hR1
    simp at c0 c1 c2
    have f1 : wc.frozen? ⟨R, 1, none⟩ = false := frozen_row hR1
    have f2 : wc.frozen? ⟨R, 2, none⟩ = false := frozen_row hR1
    have hG1 := h.below hb1
    have e0 := hG1.g0
    have e1 := hG1.g1
    have e2 := hG1.g2
    have r0 : ¬ R = 5 := by rintro rfl; rw [c0] at e0; cases e0
    have r1 : ¬ R = 6 := by rintro rfl; rw [c0] at e1; cases e1
    have r2 : ¬ R = 4 := by rintro rfl; rw [c0] at e2; cases e2
    go_wp2_with fail
    go_region
    have hlt : at'.toNat < s.size := by omega
    obtain ⟨b, hbv⟩ : ∃ b : Int, ((s[at'.toNat]'hlt).toNat : Int) = b := ⟨_, rfl⟩
    have hbb : bt s at' = b := by rw [← hbv]; exact dif_pos hlt
    have hb0 : 0 ≤ b ∧ b ≤ 255 := by have := (s[at'.toNat]'hlt).toNat_lt; omega
    simp only [hbv]
    clear hbv
    have hC : Chg (fun z => z = R) w wc := Chg.of_below hb1
    rw [hbb] at hk1 hk2 hk3
    go_wp2_with fail
    generalize hW2 : (wc.setCell ⟨R, 1, none⟩ (.int .i64 (at' + 1))).drew = W2
    have hC2 : Chg (fun z => z = R) w W2 := by rw [← hW2]; exact (hC.setCell rfl _).drew
    have hR2 : Cells3 s (at' + 1) 0 R W2 := by rw [← hW2]; exact set_row hR1 _
    have q0 := hC2.cell h.g0 (fun e => r0 e.symm)
    have q2 := hC2.cell h.g2 (fun e => r2 e.symm)
    have qs0 := lt_of_cell q0
    simp only at qs0
    clear c0 c1 c2 f1 f2 e0 e1 e2 hG1 hb1 hC hR1 hW2
    have c0 := cell_of_row W2 R 0 _ _ _ hR2
    have c1 := cell_of_row W2 R 1 _ _ _ hR2
    have c2 := cell_of_row W2 R 2 _ _ _ hR2
    simp at c0 c1 c2
    have hRl := lt_of_cell c0
    simp only at hRl
    obtain ⟨k, hk⟩ : ∃ k : Nat, b - 128 = k := ⟨(b - 128).toNat, by omega⟩
    have HD := Lib.hid (has_b s (at' + 1) (b - 128) true (by apply decide_eq_true; unfold wrap64; omega))
    have HROW := Lib.hid (row_two W2 (.cells #[.string s, .int .i64 (at' + 1)] 143) (.cells #[.bool false, ese a0] 84))
    have HH := Lib.hid h
    have HC := Lib.hid hC2
    have HR := Lib.hid hR2
    have HB := Lib.hid (And.intro hs (And.intro h0 (And.intro hk1 (And.intro hk2 (And.intro hk3 (And.intro hk (And.intro hbb (And.intro r2 h1))))))))
    clear h hR hs h0 h1 hbb hlt hb0 hk1 hk2 hk3 hk r0 r1 r2 q2 c2 hC2 hR2
    go_cut [6] from 7 (fun s6 wx => s6 = .nilIface ∧ Below W2.heap.size W2 wx)
    case first =>
      go_region_with (first
        | (go_at_call 77; refine (HD.out _).mono ?_; rintro e w' ⟨rfl, rfl⟩)
        | (go_at_call 49; refine (first_no (b - 128) a0 (W2.heap.size + 1) _ HROW.out).mono ?_; rintro e w' ⟨rfl, rfl⟩))
      all_goals go_wp2_with fail
      all_goals go_meet
      all_goals exact ⟨rfl, by repeat (first | exact Below.refl _ _ | refine bl_alloc ?_ _ | refine Below.drew ?_)⟩
    case rest =>
      obtain ⟨rfl, hb3⟩ := hcut
      clear c0 c1 hRl qs0 q0 HD HROW
      obtain ⟨hs, h0, hk1, hk2, hk3, hk, hbb, r2, h1⟩ := HB.out
      have hC3 : Chg (fun z => z = R) w wc := HC.out.call hb3
      have hR3 : Cells3 s (at' + 1) 0 R wc := (Chg.of_below (S := fun _ => False) hb3).heap HR.out (by simp)
      clear hb3 HR HC
      go_wp2_with fail
      go_loopw [78] (fun i wr => ∃ j : Nat, (j : Int) ≤ b - 128 ∧ i = .int .i64 j ∧ Chg (fun z => z = R) w wr ∧ Cells3 s (at' + 1 + j) (vl s (at' + 1) j) R wr) (fun i _ => (b - 128 - intOf i).toNat)
      case atStart => exact ⟨0, by omega, rfl, hC3, by rw [vl]; simpa using hR3⟩
      case round =>
        obtain ⟨j, hj, rfl, hCr, hRr⟩ := hrel
        have c0 := cell_of_row wr R 0 _ _ _ hRr
        have c1 := cell_of_row wr R 1 _ _ _ hRr
        have c2 := cell_of_row wr R 2 _ _ _ hRr
        simp at c0 c1 c2
        have f1 : wr.frozen? ⟨R, 1, none⟩ = false := frozen_row hRr
        have f2 : wr.frozen? ⟨R, 2, none⟩ = false := frozen_row hRr
        by_cases hjk : (j : Int) < b - 128
        · have x0 : 0 ≤ at' + 1 + (j : Int) := by omega
          have x1 : at' + 1 + (j : Int) < s.size := by omega
          have hlt : (at' + 1 + (j : Int)).toNat < s.size := by omega
          have hv := vl_bd4 s (at' + 1) j (by omega)
          have hs2 := vl_succ s (at' + 1) j
          have hsz : j < k := by omega
          obtain ⟨i, hi⟩ : ∃ i : Int, at' + 1 + (j : Int) = i := ⟨_, rfl⟩
          obtain ⟨n, hn⟩ : ∃ n : Int, vl s (at' + 1) j = n := ⟨_, rfl⟩
          rw [hi] at c1 x0 x1 hs2 hRr
          rw [hn] at c2 hv hs2 hRr
          have hlt : i.toNat < s.size := by omega
          have hbt : bt s i = ((s[i.toNat]'hlt).toNat : Int) := dif_pos hlt
          have hbb0 := bt_bd' s i
          have hval : wrap64 (wrap64 (n * 256) + wrap64 ((s[i.toNat]'hlt).toNat : Int)) = vl s (at' + 1) (j + 1) := by
            rw [hs2, ← hbt]; unfold wrap64; omega
          have HI := Lib.hid hi
          have HV := Lib.hid hval
          have HRR := Lib.hid hRr
          have HCR := Lib.hid hCr
          clear hi hn hs2 hbt hbb0 hval hRr hCr hv hC3 hR3
          go_wp2_with fail
          go_region
          go_wp2_with fail
          go_roundw
          case rel =>
            refine ⟨j + 1, by omega, by congr 1, ((HCR.out.setCell rfl _).setCell rfl _).drew, ?_⟩
            rw [← HV.out, show at' + 1 + ((j + 1 : Nat) : Int) = i + 1 by have := HI.out; omega]
            exact set_row (set_row HRR.out _) _
          case measure => simp [intOf]; omega
        · have hje : (j : Int) = b - 128 := by omega
          have hjt : (bt s at' - 128).toNat = j := by omega
          obtain ⟨n, hn⟩ : ∃ n : Int, vl s (at' + 1) j = n := ⟨_, rfl⟩
          have q2 := hCr.cell HH.out.g2 (fun e => r2 e.symm)
          have qs2 := lt_of_cell q2
          simp only at qs2
          have hRl := lt_of_cell c0
          simp only at hRl
          by_cases hm : 16777215 < n
          · have HF := Lib.hid (show ∀ w', Chg (fun z => z = R) wr w' → RdPost s at' R a0 a1 a2 w (.returned (werr n a2)) w' from
              fun w' hc => ⟨hCr.trans hc, .inr (.inr (.inr (.inl ⟨by omega, by omega, by omega, by rw [hjt, hn]; exact hm, by rw [hjt, hn]⟩)))⟩)
            have HROW := Lib.hid (row_one wr (.cells #[.bool (decide (16777215 < n)), ese a2] 84))
            have HD := Lib.hid (show decide (16777215 < n) = true from decide_eq_true hm)
            rw [hn] at c2
            clear hCr hRr hn hm hjt hje hC3 hR3 hs h0 hk1 hk2 hk3 hk hbb r2 h1 hj f1 f2
            go_wp2_with fail
            go_region_with (go_at_call 49; refine (first_yes_b n _ HD.out a2 wr.heap.size _ HROW.out).mono ?_; rintro e w' ⟨rfl, rfl⟩)
            all_goals go_wp2_with fail
            all_goals go_ret
            all_goals exact HF.out _ (by repeat (first | exact Chg.refl _ _ | refine Chg.alloc ?_ _ | refine Chg.drew ?_))
          · have HF := Lib.hid (show ∀ w', Chg (fun _ => False) wr w' → RdPost s at' R a0 a1 a2 w (.returned .nilIface) w' from
              fun w' hc => ⟨hCr.trans (hc.mono (fun _ h => h.elim)), .inr (.inr (.inr (.inr ⟨by omega, by omega, by omega, by rw [hjt, hn]; omega, rfl, by rw [hjt, show bt s at' - 128 = (j : Int) by omega]; exact hc.heap hRr (by simp)⟩)))⟩)
            have HROW := Lib.hid (row_one wr (.cells #[.bool (decide (16777215 < n)), ese a2] 84))
            have HD := Lib.hid (show decide (16777215 < n) = false from decide_eq_false hm)
            rw [hn] at c2
            clear hCr hRr hn hm hjt hje hC3 hR3 hs h0 hk1 hk2 hk3 hk hbb r2 h1 hj f1 f2
            go_wp2_with fail
            go_region_with (go_at_call 49; refine (first_no_b n _ HD.out a2 wr.heap.size _ HROW.out).mono ?_; rintro e w' ⟨rfl, rfl⟩)
            all_goals go_wp2_with fail
            all_goals go_ret
            all_goals exact HF.out _ (by repeat (first | exact Chg.refl _ _ | refine Chg.alloc ?_ _ | refine Chg.drew ?_))
end Size
end Go.Proofs.YthnddhgkjkpmfaaDoor
/- size's Decode. -/
namespace Go.Proofs.YthnddhgkjkpmfaaDoor
set_option linter.unusedSimpArgs false
set_option linter.unusedVariables false
namespace Size
open Go.RowKit Go.Shelf Go.Proofs.YthnddhgkjkpmfaaDoorW.PrintWords
attribute [local go_sem] Oper.semAt_some
def decS (s : ByteArray) (i : Int) : Int × Int × Int :=
  if 0 ≤ i ∧ i < s.size then
    if bt s i < 128 then (bt s i, i + 1, 0)
    else if bt s i = 128 ∨ 132 < bt s i then (0, 0, 11)
    else if (s.size : Int) < i + 1 + (bt s i - 128) then (0, 0, 10)
    else if 16777215 < vl s (i + 1) (bt s i - 128).toNat then (0, 0, 12)
    else (vl s (i + 1) (bt s i - 128).toNat, i + 1 + (bt s i - 128), 0)
  else (0, 0, 10)
def DPost (s : ByteArray) (i : Int) (R : Nat) (a0 a1 a2 : Addr) (w : World) : Ending → World → Prop := fun e w' => Chg (fun z => z = R) w w' ∧
  (((decS s i).2.2 = 0 ∧ e = .returned .nilIface ∧ Cells3 s (decS s i).2.1 (decS s i).1 R w') ∨
   (decS s i = (0, 0, 10) ∧ ∃ m, e = .returned (werr m a0)) ∨
   (decS s i = (0, 0, 11) ∧ ∃ m, e = .returned (werr m a1)) ∨
   (decS s i = (0, 0, 12) ∧ ∃ m, e = .returned (werr m a2)))
theorem read_all (s : ByteArray) (i : Int) (R : Nat) (a0 a1 a2 : Addr) (w : World) (h : GA a0 a1 a2 w) (hR : Cells3 s i 0 R w) (hs : s.size ≤ 100000) :
    Calls Tryd.prog 74 #[.pointer (some ⟨R, 0, none⟩)] w (DPost s i R a0 a1 a2 w) := by
  by_cases h0 : 0 ≤ i ∧ i < s.size
  · have hin : ∀ e w', RdPost s i R a0 a1 a2 w e w' → DPost s i R a0 a1 a2 w e w' := by
      rintro e w' ⟨hc, H⟩
      refine ⟨hc, ?_⟩
      unfold decS
      rw [if_pos h0]
      rcases H with ⟨k1, he, hc3⟩ | ⟨k1, he⟩ | ⟨k1, k2, k3, he⟩ | ⟨k1, k2, k3, k4, he⟩ | ⟨k1, k2, k3, k4, he, hc3⟩
      · rw [if_pos k1]; exact .inl ⟨rfl, he, hc3⟩
      · rw [if_neg (by omega), if_pos k1]; exact .inr (.inr (.inl ⟨rfl, _, he⟩))
      · rw [if_neg (by omega), if_neg (by omega), if_pos k3]; exact .inr (.inl ⟨rfl, _, he⟩)
      · rw [if_neg (by omega), if_neg (by omega), if_neg (by omega), if_pos k4]; exact .inr (.inr (.inr ⟨rfl, _, he⟩))
      · rw [if_neg (by omega), if_neg (by omega), if_neg (by omega), if_neg (by omega)]; exact .inl ⟨rfl, he, hc3⟩
    by_cases k1 : bt s i < 129 ∨ 132 < bt s i
    · exact (read_in_a s i R a0 a1 a2 w h hR hs h0.1 h0.2 k1).mono hin
    by_cases k2 : (s.size : Int) < i + 1 + (bt s i - 128)
    · exact (read_in_b s i R a0 a1 a2 w h hR hs h0.1 h0.2 (by omega) (by omega) k2).mono hin
    · exact (read_in_c s i R a0 a1 a2 w h hR hs h0.1 h0.2 (by omega) (by omega) (by omega)).mono hin
  · refine (read_short1 s i R a0 a1 a2 w h hR hs h0).mono ?_
    rintro e w' ⟨he, hb⟩
    refine ⟨Chg.of_below hb, .inr (.inl ⟨?_, _, he⟩)⟩
    unfold decS; rw [if_neg h0]
theorem Decode_c (s : ByteArray) (i : Int) (a0 a1 a2 : Addr) (w : World) (h : GA a0 a1 a2 w) (hs : s.size ≤ 100000) :
    Calls Tryd.prog 70 #[.string s, .int .i64 i] w fun e w' => e = .returned (.tuple #[.int .i64 (decS s i).1, .int .i64 (decS s i).2.1, .int .i64 (decS s i).2.2]) ∧ Below w.heap.size w w' := by
  go_enter Tryd.func70, Tryd.ntmps70
  have hB0 : Below w.heap.size w (w.alloc (.cells #[.string s, .int .i64 i, .int .i64 0] 145)) := (Below.refl _ _).alloc (Nat.le_refl _) _
  have HR := Lib.hid (read_all s i w.heap.size a0 a1 a2 _ (h.below hB0) (World.alloc_heap_new w _) hs)
  go_wp2_with fail
  refine HR.out.mono ?_
  rintro e w1 ⟨hc, H⟩
  have hB1 : Below w.heap.size w w1 := Below.chg hB0 hc (by simp) (fun k hk => by omega)
  have hG1 := h.below hB1
  clear HR
  rcases H with ⟨hd, rfl, hc3⟩ | ⟨hd, m, rfl⟩ | ⟨hd, m, rfl⟩ | ⟨hd, m, rfl⟩
  · obtain ⟨x, hx⟩ : ∃ x, (decS s i).1 = x := ⟨_, rfl⟩
    obtain ⟨y, hy⟩ : ∃ y, (decS s i).2.1 = y := ⟨_, rfl⟩
    rw [hx, hy] at hc3
    have HX := Lib.hid hx
    have HY := Lib.hid hy
    have HD := Lib.hid hd
    clear hx hy
    have c0 := cell_of_row w1 w.heap.size 0 _ _ _ hc3
    have c1 := cell_of_row w1 w.heap.size 1 _ _ _ hc3
    have c2 := cell_of_row w1 w.heap.size 2 _ _ _ hc3
    simp at c0 c1 c2
    clear hd hc hc3
    go_wp2_with fail
    go_region
    go_wp2_with fail
    refine bodyPost_ret (v := .tuple #[.int .i64 x, .int .i64 y, .int .i64 0]) (by simp [results, Tryd.results70, go_sem]) rfl ⟨by rw [HX.out, HY.out, HD.out], hB1.drew⟩
  · have HD := Lib.hid hd
    have HT := Lib.hid (told_short m a0 a1 a2 w1 hG1)
    clear hd hc
    go_wp2_with fail
    refine HT.out.mono ?_
    rintro e w2 ⟨rfl, hb2⟩
    go_wp2_with fail
    refine bodyPost_ret (v := .tuple #[.int .i64 0, .int .i64 0, .int .i64 10]) (by simp [results, Tryd.results70, go_sem]) rfl ⟨by rw [HD.out], bl_trans hB1 hb2⟩
  · have HD := Lib.hid hd
    have HT := Lib.hid (told_form m a0 a1 a2 w1 hG1)
    clear hd hc
    go_wp2_with fail
    refine HT.out.mono ?_
    rintro e w2 ⟨rfl, hb2⟩
    go_wp2_with fail
    refine bodyPost_ret (v := .tuple #[.int .i64 0, .int .i64 0, .int .i64 11]) (by simp [results, Tryd.results70, go_sem]) rfl ⟨by rw [HD.out], bl_trans hB1 hb2⟩
  · have HD := Lib.hid hd
    have HT := Lib.hid (told_size m a0 a1 a2 w1 hG1)
    clear hd hc
    go_wp2_with fail
    refine HT.out.mono ?_
    rintro e w2 ⟨rfl, hb2⟩
    go_wp2_with fail
    refine bodyPost_ret (v := .tuple #[.int .i64 0, .int .i64 0, .int .i64 12]) (by simp [results, Tryd.results70, go_sem]) rfl ⟨by rw [HD.out], bl_trans hB1 hb2⟩
end Size
end Go.Proofs.YthnddhgkjkpmfaaDoor
/- Trees, plainly: all that are in one, their bytes, trees of bytes. No program in sight. -/
namespace Go.Proofs.YthnddhgkjkpmfaaDoor
set_option linter.unusedSimpArgs false
set_option linter.unusedVariables false
namespace Tlv
open Go.RowKit Go.Proofs.YthnddhgkjkpmfaaDoorW.PrintWords Go.Proofs.YthnddhgkjkpmfaaDoor.PureB Go.Proofs.YthnddhgkjkpmfaaDoor.KTlv
abbrev Nd := S24
mutual
def pre : Int → Nd → List (Int × Nd)
  | d, ⟨t, s, ks⟩ => (d, ⟨t, s, ks⟩) :: preL (d + 1) ks
def preL : Int → List Nd → List (Int × Nd)
  | _, [] => []
  | d, k :: ks => pre d k ++ preL d ks
end
def inner (t : Int) : Bool := decide (t / 32 % 2 = 1)
def one (n : Nd) : Bool := decide (0 ≤ n.f0) && (decide (n.f0 ≤ 255) && (decide (n.f0 % 32 ≠ 31) && (if inner n.f0 = true then decide (n.f1.size = 0) else decide (n.f2.length = 0))))
def okAt (x : Int × Nd) : Bool := decide (x.1 ≤ 12) && (one x.2 && decide (x.2.f1.size ≤ 4000))
def shaped (n : Nd) : Bool := decide ((pre 1 n).length ≤ 200) && (pre 1 n).all okAt
def joined (t : Int) (b : ByteArray) : ByteArray := strOfNums [t] ++ Size.encS (b.size : Int) ++ b
mutual
def laid : Nd → ByteArray
  | ⟨t, s, ks⟩ => joined t (laidL ks ++ s)
def laidL : List Nd → ByteArray
  | [] => ⟨#[]⟩
  | k :: ks => laid k ++ laidL ks
end
def right (n : Nd) : Bool := shaped n && decide ((laid n).size ≤ 4000)
mutual
def same : Nd → Nd → Bool
  | ⟨t, s, ks⟩, y => decide (t = y.f0) && (decide (s = y.f1) && sameL ks y.f2)
def sameL : List Nd → List Nd → Bool
  | [], l => l.isEmpty
  | k :: ks, l => match l with
    | [] => false
    | y :: ys => same k y && sameL ks ys
end
mutual
theorem same_iff : ∀ x y : Nd, same x y = true ↔ x = y
  | ⟨t, s, ks⟩, ⟨t', s', ks'⟩ => by
    simp only [same, Bool.and_eq_true, decide_eq_true_eq, sameL_iff ks ks']
    constructor
    · rintro ⟨rfl, rfl, rfl⟩; rfl
    · intro h; injection h with a b c; exact ⟨a, b, c⟩
theorem sameL_iff : ∀ x y : List Nd, sameL x y = true ↔ x = y
  | [], l => by cases l <;> simp [sameL]
  | k :: ks, [] => by simp [sameL]
  | k :: ks, y :: ys => by simp only [sameL, Bool.and_eq_true, same_iff k y, sameL_iff ks ys, List.cons.injEq]
end
def hd (s : ByteArray) (at' n e d : Int) : Except Int (Int × Int) × Int :=
  if 200 < n + 1 ∨ 12 < d then (.error 21, at')
  else if e - at' < 1 then (.error 10, at')
  else if bt s at' % 32 = 31 then (.error 20, at')
  else if (Size.decS (s.extract 0 e.toNat) (at' + 1)).2.2 ≠ 0 then (.error (Size.decS (s.extract 0 e.toNat) (at' + 1)).2.2, at')
  else if e - (Size.decS (s.extract 0 e.toNat) (at' + 1)).2.1 < (Size.decS (s.extract 0 e.toNat) (at' + 1)).1 then (.error 10, (Size.decS (s.extract 0 e.toNat) (at' + 1)).2.1)
  else (.ok (bt s at', (Size.decS (s.extract 0 e.toNat) (at' + 1)).2.1 + (Size.decS (s.extract 0 e.toNat) (at' + 1)).1), (Size.decS (s.extract 0 e.toNat) (at' + 1)).2.1)
def rdK (R : Int → Int → Except Int Nd × Int × Int) (tag te : Int) : Nat → List Nd → Int → Int → Except Int Nd × Int × Int
  | 0, _, a, n => (.error 21, a, n)
  | k + 1, acc, a, n => if a < te then
      match R a n with
      | (.error x, a', n') => (.error x, a', n')
      | (.ok y, a', n') => rdK R tag te k (acc ++ [y]) a' n'
    else (.ok ⟨tag, ⟨#[]⟩, acc⟩, a, n)
def rd (s : ByteArray) : Nat → Int → Int → Int → Int → Except Int Nd × Int × Int
  | 0, a, n, _, _ => (.error 21, a, n + 1)
  | f + 1, a, n, e, d =>
    match hd s a n e d with
    | (.error x, a') => (.error x, a', n + 1)
    | (.ok (tag, te), a') => if inner tag = true then rdK (fun a n => rd s f a n te (d + 1)) tag te 201 [] a' (n + 1) else (.ok ⟨tag, s.extract a'.toNat te.toNat, []⟩, te, n + 1)
def z : Nd := ⟨0, ⟨#[]⟩, []⟩
def dec (s : ByteArray) (a : Int) : Nd × Int × Int :=
  if a < 0 ∨ (s.size : Int) < a then (z, 0, 10)
  else match rd s 13 a 0 s.size 1 with
    | (.error x, _, _) => (z, 0, x)
    | (.ok y, a', _) => if right y = true then (y, a', 0) else (z, 0, 21)
def whole (s : ByteArray) : Nd × Int := if (dec s 0).2.2 = 0 ∧ (dec s 0).2.1 ≠ s.size then (z, 11) else ((dec s 0).1, (dec s 0).2.2)
def enc (n : Nd) : ByteArray × Int := if right n = true then (laid n, 0) else (⟨#[]⟩, 21)
end Tlv
end Go.Proofs.YthnddhgkjkpmfaaDoor
/- Lengths, plainly: what a length's least bytes and a reading of them have to do with one another. No program in sight. -/
namespace Go.Proofs.YthnddhgkjkpmfaaDoor.SizeQ
set_option linter.unusedSimpArgs false
set_option linter.unusedVariables false
open Go.RowKit Go.Proofs.YthnddhgkjkpmfaaDoor.Size Go.Proofs.YthnddhgkjkpmfaaDoorW.PrintWords
theorem w64' {n : Int} (h : -9223372036854775808 ≤ n) (h2 : n ≤ 9223372036854775807) : wrap64 n = n := by unfold wrap64; omega
theorem son_size (xs : List Int) : (strOfNums xs).size = xs.length := by simp [strOfNums, ByteArray.size]
theorem bt_bd (s : ByteArray) (i : Int) : 0 ≤ bt s i ∧ bt s i ≤ 255 := by
  unfold bt
  split
  · rename_i h; have := (s[i.toNat]'h).toNat_lt; omega
  · omega
theorem vl0 (s : ByteArray) (i : Int) : vl s i 0 = 0 := rfl
theorem encS_bad {n : Int} (h : n < 0 ∨ 16777215 < n) : encS n = ⟨#[]⟩ ∧ encE n = 12 := by unfold encS encE; rw [if_pos h, if_pos h]; exact ⟨rfl, rfl⟩
theorem encE_ok {n : Int} (h : ¬ (n < 0 ∨ 16777215 < n)) : encE n = 0 := by unfold encE; rw [if_neg h]
theorem lo1 (n : Int) : (lo n 1).reverse = [n % 256] := by simp [lo, List.range_succ]
theorem lo2 (n : Int) : (lo n 2).reverse = [n / 256 % 256, n % 256] := by simp [lo, List.range_succ]
theorem lo3 (n : Int) : (lo n 3).reverse = [n / 65536 % 256, n / 256 % 256, n % 256] := by simp [lo, List.range_succ]
theorem enc_cases (n : Int) (h : ¬ (n < 0 ∨ 16777215 < n)) :
    (n < 128 ∧ encS n = strOfNums [n]) ∨ (128 ≤ n ∧ n < 256 ∧ encS n = strOfNums [129, n % 256]) ∨ (256 ≤ n ∧ n < 65536 ∧ encS n = strOfNums [130, n / 256 % 256, n % 256]) ∨
      (65536 ≤ n ∧ n < 16777216 ∧ encS n = strOfNums [131, n / 65536 % 256, n / 256 % 256, n % 256]) := by
  unfold encS
  rw [if_neg h]
  by_cases h1 : n < 128
  · left; rw [if_pos h1]; exact ⟨h1, rfl⟩
  rw [if_neg h1]
  by_cases h2 : n < 256
  · right; left; rw [show esz n = 1 by unfold esz; rw [if_neg h1, if_pos h2], lo1]; exact ⟨by omega, h2, rfl⟩
  by_cases h3 : n < 65536
  · right; right; left; rw [show esz n = 2 by unfold esz; rw [if_neg h1, if_neg h2, if_pos h3], lo2]; exact ⟨by omega, h3, rfl⟩
  · right; right; right; rw [show esz n = 3 by unfold esz; rw [if_neg h1, if_neg h2, if_neg h3], lo3]; exact ⟨by omega, by omega, rfl⟩
theorem enc_size (n : Int) (h : ¬ (n < 0 ∨ 16777215 < n)) : (encS n).size = if n < 128 then 1 else if n < 256 then 2 else if n < 65536 then 3 else 4 := by
  rcases enc_cases n h with ⟨h1, e⟩ | ⟨h1, h2, e⟩ | ⟨h1, h2, e⟩ | ⟨h1, h2, e⟩
  · rw [e, son_size, if_pos h1]; rfl
  · rw [e, son_size, if_neg (by omega), if_pos h2]; rfl
  · rw [e, son_size, if_neg (by omega), if_neg (by omega), if_pos h2]; rfl
  · rw [e, son_size, if_neg (by omega), if_neg (by omega), if_neg (by omega)]; rfl
theorem dec_cases (s : ByteArray) (i : Int) :
    (decS s i = (0, 0, 10) ∧ ¬ (0 ≤ i ∧ i < s.size)) ∨
    (0 ≤ i ∧ i < s.size ∧ bt s i < 128 ∧ decS s i = (bt s i, i + 1, 0)) ∨
    (0 ≤ i ∧ i < s.size ∧ (bt s i = 128 ∨ 132 < bt s i) ∧ decS s i = (0, 0, 11)) ∨
    (0 ≤ i ∧ i < s.size ∧ 128 < bt s i ∧ bt s i ≤ 132 ∧ (s.size : Int) < i + 1 + (bt s i - 128) ∧ decS s i = (0, 0, 10)) ∨
    (∃ k : Nat, 1 ≤ k ∧ k ≤ 4 ∧ bt s i = 128 + k ∧ 0 ≤ i ∧ i + 1 + k ≤ s.size ∧ 16777215 < vl s (i + 1) k ∧ decS s i = (0, 0, 12)) ∨
    (∃ k : Nat, 1 ≤ k ∧ k ≤ 4 ∧ bt s i = 128 + k ∧ 0 ≤ i ∧ i + 1 + k ≤ s.size ∧ vl s (i + 1) k ≤ 16777215 ∧ decS s i = (vl s (i + 1) k, i + 1 + k, 0)) := by
  by_cases h0 : 0 ≤ i ∧ i < s.size
  · by_cases h1 : bt s i < 128
    · right; left; refine ⟨h0.1, h0.2, h1, ?_⟩; unfold decS; rw [if_pos h0, if_pos h1]
    by_cases h2 : bt s i = 128 ∨ 132 < bt s i
    · right; right; left; refine ⟨h0.1, h0.2, h2, ?_⟩; unfold decS; rw [if_pos h0, if_neg h1, if_pos h2]
    by_cases h3 : (s.size : Int) < i + 1 + (bt s i - 128)
    · right; right; right; left; refine ⟨h0.1, h0.2, by omega, by omega, h3, ?_⟩; unfold decS; rw [if_pos h0, if_neg h1, if_neg h2, if_pos h3]
    obtain ⟨k, hk⟩ : ∃ k : Nat, bt s i = 128 + k := ⟨(bt s i - 128).toNat, by omega⟩
    have hkk : bt s i - 128 = k := by omega
    have hkn : (bt s i - 128).toNat = k := by omega
    by_cases h4 : 16777215 < vl s (i + 1) k
    · right; right; right; right; left
      refine ⟨k, by omega, by omega, hk, h0.1, by omega, h4, ?_⟩
      unfold decS; rw [if_pos h0, if_neg h1, if_neg h2, if_neg h3, hkn, if_pos h4]
    · right; right; right; right; right
      refine ⟨k, by omega, by omega, hk, h0.1, by omega, by omega, ?_⟩
      unfold decS; rw [if_pos h0, if_neg h1, if_neg h2, if_neg h3, hkn, if_neg h4, hkk]
  · left; refine ⟨?_, h0⟩; unfold decS; rw [if_neg h0]
theorem vl_bd (s : ByteArray) (i : Int) (k : Nat) : 0 ≤ vl s i k ∧ vl s i k < 256 ^ k := by
  induction k with
  | zero => simp [vl]
  | succ k ih =>
    have := bt_bd s (i + k)
    rw [vl_succ, Int.pow_succ]
    omega
theorem dec_ok (s : ByteArray) (i : Int) (h : (decS s i).2.2 = 0) : ¬ ((decS s i).1 < 0 ∨ 16777215 < (decS s i).1) ∧ 0 ≤ i ∧ i < s.size ∧ (decS s i).2.1 ≤ s.size ∧ i + ((encS (decS s i).1).size : Nat) ≤ (decS s i).2.1 ∧ (decS s i).2.1 ≤ i + 5 := by
  have hb := bt_bd s i
  rcases dec_cases s i with ⟨e, _⟩ | ⟨h0, h1, h2, e⟩ | ⟨_, _, _, e⟩ | ⟨_, _, _, _, _, e⟩ | ⟨_, _, _, _, _, _, _, e⟩ | ⟨k, k1, k4, hk, h0, h1, h2, e⟩
  · rw [e] at h; exact absurd h (by decide)
  · rw [e]
    have hn : ¬ (bt s i < 0 ∨ 16777215 < bt s i) := by omega
    have := enc_size _ hn
    rw [if_pos h2] at this
    exact ⟨hn, h0, h1, by show i + 1 ≤ _; omega, by show i + ((encS (bt s i)).size : Nat) ≤ i + 1; omega, by show i + 1 ≤ _; omega⟩
  · rw [e] at h; exact absurd h (by decide)
  · rw [e] at h; exact absurd h (by decide)
  · rw [e] at h; exact absurd h (by decide)
  · rw [e]
    have hv := vl_bd s (i + 1) k
    have hn : ¬ (vl s (i + 1) k < 0 ∨ 16777215 < vl s (i + 1) k) := by omega
    have hz := enc_size _ hn
    have hle : (encS (vl s (i + 1) k)).size ≤ 1 + k := by
      rw [hz]
      rcases (show k = 1 ∨ k = 2 ∨ k = 3 ∨ k = 4 by omega) with rfl | rfl | rfl | rfl
      · have : vl s (i + 1) 1 < 256 := hv.2
        split <;> (try split) <;> (try split) <;> omega
      · have : vl s (i + 1) 2 < 65536 := hv.2
        split <;> (try split) <;> (try split) <;> omega
      · split <;> (try split) <;> (try split) <;> omega
      · split <;> (try split) <;> (try split) <;> omega
    exact ⟨hn, h0, by omega, by show i + 1 + k ≤ _; omega, by show i + ((encS (vl s (i + 1) k)).size : Nat) ≤ i + 1 + k; omega, by show i + 1 + k ≤ _; omega⟩
theorem dec_no (s : ByteArray) (i : Int) (h : ¬ (decS s i).2.2 = 0) : (decS s i).1 = 0 ∧ (decS s i).2.1 = 0 := by
  rcases dec_cases s i with ⟨e, _⟩ | ⟨h0, h1, h2, e⟩ | ⟨_, _, _, e⟩ | ⟨_, _, _, _, _, e⟩ | ⟨_, _, _, _, _, _, _, e⟩ | ⟨k, k1, k4, hk, h0, h1, h2, e⟩
  all_goals rw [e] at h ⊢
  · exact ⟨rfl, rfl⟩
  · exact absurd rfl h
  · exact ⟨rfl, rfl⟩
  · exact ⟨rfl, rfl⟩
  · exact ⟨rfl, rfl⟩
  · exact absurd rfl h
end Go.Proofs.YthnddhgkjkpmfaaDoor.SizeQ
/- Trees, plainly: where bytes stand in a text; a tree is read from its bytes; what is read has no more bytes of its own. No program in sight. -/
namespace Go.Proofs.YthnddhgkjkpmfaaDoor
set_option linter.unusedSimpArgs false
set_option linter.unusedVariables false
namespace Tlv
open Go.RowKit Go.Proofs.YthnddhgkjkpmfaaDoorW.PrintWords Go.Proofs.YthnddhgkjkpmfaaDoor.PureB Go.Proofs.YthnddhgkjkpmfaaDoor.KTlv
theorem pre_len (d d' : Int) : ∀ (m : Nat) (x : Nd), SizeOf.sizeOf x < m → (pre d x).length = (pre d' x).length := by
  intro m
  induction m generalizing d d' with
  | zero => intro x h; exact absurd h (Nat.not_lt_zero _)
  | succ m ih =>
    rintro ⟨t, s, ks⟩ hx
    rw [pre, pre, List.length_cons, List.length_cons]
    congr 1
    have hk : ∀ l : List Nd, (∀ k ∈ l, SizeOf.sizeOf k < m) → (preL (d + 1) l).length = (preL (d' + 1) l).length := by
      intro l
      induction l with
      | nil => intro _; rfl
      | cons k l ihl =>
        intro hl
        rw [preL, preL, List.length_append, List.length_append, ihl (fun k hk => hl k (List.mem_cons_of_mem _ hk)), ih (d + 1) (d' + 1) k (hl k (List.mem_cons_self ..))]
    refine hk ks fun k hk => ?_
    have := List.sizeOf_lt_of_mem hk
    simp only [S24.mk.sizeOf_spec] at hx
    omega
theorem pre_len' (d d' : Int) (x : Nd) : (pre d x).length = (pre d' x).length := pre_len d d' _ x (Nat.lt_succ_self _)
theorem pre_pos (d : Int) (x : Nd) : 1 ≤ (pre d x).length := by obtain ⟨t, s, ks⟩ := x; rw [pre]; simp
theorem preL_len (d : Int) : ∀ ks : List Nd, ks.length ≤ (preL d ks).length
  | [] => by simp [preL]
  | k :: ks => by have := preL_len d ks; have := pre_pos d k; rw [preL, List.length_append, List.length_cons]; omega
theorem laidL_app : ∀ ks l : List Nd, laidL (ks ++ l) = laidL ks ++ laidL l
  | [], l => by rw [List.nil_append, laidL]; apply ByteArray.ext; simp
  | k :: ks, l => by rw [List.cons_append, laidL, laidL, laidL_app ks l, ByteArray.append_assoc]
theorem joined_size (t : Int) (b : ByteArray) : (joined t b).size = 1 + (Size.encS (b.size : Int)).size + b.size := by
  unfold joined
  rw [ByteArray.size_append, ByteArray.size_append]
  rfl
theorem enc_pos {n : Int} (h : ¬ (n < 0 ∨ 16777215 < n)) : 1 ≤ (Size.encS n).size := by
  rw [SizeQ.enc_size n h]
  split <;> (try split) <;> (try split) <;> omega
theorem nil_of_size {b : ByteArray} (h : b.size = 0) : b = ⟨#[]⟩ := ba_ext h (fun j hj => by omega)
theorem app_nil (b : ByteArray) : b ++ ⟨#[]⟩ = b := by apply ByteArray.ext; simp
theorem nil_app (b : ByteArray) : (⟨#[]⟩ : ByteArray) ++ b = b := by apply ByteArray.ext; simp
theorem all_pre {t : Int} {b : ByteArray} {ks : List Nd} {d : Int} {p : Int × Nd → Bool} (h : (pre d ⟨t, b, ks⟩).all p = true) : p (d, ⟨t, b, ks⟩) = true ∧ ∀ y ∈ ks, (pre (d + 1) y).all p = true := by
  rw [pre, List.all_cons, Bool.and_eq_true] at h
  refine ⟨h.1, ?_⟩
  have : ∀ l : List Nd, (preL (d + 1) l).all p = true → ∀ y ∈ l, (pre (d + 1) y).all p = true := by
    intro l
    induction l with
    | nil => intro _ y hy; cases hy
    | cons k l ih =>
      intro hl y hy
      rw [preL, List.all_append, Bool.and_eq_true] at hl
      rcases List.mem_cons.1 hy with rfl | hy
      · exact hl.1
      · exact ih hl.2 y hy
  exact this ks h.2
theorem laidL_mem {ks : List Nd} {y : Nd} (h : y ∈ ks) : (laid y).size ≤ (laidL ks).size := by
  induction ks with
  | nil => cases h
  | cons k ks ih =>
    rw [laidL, ByteArray.size_append]
    rcases List.mem_cons.1 h with rfl | h
    · omega
    · have := ih h; omega
theorem okAt_iff (d : Int) (x : Nd) : okAt (d, x) = true ↔ d ≤ 12 ∧ 0 ≤ x.f0 ∧ x.f0 ≤ 255 ∧ x.f0 % 32 ≠ 31 ∧ (inner x.f0 = true → x.f1.size = 0) ∧ (¬ inner x.f0 = true → x.f2 = []) ∧ x.f1.size ≤ 4000 := by
  unfold okAt one
  simp only [Bool.and_eq_true, decide_eq_true_eq]
  constructor
  · rintro ⟨h1, ⟨h2, h3, h4, h5⟩, h6⟩
    refine ⟨h1, h2, h3, h4, fun h => ?_, fun h => ?_, h6⟩
    · rw [if_pos h] at h5; simpa using h5
    · rw [if_neg h] at h5; simpa using h5
  · rintro ⟨h1, h2, h3, h4, h5, h6, h7⟩
    refine ⟨h1, ⟨h2, h3, h4, ?_⟩, h7⟩
    by_cases h : inner x.f0 = true
    · rw [if_pos h]; simpa using h5 h
    · rw [if_neg h]; simpa using h6 h
def okB (x : Int × Nd) : Bool := decide (x.1 ≤ 12) && one x.2
theorem bt_bd (s : ByteArray) (i : Int) : 0 ≤ bt s i ∧ bt s i ≤ 255 := SizeQ.bt_bd s i
theorem hd_ok {s : ByteArray} {a n e d t te a' : Int} (h : hd s a n e d = (.ok (t, te), a')) (ha : 0 ≤ a) (he : e ≤ s.size) :
    n + 1 ≤ 200 ∧ d ≤ 12 ∧ t = bt s a ∧ t % 32 ≠ 31 ∧ a + 1 + ((Size.encS (te - a')).size : Nat) ≤ a' ∧ a' ≤ te ∧ te ≤ e ∧ te - a' ≤ 16777215 ∧ a + 2 ≤ a' := by
  unfold hd at h
  split at h
  · cases h
  split at h
  · cases h
  split at h
  · cases h
  split at h
  · cases h
  split at h
  · cases h
  rename_i c1 c2 c3 c4 c5
  simp only [ne_eq, Decidable.not_not] at c4
  obtain ⟨g1, g2, g3, g4, g5, g6⟩ := SizeQ.dec_ok _ _ c4
  simp only [Prod.mk.injEq, Except.ok.injEq] at h
  obtain ⟨⟨rfl, h2⟩, h3⟩ := h
  have := enc_pos g1
  rw [h3] at h2 g5 g4 c5
  have hte : te - a' = (Size.decS (s.extract 0 e.toNat) (a + 1)).1 := by omega
  rw [hte]
  refine ⟨by omega, by omega, rfl, c3, by omega, by omega, by omega, by omega, by omega⟩
theorem enc_mono {m n : Int} (hm : 0 ≤ m) (h : m ≤ n) (hn : n ≤ 16777215) : (Size.encS m).size ≤ (Size.encS n).size := by
  rw [SizeQ.enc_size m (by omega), SizeQ.enc_size n (by omega)]
  split <;> split <;> (try split) <;> (try split) <;> (try split) <;> (try split) <;> omega
theorem preL_app (d : Int) : ∀ ks l : List Nd, preL d (ks ++ l) = preL d ks ++ preL d l
  | [], l => rfl
  | k :: ks, l => by rw [List.cons_append, preL, preL, preL_app d ks l, List.append_assoc]
theorem rdK_ok {s : ByteArray} {R : Int → Int → Except Int Nd × Int × Int} {t te d : Int} {p : Int × Nd → Bool}
    (hR : ∀ (a n : Int) (y : Nd) (a' n' : Int), 0 ≤ a → 0 ≤ n → R a n = (.ok y, a', n') → a + (laid y).size ≤ a' ∧ a + 2 ≤ a' ∧ a' ≤ te ∧ n' = n + (pre d y).length ∧ n' ≤ 200 ∧ (pre d y).all p = true) :
    ∀ (k : Nat) (acc : List Nd) (a n : Int) (y : Nd) (a' n' : Int), 0 ≤ a → a ≤ te → 0 ≤ n → n ≤ 200 → rdK R t te k acc a n = (.ok y, a', n') →
      ∃ ks, y = ⟨t, ⟨#[]⟩, acc ++ ks⟩ ∧ a' = te ∧ a + (laidL ks).size ≤ te ∧ n' = n + (preL d ks).length ∧ n' ≤ 200 ∧ (preL d ks).all p = true := by
  intro k
  induction k with
  | zero => intro acc a n y a' n' _ _ _ _ h; rw [rdK] at h; cases h
  | succ k ih =>
    intro acc a n y a' n' ha hae hn hn2 h
    rw [rdK] at h
    by_cases hlt : a < te
    · rw [if_pos hlt] at h
      cases hr : R a n with
      | mk r q =>
        obtain ⟨a1, n1⟩ := q
        rw [hr] at h
        cases r with
        | error x => cases h
        | ok z =>
          simp only at h
          obtain ⟨g1, g2, g3, g4, g5, g6⟩ := hR a n z a1 n1 ha hn hr
          obtain ⟨ks, rfl, h2, h3, h4, h5, h6⟩ := ih (acc ++ [z]) a1 n1 y a' n' (by omega) g3 (by omega) g5 h
          refine ⟨z :: ks, by rw [List.append_assoc]; rfl, h2, ?_, ?_, h5, ?_⟩
          · rw [laidL, ByteArray.size_append]; omega
          · rw [preL, List.length_append]; omega
          · rw [preL, List.all_append, Bool.and_eq_true]; exact ⟨g6, h6⟩
    · rw [if_neg hlt] at h
      simp only [Prod.mk.injEq, Except.ok.injEq] at h
      obtain ⟨rfl, rfl, rfl⟩ := h
      exact ⟨[], by rw [List.append_nil], by omega, by rw [laidL]; show a + ((0 : Nat) : Int) ≤ te; omega, by simp [preL], hn2, rfl⟩
theorem rd_ok {s : ByteArray} : ∀ (f : Nat) (a n e d : Int) (y : Nd) (a' n' : Int), 0 ≤ a → 0 ≤ n → e ≤ s.size → rd s f a n e d = (.ok y, a', n') →
    a + (laid y).size ≤ a' ∧ a + 2 ≤ a' ∧ a' ≤ e ∧ n' = n + (pre d y).length ∧ n' ≤ 200 ∧ (pre d y).all okB = true := by
  intro f
  induction f with
  | zero => intro a n e d y a' n' _ _ _ h; rw [rd] at h; cases h
  | succ f ih =>
    intro a n e d y a' n' ha hn he h
    rw [rd] at h
    cases hh : hd s a n e d with
    | mk r a1 =>
      rw [hh] at h
      cases r with
      | error x => cases h
      | ok q =>
        obtain ⟨t, te⟩ := q
        simp only at h
        obtain ⟨g1, g2, g3, g4, g5, g6, g7, g8, g9⟩ := hd_ok hh ha he
        have hbt := bt_bd s a
        rw [← g3] at hbt
        by_cases hi : inner t = true
        · rw [if_pos hi] at h
          obtain ⟨ks, rfl, rfl, h3, h4, h5, h6⟩ := rdK_ok (s := s) (d := d + 1) (p := okB) (fun a n y a' n' ha hn h => ih a n te (d + 1) y a' n' ha hn (by omega) h) 201 [] a1 (n + 1) y a' n' (by omega) g6 (by omega) g1 h
          rw [List.nil_append]
          have hm := enc_mono (m := ((laidL ks).size : Nat)) (n := a' - a1) (by omega) (by omega) g8
          refine ⟨?_, by omega, g7, ?_, h5, ?_⟩
          · rw [laid, app_nil, joined_size]; omega
          · rw [pre, List.length_cons]; omega
          · rw [pre, List.all_cons, Bool.and_eq_true]
            refine ⟨?_, h6⟩
            unfold okB one
            simp only [Bool.and_eq_true, decide_eq_true_eq]
            exact ⟨g2, hbt.1, hbt.2, g4, by rw [if_pos hi]; rfl⟩
        · rw [if_neg hi] at h
          simp only [Prod.mk.injEq, Except.ok.injEq] at h
          obtain ⟨rfl, rfl, rfl⟩ := h
          have hz := extract_size s a1.toNat te.toNat (by omega)
          have hm : ((s.extract a1.toNat te.toNat).size : Int) = te - a1 := by omega
          refine ⟨?_, by omega, g7, ?_, by omega, ?_⟩
          · rw [laid, laidL, nil_app, joined_size, hm]; omega
          · rw [pre, List.length_cons]; simp [preL]
          · rw [pre, List.all_cons, Bool.and_eq_true]
            refine ⟨?_, rfl⟩
            unfold okB one
            simp only [Bool.and_eq_true, decide_eq_true_eq]
            exact ⟨g2, hbt.1, hbt.2, g4, by rw [if_neg hi]; rfl⟩
theorem preL_flat' (d : Int) : ∀ ks : List Nd, preL d ks = ks.flatMap (pre d)
  | [] => rfl
  | k :: ks => by rw [preL, preL_flat' d ks]; rfl
theorem data_le : ∀ (m : Nat) (x : Nd), SizeOf.sizeOf x < m → ∀ d, ∀ p ∈ pre d x, p.2.f1.size ≤ (laid x).size := by
  intro m
  induction m with
  | zero => intro x h; exact absurd h (Nat.not_lt_zero _)
  | succ m ih =>
    rintro ⟨t, b, ks⟩ hx d p hp
    have hz := joined_size t (laidL ks ++ b)
    have hz2 : ((laidL ks ++ b).size : Nat) = (laidL ks).size + b.size := ByteArray.size_append
    rw [pre, preL_flat'] at hp
    rw [laid]
    rcases List.mem_cons.1 hp with rfl | hp
    · show b.size ≤ _
      omega
    · obtain ⟨k, hk, hpk⟩ := List.mem_flatMap.1 hp
      have := laidL_mem hk
      have := ih k (by have := List.sizeOf_lt_of_mem hk; simp only [S24.mk.sizeOf_spec] at hx; omega) (d + 1) p hpk
      omega
theorem right_iff {y : Nd} (h1 : (pre 1 y).all okB = true) (h2 : (pre 1 y).length ≤ 200) : right y = true ↔ (laid y).size ≤ 4000 := by
  unfold right shaped
  simp only [Bool.and_eq_true, decide_eq_true_eq]
  constructor
  · exact fun h => h.2
  · intro h
    refine ⟨⟨h2, ?_⟩, h⟩
    rw [List.all_eq_true] at h1 ⊢
    intro p hp
    have := h1 p hp
    have hd := data_le _ y (Nat.lt_succ_self _) 1 p hp
    unfold okB at this
    unfold okAt
    simp only [Bool.and_eq_true, decide_eq_true_eq] at this ⊢
    exact ⟨this.1, this.2, by omega⟩
end Tlv
end Go.Proofs.YthnddhgkjkpmfaaDoor
/-
  DERIVED: THE SHELF's CONTRACTS AT THIS DUMP, IN PLAIN WORDS (tools/lay-plain.mjs out of 'TrydShelf.lean', which tools/lay-shelf.mjs wrote): THE SAME DECLARATIONS UNDER THE SAME NAMES: 'import', 'namespace', 'open', 'def', 'theorem' AND NOTHING ELSE: no command of the shelf's: FOR A HAND-IN. Each laying: the table of numbers ('.._ren') and one theorem, a field a fact of the dump's own or the kernel's comparison; each contract: ONE APPLICATION.
-/
namespace Go.Proofs
open Go.Shelf
def Tryd.lays156_ren : Go.Shelf.Ren := ⟨fun | 156 => 58 | 165 => 66 | 166 => 67 | 169 => 68 | 240 => 72 | 241 => 73 | 276 => 75 | 277 => 76 | n => n, fun | 31 => 68 | 9 => 9 | 3 => 3 | 4 => 4 | 0 => 0 | 20 => 20 | 72 => 133 | 76 => 135 | 70 => 131 | 37 => 41 | 75 => 49 | 127 => 139 | 164 => 92 | 5 => 5 | 80 => 137 | n => n, fun | n => n⟩
theorem Tryd.lays156 : Go.Proofs.Lays.n156 Tryd.prog Tryd.lays156_ren := {
  mixed := by kernel_rfl
  f156 := Tryd.func58.trans (congrArg some (by kernel_rfl))
  f165 := Tryd.func66.trans (congrArg some (by kernel_rfl))
  f166 := Tryd.func67.trans (congrArg some (by kernel_rfl))
  f169 := Tryd.func68.trans (congrArg some (by kernel_rfl))
  f240 := Tryd.func72.trans (congrArg some (by kernel_rfl))
  f241 := Tryd.func73.trans (congrArg some (by kernel_rfl))
  f276 := Tryd.func75.trans (congrArg some (by kernel_rfl))
  f277 := Tryd.func76.trans (congrArg some (by kernel_rfl))
  t0 := Tryd.underlying0
  a0 := Tryd.isAgg0
  z0 := Tryd.sizeOf0
  v0 := Tryd.zeroValue0
  t3 := Tryd.underlying3
  a3 := Tryd.isAgg3
  z3 := Tryd.sizeOf3
  v3 := Tryd.zeroValue3
  t4 := Tryd.underlying4
  a4 := Tryd.isAgg4
  z4 := Tryd.sizeOf4
  v4 := Tryd.zeroValue4
  t9 := Tryd.underlying9
  a9 := Tryd.isAgg9
  z9 := Tryd.sizeOf9
  v9 := Tryd.zeroValue9
  t20 := Tryd.underlying20
  a20 := Tryd.isAgg20
  z20 := Tryd.sizeOf20
  v20 := Tryd.zeroValue20
  t31 := Tryd.underlying68
  a31 := Tryd.isAgg68
  z31 := Tryd.sizeOf68
  v31 := Tryd.zeroValue68
  t37 := Tryd.underlying41
  a37 := Tryd.isAgg41
  z37 := Tryd.sizeOf41
  v37 := Tryd.zeroValue41
  t70 := Tryd.underlying131
  a70 := Tryd.isAgg131
  z70 := Tryd.sizeOf131
  v70 := Tryd.zeroValue131
  t72 := Tryd.underlying133
  a72 := Tryd.isAgg133
  z72 := Tryd.sizeOf133
  v72 := Tryd.zeroValue133
  t75 := Tryd.underlying49
  a75 := Tryd.isAgg49
  z75 := Tryd.sizeOf49
  v75 := Tryd.zeroValue49
  t76 := Tryd.underlying135
  a76 := Tryd.isAgg135
  z76 := Tryd.sizeOf135
  v76 := Tryd.zeroValue135
  t127 := Tryd.underlying139
  a127 := Tryd.isAgg139
  z127 := Tryd.sizeOf139
  v127 := Tryd.zeroValue139
  t164 := Tryd.underlying92
  a164 := Tryd.isAgg92
  z164 := Tryd.sizeOf92
  v164 := Tryd.zeroValue92 }
theorem Tryd.Builder_Extra_156 : Builder.Extra Tryd.prog Tryd.lays156_ren := {
  sizeBuilder := by kernel_rfl
  liesBuilder := by kernel_rfl
  t5 := Tryd.underlying5
  a5 := Tryd.isAgg5
  z5 := Tryd.sizeOf5
  v5 := Tryd.zeroValue5
  infoByte := by kernel_rfl
  cellsByte := by kernel_rfl
  sizeByte := by kernel_rfl
  neB5 := by decide }
open Go.RowKit in
theorem Tryd.strings_Join_none (a : Option Addr) (c : Nat) (sep : ByteArray) (w : World) :
    Calls Tryd.prog 58 #[.slice a 0 c, .string sep] w fun e w' => e = .returned (.string ⟨#[]⟩) ∧ w' = w := Any.strings_Join_none Tryd.lays156 Tryd.Builder_Extra_156 a c sep w
open Go.RowKit in
theorem Tryd.strings_Join (bk o c : Nat) (xs : List ByteArray) (sep : ByteArray) (w : World) (hcells : ∀ (j : Nat) x, xs[j]? = some x → w.cell? ⟨bk, o + j, none⟩ = some (.string x)) (hbk : bk < w.heap.size) (hN : xs.length ≤ 140737488355328) (hcap : xs.length ≤ c) (hlen : (Lib.join (xs.map (·.data.toList)) sep.data.toList).length ≤ 140737488355328) :
    Calls Tryd.prog 58 #[.slice (some ⟨bk, o, none⟩) xs.length c, .string sep] w fun e w' => e = .returned (.string ⟨(Lib.join (xs.map (·.data.toList)) sep.data.toList).toArray⟩) ∧ Below w.heap.size w w' := Any.strings_Join Tryd.lays156 Tryd.Builder_Extra_156 bk o c xs sep w hcells hbk hN hcap hlen
end Go.Proofs
/- What the package-level variables of one package hold. -/
namespace Go.Proofs.YthnddhgkjkpmfaaDoor
set_option linter.unusedSimpArgs false
set_option linter.unusedVariables false
namespace Tlv
open Go.RowKit
structure GA (a0 a1 a2 a3 : Addr) (w : World) : Prop where
  et : w.cell? ⟨7, 0, none⟩ = some (.iface 116 (.agg #[.pointer (some ⟨9, 49, none⟩)]))
  g0 : w.cell? ⟨2, 0, none⟩ = some (.iface 148 (.pointer (some a0)))
  g1 : w.cell? ⟨1, 0, none⟩ = some (.iface 148 (.pointer (some a1)))
  g2 : w.cell? ⟨3, 0, none⟩ = some (.iface 148 (.pointer (some a2)))
  g3 : w.cell? ⟨0, 0, none⟩ = some (.iface 148 (.pointer (some a3)))
  n01 : a0 ≠ a1
  n02 : a0 ≠ a2
  n03 : a0 ≠ a3
  n12 : a1 ≠ a2
  n13 : a1 ≠ a3
  n23 : a2 ≠ a3
  h0 : ∃ c t, w.heap[a0.block]? = some (.cells c t (0, 0))
  h1 : ∃ c t, w.heap[a1.block]? = some (.cells c t (0, 0))
  h2 : ∃ c t, w.heap[a2.block]? = some (.cells c t (0, 0))
  h3 : ∃ c t, w.heap[a3.block]? = some (.cells c t (0, 0))
theorem GA.below {a0 a1 a2 a3 : Addr} {w w' : World} (h : GA a0 a1 a2 a3 w) (hb : Below w.heap.size w w') : GA a0 a1 a2 a3 w' where
  et := (hb.cell (lt_of_cell h.et)).trans h.et
  g0 := (hb.cell (lt_of_cell h.g0)).trans h.g0
  g1 := (hb.cell (lt_of_cell h.g1)).trans h.g1
  g2 := (hb.cell (lt_of_cell h.g2)).trans h.g2
  g3 := (hb.cell (lt_of_cell h.g3)).trans h.g3
  n01 := h.n01
  n02 := h.n02
  n03 := h.n03
  n12 := h.n12
  n13 := h.n13
  n23 := h.n23
  h0 := by obtain ⟨c, t, hc⟩ := h.h0; exact ⟨c, t, (hb.block _ (Array.getElem?_eq_some_iff.1 hc).1).trans hc⟩
  h1 := by obtain ⟨c, t, hc⟩ := h.h1; exact ⟨c, t, (hb.block _ (Array.getElem?_eq_some_iff.1 hc).1).trans hc⟩
  h2 := by obtain ⟨c, t, hc⟩ := h.h2; exact ⟨c, t, (hb.block _ (Array.getElem?_eq_some_iff.1 hc).1).trans hc⟩
  h3 := by obtain ⟨c, t, hc⟩ := h.h3; exact ⟨c, t, (hb.block _ (Array.getElem?_eq_some_iff.1 hc).1).trans hc⟩
end Tlv
end Go.Proofs.YthnddhgkjkpmfaaDoor
/- What the first printed texts of trees stand on: the values' own types; a store leaves every cell that there is. -/
namespace Go.Proofs.YthnddhgkjkpmfaaDoor.ExtTlvA
set_option linter.unusedSimpArgs false
set_option linter.unusedVariables false
open Go.RowKit
theorem some_set (W : World) (p : Addr) (x : Value) (q : Addr) : ((W.setCell p x).cell? q).isSome = (W.cell? q).isSome := by
  cases h : W.cell? q with
  | some v =>
    obtain ⟨v', hv⟩ := cell?_setCell_some (p := p) (x := x) h
    rw [hv]; rfl
  | none =>
    cases h2 : (W.setCell p x).cell? q with
    | none => rfl
    | some v' =>
      exfalso
      by_cases hpq : p = q
      · subst hpq
        unfold World.cell? at h h2
        unfold World.setCell at h2
        simp only [Array.getElem?_modify, if_true] at h2
        cases hh : W.heap[p.block]? with
        | none => rw [hh] at h2; simp at h2
        | some o =>
          rw [hh] at h h2
          cases o <;> simp at h h2
          all_goals first | (cases hs : p.spot <;> simp [hs] at h h2; done) | skip
          obtain ⟨hs, h3⟩ := h2
          have h4 := h hs
          rw [hs] at h3
          simp only [Option.isSome_none, Bool.false_eq_true, if_false] at h3
          rw [Array.getElem?_eq_none (by simpa using h4)] at h3
          cases h3
      · rw [World.cell?_setCell_other _ _ _ _ hpq] at h2
        rw [h] at h2
        cases h2
end Go.Proofs.YthnddhgkjkpmfaaDoor.ExtTlvA
namespace Go.RowKit
set_option linter.unusedVariables false
open Go.RowKit Go.Proofs.YthnddhgkjkpmfaaDoorW.PrintLast Go.Proofs.YthnddhgkjkpmfaaDoorW.PrintMore Go.Proofs.YthnddhgkjkpmfaaDoorW.PrintWords
theorem bkq {p q : Prop} (h : q) (f : q → p := by intro h; (with_reducible repeat (first | refine blk_drewN ?_ _ | refine blk_drew ?_ | refine blk_alloc ?_ _)); exact h) : p := f h
theorem rkq {p q : Prop} (h : q) (f : q → p := by intro h; (with_reducible repeat (first | apply Kd.R_alloc | apply Kd.R_drewN | apply Kd.R_drew)); exact h) : p := f h
theorem putq {p : Prop} (h : p := by simp only [Act.put, List.setIfInBounds_toArray, List.set_cons_zero, List.set_cons_succ, i64_w, i32_w]; rfl) : p := h
theorem argq {p : Prop} (h : p := by (try simp only [List.map_toArray, List.map_cons, List.map_nil]); first | done | rfl | (simp only [List.length_drop, List.length_take]; rfl)) : p := h
theorem p_ {P : Program} {ops : Array Oper} {Q : Exit → Act → World → Prop} {md : Region.Mode} {S : World → Prop} {ds : List Nat} {oi : Oper} {v : Value} {fuel : Nat} {l l' : Array Bool} {a a' : Act} {w : World} (i : Nat) (N : Option Tmp) (h : wpAnyLast P md ops Q S ds fuel l' a' w) (hi : ops[i]? = some oi := by exact rfl) (hN : oi.dst = N := by exact rfl) (hl : l.setIfInBounds i true = l' := by simp only [List.setIfInBounds_toArray, List.set_cons_zero, List.set_cons_succ]; rfl) (hc : anyB md ops l l' i = true := by exact any_of HT_.out (by kernel_rfl)) (hQ : ∀ c a w, Q (.panic c) (a.put oi.dst v) w → Q (.panic c) a w := by exact fun _ _ _ h => h) (hy : Yields P ops oi v a := by exact Or.inl ⟨by rfl, by intro w'; go_simp; with_reducible rfl⟩) (ha : a.put N v = a' := by simp only [Act.put, List.setIfInBounds_toArray, List.set_cons_zero, List.set_cons_succ, i64_w, i32_w]; rfl) : wpAnyLast P md ops Q S ds (fuel + 1) l a w := pure_ l' hi hN hc hQ hy ha h
theorem t0_ {P : Program} {ops : Array Oper} {Q : Exit → Act → World → Prop} {md : Region.Mode} {S : World → Prop} {ds : List Nat} {oi : Oper} {v : Value} {fuel : Nat} {l l' : Array Bool} {a a' : Act} {w : World} (i : Nat) (N : Option Tmp) (h : wpAnyLast P md ops Q S ds fuel l' a' w) (hi : ops[i]? = some oi := by exact rfl) (hN : oi.dst = N := by exact rfl) (hl : l.setIfInBounds i true = l' := by simp only [List.setIfInBounds_toArray, List.set_cons_zero, List.set_cons_succ]; rfl) (hc : takeB md ops ds l l' i = true := by exact take_ofW HT_.out HW_.out (by kernel_rfl)) (hQ : ∀ c a w, Q (.panic c) (a.put oi.dst v) w → Q (.panic c) a w := by exact fun _ _ _ h => h) (hy : YieldsIf P ops S oi v a := by exact Or.inl ⟨by rfl, by rintro w' ⟨s0, s1, s2⟩; go_simp; with_reducible rfl⟩) (hS : S w := by exact hHeld) (ha : a.put N v = a' := by simp only [Act.put, List.setIfInBounds_toArray, List.set_cons_zero, List.set_cons_succ, i64_w, i32_w]; rfl) : wpAnyLast P md ops Q S ds (fuel + 1) l a w := take_ l' hi hN hc hQ hy hS ha h
theorem t1_ {P : Program} {ops : Array Oper} {Q : Exit → Act → World → Prop} {md : Region.Mode} {S : World → Prop} {ds : List Nat} {oi : Oper} {v : Value} {fuel : Nat} {l l' : Array Bool} {a a' : Act} {w : World} (i : Nat) (N : Option Tmp) (h : wpAnyLast P md ops Q S ds fuel l' a' w) (hi : ops[i]? = some oi := by exact rfl) (hN : oi.dst = N := by exact rfl) (hl : l.setIfInBounds i true = l' := by simp only [List.setIfInBounds_toArray, List.set_cons_zero, List.set_cons_succ]; rfl) (hc : takeB md ops ds l l' i = true := by exact take_ofW HT_.out HW_.out (by kernel_rfl)) (hQ : ∀ c a w, Q (.panic c) (a.put oi.dst v) w → Q (.panic c) a w := by exact fun _ _ _ h => h) (hy : YieldsIf P ops S oi v a := by exact Or.inl ⟨by rfl, by rintro w' ⟨s0, s1, s2, s3⟩; go_simp; with_reducible rfl⟩) (hS : S w := by exact hHeld) (ha : a.put N v = a' := by simp only [Act.put, List.setIfInBounds_toArray, List.set_cons_zero, List.set_cons_succ, i64_w, i32_w]; rfl) : wpAnyLast P md ops Q S ds (fuel + 1) l a w := take_ l' hi hN hc hQ hy hS ha h
theorem t2_ {P : Program} {ops : Array Oper} {Q : Exit → Act → World → Prop} {md : Region.Mode} {S : World → Prop} {ds : List Nat} {oi : Oper} {v : Value} {fuel : Nat} {l l' : Array Bool} {a a' : Act} {w : World} (i : Nat) (N : Option Tmp) (h : wpAnyLast P md ops Q S ds fuel l' a' w) (hi : ops[i]? = some oi := by exact rfl) (hN : oi.dst = N := by exact rfl) (hl : l.setIfInBounds i true = l' := by simp only [List.setIfInBounds_toArray, List.set_cons_zero, List.set_cons_succ]; rfl) (hc : takeB md ops ds l l' i = true := by exact take_ofW HT_.out HW_.out (by kernel_rfl)) (hQ : ∀ c a w, Q (.panic c) (a.put oi.dst v) w → Q (.panic c) a w := by exact fun _ _ _ h => h) (hy : YieldsIf P ops S oi v a := by exact Or.inl ⟨by rfl, by rintro w' ⟨s0, s1, s2, s3, s4, s5⟩; go_simp; with_reducible rfl⟩) (hS : S w := by exact hHeld) (ha : a.put N v = a' := by simp only [Act.put, List.setIfInBounds_toArray, List.set_cons_zero, List.set_cons_succ, i64_w, i32_w]; rfl) : wpAnyLast P md ops Q S ds (fuel + 1) l a w := take_ l' hi hN hc hQ hy hS ha h
theorem t3_ {P : Program} {ops : Array Oper} {Q : Exit → Act → World → Prop} {md : Region.Mode} {S : World → Prop} {ds : List Nat} {oi : Oper} {v : Value} {fuel : Nat} {l l' : Array Bool} {a a' : Act} {w : World} (i : Nat) (N : Option Tmp) (h : wpAnyLast P md ops Q S ds fuel l' a' w) (hi : ops[i]? = some oi := by exact rfl) (hN : oi.dst = N := by exact rfl) (hl : l.setIfInBounds i true = l' := by simp only [List.setIfInBounds_toArray, List.set_cons_zero, List.set_cons_succ]; rfl) (hc : takeB md ops ds l l' i = true := by exact take_ofW HT_.out HW_.out (by kernel_rfl)) (hQ : ∀ c a w, Q (.panic c) (a.put oi.dst v) w → Q (.panic c) a w := by exact fun _ _ _ h => h) (hy : YieldsIf P ops S oi v a := by exact Or.inl ⟨by rfl, by rintro w' ⟨s0, s1, s2, s3, s4, s5, s6, s7, s8⟩; go_simp; with_reducible rfl⟩) (hS : S w := by exact hHeld) (ha : a.put N v = a' := by simp only [Act.put, List.setIfInBounds_toArray, List.set_cons_zero, List.set_cons_succ, i64_w, i32_w]; rfl) : wpAnyLast P md ops Q S ds (fuel + 1) l a w := take_ l' hi hN hc hQ hy hS ha h
theorem t4_ {P : Program} {ops : Array Oper} {Q : Exit → Act → World → Prop} {md : Region.Mode} {S : World → Prop} {ds : List Nat} {oi : Oper} {v : Value} {fuel : Nat} {l l' : Array Bool} {a a' : Act} {w : World} (i : Nat) (N : Option Tmp) (h : wpAnyLast P md ops Q S ds fuel l' a' w) (hi : ops[i]? = some oi := by exact rfl) (hN : oi.dst = N := by exact rfl) (hl : l.setIfInBounds i true = l' := by simp only [List.setIfInBounds_toArray, List.set_cons_zero, List.set_cons_succ]; rfl) (hc : takeB md ops ds l l' i = true := by exact take_ofW HT_.out HW_.out (by kernel_rfl)) (hQ : ∀ c a w, Q (.panic c) (a.put oi.dst v) w → Q (.panic c) a w := by exact fun _ _ _ h => h) (hy : YieldsIf P ops S oi v a := by exact Or.inl ⟨by rfl, by rintro w' ⟨s0, s1, s2, s3, s4, s5, s6, s7, s8, s9, s10, s11⟩; go_simp; with_reducible rfl⟩) (hS : S w := by exact hHeld) (ha : a.put N v = a' := by simp only [Act.put, List.setIfInBounds_toArray, List.set_cons_zero, List.set_cons_succ, i64_w, i32_w]; rfl) : wpAnyLast P md ops Q S ds (fuel + 1) l a w := take_ l' hi hN hc hQ hy hS ha h
theorem t5_ {P : Program} {ops : Array Oper} {Q : Exit → Act → World → Prop} {md : Region.Mode} {S : World → Prop} {ds : List Nat} {oi : Oper} {v : Value} {fuel : Nat} {l l' : Array Bool} {a a' : Act} {w : World} (i : Nat) (N : Option Tmp) (h : wpAnyLast P md ops Q S ds fuel l' a' w) (hi : ops[i]? = some oi := by exact rfl) (hN : oi.dst = N := by exact rfl) (hl : l.setIfInBounds i true = l' := by simp only [List.setIfInBounds_toArray, List.set_cons_zero, List.set_cons_succ]; rfl) (hc : takeB md ops ds l l' i = true := by exact take_ofW HT_.out HW_.out (by kernel_rfl)) (hQ : ∀ c a w, Q (.panic c) (a.put oi.dst v) w → Q (.panic c) a w := by exact fun _ _ _ h => h) (hy : YieldsIf P ops S oi v a := by exact Or.inl ⟨by rfl, by rintro w' ⟨s0, s1, s2, s3, s4, s5, s6, s7, s8, s9, s10, s11, s12, s13, s14, s15, s16, s17⟩; go_simp; with_reducible rfl⟩) (hS : S w := by exact hHeld) (ha : a.put N v = a' := by simp only [Act.put, List.setIfInBounds_toArray, List.set_cons_zero, List.set_cons_succ, i64_w, i32_w]; rfl) : wpAnyLast P md ops Q S ds (fuel + 1) l a w := take_ l' hi hN hc hQ hy hS ha h
theorem q0_ {p : Prop} (h : p := by repeat (first | (with_reducible first | exact HB.out | apply below_alloc | apply pw_below_drewN | apply below_drew1 | refine below_set ?_ (Aside0.out (by assumption))) | exact HB.out)) : p := h
theorem q1_ {p : Prop} (h : p := by repeat (first | (with_reducible first | exact HK.out | apply KeepBut.set_ | apply keep_drewN | apply keep_drew | apply keep_alloc | refine keep_far ?_ (Aside0.out (by assumption)) _) | exact HK.out)) : p := h
theorem q2_ {p : Prop} (h : p := by first | rfl | (simp [eW] <;> rfl) | (simp [*, eW] <;> rfl)) : p := h
theorem q3_ {p : Prop} (h : p := by first | rfl | (simp; done) | (simp [*]; done)) : p := h
theorem q4_ {p : Prop} (h : p := by first | (with_reducible assumption) | assumption) : p := h
theorem q5_ {p : Prop} (h : p := by repeat (first | (with_reducible first | exact HB.out | apply below_alloc | apply pw_below_drewN | apply below_drew1 | refine below_set ?_ (IsS74.ge HI0.out)) | exact HB.out)) : p := h
theorem q6_ {p : Prop} (h : p := by repeat (first | (with_reducible first | exact HB.out | apply below_alloc | apply pw_below_drewN | apply below_drew1 | refine below_set ?_ (IsS74.ge HI144.out) | refine below_set ?_ (Aside0.out (by assumption))) | exact HB.out)) : p := h
theorem q7_ {p : Prop} (h : p := by repeat (first | (with_reducible first | exact HI0.out | apply IsS74.alloc | apply IsS74.drewN | apply IsS74.drew | apply IsS74.set_0 | apply IsS74.set_1 | apply IsS74.set_2) | exact HI0.out)) : p := h
theorem q8_ {p : Prop} (h : p := by first | exact Kd.R_nil _ _ _ _ _ | exact Kd.N_nil _ _ _ _ _ | exact Kd.V_nil _ _ _ _ _ | exact Kd.Q_nil _ _ _ _ _ | exact Kd.S_nil _ _ _ _ _) : p := h
theorem q9_ {p : Prop} (h : p := by repeat (first | (with_reducible first | exact HB.out | apply below_alloc | apply pw_below_drewN | apply below_drew1 | refine below_set ?_ (IsS57.ge HI0.out) | refine below_set ?_ (Aside0.out (by assumption))) | exact HB.out)) : p := h
theorem q10_ {p : Prop} (h : p := by repeat (first | (with_reducible first | exact HB.out | apply below_alloc | apply pw_below_drewN | apply below_drew1 | refine below_set ?_ (IsS74.ge HI0.out) | refine below_set ?_ (Aside0.out (by assumption))) | exact HB.out)) : p := h
theorem q11_ {p : Prop} (h : p := by repeat (first | (with_reducible first | exact HI0.out | apply IsS57.alloc | apply IsS57.drewN | apply IsS57.drew | apply IsS57.set_0 | apply IsS57.set_1 | refine IsS57.far ?_ NB0_363.out _) | exact HI0.out | refine IsS57.far (f0 := ?f0) ?_ NB0_363.out _ | refine IsS57.far (f1 := ?f1) ?_ NB0_363.out _ | refine IsS57.far (f0 := ?f0) (f1 := ?f1) ?_ NB0_363.out _)) : p := h
theorem q12_ {p : Prop} (h : p := by first | omega | exact Nat.le_refl _) : p := h
theorem q13_ {p : Prop} (h : p := by repeat (first | (with_reducible first | exact HB.out | apply below_alloc | apply pw_below_drewN | apply below_drew1 | refine below_set ?_ (IsS57.ge HI382.out) | refine below_set ?_ (Aside0.out (by assumption))) | exact HB.out)) : p := h
theorem q14_ {p : Prop} (h : p := by repeat (first | exact Drawn0.refl _ | apply Drawn0.step)) : p := h
theorem q15_ {p : Prop} (h : p := by repeat (first | (with_reducible first | exact HI0.out | apply IsS57.alloc | apply IsS57.drewN | apply IsS57.drew | apply IsS57.set_0 | apply IsS57.set_1 | refine IsS57.far ?_ NB0_363.out _ | refine IsS57.far ?_ NB0_364.out _) | exact HI0.out | refine IsS57.far (f0 := ?f0) ?_ NB0_363.out _ | refine IsS57.far (f1 := ?f1) ?_ NB0_363.out _ | refine IsS57.far (f0 := ?f0) (f1 := ?f1) ?_ NB0_363.out _ | refine IsS57.far (f0 := ?f0) ?_ NB0_364.out _ | refine IsS57.far (f1 := ?f1) ?_ NB0_364.out _ | refine IsS57.far (f0 := ?f0) (f1 := ?f1) ?_ NB0_364.out _)) : p := h
theorem q16_ {p : Prop} (h : p := by repeat (first | (with_reducible first | exact HI0.out | apply IsS74.alloc | apply IsS74.drewN | apply IsS74.drew | apply IsS74.set_0 | apply IsS74.set_1 | apply IsS74.set_2 | refine IsS74.far ?_ NB0_119.out _ | refine IsS74.far ?_ NB0_127.out _) | exact HI0.out | refine IsS74.far (f0 := ?f0) ?_ NB0_119.out _ | refine IsS74.far (f1 := ?f1) ?_ NB0_119.out _ | refine IsS74.far (f2 := ?f2) ?_ NB0_119.out _ | refine IsS74.far (f0 := ?f0) (f1 := ?f1) ?_ NB0_119.out _ | refine IsS74.far (f0 := ?f0) (f2 := ?f2) ?_ NB0_119.out _ | refine IsS74.far (f1 := ?f1) (f2 := ?f2) ?_ NB0_119.out _ | refine IsS74.far (f0 := ?f0) ?_ NB0_127.out _ | refine IsS74.far (f1 := ?f1) ?_ NB0_127.out _ | refine IsS74.far (f2 := ?f2) ?_ NB0_127.out _ | refine IsS74.far (f0 := ?f0) (f1 := ?f1) ?_ NB0_127.out _ | refine IsS74.far (f0 := ?f0) (f2 := ?f2) ?_ NB0_127.out _ | refine IsS74.far (f1 := ?f1) (f2 := ?f2) ?_ NB0_127.out _)) : p := h
theorem q17_ {p : Prop} (h : p := by repeat (first | (with_reducible first | exact HI144.out | apply IsS74.alloc | apply IsS74.drewN | apply IsS74.drew | apply IsS74.set_0 | apply IsS74.set_1 | apply IsS74.set_2 | refine IsS74.far ?_ NB144_143.out _) | exact HI144.out | refine IsS74.far (f0 := ?f0) ?_ NB144_143.out _ | refine IsS74.far (f1 := ?f1) ?_ NB144_143.out _ | refine IsS74.far (f2 := ?f2) ?_ NB144_143.out _ | refine IsS74.far (f0 := ?f0) (f1 := ?f1) ?_ NB144_143.out _ | refine IsS74.far (f0 := ?f0) (f2 := ?f2) ?_ NB144_143.out _ | refine IsS74.far (f1 := ?f1) (f2 := ?f2) ?_ NB144_143.out _)) : p := h
theorem q18_ {p : Prop} (h : p := by repeat (first | (with_reducible first | exact HI382.out | apply IsS57.alloc | apply IsS57.drewN | apply IsS57.drew | apply IsS57.set_0 | apply IsS57.set_1 | refine IsS57.far ?_ NB382_381.out _) | exact HI382.out | refine IsS57.far (f0 := ?f0) ?_ NB382_381.out _ | refine IsS57.far (f1 := ?f1) ?_ NB382_381.out _ | refine IsS57.far (f0 := ?f0) (f1 := ?f1) ?_ NB382_381.out _)) : p := h
theorem q19_ {p : Prop} (h : p := by first | rfl | (simp [errW_none, errW_some] <;> rfl) | (simp [*, errW_none, errW_some] <;> rfl)) : p := h
theorem q20_ {p : Prop} (h : p := by repeat (first | (with_reducible first | exact HI0.out | apply IsS74.alloc | apply IsS74.drewN | apply IsS74.drew | apply IsS74.set_0 | apply IsS74.set_1 | apply IsS74.set_2 | refine IsS74.far ?_ NB0_119.out _) | exact HI0.out | refine IsS74.far (f0 := ?f0) ?_ NB0_119.out _ | refine IsS74.far (f1 := ?f1) ?_ NB0_119.out _ | refine IsS74.far (f2 := ?f2) ?_ NB0_119.out _ | refine IsS74.far (f0 := ?f0) (f1 := ?f1) ?_ NB0_119.out _ | refine IsS74.far (f0 := ?f0) (f2 := ?f2) ?_ NB0_119.out _ | refine IsS74.far (f1 := ?f1) (f2 := ?f2) ?_ NB0_119.out _)) : p := h
theorem q21_ {p : Prop} (h : p := by repeat (first | (with_reducible first | exact HI0.out | apply IsS74.alloc | apply IsS74.drewN | apply IsS74.drew | apply IsS74.set_0 | apply IsS74.set_1 | apply IsS74.set_2 | refine IsS74.far ?_ NB0_119.out _ | refine IsS74.far ?_ NB0_127.out _ | refine IsS74.far ?_ NB0_138.out _) | exact HI0.out | refine IsS74.far (f0 := ?f0) ?_ NB0_119.out _ | refine IsS74.far (f1 := ?f1) ?_ NB0_119.out _ | refine IsS74.far (f2 := ?f2) ?_ NB0_119.out _ | refine IsS74.far (f0 := ?f0) (f1 := ?f1) ?_ NB0_119.out _ | refine IsS74.far (f0 := ?f0) (f2 := ?f2) ?_ NB0_119.out _ | refine IsS74.far (f1 := ?f1) (f2 := ?f2) ?_ NB0_119.out _ | refine IsS74.far (f0 := ?f0) ?_ NB0_127.out _ | refine IsS74.far (f1 := ?f1) ?_ NB0_127.out _ | refine IsS74.far (f2 := ?f2) ?_ NB0_127.out _ | refine IsS74.far (f0 := ?f0) (f1 := ?f1) ?_ NB0_127.out _ | refine IsS74.far (f0 := ?f0) (f2 := ?f2) ?_ NB0_127.out _ | refine IsS74.far (f1 := ?f1) (f2 := ?f2) ?_ NB0_127.out _ | refine IsS74.far (f0 := ?f0) ?_ NB0_138.out _ | refine IsS74.far (f1 := ?f1) ?_ NB0_138.out _ | refine IsS74.far (f2 := ?f2) ?_ NB0_138.out _ | refine IsS74.far (f0 := ?f0) (f1 := ?f1) ?_ NB0_138.out _ | refine IsS74.far (f0 := ?f0) (f2 := ?f2) ?_ NB0_138.out _ | refine IsS74.far (f1 := ?f1) (f2 := ?f2) ?_ NB0_138.out _)) : p := h
theorem q22_ {p : Prop} (h : p := by repeat (first | (with_reducible first | exact HI0.out | apply IsS57.alloc | apply IsS57.drewN | apply IsS57.drew | apply IsS57.set_0 | apply IsS57.set_1 | refine IsS57.far ?_ NB0_363.out _ | refine IsS57.far ?_ NB0_364.out _ | refine IsS57.far ?_ NB0_377.out _) | exact HI0.out | refine IsS57.far (f0 := ?f0) ?_ NB0_363.out _ | refine IsS57.far (f1 := ?f1) ?_ NB0_363.out _ | refine IsS57.far (f0 := ?f0) (f1 := ?f1) ?_ NB0_363.out _ | refine IsS57.far (f0 := ?f0) ?_ NB0_364.out _ | refine IsS57.far (f1 := ?f1) ?_ NB0_364.out _ | refine IsS57.far (f0 := ?f0) (f1 := ?f1) ?_ NB0_364.out _ | refine IsS57.far (f0 := ?f0) ?_ NB0_377.out _ | refine IsS57.far (f1 := ?f1) ?_ NB0_377.out _ | refine IsS57.far (f0 := ?f0) (f1 := ?f1) ?_ NB0_377.out _)) : p := h
theorem q23_ {p : Prop} (h : p := by first | rfl | (simp [eW] <;> rfl) | (simp only [← hji3]; first | rfl | (simp [eW] <;> rfl)) | (simp [*, eW] <;> rfl)) : p := h
theorem q24_ {p : Prop} (h : p := by repeat (first | (with_reducible first | exact HI0.out | apply IsS57.alloc | apply IsS57.drewN | apply IsS57.drew | apply IsS57.set_0 | apply IsS57.set_1) | exact HI0.out)) : p := h
theorem q25_ {p : Prop} (h : p := by repeat (first | (with_reducible first | exact HI144.out | apply IsS74.alloc | apply IsS74.drewN | apply IsS74.drew | apply IsS74.set_0 | apply IsS74.set_1 | apply IsS74.set_2 | refine IsS74.far ?_ NB144_143.out _ | refine IsS74.far ?_ NB144_154.out _) | exact HI144.out | refine IsS74.far (f0 := ?f0) ?_ NB144_143.out _ | refine IsS74.far (f1 := ?f1) ?_ NB144_143.out _ | refine IsS74.far (f2 := ?f2) ?_ NB144_143.out _ | refine IsS74.far (f0 := ?f0) (f1 := ?f1) ?_ NB144_143.out _ | refine IsS74.far (f0 := ?f0) (f2 := ?f2) ?_ NB144_143.out _ | refine IsS74.far (f1 := ?f1) (f2 := ?f2) ?_ NB144_143.out _ | refine IsS74.far (f0 := ?f0) ?_ NB144_154.out _ | refine IsS74.far (f1 := ?f1) ?_ NB144_154.out _ | refine IsS74.far (f2 := ?f2) ?_ NB144_154.out _ | refine IsS74.far (f0 := ?f0) (f1 := ?f1) ?_ NB144_154.out _ | refine IsS74.far (f0 := ?f0) (f2 := ?f2) ?_ NB144_154.out _ | refine IsS74.far (f1 := ?f1) (f2 := ?f2) ?_ NB144_154.out _)) : p := h
theorem q26_ {p : Prop} (h : p := by repeat (first | (with_reducible first | exact HI382.out | apply IsS57.alloc | apply IsS57.drewN | apply IsS57.drew | apply IsS57.set_0 | apply IsS57.set_1 | refine IsS57.far ?_ NB382_381.out _ | refine IsS57.far ?_ NB382_392.out _) | exact HI382.out | refine IsS57.far (f0 := ?f0) ?_ NB382_381.out _ | refine IsS57.far (f1 := ?f1) ?_ NB382_381.out _ | refine IsS57.far (f0 := ?f0) (f1 := ?f1) ?_ NB382_381.out _ | refine IsS57.far (f0 := ?f0) ?_ NB382_392.out _ | refine IsS57.far (f1 := ?f1) ?_ NB382_392.out _ | refine IsS57.far (f0 := ?f0) (f1 := ?f1) ?_ NB382_392.out _)) : p := h
end Go.RowKit
-- Written by this repo's own program over the kit's printer: YthnddhgkjkpmfaaDoor.LTlvO
namespace Go.Proofs.YthnddhgkjkpmfaaDoor.LTlvO
open Go.Proofs.YthnddhgkjkpmfaaDoor.ExtTlvA
open Go.Proofs.YthnddhgkjkpmfaaDoor.KTlv
open Go.RowKit Go.Proofs.YthnddhgkjkpmfaaDoorW.PrintWords Go.Proofs.YthnddhgkjkpmfaaDoorW.PrintLast Go.Proofs.YthnddhgkjkpmfaaDoorW.PrintMore
attribute [local go_sem] max2_int min2_int max_two min_two max_three min_three max_four min_four   -- for this text's walks alone
set_option linter.unusedVariables false
set_option linter.unusedSimpArgs false
def errW : Option Int → Value
 | none => .nilIface
 | some c => .iface 0 (.int .i64 c)
theorem errW_none : errW none = .nilIface := rfl
theorem errW_some (c : Int) : errW (some c) = .iface 0 (.int .i64 c) := rfl
end Go.Proofs.YthnddhgkjkpmfaaDoor.LTlvO
-- Written by this repo's own program over the kit's printer: YthnddhgkjkpmfaaDoor.LTlvO
namespace Go.Proofs.YthnddhgkjkpmfaaDoor.LTlvO
open Go.Proofs.YthnddhgkjkpmfaaDoor.ExtTlvA
open Go.Proofs.YthnddhgkjkpmfaaDoor.KTlv
open Go.RowKit Go.Proofs.YthnddhgkjkpmfaaDoorW.PrintWords Go.Proofs.YthnddhgkjkpmfaaDoorW.PrintLast Go.Proofs.YthnddhgkjkpmfaaDoorW.PrintMore
attribute [local go_sem] max2_int min2_int max_two min_two max_three min_three max_four min_four   -- for this text's walks alone
set_option linter.unusedVariables false
set_option linter.unusedSimpArgs false
def tlv_isInner.f (a0 : Int) : Option (Bool) := some ((Go.bits .and .i64 a0 32) != 0)
set_option maxHeartbeats 8000000 in
set_option maxRecDepth 100000 in
theorem tlv_isInner.calls (a0 : Int) (r : Bool) (w : World) (h : tlv_isInner.f a0 = some r) :
  Calls Tryd.prog 60 #[.int .i64 a0] w fun e w' => e = .returned (.bool r) ∧ Drawn0 w w' := by
 have H : (some ((Go.bits .and .i64 a0 32) != 0)) = some r := h
 clear h
 obtain rfl := Option.some.inj H
 go_enter Tryd.func60, Tryd.ntmps60
 go_wp2
 go_ret
 exact ⟨q3_, q14_⟩
def tlv_isOne.f (a0_0 : Int) (a0_1 : ByteArray) (l0_2 : List (S24)) : Option (Bool) := if a0_0 < 0 then (some false) else (if a0_0 > 255 then (some false) else (if (Go.bits .and .i64 a0_0 31) = 31 then (some false) else ((tlv_isInner.f a0_0).bind fun t102 => (if t102 = true then (some (a0_1.toList == ([] : List UInt8))) else (some ((l0_2.length : Int) == 0))))))
set_option maxHeartbeats 8000000 in
set_option maxRecDepth 100000 in
theorem tlv_isOne.calls (a0_0 : Int) (a0_1 : ByteArray) (A0_2 : Option Addr) (c0_2 : Nat) (l0_2 : List (S24)) (r : Bool) (w : World) (hr0_2 : Kd.C k24 w A0_2 l0_2.length l0_2) (hc0_2 : l0_2.length ≤ c0_2) (h : tlv_isOne.f a0_0 a0_1 l0_2 = some r) :
  Calls Tryd.prog 48 #[.agg #[.int .i64 a0_0, .string a0_1, .slice A0_2 l0_2.length c0_2]] w fun e w' => e = .returned (.bool r) ∧ Below w.heap.size w w' := by
 have hu24 := Tryd.underlying24
 have HR0_2 := Aside0.mk hr0_2
 have HC0_2 := Aside0.mk hc0_2
 clear hr0_2 hc0_2
 have HB := Aside0.mk (Below.refl w.heap.size w)
 have H : (if a0_0 < 0 then (some false) else (if a0_0 > 255 then (some false) else (if (Go.bits .and .i64 a0_0 31) = 31 then (some false) else ((tlv_isInner.f a0_0).bind fun t102 => (if t102 = true then (some (a0_1.toList == ([] : List UInt8))) else (some ((l0_2.length : Int) == 0))))))) = some r := h
 clear h
 by_cases c2 : a0_0 < 0
 ·rw [if_pos c2] at H
  have c2b0 : decide (a0_0 < 0) = true := decide_eq_true c2
  clear c2
  obtain rfl := Option.some.inj H
  go_enter Tryd.func48, Tryd.ntmps48
  go_wp2_with (first | ((with_reducible refine gate_dst (N := 1) rfl ?_); refine box_event ?hg (N := 1) ?hd (cs := #[.int .i64 a0_0, .string a0_1, .slice A0_2 l0_2.length c0_2]) (t := 24) ?hr ?_; (case hd => rfl); (case hg => rfl); (case hr => first | (go_simp; done) | (go_simp; rfl)); intro gb101 hg w3 hbox hb; have n0_ := Aside0.mk (below_step q0_ hb); have n1_ := Aside0.mk (hbox); have n2_ := Aside0.mk ((by rw [hg]; exact (below_size q0_) : w.heap.size ≤ gb101)); have n3_ := Aside0.mk ((by rw [hg]; exact (below_size q0_) : w.heap.size ≤ gb101)); clear HB; have HB := n0_; have BK101 := n1_; have GW101 := n2_; have GE101 := n3_; clear n0_ n1_ n2_ n3_; clear hb hbox hg; have hcz4_0 : w3.cell? ⟨gb101, 0, none⟩ = some (.int .i64 a0_0) := (blk_cell BK101.out 0).trans rfl; have hcz4_1 : w3.cell? ⟨gb101, 1, none⟩ = some (.string a0_1) := (blk_cell BK101.out 1).trans rfl; have hcz4_2 : w3.cell? ⟨gb101, 2, none⟩ = some (.slice A0_2 l0_2.length c0_2) := (blk_cell BK101.out 2).trans rfl; have hfz4_0 := blk_frozen BK101.out 0; have hfz4_1 := blk_frozen BK101.out 1; have hfz4_2 := blk_frozen BK101.out 2))
  go_ret
  exact ⟨q19_, q0_⟩
 ·rw [if_neg c2] at H
  have c2b0 : decide (a0_0 < 0) = false := decide_eq_false c2
  clear c2
  by_cases c5 : a0_0 > 255
  ·rw [if_pos c5] at H
   have c5b0 : decide (255 < a0_0) = true := decide_eq_true c5
   clear c5
   obtain rfl := Option.some.inj H
   go_enter Tryd.func48, Tryd.ntmps48
   go_wp2_with (first | ((with_reducible refine gate_dst (N := 1) rfl ?_); refine box_event ?hg (N := 1) ?hd (cs := #[.int .i64 a0_0, .string a0_1, .slice A0_2 l0_2.length c0_2]) (t := 24) ?hr ?_; (case hd => rfl); (case hg => rfl); (case hr => first | (go_simp; done) | (go_simp; rfl)); intro gb101 hg w6 hbox hb; have n0_ := Aside0.mk (below_step q0_ hb); have n1_ := Aside0.mk (hbox); have n2_ := Aside0.mk ((by rw [hg]; exact (below_size q0_) : w.heap.size ≤ gb101)); have n3_ := Aside0.mk ((by rw [hg]; exact (below_size q0_) : w.heap.size ≤ gb101)); clear HB; have HB := n0_; have BK101 := n1_; have GW101 := n2_; have GE101 := n3_; clear n0_ n1_ n2_ n3_; clear hb hbox hg; have hcz7_0 : w6.cell? ⟨gb101, 0, none⟩ = some (.int .i64 a0_0) := (blk_cell BK101.out 0).trans rfl; have hcz7_1 : w6.cell? ⟨gb101, 1, none⟩ = some (.string a0_1) := (blk_cell BK101.out 1).trans rfl; have hcz7_2 : w6.cell? ⟨gb101, 2, none⟩ = some (.slice A0_2 l0_2.length c0_2) := (blk_cell BK101.out 2).trans rfl; have hfz7_0 := blk_frozen BK101.out 0; have hfz7_1 := blk_frozen BK101.out 1; have hfz7_2 := blk_frozen BK101.out 2))
   go_ret
   exact ⟨q19_, q0_⟩
  ·rw [if_neg c5] at H
   have c5b0 : decide (255 < a0_0) = false := decide_eq_false c5
   clear c5
   by_cases c8 : (Go.bits .and .i64 a0_0 31) = 31
   ·rw [if_pos c8] at H
    have c8b0 : ((Go.bits .and .i64 a0_0 31) == 31) = true := beq_iff_eq.mpr c8
    have c8b1 : ((Go.bits .and .i64 a0_0 31) != 31) = false := bne_eq_false_iff_eq.mpr c8
    clear c8
    obtain rfl := Option.some.inj H
    go_enter Tryd.func48, Tryd.ntmps48
    go_wp2_with (first | ((with_reducible refine gate_dst (N := 1) rfl ?_); refine box_event ?hg (N := 1) ?hd (cs := #[.int .i64 a0_0, .string a0_1, .slice A0_2 l0_2.length c0_2]) (t := 24) ?hr ?_; (case hd => rfl); (case hg => rfl); (case hr => first | (go_simp; done) | (go_simp; rfl)); intro gb101 hg w9 hbox hb; have n0_ := Aside0.mk (below_step q0_ hb); have n1_ := Aside0.mk (hbox); have n2_ := Aside0.mk ((by rw [hg]; exact (below_size q0_) : w.heap.size ≤ gb101)); have n3_ := Aside0.mk ((by rw [hg]; exact (below_size q0_) : w.heap.size ≤ gb101)); clear HB; have HB := n0_; have BK101 := n1_; have GW101 := n2_; have GE101 := n3_; clear n0_ n1_ n2_ n3_; clear hb hbox hg; have hcz10_0 : w9.cell? ⟨gb101, 0, none⟩ = some (.int .i64 a0_0) := (blk_cell BK101.out 0).trans rfl; have hcz10_1 : w9.cell? ⟨gb101, 1, none⟩ = some (.string a0_1) := (blk_cell BK101.out 1).trans rfl; have hcz10_2 : w9.cell? ⟨gb101, 2, none⟩ = some (.slice A0_2 l0_2.length c0_2) := (blk_cell BK101.out 2).trans rfl; have hfz10_0 := blk_frozen BK101.out 0; have hfz10_1 := blk_frozen BK101.out 1; have hfz10_2 := blk_frozen BK101.out 2))
    go_ret
    exact ⟨q19_, q0_⟩
   ·rw [if_neg c8] at H
    have c8b0 : ((Go.bits .and .i64 a0_0 31) == 31) = false := beq_eq_false_iff_ne.mpr c8
    have c8b1 : ((Go.bits .and .i64 a0_0 31) != 31) = true := bne_iff_ne.mpr c8
    replace H := Option.bind_eq_some_iff.mp H
    obtain ⟨t102, A110, H⟩ := H
    replace H : (if t102 = true then (some (a0_1.toList == ([] : List UInt8))) else (some ((l0_2.length : Int) == 0))) = some r := H
    have A11 := Aside0.mk A110
    clear A110
    by_cases c12 : t102 = true
    ·subst c12
     have H1 : (some (a0_1.toList == ([] : List UInt8))) = some r := by rw [if_pos rfl] at H; exact H
     clear H
     have H := H1
     clear H1
     obtain rfl := Option.some.inj H
     go_enter Tryd.func48, Tryd.ntmps48
     go_wp2_with (first | ((with_reducible refine gate_dst (N := 1) rfl ?_); refine box_event ?hg (N := 1) ?hd (cs := #[.int .i64 a0_0, .string a0_1, .slice A0_2 l0_2.length c0_2]) (t := 24) ?hr ?_; (case hd => rfl); (case hg => rfl); (case hr => first | (go_simp; done) | (go_simp; rfl)); intro gb101 hg w13 hbox hb; have n0_ := Aside0.mk (below_step q0_ hb); have n1_ := Aside0.mk (hbox); have n2_ := Aside0.mk ((by rw [hg]; exact (below_size q0_) : w.heap.size ≤ gb101)); have n3_ := Aside0.mk ((by rw [hg]; exact (below_size q0_) : w.heap.size ≤ gb101)); clear HB; have HB := n0_; have BK101 := n1_; have GW101 := n2_; have GE101 := n3_; clear n0_ n1_ n2_ n3_; clear hb hbox hg; have hcz14_0 : w13.cell? ⟨gb101, 0, none⟩ = some (.int .i64 a0_0) := (blk_cell BK101.out 0).trans rfl; have hcz14_1 : w13.cell? ⟨gb101, 1, none⟩ = some (.string a0_1) := (blk_cell BK101.out 1).trans rfl; have hcz14_2 : w13.cell? ⟨gb101, 2, none⟩ = some (.slice A0_2 l0_2.length c0_2) := (blk_cell BK101.out 2).trans rfl; have hfz14_0 := blk_frozen BK101.out 0; have hfz14_1 := blk_frozen BK101.out 1; have hfz14_2 := blk_frozen BK101.out 2) | ((with_reducible refine gate_callee (f := 60) rfl ?_); refine goesL_ (some 19) rfl rfl Tryd.func60 (by kernel_rfl) rfl #[.int .i64 a0_0] rfl argq ?_; (with_reducible refine (tlv_isInner.calls a0_0 true _ A11.out).mono ?_); rintro e w' ⟨rfl, ⟨nd, rfl⟩⟩; refine ⟨_, rfl, ?_⟩))
     go_ret
     exact ⟨q19_, q0_⟩
    ·replace c12 := Bool.eq_false_iff.mpr c12
     subst c12
     have H1 : (some ((l0_2.length : Int) == 0)) = some r := by rw [if_neg (show ¬ (false = true) by decide)] at H; exact H
     clear H
     have H := H1
     clear H1
     obtain rfl := Option.some.inj H
     go_enter Tryd.func48, Tryd.ntmps48
     go_wp2_with (first | ((with_reducible refine gate_dst (N := 1) rfl ?_); refine box_event ?hg (N := 1) ?hd (cs := #[.int .i64 a0_0, .string a0_1, .slice A0_2 l0_2.length c0_2]) (t := 24) ?hr ?_; (case hd => rfl); (case hg => rfl); (case hr => first | (go_simp; done) | (go_simp; rfl)); intro gb101 hg w15 hbox hb; have n0_ := Aside0.mk (below_step q0_ hb); have n1_ := Aside0.mk (hbox); have n2_ := Aside0.mk ((by rw [hg]; exact (below_size q0_) : w.heap.size ≤ gb101)); have n3_ := Aside0.mk ((by rw [hg]; exact (below_size q0_) : w.heap.size ≤ gb101)); clear HB; have HB := n0_; have BK101 := n1_; have GW101 := n2_; have GE101 := n3_; clear n0_ n1_ n2_ n3_; clear hb hbox hg; have hcz16_0 : w15.cell? ⟨gb101, 0, none⟩ = some (.int .i64 a0_0) := (blk_cell BK101.out 0).trans rfl; have hcz16_1 : w15.cell? ⟨gb101, 1, none⟩ = some (.string a0_1) := (blk_cell BK101.out 1).trans rfl; have hcz16_2 : w15.cell? ⟨gb101, 2, none⟩ = some (.slice A0_2 l0_2.length c0_2) := (blk_cell BK101.out 2).trans rfl; have hfz16_0 := blk_frozen BK101.out 0; have hfz16_1 := blk_frozen BK101.out 1; have hfz16_2 := blk_frozen BK101.out 2) | ((with_reducible refine gate_callee (f := 60) rfl ?_); refine goesL_ (some 19) rfl rfl Tryd.func60 (by kernel_rfl) rfl #[.int .i64 a0_0] rfl argq ?_; (with_reducible refine (tlv_isInner.calls a0_0 false _ A11.out).mono ?_); rintro e w' ⟨rfl, ⟨nd, rfl⟩⟩; refine ⟨_, rfl, ?_⟩))
     go_ret
     exact ⟨q19_, q0_⟩
end Go.Proofs.YthnddhgkjkpmfaaDoor.LTlvO
-- Written by this repo's own program over the kit's printer: YthnddhgkjkpmfaaDoor.LTlvO
namespace Go.Proofs.YthnddhgkjkpmfaaDoor.LTlvO
open Go.Proofs.YthnddhgkjkpmfaaDoor.ExtTlvA
open Go.Proofs.YthnddhgkjkpmfaaDoor.KTlv
open Go.RowKit Go.Proofs.YthnddhgkjkpmfaaDoorW.PrintWords Go.Proofs.YthnddhgkjkpmfaaDoorW.PrintLast Go.Proofs.YthnddhgkjkpmfaaDoorW.PrintMore
attribute [local go_sem] max2_int min2_int max_two min_two max_three min_three max_four min_four   -- for this text's walks alone
set_option linter.unusedVariables false
set_option linter.unusedSimpArgs false
end Go.Proofs.YthnddhgkjkpmfaaDoor.LTlvO
/- What the printed texts of tlv's own functions stand on: strings.Join, size.Encode, in the printer's form. -/
namespace Go.Proofs.YthnddhgkjkpmfaaDoor.ExtTlvB
set_option linter.unusedSimpArgs false
set_option linter.unusedVariables false
open Go.RowKit Go.Proofs.YthnddhgkjkpmfaaDoorW.PrintWords
def GW (w : World) : Prop := (∃ a0 a1 a2, Size.GA a0 a1 a2 w) ∧ ∃ b0 b1 b2 b3, Tlv.GA b0 b1 b2 b3 w
theorem GW.below {w w' : World} (h : GW w) (hb : Below w.heap.size w w') : GW w' := by
  obtain ⟨⟨a0, a1, a2, h1⟩, b0, b1, b2, b3, h2⟩ := h
  exact ⟨⟨a0, a1, a2, h1.below hb⟩, b0, b1, b2, b3, h2.below hb⟩
theorem of_if {α : Type} {c : Prop} [Decidable c] {a b : α} (h : (if c then some a else none) = some b) : c ∧ a = b := by
  split at h
  · rename_i hc; exact ⟨hc, Option.some.inj h⟩
  · cases h
def size_Encode.f (a0 : Int) : Option (ByteArray × Int) := some (Size.encS a0, Size.encE a0)
theorem size_Encode.calls (a0 : Int) (r1 : ByteArray) (r2 : Int) (w : World) (hG : GW w) (h : size_Encode.f a0 = some (r1, r2)) :
    Calls Tryd.prog 25 #[.int .i64 a0] w fun e w' => e = .returned (.tuple #[.string r1, .int .i64 r2]) ∧ Below w.heap.size w w' := by
  obtain ⟨⟨b0, b1, b2, hG⟩, _⟩ := hG
  cases h
  exact Size.Encode_c a0 b0 b1 b2 w hG
def joinB (l : List ByteArray) (s : ByteArray) : ByteArray := ⟨(Lib.join (l.map (·.data.toList)) s.data.toList).toArray⟩
def strings_Join.f (l0 : List ByteArray) (a1 : ByteArray) : Option ByteArray :=
  if l0.length ≤ 140737488355328 ∧ (Lib.join (l0.map (·.data.toList)) a1.data.toList).length ≤ 140737488355328 then some (joinB l0 a1) else none
theorem spot_none {w : World} {a : Addr} {v : Value} (h : w.cell? a = some v) : a.spot = none := by
  cases hs : a.spot with
  | none => rfl
  | some x =>
    exfalso
    unfold World.cell? at h
    split at h
    · rw [hs] at h
      simp at h
    · simp at h
theorem strings_Join.calls (A0 : Option Addr) (c0 : Nat) (l0 : List ByteArray) (a1 : ByteArray) (r : ByteArray) (w : World) (hr0 : Kd.C Kd.string w A0 l0.length l0) (hc0 : l0.length ≤ c0) (h : strings_Join.f l0 a1 = some r) :
    Calls Tryd.prog 58 #[.slice A0 l0.length c0, .string a1] w fun e w' => e = .returned (.string r) ∧ Below w.heap.size w w' := by
  obtain ⟨⟨hN, hlen⟩, rfl⟩ := of_if h
  by_cases hn : l0 = []
  · subst hn
    refine (Tryd.strings_Join_none A0 c0 a1 w).mono ?_
    rintro e w' ⟨rfl, rfl⟩
    exact ⟨rfl, Below.refl _ _⟩
  · have hpos : 0 < l0.length := List.length_pos_iff.2 hn
    obtain ⟨ad, rfl, hc⟩ := (Kd.reads_of_C (d := (⟨#[]⟩ : ByteArray)) hr0).2.2 hpos
    have h0 := hc 0 hpos
    have e0 : ad.add 0 = ad := by unfold Addr.add; simp
    rw [e0] at h0
    have hsp := spot_none h0
    obtain ⟨bk, o, sp⟩ := ad
    simp only at hsp
    subst hsp
    refine (Tryd.strings_Join bk o c0 l0 a1 w (fun j x hx => ?_) (lt_of_cell h0) hN hc0 hlen).mono ?_
    · obtain ⟨hj, rfl⟩ := List.getElem?_eq_some_iff.1 hx
      have := hc j hj
      have e : (⟨bk, o, none⟩ : Addr).add j = ⟨bk, o + j, none⟩ := by
        unfold Addr.add
        split
        · rename_i hz; rw [hz]; rfl
        · rfl
      rw [e, List.getD_eq_getElem?_getD, List.getElem?_eq_getElem hj] at this
      exact this
    · rintro e w' ⟨rfl, hb⟩
      exact ⟨rfl, hb⟩
end Go.Proofs.YthnddhgkjkpmfaaDoor.ExtTlvB
-- Written by this repo's own program over the kit's printer: YthnddhgkjkpmfaaDoor.LTlvB
namespace Go.Proofs.YthnddhgkjkpmfaaDoor.LTlvB
open Go.Proofs.YthnddhgkjkpmfaaDoor.ExtTlvB
open Go.Proofs.YthnddhgkjkpmfaaDoor.LTlvO
open Go.Proofs.YthnddhgkjkpmfaaDoor.KTlv
open Go.RowKit Go.Proofs.YthnddhgkjkpmfaaDoorW.PrintWords Go.Proofs.YthnddhgkjkpmfaaDoorW.PrintLast Go.Proofs.YthnddhgkjkpmfaaDoorW.PrintMore
attribute [local go_sem] max2_int min2_int max_two min_two max_three min_three max_four min_four   -- for this text's walks alone
set_option linter.unusedVariables false
set_option linter.unusedSimpArgs false
def errW : Option Int → Value
 | none => .nilIface
 | some c => .iface 0 (.int .i64 c)
theorem errW_none : errW none = .nilIface := rfl
theorem errW_some (c : Int) : errW (some c) = .iface 0 (.int .i64 c) := rfl
theorem info9 : (Tryd.prog.info? 9).map (fun i => (i.zero, i.size, i.bytes)) = some (some (.string ⟨#[]⟩), 1, 16) := by kernel_rfl
end Go.Proofs.YthnddhgkjkpmfaaDoor.LTlvB
-- Written by this repo's own program over the kit's printer: YthnddhgkjkpmfaaDoor.LTlvB
namespace Go.Proofs.YthnddhgkjkpmfaaDoor.LTlvB
open Go.Proofs.YthnddhgkjkpmfaaDoor.ExtTlvB
open Go.Proofs.YthnddhgkjkpmfaaDoor.LTlvO
open Go.Proofs.YthnddhgkjkpmfaaDoor.KTlv
open Go.RowKit Go.Proofs.YthnddhgkjkpmfaaDoorW.PrintWords Go.Proofs.YthnddhgkjkpmfaaDoorW.PrintLast Go.Proofs.YthnddhgkjkpmfaaDoorW.PrintMore
attribute [local go_sem] max2_int min2_int max_two min_two max_three min_three max_four min_four   -- for this text's walks alone
set_option linter.unusedVariables false
set_option linter.unusedSimpArgs false
def tlv_joined.f (a0 : Int) (l1 : List ByteArray) : Option (ByteArray) := (strings_Join.f l1 (⟨#[]⟩ : ByteArray)).bind fun t101 => ((size_Encode.f (t101.size : Int)).bind fun bt102 => ((some (([(a0) % 256] : List Int) : List Int)).bind fun y104 => (if (strOfNums y104).size + bt102.1.size ≤ 9223372036854775807 then (if ((strOfNums y104) ++ bt102.1).size + t101.size ≤ 9223372036854775807 then (some (((strOfNums y104) ++ bt102.1) ++ t101)) else (none)) else (none))))
set_option maxHeartbeats 8000000 in
set_option maxRecDepth 100000 in
theorem tlv_joined.calls (a0 : Int) (A1 : Option Addr) (c1 : Nat) (l1 : List ByteArray) (r : ByteArray) (w : World) (hr1 : Kd.C Kd.string w A1 l1.length l1) (hc1 : l1.length ≤ c1) (hG : GW w) (h : tlv_joined.f a0 l1 = some r) :
  Calls Tryd.prog 42 #[.int .i64 a0, .slice A1 l1.length c1] w fun e w' => e = .returned (.string r) ∧ Below w.heap.size w w' := by
 have HR1 := Aside0.mk hr1
 have HC1 := Aside0.mk hc1
 clear hr1 hc1
 have HB := Aside0.mk (Below.refl w.heap.size w)
 have H : ((strings_Join.f l1 (⟨#[]⟩ : ByteArray)).bind fun t101 => ((size_Encode.f (t101.size : Int)).bind fun bt102 => ((some (([(a0) % 256] : List Int) : List Int)).bind fun y104 => (if (strOfNums y104).size + bt102.1.size ≤ 9223372036854775807 then (if ((strOfNums y104) ++ bt102.1).size + t101.size ≤ 9223372036854775807 then (some (((strOfNums y104) ++ bt102.1) ++ t101)) else (none)) else (none))))) = some r := h
 clear h
 replace H := Option.bind_eq_some_iff.mp H
 obtain ⟨t101, A30, H⟩ := H
 replace H : ((size_Encode.f (t101.size : Int)).bind fun bt102 => ((some (([(a0) % 256] : List Int) : List Int)).bind fun y104 => (if (strOfNums y104).size + bt102.1.size ≤ 9223372036854775807 then (if ((strOfNums y104) ++ bt102.1).size + t101.size ≤ 9223372036854775807 then (some (((strOfNums y104) ++ bt102.1) ++ t101)) else (none)) else (none)))) = some r := H
 have A3 := Aside0.mk A30
 clear A30
 replace H := Option.bind_eq_some_iff.mp H
 obtain ⟨⟨t102, t103⟩, A40, H⟩ := H
 replace H : ((some (([(a0) % 256] : List Int) : List Int)).bind fun y104 => (if (strOfNums y104).size + t102.size ≤ 9223372036854775807 then (if ((strOfNums y104) ++ t102).size + t101.size ≤ 9223372036854775807 then (some (((strOfNums y104) ++ t102) ++ t101)) else (none)) else (none))) = some r := H
 have A4 := Aside0.mk A40
 clear A40
 obtain ⟨y104, hy104⟩ : ∃ y_ : List Int, y_ = (([(a0) % 256] : List Int)) := ⟨_, rfl⟩
 replace H : (if (strOfNums y104).size + t102.size ≤ 9223372036854775807 then (if ((strOfNums y104) ++ t102).size + t101.size ≤ 9223372036854775807 then (some (((strOfNums y104) ++ t102) ++ t101)) else (none)) else (none)) = some r := by first | (rw [hy104]; with_reducible exact H) | (have H2_ := (Option.bind_some _ _).symm.trans H; rw [hy104]; with_reducible exact H2_) | (have H2_ := (Option.bind_some _ _).symm.trans H; with_reducible exact H2_) | with_reducible exact H | (rw [hy104]; exact H) | exact H
 have Ny104 := Aside0.mk hy104
 clear hy104
 by_cases c5 : (strOfNums y104).size + t102.size ≤ 9223372036854775807
 ·rw [if_pos c5] at H
  have c5b0 := eq_true c5
  have c5b1 : decide ((strOfNums y104).size + t102.size ≤ 9223372036854775807) = true := decide_eq_true c5
  try have c5b2 : (9223372036854775807 < (strOfNums y104).size + t102.size) = False := eq_false (Nat.not_lt.2 c5)
  by_cases c6 : ((strOfNums y104) ++ t102).size + t101.size ≤ 9223372036854775807
  ·rw [if_pos c6] at H
   have c6b0 := eq_true c6
   have c6b1 : decide (((strOfNums y104) ++ t102).size + t101.size ≤ 9223372036854775807) = true := decide_eq_true c6
   try have c6b2 : (9223372036854775807 < ((strOfNums y104) ++ t102).size + t101.size) = False := eq_false (Nat.not_lt.2 c6)
   obtain rfl := Option.some.inj H
   go_enter Tryd.func42, Tryd.ntmps42
   go_wp2_with (first | ((with_reducible refine gate_callee (f := 58) rfl ?_); refine goesL_ (some 9) rfl rfl Tryd.func58 (by kernel_rfl) rfl #[.slice A1 l1.length c1, .string (⟨#[]⟩ : ByteArray)] rfl argq ?_; (with_reducible refine (strings_Join.calls _ _ l1 (⟨#[]⟩ : ByteArray) t101 _ ?side1 ?side2 A3.out).mono ?_); (case side1 => repeat (first | exact HR1.out | (with_reducible refine Kd.C_alloc ?_ _) | (with_reducible refine Kd.C_drewN ?_ _) | (with_reducible refine Kd.C_drew ?_))); (case side2 => exact HC1.out); rintro e w7 ⟨rfl, hb⟩; refine ⟨_, rfl, ?_⟩; have n0_ := Aside0.mk (below_step q0_ hb); clear HB; have HB := n0_; clear n0_; (try clear hb); (try clear hb2); (try clear hk); (try clear hi)) | ((with_reducible refine gate_callee (f := 25) rfl ?_); refine goesL_ (some 13) rfl rfl Tryd.func25 (by kernel_rfl) rfl #[.int .i64 (t101.size : Int)] rfl argq ?_; (with_reducible refine (size_Encode.calls (t101.size : Int) t102 t103 _ ?side1 A4.out).mono ?_); (case side1 => exact GW.below hG q0_); rintro e w8 ⟨rfl, hb⟩; refine ⟨_, rfl, ?_⟩; have n0_ := Aside0.mk (below_step q0_ hb); clear HB; have HB := n0_; clear n0_; (try clear hb); (try clear hb2); (try clear hk); (try clear hi)) | ((with_reducible refine gate_dst (N := 18) rfl ?_); refine Kd.R_lit (Kd.int .u8) _ 5 ?hg (N := 18) ?hd (xs := ([(a0) % 256] : List Int)) (inner := [.int .u8 ((a0) % 256)]) (ok := fun _ => True) (okp := fun _ => True) ?hr ?hp (fun _ hk => hk) trivial (Below.refl _ _) (Nat.le_refl _) (by simp) ?_; (case hd => rfl); (case hg => rfl); (case hr => first | (go_simp; done) | (go_simp; rfl)); (case hp => exact (Reps.one (show Kd.M (Kd.int .u8) _ _ _ ((a0) % 256) [.int .u8 ((a0) % 256)] from rfl) (Reps.none _ _))); intro v105 w9 ho10 hb hg_ hnew_; clear hg_ hnew_; (first | rw [← Ny104.out] at ho10 | (simp only [Int.reduceToNat] at ho10; rw [← Ny104.out] at ho10)); have n0_ := Aside0.mk (Kd.R_lower ho10 (below_size q0_)); have n1_ := Aside0.mk (below_step q0_ hb); clear HB; have HO106 := n0_; have HB := n1_; clear n0_ n1_; clear hb ho10; have hcv11 := own_string (P := Tryd.prog) Tryd.underlying41 Tryd.underlying5 Tryd.underlying9 (Kd.own_of_R HO106.out)))
   go_ret
   exact ⟨q19_, q0_⟩
  ·rw [if_neg c6] at H
   exact absurd H (by simp)
 ·rw [if_neg c5] at H
  exact absurd H (by simp)
mutual
def tlv_laid.l0 : Nat → List ByteArray → List (S24) → Int → Int → Int → ByteArray → List (S24) → Option (ByteArray)
 | 0, _, _, _, _, _, _, _ => none
 | k + 1, x3, x7, x8, x9, x108000, x108001, x108002 => if x9 < x8 then (if 0 ≤ x9 then (if x9 < (x7.length : Int) then ((tlv_laid.f k ((rd_T24 x7 x9).f0) ((rd_T24 x7 x9).f1) ((rd_T24 x7 x9).f2)).bind fun t110 => (if x3.length < 8796093022208 then (tlv_laid.l0 k (x3 ++ [t110]) x7 x8 (wrap64 (x9 + 1)) x108000 x108001 x108002) else (none))) else (none)) else (none)) else (if x3.length < 8796093022208 then ((tlv_joined.f x108000 (x3 ++ [x108001])).bind fun t117 => (some t117)) else (none))
def tlv_laid.f : Nat → Int → ByteArray → List (S24) → Option (ByteArray)
 | 0, _, _, _ => none
 | k + 1, a0_0, a0_1, l0_2 => tlv_laid.l0 k ([] : List ByteArray) l0_2 (l0_2.length : Int) 0 a0_0 a0_1 l0_2
end
def tlv_laid.T7 : Bool × List (List Nat × List Nat) := (true, [([], []), ([0], [0]), ([], []), ([], []), ([3], [3]), ([4], [4]), ([2, 5], [2, 5]), ([1, 6, 6], [1, 6]), ([7, 7, 0, 1, 2, 3, 4, 5, 6, 7], [7])])
def tlv_laid.B7 : List Nat := [0, 1, 0, 0, 8, 24, 60, 127, 255]
theorem tlv_laid.tab7 : rtab .any (opsOf Tryd.f29 7) = tlv_laid.T7 := by kernel_rfl
theorem tlv_laid.bits7 : waitsOk tlv_laid.T7.2 tlv_laid.B7 = true := by kernel_rfl
set_option maxHeartbeats 8000000 in
set_option maxRecDepth 100000 in
theorem tlv_laid.calls (k : Nat) : ∀ (a0_0 : Int) (a0_1 : ByteArray) (A0_2 : Option Addr) (c0_2 : Nat) (l0_2 : List (S24)) (r : ByteArray) (w : World) (hr0_2 : Kd.C k24 w A0_2 l0_2.length l0_2) (hc0_2 : l0_2.length ≤ c0_2) (hG : GW w) (h : tlv_laid.f k a0_0 a0_1 l0_2 = some r),
  Calls Tryd.prog 29 #[.agg #[.int .i64 a0_0, .string a0_1, .slice A0_2 l0_2.length c0_2]] w fun e w' => e = .returned (.string r) ∧ Below w.heap.size w w' := by
 induction k using Nat.strongRecOn with
 | _ k ih =>
 intro a0_0 a0_1 A0_2 c0_2 l0_2 r w hr0_2 hc0_2 hG h
 cases k with
 | zero => exact absurd h (by simp [tlv_laid.f])
 | succ k =>
 simp only [tlv_laid.f] at h
 have hu24 := Tryd.underlying24
 have HR0_2 := Aside0.mk hr0_2
 have HC0_2 := Aside0.mk hc0_2
 clear hr0_2 hc0_2
 have HB := Aside0.mk (Below.refl w.heap.size w)
 have H : (tlv_laid.l0 k ([] : List ByteArray) l0_2 (l0_2.length : Int) 0 a0_0 a0_1 l0_2) = some r := h
 clear h
 have H' := Aside0.mk H
 clear H
 go_enter Tryd.func29, Tryd.ntmps29
 go_wp2_with (first | ((with_reducible refine gate_dst (N := 1) rfl ?_); refine box_event ?hg (N := 1) ?hd (cs := #[.int .i64 a0_0, .string a0_1, .slice A0_2 l0_2.length c0_2]) (t := 24) ?hr ?_; (case hd => rfl); (case hg => rfl); (case hr => first | (go_simp; done) | (go_simp; rfl)); intro gb107 hg w2 hbox hb; have n0_ := Aside0.mk (below_step q0_ hb); have n1_ := Aside0.mk (hbox); have n2_ := Aside0.mk ((by rw [hg]; exact (below_size q0_) : w.heap.size ≤ gb107)); have n3_ := Aside0.mk ((by rw [hg]; exact (below_size q0_) : w.heap.size ≤ gb107)); clear HB; have HB := n0_; have BK107 := n1_; have GW107 := n2_; have GE107 := n3_; clear n0_ n1_ n2_ n3_; clear hb hbox hg; have hcz3_0 : w2.cell? ⟨gb107, 0, none⟩ = some (.int .i64 a0_0) := (blk_cell BK107.out 0).trans rfl; have hcz3_1 : w2.cell? ⟨gb107, 1, none⟩ = some (.string a0_1) := (blk_cell BK107.out 1).trans rfl; have hcz3_2 : w2.cell? ⟨gb107, 2, none⟩ = some (.slice A0_2 l0_2.length c0_2) := (blk_cell BK107.out 2).trans rfl; have hfz3_0 := blk_frozen BK107.out 0; have hfz3_1 := blk_frozen BK107.out 1; have hfz3_2 := blk_frozen BK107.out 2))
 go_loopg [3, 9] k (fun kq v3 v9 w' => ∃ (x3_1 : List ByteArray) (x9_1 : Int), v9 = .int .i64 x9_1 ∧ Aside0 (tlv_laid.l0 kq x3_1 l0_2 (l0_2.length : Int) x9_1 a0_0 a0_1 l0_2 = some r) ∧ Aside0 (kq ≤ k) ∧ Aside0 (Kd.R Kd.string 9 w' w.heap.size (fun _ => True) v3 x3_1) ∧ Aside0 (w'.heap[gb107]? = some (.cells #[.int .i64 a0_0, .string a0_1, (.slice A0_2 l0_2.length c0_2)] 24 (0, 0))) ∧ Aside0 (Below w.heap.size w w'))
 case atStart => exact ⟨(([] : List ByteArray)), (0), q3_, H', ⟨Nat.le_refl _⟩, ⟨q8_⟩, ⟨by refine bkq ?_; exact BK107.out⟩, ⟨q0_⟩⟩
 case round =>
  clear H'
  try clear c2
  try clear p2
  try clear hcz3_0
  try clear hcz3_1
  try clear hcz3_2
  try clear hfz3_0
  try clear hfz3_1
  try clear hfz3_2
  obtain ⟨x3_1, x9_1, rfl, HA, HK1, HO_3, BK107, HB⟩ := hrel
  cases gk with
  | zero => exact absurd HA.out (by simp [tlv_laid.l0])
  | succ k1 =>
   have H := HA.out
   clear HA
   simp only [tlv_laid.l0] at H
   by_cases c4 : x9_1 < (l0_2.length : Int)
   ·rw [if_pos c4] at H
    have c4b0 : decide (x9_1 < (l0_2.length : Int)) = true := decide_eq_true c4
    clear c4
    by_cases c5 : 0 ≤ x9_1
    ·rw [if_pos c5] at H
     have c5b0 : decide (0 ≤ x9_1) = true := decide_eq_true c5
     clear c5
     by_cases c6 : x9_1 < (l0_2.length : Int)
     ·rw [if_pos c6] at H
      have c6b0 : decide (x9_1 < (l0_2.length : Int)) = true := decide_eq_true c6
      clear c6
      replace H := Option.bind_eq_some_iff.mp H
      obtain ⟨t110, A70, H⟩ := H
      replace H : (if x3_1.length < 8796093022208 then (tlv_laid.l0 k1 (x3_1 ++ [t110]) l0_2 (l0_2.length : Int) (wrap64 (x9_1 + 1)) a0_0 a0_1 l0_2) else (none)) = some r := H
      have A7 := Aside0.mk A70
      clear A70
      by_cases c8 : x3_1.length < 8796093022208
      ·rw [if_pos c8] at H
       have LMc8 := Aside0.mk c8
       clear c8
       obtain ⟨y111, hy111⟩ : ∃ y_ : List ByteArray, y_ = (x3_1 ++ [t110]) := ⟨_, rfl⟩
       replace H : (tlv_laid.l0 k1 y111 l0_2 (l0_2.length : Int) (wrap64 (x9_1 + 1)) a0_0 a0_1 l0_2) = some r := by first | (rw [hy111]; with_reducible exact H) | (have H2_ := (Option.bind_some _ _).symm.trans H; rw [hy111]; with_reducible exact H2_) | (have H2_ := (Option.bind_some _ _).symm.trans H; with_reducible exact H2_) | with_reducible exact H | (rw [hy111]; exact H) | exact H
       have Ny111 := Aside0.mk hy111
       clear hy111
       have H' := Aside0.mk H
       clear H
       have p108 : 0 ≤ (x9_1 : Int) := of_decide_eq_true q4_
       have q108 : x9_1 < (l0_2.length : Int) := of_decide_eq_true q4_
       obtain ⟨ad108, A108_2, c108_2, e108, hx108_0, hx108_1, hx108_2, hl108_2, hi108_2⟩ := at_T24 HR0_2.out x9_1 p108 q108
       cases e108
       replace hx108_0 := (HB.out.cell (World.block_lt_of_cell? w _ hx108_0)).trans hx108_0
       replace hx108_1 := (HB.out.cell (World.block_lt_of_cell? w _ hx108_1)).trans hx108_1
       replace hx108_2 := (HB.out.cell (World.block_lt_of_cell? w _ hx108_2)).trans hx108_2
       have HR108_2 := Aside0.mk hi108_2
       have HC108_2 := Aside0.mk hl108_2
       clear hi108_2 hl108_2
       replace p108 := eq_true p108
       replace q108 := eq_true q108
       go_wp2_with (first | ((with_reducible refine gate_dst (N := 5) rfl ?_); refine box_event ?hg (N := 5) ?hd (cs := #[.int .i64 0, .string (⟨#[]⟩ : ByteArray), .slice none 0 0]) (t := 24) ?hr ?_; (case hd => rfl); (case hg => rfl); (case hr => first | (go_simp; done) | (go_simp; rfl)); intro gb109 hg w9 hbox hb; have n0_ := Aside0.mk (Kd.R_below (rkq HO_3.out) hb); have n1_ := Aside0.mk (blk_below (g := gb107) (o := .cells #[.int .i64 a0_0, .string a0_1, .slice (some ad108) l0_2.length c0_2] 24 (0, 0)) (bkq BK107.out) hb); have n2_ := Aside0.mk (below_step q0_ hb); have n3_ := Aside0.mk (hbox); have n4_ := Aside0.mk ((by rw [hg]; exact (below_size q0_) : w.heap.size ≤ gb109)); have n5_ := Aside0.mk ((by rw [hg]; exact (below_size q0_) : w.heap.size ≤ gb109)); have n6_ := Aside0.mk ((by rw [hg]; exact Nat.ne_of_lt (blk_lt (g := gb107) (o := .cells #[.int .i64 a0_0, .string a0_1, .slice (some ad108) l0_2.length c0_2] 24 (0, 0)) (bkq BK107.out)) : gb107 ≠ gb109)); have n7_ := Aside0.mk ((by rw [hg]; exact Nat.ne_of_gt (blk_lt (g := gb107) (o := .cells #[.int .i64 a0_0, .string a0_1, .slice (some ad108) l0_2.length c0_2] 24 (0, 0)) (bkq BK107.out)) : gb109 ≠ gb107)); clear HO_3; clear BK107; clear HB; have HO_3 := n0_; have BK107 := n1_; have HB := n2_; have BK109 := n3_; have GW109 := n4_; have GE109 := n5_; have NB107_109 := n6_; have NB109_107 := n7_; clear n0_ n1_ n2_ n3_ n4_ n5_ n6_ n7_; clear hb hbox hg; have hnb10 := NB109_107.out; have hnc10 := NB107_109.out; have hcz11_0 : w9.cell? ⟨gb109, 0, none⟩ = some (.int .i64 0) := (blk_cell BK109.out 0).trans rfl; have hcz11_1 : w9.cell? ⟨gb109, 1, none⟩ = some (.string (⟨#[]⟩ : ByteArray)) := (blk_cell BK109.out 1).trans rfl; have hcz11_2 : w9.cell? ⟨gb109, 2, none⟩ = some (.slice none 0 0) := (blk_cell BK109.out 2).trans rfl; have hfz11_0 := blk_frozen BK109.out 0; have hfz11_1 := blk_frozen BK109.out 1; have hfz11_2 := blk_frozen BK109.out 2) | ((with_reducible refine gate_callee (f := 29) rfl ?_); refine goesL_ (some 15) rfl rfl Tryd.func29 (by kernel_rfl) rfl #[.agg #[.int .i64 ((rd_T24 l0_2 x9_1).f0), .string ((rd_T24 l0_2 x9_1).f1), .slice A108_2 ((rd_T24 l0_2 x9_1).f2).length c108_2]] rfl argq ?_; (with_reducible refine (ih k1 (by have := HK1.out; omega) ((rd_T24 l0_2 x9_1).f0) ((rd_T24 l0_2 x9_1).f1) _ _ ((rd_T24 l0_2 x9_1).f2) t110 _ ?side1 ?side2 ?side3 A7.out).mono ?_); (case side1 => exact Kd.C_below HR108_2.out q0_); (case side2 => exact HC108_2.out); (case side3 => exact GW.below hG q0_); rintro e w12 ⟨rfl, hb⟩; refine ⟨_, rfl, ?_⟩; have n0_ := Aside0.mk (Kd.R_below (by refine rkq ?_; exact (Kd.R_mono (Kd.R_far (p := ⟨gb109, 2, none⟩) (Kd.R_far (p := ⟨gb109, 1, none⟩) (Kd.R_far (p := ⟨gb109, 0, none⟩) (Kd.R_types HO_3.out BK109.out (by decide)) (fun _ hk => hk.2) (.int .i64 ((rd_T24 l0_2 x9_1).f0))) (fun _ hk => hk.2) (.string ((rd_T24 l0_2 x9_1).f1))) (fun _ hk => hk.2) (.slice A108_2 ((rd_T24 l0_2 x9_1).f2).length c108_2)) (fun _ h_ => h_.1))) hb); have n1_ := Aside0.mk (blk_below (g := gb107) (o := .cells #[.int .i64 a0_0, .string a0_1, .slice (some ad108) l0_2.length c0_2] 24 (0, 0)) (by refine bkq ?_; refine blk_far ?_ NB107_109.out _; refine bkq ?_; refine blk_far ?_ NB107_109.out _; refine bkq ?_; refine blk_far ?_ NB107_109.out _; refine bkq ?_; exact BK107.out) hb); have n2_ := Aside0.mk (blk_below (g := gb109) (o := .cells #[.int .i64 ((rd_T24 l0_2 x9_1).f0), .string ((rd_T24 l0_2 x9_1).f1), .slice A108_2 ((rd_T24 l0_2 x9_1).f2).length c108_2] 24 (0, 0)) (by refine bkq ?_; refine blk_put (cs := #[.int .i64 ((rd_T24 l0_2 x9_1).f0), .string ((rd_T24 l0_2 x9_1).f1), .slice none 0 0]) ?_ 2 _ rfl; refine bkq ?_; refine blk_put (cs := #[.int .i64 ((rd_T24 l0_2 x9_1).f0), .string (⟨#[]⟩ : ByteArray), .slice none 0 0]) ?_ 1 _ rfl; refine bkq ?_; refine blk_put (cs := #[.int .i64 0, .string (⟨#[]⟩ : ByteArray), .slice none 0 0]) ?_ 0 _ rfl; refine bkq ?_; exact BK109.out) hb); have n3_ := Aside0.mk (below_step q0_ hb); clear HO_3; clear BK107; clear BK109; clear HB; have HO_3 := n0_; have BK107 := n1_; have BK109 := n2_; have HB := n3_; clear n0_ n1_ n2_ n3_; (try clear hb); (try clear hb2); (try clear hk); (try clear hi)) | ((with_reducible refine gate_builtin (b := .append) (xs := #[.tmp 13, .tmp 16]) rfl ?_); at_builtin; refine Kd.R_append Kd.string (w0 := w) w.heap.size rfl (.tmp 13) (.tmp 16) 68 9 (.string ⟨#[]⟩) 16 rfl Tryd.underlying68 info9 rfl (by decide) (by omega) u3 x3_1 t110 [.string t110] (fun _ => True) (fun _ => False) rfl rfl ?aP (fun _ hk => hk.elim) ?aF ?aO ?aB ?aS ?aL ?_; (case aP => exact rfl); (case aB => exact q0_); (case aF => exact (fun _ _ => trivial)); (case aO => exact (rkq HO_3.out)); (case aS => exact (below_size q0_)); (case aL => have := LMc8.out; omega); intro v112 w13 ho hb hg hat; rw [← Ny111.out] at ho; have n0_ := Aside0.mk (blk_grown (g := gb107) (o := .cells #[.int .i64 a0_0, .string a0_1, .slice (some ad108) l0_2.length c0_2] 24 (0, 0)) (bkq BK107.out) hg (Kd.R_ne HO_3.out BK107.out (by decide))); have n1_ := Aside0.mk (blk_grown (g := gb109) (o := .cells #[.int .i64 ((rd_T24 l0_2 x9_1).f0), .string ((rd_T24 l0_2 x9_1).f1), .slice A108_2 ((rd_T24 l0_2 x9_1).f2).length c108_2] 24 (0, 0)) (bkq BK109.out) hg (Kd.R_ne HO_3.out BK109.out (by decide))); have n2_ := Aside0.mk (hb); have n3_ := Aside0.mk (ho); clear BK107; clear BK109; clear HB; clear HO_3; have BK107 := n0_; have BK109 := n1_; have HB := n2_; have HO113 := n3_; clear n0_ n1_ n2_ n3_; clear ho hb hg hat))
       go_roundg k1
       case measure => have := HK1.out; omega
       case rel => exact ⟨(y111), (wrap64 (x9_1 + 1)), q3_, H', ⟨by have := HK1.out; omega⟩, ⟨by refine rkq ?_; exact HO113.out⟩, ⟨by refine bkq ?_; exact BK107.out⟩, ⟨q0_⟩⟩
      ·rw [if_neg c8] at H
       exact absurd H (by simp)
     ·rw [if_neg c6] at H
      exact absurd H (by simp)
    ·rw [if_neg c5] at H
     exact absurd H (by simp)
   ·rw [if_neg c4] at H
    have c4b0 : decide (x9_1 < (l0_2.length : Int)) = false := decide_eq_false c4
    clear c4
    by_cases c14 : x3_1.length < 8796093022208
    ·rw [if_pos c14] at H
     have LMc14 := Aside0.mk c14
     clear c14
     obtain ⟨y114, hy114⟩ : ∃ y_ : List ByteArray, y_ = (x3_1 ++ [a0_1]) := ⟨_, rfl⟩
     replace H : ((tlv_joined.f a0_0 y114).bind fun t117 => (some t117)) = some r := by first | (rw [hy114]; with_reducible exact H) | (have H2_ := (Option.bind_some _ _).symm.trans H; rw [hy114]; with_reducible exact H2_) | (have H2_ := (Option.bind_some _ _).symm.trans H; with_reducible exact H2_) | with_reducible exact H | (rw [hy114]; exact H) | exact H
     have Ny114 := Aside0.mk hy114
     clear hy114
     replace H := Option.bind_eq_some_iff.mp H
     obtain ⟨t117, A150, H⟩ := H
     replace H : (some t117) = some r := H
     have A15 := Aside0.mk A150
     clear A150
     obtain rfl := Option.some.inj H
     try go_wp2
     have n0_ := Aside0.mk (Kd.R_drew HO_3.out)
     have n1_ := Aside0.mk (blk_drew BK107.out)
     have n2_ := Aside0.mk (below_drew1 HB.out)
     clear HO_3
     clear BK107
     clear HB
     have HO_3 := n0_
     have BK107 := n1_
     have HB := n2_
     clear n0_ n1_ n2_
     refine start_ (n := 9) (S := fun w' => w'.cell? ⟨gb107, 0, none⟩ = some (.int .i64 a0_0) ∧ w'.cell? ⟨gb107, 1, none⟩ = some (.string a0_1) ∧ w'.cell? ⟨gb107, 2, none⟩ = some (.slice A0_2 l0_2.length c0_2)) (ds := []) #[false, false, false, false, false, false, false, false, false] (by kernel_rfl) rfl rfl ⟨(blk_cell BK107.out 0).trans rfl, (blk_cell BK107.out 1).trans rfl, (blk_cell BK107.out 2).trans rfl⟩ (fun hHeld => ?_); refine with_tabW tlv_laid.tab7 tlv_laid.bits7 (fun HT_ HW_ => ?_)
     generalize wr.drew = w16 at HO_3 BK107 HB hHeld ⊢
     refine p_ 0 (some 19) ?_
     refine p_ 2 (some 21) ?_
     refine p_ 3 (some 22) ?_
     refine t0_ 1 (some 20) ?_
     refine t0_ 4 (some 23) ?_
     refine one_ (i := 5) (N := some 24) #[true, true, true, true, true, true, false, false, false] rfl rfl (one_of HT_.out (by kernel_rfl)) (by decide) (fun K hK => ?_)
     refine value_ (w1 := ?_) (v := ?_) (by rfl) rfl ?_ ?_
     rotate_left 2
     ·go_simp
      constructor
      ·rfl
      ·rfl
     refine hK.out _ _ ⟨(blk_cell (blk_alloc BK107.out _) 0).trans rfl, (blk_cell (blk_alloc BK107.out _) 1).trans rfl, (blk_cell (blk_alloc BK107.out _) 2).trans rfl⟩ (fun hHeld => ?_)
     clear hK K
     refine norm_ (a' := ?_) ?_ ?_
     rotate_left
     ·show Act.put _ (some 24) _ = _
      exact putq
     refine one_ (i := 6) (N := some 25) #[true, true, true, true, true, true, true, false, false] rfl rfl (one_of HT_.out (by kernel_rfl)) (by decide) (fun K hK => ?_)
     refine Kd.R_append_step Kd.string (w0 := w) w.heap.size (by rfl) (.tmp 21) (.tmp 24) 68 9 (.string ⟨#[]⟩) 16 rfl Tryd.underlying68 info9 rfl (by decide) (by omega) u3 x3_1 a0_1 [.string a0_1] (fun _ => True) (fun _ => False) rfl rfl ?aP (fun _ hk => hk.elim) ?aF ?aO ?aB ?aS ?aL ?_
     (case aP => exact rfl)
     (case aB => exact q0_)
     (case aF => exact (fun _ _ => trivial))
     (case aO => exact (rkq HO_3.out))
     (case aS => exact (below_size q0_))
     (case aL => have := LMc14.out; omega)
     intro v115 w17 ho hb hg hat
     rw [← Ny114.out] at ho
     have n0_ := Aside0.mk (blk_grown (g := gb107) (o := .cells #[.int .i64 a0_0, .string a0_1, .slice A0_2 l0_2.length c0_2] 24 (0, 0)) (bkq BK107.out) hg (Kd.R_ne HO_3.out BK107.out (by decide)))
     have n1_ := Aside0.mk (hb)
     have n2_ := Aside0.mk (ho)
     clear BK107
     clear HB
     clear HO_3
     have BK107 := n0_
     have HB := n1_
     have HO116 := n2_
     clear n0_ n1_ n2_
     clear ho hb hg hat
     obtain ⟨Ao18, co18, eo18⟩ := Kd.R_slice HO116.out
     (first | subst eo18 | (injection eo18 with f1_ f2_ f3_; have f4_ := f1_.symm; have f5_ := f3_.symm; clear f1_ f2_ f3_; subst f4_; subst f5_))
     refine hK.out _ _ ⟨(blk_cell BK107.out 0).trans rfl, (blk_cell BK107.out 1).trans rfl, (blk_cell BK107.out 2).trans rfl⟩ (fun hHeld => ?_)
     clear hK K
     refine norm_ (a' := ?_) ?_ ?_
     rotate_left
     ·show Act.put _ (some 25) _ = _
      exact putq
     refine one_ (i := 7) (N := some 26) #[true, true, true, true, true, true, true, true, false] rfl rfl (one_of HT_.out (by kernel_rfl)) (by decide) (fun K hK => ?_)
     refine goes_ Tryd.func42 (by kernel_rfl) rfl #[.int .i64 a0_0, .slice Ao18 y114.length co18] (by rfl) rfl rfl argq ?_
     with_reducible refine (tlv_joined.calls a0_0 _ _ y114 t117 _ ?side1 ?side2 ?side3 A15.out).mono ?_
     (case side1 => repeat (first | exact (Kd.R_reads' HO116.out).2.2 | (with_reducible refine Kd.C_alloc ?_ _) | (with_reducible refine Kd.C_drewN ?_ _) | (with_reducible refine Kd.C_drew ?_)))
     (case side2 => exact (Kd.R_reads' HO116.out).2.1)
     (case side3 => exact GW.below hG q0_)
     rintro e w19 ⟨rfl, hb⟩
     refine ⟨_, rfl, ?_⟩
     have n0_ := Aside0.mk (Kd.R_below (rkq HO116.out) hb)
     have n1_ := Aside0.mk (blk_below (g := gb107) (o := .cells #[.int .i64 a0_0, .string a0_1, .slice A0_2 l0_2.length c0_2] 24 (0, 0)) (bkq BK107.out) hb)
     have n2_ := Aside0.mk (below_step q0_ hb)
     clear HO116
     clear BK107
     clear HB
     have HO116 := n0_
     have BK107 := n1_
     have HB := n2_
     clear n0_ n1_ n2_
     (try clear hb)
     (try clear hb2)
     (try clear hk)
     (try clear hi)
     refine hK.out _ _ ⟨(blk_cell BK107.out 0).trans rfl, (blk_cell BK107.out 1).trans rfl, (blk_cell BK107.out 2).trans rfl⟩ (fun hHeld => ?_)
     clear hK K
     refine norm_ (a' := ?_) ?_ ?_
     rotate_left
     ·show Act.put _ (some 26) _ = _
      exact putq
     refine p_ 8 (some 2) ?_
     refine done_ (done_of HT_.out (by kernel_rfl)) ?_
     try go_wp2
     go_ret
     exact ⟨q19_, q0_⟩
    ·rw [if_neg c14] at H
     exact absurd H (by simp)
end Go.Proofs.YthnddhgkjkpmfaaDoor.LTlvB
-- Written by this repo's own program over the kit's printer: YthnddhgkjkpmfaaDoor.LTlvB
namespace Go.Proofs.YthnddhgkjkpmfaaDoor.LTlvB
open Go.Proofs.YthnddhgkjkpmfaaDoor.ExtTlvB
open Go.Proofs.YthnddhgkjkpmfaaDoor.LTlvO
open Go.Proofs.YthnddhgkjkpmfaaDoor.KTlv
open Go.RowKit Go.Proofs.YthnddhgkjkpmfaaDoorW.PrintWords Go.Proofs.YthnddhgkjkpmfaaDoorW.PrintLast Go.Proofs.YthnddhgkjkpmfaaDoorW.PrintMore
attribute [local go_sem] max2_int min2_int max_two min_two max_three min_three max_four min_four   -- for this text's walks alone
set_option linter.unusedVariables false
set_option linter.unusedSimpArgs false
end Go.Proofs.YthnddhgkjkpmfaaDoor.LTlvB
