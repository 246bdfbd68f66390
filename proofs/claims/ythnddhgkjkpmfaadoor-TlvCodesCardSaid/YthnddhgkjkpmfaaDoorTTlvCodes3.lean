/- TTlvCodes3: own texts of this seat, laid as one. -/
import Derived.Test.YthnddhgkjkpmfaaDoorTTlvCodes2
/- Trees' bytes, plainly: what tlv's printed 'laid' answers at a tree of such a shape. No program in sight. -/
namespace Go.Proofs.YthnddhgkjkpmfaaDoor
set_option linter.unusedSimpArgs false
set_option linter.unusedVariables false
namespace Tlv
open Go.RowKit Go.Proofs.YthnddhgkjkpmfaaDoorW.PrintWords Go.Proofs.YthnddhgkjkpmfaaDoor.PureB Go.Proofs.YthnddhgkjkpmfaaDoor.KTlv Go.Proofs.YthnddhgkjkpmfaaDoor.ExtTlvB Go.Proofs.YthnddhgkjkpmfaaDoor.LTlvB
theorem enc_le (n : Int) : (Size.encS n).size ≤ 4 := by
  by_cases h : n < 0 ∨ 16777215 < n
  · rw [(SizeQ.encS_bad h).1]; decide
  · rw [SizeQ.enc_size n h]
    split <;> (try split) <;> (try split) <;> omega
theorem laid_le : ∀ (m : Nat) (x : Nd), SizeOf.sizeOf x < m → ∀ d, (pre d x).all okAt = true → (laid x).size ≤ (pre d x).length * 4005 := by
  intro m
  induction m with
  | zero => intro x h; exact absurd h (Nat.not_lt_zero _)
  | succ m ih =>
    rintro ⟨t, b, ks⟩ hx d h
    obtain ⟨h1, h2⟩ := all_pre h
    obtain ⟨_, _, _, _, _, _, k7⟩ := (okAt_iff _ _).1 h1
    simp only at k7
    have hl : ∀ l : List Nd, (∀ y ∈ l, y ∈ ks) → (laidL l).size ≤ (preL (d + 1) l).length * 4005 := by
      intro l
      induction l with
      | nil => intro _; show 0 ≤ _; omega
      | cons y l ihl =>
        intro hl
        have hy := hl y (List.mem_cons_self ..)
        have q1 := ihl (fun z hz => hl z (List.mem_cons_of_mem _ hz))
        have q2 := ih y (by have := List.sizeOf_lt_of_mem hy; simp only [S24.mk.sizeOf_spec] at hx; omega) (d + 1) (h2 y hy)
        rw [laidL, preL, ByteArray.size_append, List.length_append, Nat.add_mul]
        omega
    have q := hl ks (fun _ h => h)
    have hz := joined_size t (laidL ks ++ b)
    have he := enc_le ((laidL ks ++ b).size : Int)
    have hz2 : ((laidL ks ++ b).size : Nat) = (laidL ks).size + b.size := ByteArray.size_append
    rw [laid, pre, List.length_cons, Nat.add_mul]
    omega
theorem shaped_le {x : Nd} (h : shaped x = true) : (pre 1 x).length ≤ 200 ∧ (pre 1 x).all okAt = true ∧ (laid x).size ≤ 801000 := by
  unfold shaped at h
  rw [Bool.and_eq_true, decide_eq_true_eq] at h
  have := laid_le _ x (Nat.lt_succ_self _) 1 h.2
  refine ⟨h.1, h.2, ?_⟩
  have : (pre 1 x).length * 4005 ≤ 200 * 4005 := Nat.mul_le_mul_right _ h.1
  omega
def cat : List ByteArray → ByteArray
  | [] => ⟨#[]⟩
  | b :: l => b ++ cat l
theorem join_cat (l : List ByteArray) : joinB l ⟨#[]⟩ = cat l := by
  have hj : ∀ l : List ByteArray, Lib.join (l.map (·.data.toList)) [] = (cat l).data.toList := by
    intro l
    cases l with
    | nil => rfl
    | cons b l =>
      rw [List.map_cons, Lib.join_cons]
      have : ∀ l : List ByteArray, Lib.joinTail [] (l.map (·.data.toList)) = (cat l).data.toList := by
        intro l
        induction l with
        | nil => rfl
        | cons c l ih =>
          unfold Lib.joinTail at ih ⊢
          rw [List.map_cons, List.map_cons, List.flatten_cons, ih, cat]
          simp
      rw [this, cat]
      simp
  unfold joinB
  rw [show ((⟨#[]⟩ : ByteArray).data.toList) = ([] : List UInt8) from rfl, hj]
theorem join_f (l : List ByteArray) (h1 : l.length ≤ 140737488355328) (h2 : (cat l).size ≤ 140737488355328) : strings_Join.f l ⟨#[]⟩ = some (cat l) := by
  have := join_cat l
  unfold strings_Join.f
  rw [this, if_pos]
  refine ⟨h1, ?_⟩
  have hh : (joinB l ⟨#[]⟩).size = (Lib.join (l.map (·.data.toList)) (⟨#[]⟩ : ByteArray).data.toList).length := rfl
  rw [← hh, this]
  exact h2
theorem cat_app : ∀ l : List ByteArray, ∀ b, cat (l ++ [b]) = cat l ++ b
  | [], b => by rw [List.nil_append, cat, cat, cat, nil_app, app_nil]
  | c :: l, b => by rw [List.cons_append, cat, cat, cat_app l b, ByteArray.append_assoc]
theorem cat_laid : ∀ ks : List Nd, cat (ks.map laid) = laidL ks
  | [] => rfl
  | k :: ks => by rw [List.map_cons, cat, laidL, cat_laid ks]
theorem joined_f (t : Int) (h0 : 0 ≤ t) (h1 : t ≤ 255) (l : List ByteArray) (hl : l.length ≤ 140737488355328) (h2 : (cat l).size ≤ 16777215) : tlv_joined.f t l = some (joined t (cat l)) := by
  have he := enc_le ((cat l).size : Int)
  unfold tlv_joined.f
  rw [join_f l hl (by omega)]
  simp only [Option.bind_some, size_Encode.f]
  have hs : (strOfNums [t % 256]).size = 1 := son_size _
  have e : t % 256 = t := by omega
  rw [if_pos (by omega), if_pos (by rw [ByteArray.size_append]; omega), e]
  rfl
theorem rd_at (ks : List Nd) (i : Nat) (h : i < ks.length) : rd_T24 ks (i : Int) = ks[i] := by
  unfold rd_T24
  rw [Int.toNat_natCast, List.getD_eq_getElem?_getD, List.getElem?_eq_getElem h]
  rfl
theorem laid_f : ∀ (m : Nat) (x : Nd), SizeOf.sizeOf x < m → ∀ (d : Int) (k : Nat), 2 * (pre d x).length ≤ k → (pre d x).length ≤ 1000 → (laid x).size ≤ 16777215 → (pre d x).all okAt = true → tlv_laid.f k x.f0 x.f1 x.f2 = some (laid x) := by
  intro m
  induction m with
  | zero => intro x h; exact absurd h (Nat.not_lt_zero _)
  | succ m ih =>
    rintro ⟨t, b, ks⟩ hx d k hk hn hz hok
    obtain ⟨h1, h2⟩ := all_pre hok
    obtain ⟨_, k2, k3, _⟩ := (okAt_iff _ _).1 h1
    simp only at k2 k3
    have hp := pre_pos d ⟨t, b, ks⟩
    obtain ⟨k, rfl⟩ : ∃ j, k = j + 1 := ⟨k - 1, by omega⟩
    simp only [tlv_laid.f]
    rw [pre, List.length_cons] at hk hn
    have hzj := joined_size t (laidL ks ++ b)
    have hz2 : ((laidL ks ++ b).size : Nat) = (laidL ks).size + b.size := ByteArray.size_append
    rw [laid] at hz
    have hlen := preL_len (d + 1) ks
    have loop : ∀ (r : Nat) (i : Nat) (k : Nat), i + r = ks.length → 2 * (preL (d + 1) (ks.drop i)).length + 1 ≤ k →
        tlv_laid.l0 k ((ks.take i).map laid) ks (ks.length : Int) (i : Int) t b ks = some (laid ⟨t, b, ks⟩) := by
      intro r
      induction r with
      | zero =>
        intro i k hi hk
        obtain ⟨k, rfl⟩ : ∃ j, k = j + 1 := ⟨k - 1, by omega⟩
        obtain rfl : i = ks.length := by omega
        rw [tlv_laid.l0, if_neg (by omega), List.take_length, if_pos (by rw [List.length_map]; omega), joined_f t k2 k3 _ (by rw [List.length_append, List.length_map, List.length_singleton]; omega) (by rw [cat_app, cat_laid]; omega), cat_app, cat_laid]
        rfl
      | succ r ihr =>
        intro i k hi hk
        obtain ⟨k, rfl⟩ : ∃ j, k = j + 1 := ⟨k - 1, by omega⟩
        have hlt : i < ks.length := by omega
        rw [List.drop_eq_getElem_cons hlt, preL, List.length_append] at hk
        have hmem : ks[i] ∈ ks := List.getElem_mem hlt
        have hle := laidL_mem hmem
        have hpp := pre_pos (d + 1) ks[i]
        have hpl : (pre (d + 1) ks[i]).length ≤ (preL (d + 1) ks).length := by
          have : ∀ l : List Nd, ks[i] ∈ l → (pre (d + 1) ks[i]).length ≤ (preL (d + 1) l).length := by
            intro l
            induction l with
            | nil => intro h; cases h
            | cons y l ihl =>
              intro h
              rw [preL, List.length_append]
              rcases List.mem_cons.1 h with h | h
              · rw [← h]; omega
              · have := ihl h; omega
          exact this ks hmem
        have hf := ih ks[i] (by have := List.sizeOf_lt_of_mem hmem; simp only [S24.mk.sizeOf_spec] at hx; omega) (d + 1) k (by omega) (by omega) (by omega) (h2 _ hmem)
        rw [tlv_laid.l0, if_pos (by omega), if_pos (by omega), if_pos (by omega), rd_at ks i hlt, hf]
        simp only [Option.bind_some]
        rw [if_pos (by rw [List.length_map, List.length_take]; omega), w64 (by omega) (by omega)]
        have := ihr (i + 1) k (by omega) (by omega)
        rw [List.take_add_one, List.getElem?_eq_getElem hlt, List.map_append] at this
        exact this
    have := loop ks.length 0 k (by omega) (by rw [List.drop_zero]; omega)
    exact this
end Tlv
end Go.Proofs.YthnddhgkjkpmfaaDoor
/- Go's own errors.As and errors.Is at tlv's errors: a struct of a number and an error, that wraps a sentinel or a length's error. -/
namespace Go.Proofs.YthnddhgkjkpmfaaDoor
set_option linter.unusedSimpArgs false
set_option linter.unusedVariables false
namespace Tlv
open Go.RowKit Go.Extern.Stop Go.Stop Go.Extern
abbrev werr (n : Int) (b : Addr) : Value := .iface 51 (.agg #[.int .i64 n, .iface 148 (.pointer (some b))])
abbrev wlen (n e : Int) : Value := .iface 51 (.agg #[.int .i64 n, .iface 64 (.agg #[.int .i64 e])])
theorem valueOfPW (t : Addr) (w : World) : (ReflectliteValue.unpack (.iface 66 (.pointer (some t)))).run Tryd.prog w
    = .ok (.agg #[.pointer (some ⟨9, 66, none⟩), .pointer (some ⟨w.heap.size, 0, none⟩), .int .u64 150]) (w.alloc (.cells #[.pointer (some t)] 66)) := by kernel_rfl
theorem typePW (a : Addr) (w : World) : (ReflectliteValue.methodAny (ReflectliteValue.valueError "reflectlite.Value.Type" 0) (fun t _ _ _ => ReflectliteType.toType t) #[.agg #[.pointer (some ⟨9, 66, none⟩), .pointer (some a), .int .u64 150]]).run Tryd.prog w
    = .ok (.iface 116 (.agg #[.pointer (some ⟨9, 66, none⟩)])) w := by kernel_rfl
theorem kindPW (w : World) : ((ReflectliteType.abiMethod fun t => (fun a : Nat => Value.int IntKind.u8 (a : Int)) <$> Rtype.kind t) #[.pointer (some ⟨9, 66, none⟩)]).run Tryd.prog w = .ok (.int .u8 22) w := by kernel_rfl
theorem kindW (w : World) : ((ReflectliteType.abiMethod fun t => (fun a : Nat => Value.int IntKind.u8 (a : Int)) <$> Rtype.kind t) #[.pointer (some ⟨9, 64, none⟩)]).run Tryd.prog w = .ok (.int .u8 25) w := by kernel_rfl
theorem partsPW (a : Addr) (w : World) : (ReflectliteValue.parts (.agg #[.pointer (some ⟨9, 66, none⟩), .pointer (some a), .int .u64 150])).run Tryd.prog w = .ok (some (66, a, 150)) w := by kernel_rfl
theorem isNilPW (a p : Addr) (W : World) (ha : W.cell? a = some (.pointer (some p))) :
    (ReflectliteValue.method (ReflectliteValue.valueError "reflectlite.Value.IsNil" 0) ReflectliteValue.isNil #[.agg #[.pointer (some ⟨9, 66, none⟩), .pointer (some a), .int .u64 150]]).run Tryd.prog W = .ok (.bool false) W := by
  rw [rlm]
  simp only [Sem.run_bind, partsPW, Result.andThen]
  simp [ReflectliteValue.isNil, loadVar, isAgg, underlying, Tryd.underlying66, ha, Result.andThen]
theorem elemPW (w : World) : (ReflectliteType.method ReflectliteType.elem #[.agg #[.pointer (some ⟨9, 66, none⟩)]]).run Tryd.prog w = .ok (.iface 116 (.agg #[.pointer (some ⟨9, 64, none⟩)])) w := by kernel_rfl
theorem implementsW (w : World) : (ReflectliteType.relation "Implements" ReflectliteType.implements_ #[.agg #[.pointer (some ⟨9, 64, none⟩)], .iface 116 (.agg #[.pointer (some ⟨9, 49, none⟩)])]).run Tryd.prog w = .ok (.bool true) w := by kernel_rfl
theorem typeOfW (v : Value) (w : World) : (ReflectliteType.typeOf #[.iface 64 v]).run Tryd.prog w = .ok (.iface 116 (.agg #[.pointer (some ⟨9, 64, none⟩)])) w := by kernel_rfl
theorem assignableW (w : World) : (ReflectliteType.relation "AssignableTo" ReflectliteType.assignableTo #[.agg #[.pointer (some ⟨9, 64, none⟩)], .iface 116 (.agg #[.pointer (some ⟨9, 64, none⟩)])]).run Tryd.prog w = .ok (.bool true) w := by kernel_rfl
theorem valueOfW (e : Int) (w : World) : (ReflectliteValue.unpack (.iface 64 (.agg #[.int .i64 e]))).run Tryd.prog w
    = .ok (.agg #[.pointer (some ⟨9, 64, none⟩), .pointer (some ⟨w.heap.size, 0, none⟩), .int .u64 153]) (w.alloc (.cells #[.int .i64 e] 64)) := by kernel_rfl
theorem elemOfPW (w : World) : (Rtype.elem? 66).run Tryd.prog w = .ok (some 64) w := by kernel_rfl
theorem mkW (p : Addr) (w : World) : (ReflectliteValue.mk 64 p ReflectliteValue.flagAddr).run Tryd.prog w = .ok (.agg #[.pointer (some ⟨9, 64, none⟩), .pointer (some p), .int .u64 409]) w := by kernel_rfl
theorem elemVPW (a p : Addr) (W : World) (ha : W.cell? a = some (.pointer (some p))) :
    (ReflectliteValue.method (ReflectliteValue.valueError "reflectlite.Value.Elem" 0) ReflectliteValue.elem #[.agg #[.pointer (some ⟨9, 66, none⟩), .pointer (some a), .int .u64 150]]).run Tryd.prog W
      = .ok (.agg #[.pointer (some ⟨9, 64, none⟩), .pointer (some p), .int .u64 409]) W := by
  rw [rlm]
  simp only [Sem.run_bind, partsPW, Result.andThen]
  simp [ReflectliteValue.elem, loadVar, isAgg, underlying, Tryd.underlying66, ha, Result.andThen, elemOfPW, mkW]
theorem partsWa (a : Addr) (w : World) : (ReflectliteValue.parts (.agg #[.pointer (some ⟨9, 64, none⟩), .pointer (some a), .int .u64 409])).run Tryd.prog w = .ok (some (64, a, 409)) w := by kernel_rfl
theorem partsW (a : Addr) (w : World) : (ReflectliteValue.parts (.agg #[.pointer (some ⟨9, 64, none⟩), .pointer (some a), .int .u64 153])).run Tryd.prog w = .ok (some (64, a, 153)) w := by kernel_rfl
theorem directW (w : World) : (Rtype.directlyAssignable 64 64).run Tryd.prog w = .ok true w := by kernel_rfl
theorem sizeW : (Tryd.prog.info? 64).map (·.size) = some 1 := by kernel_rfl
theorem setW (g gb : Nat) (v0 : Value) (old : Array Value) (W : World) (hb : W.heap[gb]? = some (.cells #[v0] 64 (0, 0))) (ht : W.heap[g]? = some (.cells old 64 (0, 0))) (ho : old.size = 1) (h1 : (#[v0] : Array Value).all (·.oneCell') = true) :
    (ReflectliteValue.set #[.agg #[.pointer (some ⟨9, 64, none⟩), .pointer (some ⟨g, 0, none⟩), .int .u64 409], .agg #[.pointer (some ⟨9, 64, none⟩), .pointer (some ⟨gb, 0, none⟩), .int .u64 153]]).run Tryd.prog W
      = .ok (.tuple #[]) (W.setRow g #[v0]) := by
  rw [rls]
  simp only [Sem.run_bind, partsWa, partsW, Result.andThen]
  simp [ReflectliteValue.flagAddr, run_loadVar_row (P := Tryd.prog) W gb 64 64 #[v0] (0, 0) _ hb Tryd.underlying64 rfl sizeW, Result.andThen, directW, run_storeVar_row (P := Tryd.prog) W g 64 64 old #[v0] ht sizeW ho h1]
theorem typeOfWr (v : Value) (w : World) : (ReflectliteType.typeOf #[.iface 51 v]).run Tryd.prog w = .ok (.iface 116 (.agg #[.pointer (some ⟨9, 51, none⟩)])) w := by kernel_rfl
theorem noAssignWr (w : World) : (ReflectliteType.relation "AssignableTo" ReflectliteType.assignableTo #[.agg #[.pointer (some ⟨9, 51, none⟩)], .iface 116 (.agg #[.pointer (some ⟨9, 64, none⟩)])]).run Tryd.prog w = .ok (.bool false) w := by kernel_rfl
theorem noAssignES (w : World) : (ReflectliteType.relation "AssignableTo" ReflectliteType.assignableTo #[.agg #[.pointer (some ⟨9, 148, none⟩)], .iface 116 (.agg #[.pointer (some ⟨9, 64, none⟩)])]).run Tryd.prog w = .ok (.bool false) w := by kernel_rfl
theorem noAsWr (v : Value) (xT : TypeId) (w : World) : (Instr.typeAssert (.iface 51 v) xT 120 true).run Tryd.prog w = .ok (.tuple #[.nilIface, .bool false]) w := run_typeAssert_lacksB Tryd.underlying120 (by kernel_rfl) (by kernel_rfl) v xT w
theorem noAsES (v : Value) (xT : TypeId) (w : World) : (Instr.typeAssert (.iface 148 v) xT 120 true).run Tryd.prog w = .ok (.tuple #[.nilIface, .bool false]) w := run_typeAssert_lacksB Tryd.underlying120 (by kernel_rfl) (by kernel_rfl) v xT w
theorem noIsW (v : Value) (xT : TypeId) (w : World) : (Instr.typeAssert (.iface 51 v) xT 128 true).run Tryd.prog w = .ok (.tuple #[.nilIface, .bool false]) w := run_typeAssert_lacksB Tryd.underlying128 (by kernel_rfl) (by kernel_rfl) v xT w
theorem hasUnwrapW (v : Value) (xT : TypeId) (w : World) : (Instr.typeAssert (.iface 51 v) xT 123 true).run Tryd.prog w = .ok (.tuple #[.iface 51 v, .bool true]) w := run_typeAssert_hasB Tryd.underlying123 (by kernel_rfl) v xT w
theorem methodUnwrapW (v : Value) (w : World) : (Go.method 280 51 v "Unwrap").run Tryd.prog w = .ok (96, v) w := by kernel_rfl
set_option maxRecDepth 100000 in
set_option maxHeartbeats 4000000 in
theorem as_len (n e : Int) (g : Nat) (old : Array Value) (w : World) (hg : w.cell? ⟨7, 0, none⟩ = some (.iface 116 (.agg #[.pointer (some ⟨9, 49, none⟩)])))
    (ht : w.heap[g]? = some (.cells old 64 (0, 0))) (ho : old.size = 1) :
    Calls Tryd.prog 40 #[wlen n e, .iface 66 (.pointer (some ⟨g, 0, none⟩))] w fun ev w' => ev = .returned (.bool true) ∧ Below g w w' ∧ w'.heap[g]? = some (.cells #[.int .i64 e] 64 (0, 0)) := by
  have h6 := @run_callFunc_extern Tryd.prog 52 _ (fun args => ReflectliteValue.unpack (args.getD 0 (.tuple #[]))) Tryd.func52 (by kernel_rfl) (by kernel_rfl) (by kernel_rfl) (by kernel_rfl)
  have h7 := @run_callFunc_extern Tryd.prog 53 _ (ReflectliteValue.methodAny (ReflectliteValue.valueError "reflectlite.Value.Type" 0) (fun t _ _ _ => ReflectliteType.toType t)) Tryd.func53 (by kernel_rfl) (by kernel_rfl) (by kernel_rfl) (by kernel_rfl)
  have h8 := @run_callFunc_extern Tryd.prog 54 _ (ReflectliteValue.method (ReflectliteValue.valueError "reflectlite.Value.IsNil" 0) ReflectliteValue.isNil) Tryd.func54 (by kernel_rfl) (by kernel_rfl) (by kernel_rfl) (by kernel_rfl)
  have h27 := @run_callFunc_extern Tryd.prog 92 _ (ReflectliteType.abiMethod fun t => do pure (.int .u8 (← Rtype.kind t))) Tryd.func92 (by kernel_rfl) (by kernel_rfl) (by kernel_rfl) (by kernel_rfl)
  have h37 := @run_callFunc_extern Tryd.prog 106 _ (ReflectliteType.method ReflectliteType.elem) Tryd.func106 (by kernel_rfl) (by kernel_rfl) (by kernel_rfl) (by kernel_rfl)
  have h38 := @run_callFunc_extern Tryd.prog 107 _ (ReflectliteType.relation "Implements" ReflectliteType.implements_) Tryd.func107 (by kernel_rfl) (by kernel_rfl) (by kernel_rfl) (by kernel_rfl)
  have h10 := @run_callFunc_extern Tryd.prog 56 _ ReflectliteType.typeOf Tryd.func56 (by kernel_rfl) (by kernel_rfl) (by kernel_rfl) (by kernel_rfl)
  have h35 := @run_callFunc_extern Tryd.prog 104 _ (ReflectliteType.relation "AssignableTo" ReflectliteType.assignableTo) Tryd.func104 (by kernel_rfl) (by kernel_rfl) (by kernel_rfl) (by kernel_rfl)
  have h11 := @run_callFunc_extern Tryd.prog 64 _ (ReflectliteValue.method (ReflectliteValue.valueError "reflectlite.Value.Elem" 0) ReflectliteValue.elem) Tryd.func64 (by kernel_rfl) (by kernel_rfl) (by kernel_rfl) (by kernel_rfl)
  have h12 := @run_callFunc_extern Tryd.prog 65 _ ReflectliteValue.set Tryd.func65 (by kernel_rfl) (by kernel_rfl) (by kernel_rfl) (by kernel_rfl)
  have tO := typeOfW
  have a25 := assignableW
  have v25 := valueOfW e
  have mA := eMethodAssignableTo
  have aw := noAssignWr
  have tw := typeOfWr
  have nAw := noAsWr
  have uW := hasUnwrapW
  have mU := methodUnwrapW
  have f6 := valueOfPW
  have f7 := typePW
  have mK := eMethodKind
  have mE := eMethodElem
  have mI := eMethodImplements
  have k27 := kindPW
  have k25 := kindW
  have e27 := elemPW
  have i25 := implementsW
  obtain ⟨W1, hW1⟩ : ∃ W1, (w.alloc (.cells #[.pointer (some ⟨g, 0, none⟩)] 66)).alloc (.cells #[.pointer (some ⟨9, 66, none⟩), .pointer (some ⟨w.heap.size, 0, none⟩), .int .u64 150] 95) = W1 := ⟨_, rfl⟩
  have n8 := isNilPW ⟨w.heap.size, 0, none⟩ ⟨g, 0, none⟩ ((w.alloc (.cells #[.pointer (some ⟨g, 0, none⟩)] 66)).alloc (.cells #[.pointer (some ⟨9, 66, none⟩), .pointer (some ⟨w.heap.size, 0, none⟩), .int .u64 150] 95)) (by simp)
  have hlt : 7 < w.heap.size := by
    rcases Nat.lt_or_ge 7 w.heap.size with h | h
    · exact h
    · simp [World.cell?, Array.getElem?_eq_none h] at hg
  have hg2 : ((w.alloc (.cells #[.pointer (some ⟨g, 0, none⟩)] 66)).alloc (.cells #[.pointer (some ⟨9, 66, none⟩), .pointer (some ⟨w.heap.size, 0, none⟩), .int .u64 150] 95)).cell? ⟨7, 0, none⟩ = some (.iface 116 (.agg #[.pointer (some ⟨9, 49, none⟩)])) := by
    rw [World.cell?_alloc_lt _ _ ⟨7, 0, none⟩ (by simp; omega), World.cell?_alloc_lt _ _ ⟨7, 0, none⟩ hlt]; exact hg
  have htl : g < w.heap.size := (Array.getElem?_eq_some_iff.1 ht).1
  have el := elemVPW ⟨w.heap.size, 0, none⟩ ⟨g, 0, none⟩ ((((w.alloc (.cells #[.pointer (some ⟨g, 0, none⟩)] 66)).alloc (.cells #[.pointer (some ⟨9, 66, none⟩), .pointer (some ⟨w.heap.size, 0, none⟩), .int .u64 150] 95)).alloc (.cells #[.pointer (some ⟨9, 66, none⟩), .pointer (some ⟨w.heap.size, 0, none⟩), .int .u64 150] 95)).alloc (.cells #[.int .i64 n, .iface 64 (.agg #[.int .i64 e])] 51)) (by rw [World.cell?_alloc_lt _ _ ⟨w.heap.size, 0, none⟩ (by simp; omega), World.cell?_alloc_lt _ _ ⟨w.heap.size, 0, none⟩ (by simp; omega)]; simp)
  obtain ⟨W4, hW4⟩ : ∃ W4, ((((w.alloc (.cells #[.pointer (some ⟨g, 0, none⟩)] 66)).alloc (.cells #[.pointer (some ⟨9, 66, none⟩), .pointer (some ⟨w.heap.size, 0, none⟩), .int .u64 150] 95)).alloc (.cells #[.pointer (some ⟨9, 66, none⟩), .pointer (some ⟨w.heap.size, 0, none⟩), .int .u64 150] 95)).alloc (.cells #[.int .i64 n, .iface 64 (.agg #[.int .i64 e])] 51)).alloc (.cells #[.int .i64 e] 64) = W4 := ⟨_, rfl⟩
  have hB4 : Below (g + 1) w W4 := by rw [← hW4]; exact (((((Below.refl _ w).alloc (by omega) _).alloc (by simp; omega) _).alloc (by simp; omega) _).alloc (by simp; omega) _).alloc (by simp; omega) _
  have ht4 : W4.heap[g]? = some (.cells old 64 (0, 0)) := (hB4.block g (by omega)).trans ht
  have hb4 : W4.heap[w.heap.size + 1 + 1 + 1 + 1]? = some (.cells #[.int .i64 e] 64 (0, 0)) := by
    rw [← hW4]
    show (Array.push _ _)[_]? = _
    rw [Array.getElem?_push, if_pos (by simp)]
  have st := setW g (w.heap.size + 1 + 1 + 1 + 1) (.int .i64 e) old W4 hb4 ht4 ho (by simp [Value.oneCell'])
  have HR := setRow_heap (cs := #[.int .i64 e]) ht4
  have HB := setRow_below (g := g) (hB4.mono (Nat.le_succ g)) (Nat.le_refl _) #[.int .i64 e]
  rw [← hW4] at st HR HB
  have HR' : Hid _ := HR
  have HB' : Hid _ := HB
  clear HR HB hW1 ht4 hb4 hB4 hW4 ht ho
  go_enter Tryd.func40, Tryd.ntmps40
  go_wp2
  refine wp_loop_rounds 2 ?_
  rw [rounds_succ]
  go_wp2
  rw [rounds_succ]
  go_wp2
  go_ret
  exact ⟨rfl, HB'.out, HR'.out⟩
set_option maxHeartbeats 4000000 in
theorem as_miss (n : Int) (b : Addr) (g : Nat) (w : World) (hg : w.cell? ⟨7, 0, none⟩ = some (.iface 116 (.agg #[.pointer (some ⟨9, 49, none⟩)]))) :
    Calls Tryd.prog 40 #[werr n b, .iface 66 (.pointer (some ⟨g, 0, none⟩))] w fun ev w' => ev = .returned (.bool false) ∧ Below w.heap.size w w' := by
  have h6 := @run_callFunc_extern Tryd.prog 52 _ (fun args => ReflectliteValue.unpack (args.getD 0 (.tuple #[]))) Tryd.func52 (by kernel_rfl) (by kernel_rfl) (by kernel_rfl) (by kernel_rfl)
  have h7 := @run_callFunc_extern Tryd.prog 53 _ (ReflectliteValue.methodAny (ReflectliteValue.valueError "reflectlite.Value.Type" 0) (fun t _ _ _ => ReflectliteType.toType t)) Tryd.func53 (by kernel_rfl) (by kernel_rfl) (by kernel_rfl) (by kernel_rfl)
  have h8 := @run_callFunc_extern Tryd.prog 54 _ (ReflectliteValue.method (ReflectliteValue.valueError "reflectlite.Value.IsNil" 0) ReflectliteValue.isNil) Tryd.func54 (by kernel_rfl) (by kernel_rfl) (by kernel_rfl) (by kernel_rfl)
  have h27 := @run_callFunc_extern Tryd.prog 92 _ (ReflectliteType.abiMethod fun t => do pure (.int .u8 (← Rtype.kind t))) Tryd.func92 (by kernel_rfl) (by kernel_rfl) (by kernel_rfl) (by kernel_rfl)
  have h37 := @run_callFunc_extern Tryd.prog 106 _ (ReflectliteType.method ReflectliteType.elem) Tryd.func106 (by kernel_rfl) (by kernel_rfl) (by kernel_rfl) (by kernel_rfl)
  have h38 := @run_callFunc_extern Tryd.prog 107 _ (ReflectliteType.relation "Implements" ReflectliteType.implements_) Tryd.func107 (by kernel_rfl) (by kernel_rfl) (by kernel_rfl) (by kernel_rfl)
  have h10 := @run_callFunc_extern Tryd.prog 56 _ ReflectliteType.typeOf Tryd.func56 (by kernel_rfl) (by kernel_rfl) (by kernel_rfl) (by kernel_rfl)
  have h35 := @run_callFunc_extern Tryd.prog 104 _ (ReflectliteType.relation "AssignableTo" ReflectliteType.assignableTo) Tryd.func104 (by kernel_rfl) (by kernel_rfl) (by kernel_rfl) (by kernel_rfl)
  have h11 := @run_callFunc_extern Tryd.prog 64 _ (ReflectliteValue.method (ReflectliteValue.valueError "reflectlite.Value.Elem" 0) ReflectliteValue.elem) Tryd.func64 (by kernel_rfl) (by kernel_rfl) (by kernel_rfl) (by kernel_rfl)
  have h12 := @run_callFunc_extern Tryd.prog 65 _ ReflectliteValue.set Tryd.func65 (by kernel_rfl) (by kernel_rfl) (by kernel_rfl) (by kernel_rfl)
  have mA := eMethodAssignableTo
  have aw := noAssignWr
  have tw := typeOfWr
  have nAw := noAsWr
  have uW := hasUnwrapW
  have mU := methodUnwrapW
  have f6 := valueOfPW
  have f7 := typePW
  have mK := eMethodKind
  have mE := eMethodElem
  have mI := eMethodImplements
  have k27 := kindPW
  have k25 := kindW
  have e27 := elemPW
  have i25 := implementsW
  have tE := eTypeOfES
  have aE := noAssignES
  have nAE := noAsES
  have uE := eNoUnwrap
  have vE := eNoUnwraps
  have n8 := isNilPW ⟨w.heap.size, 0, none⟩ ⟨g, 0, none⟩ ((w.alloc (.cells #[.pointer (some ⟨g, 0, none⟩)] 66)).alloc (.cells #[.pointer (some ⟨9, 66, none⟩), .pointer (some ⟨w.heap.size, 0, none⟩), .int .u64 150] 95)) (by simp)
  have hlt : 7 < w.heap.size := by
    rcases Nat.lt_or_ge 7 w.heap.size with h | h
    · exact h
    · simp [World.cell?, Array.getElem?_eq_none h] at hg
  have hg2 : ((w.alloc (.cells #[.pointer (some ⟨g, 0, none⟩)] 66)).alloc (.cells #[.pointer (some ⟨9, 66, none⟩), .pointer (some ⟨w.heap.size, 0, none⟩), .int .u64 150] 95)).cell? ⟨7, 0, none⟩ = some (.iface 116 (.agg #[.pointer (some ⟨9, 49, none⟩)])) := by
    rw [World.cell?_alloc_lt _ _ ⟨7, 0, none⟩ (by simp; omega), World.cell?_alloc_lt _ _ ⟨7, 0, none⟩ hlt]; exact hg
  go_enter Tryd.func40, Tryd.ntmps40
  go_wp2
  refine wp_loop_rounds 2 ?_
  rw [rounds_succ]
  go_wp2
  rw [rounds_succ]
  go_wp2
  go_ret
  exact ⟨rfl, by repeat (first | exact Below.refl _ _ | refine Below.alloc ?_ (by first | (simp; done) | (simp; omega)) _)⟩
set_option maxHeartbeats 4000000 in
theorem is_same (n : Int) (b : Addr) (w : World) :
    Calls Tryd.prog 41 #[werr n b, .iface 148 (.pointer (some b))] w fun e w' => e = .returned (.bool true) ∧ Below w.heap.size w w' := by
  obtain ⟨i, hi, hcmp⟩ := Option.map_eq_some_iff.1 eComp
  obtain ⟨j, hj, hjs⟩ := Option.map_eq_some_iff.1 eSize
  have h8 := @run_callFunc_extern Tryd.prog 56 _ Extern.ReflectliteType.typeOf Tryd.func56 (by kernel_rfl) (by kernel_rfl) (by kernel_rfl) (by kernel_rfl)
  have h32 := @run_callFunc_extern Tryd.prog 105 _ cmpE Tryd.func105 (by kernel_rfl) (by kernel_rfl) (by kernel_rfl) (by kernel_rfl)
  have tT := eTypeOfES
  have cT := eComparableES
  have mR := eMethodComparable
  have nE := eNoIs
  have uE := eNoUnwrap
  have vE := eNoUnwraps
  have nW := noIsW
  have uW := hasUnwrapW
  have mU := methodUnwrapW
  have heq := fun w => run_eql_iface_ptr_same (P := Tryd.prog) w b Tryd.underlying49 Tryd.underlying148 hi hcmp hj
  have hty := fun w => run_eql_iface_types (P := Tryd.prog) 51 148 (.agg #[.int .i64 n, .iface 148 (.pointer (some b))]) (.pointer (some b)) Tryd.underlying49 (by decide) w
  go_enter Tryd.func41, Tryd.ntmps41
  go_wp2
  refine wp_loop_rounds 2 ?_
  rw [rounds_succ]
  go_wp2
  rw [rounds_succ]
  go_wp2
  go_ret
  exact ⟨rfl, by repeat (first | exact Below.refl _ _ | refine Below.alloc ?_ (by simp) _)⟩
set_option maxHeartbeats 4000000 in
theorem is_other (n : Int) (a b : Addr) (ca cb : Array Value) (ta tb : TypeId) (w : World) (hne : a ≠ b) (ha : w.heap[a.block]? = some (.cells ca ta (0, 0))) (hb : w.heap[b.block]? = some (.cells cb tb (0, 0))) :
    Calls Tryd.prog 41 #[werr n a, .iface 148 (.pointer (some b))] w fun e w' => e = .returned (.bool false) ∧ Below w.heap.size w w' := by
  obtain ⟨i, hi, hcmp⟩ := Option.map_eq_some_iff.1 eComp
  obtain ⟨j, hj, hjs⟩ := Option.map_eq_some_iff.1 eSize
  have h8 := @run_callFunc_extern Tryd.prog 56 _ Extern.ReflectliteType.typeOf Tryd.func56 (by kernel_rfl) (by kernel_rfl) (by kernel_rfl) (by kernel_rfl)
  have h32 := @run_callFunc_extern Tryd.prog 105 _ cmpE Tryd.func105 (by kernel_rfl) (by kernel_rfl) (by kernel_rfl) (by kernel_rfl)
  have tT := eTypeOfES
  have cT := eComparableES
  have mR := eMethodComparable
  have nE := eNoIs
  have uE := eNoUnwrap
  have vE := eNoUnwraps
  have nW := noIsW
  have uW := hasUnwrapW
  have mU := methodUnwrapW
  have hal : a.block < w.heap.size := (Array.getElem?_eq_some_iff.1 ha).1
  have hbl : b.block < w.heap.size := (Array.getElem?_eq_some_iff.1 hb).1
  have heq := fun o => run_eql_iface_ptr_other (P := Tryd.prog) (w.alloc o) Tryd.underlying49 Tryd.underlying148 hi hcmp hj (by rw [hjs]; decide) hne ((Below.heap_alloc w o _ hal).trans ha) ((Below.heap_alloc w o _ hbl).trans hb)
  have hty := fun w => run_eql_iface_types (P := Tryd.prog) 51 148 (.agg #[.int .i64 n, .iface 148 (.pointer (some a))]) (.pointer (some b)) Tryd.underlying49 (by decide) w
  go_enter Tryd.func41, Tryd.ntmps41
  go_wp2
  refine wp_loop_rounds 2 ?_
  rw [rounds_succ]
  go_wp2
  rw [rounds_succ]
  go_wp2
  go_ret
  exact ⟨rfl, by repeat (first | exact Below.refl _ _ | refine Below.alloc ?_ (by simp) _)⟩
end Tlv
end Go.Proofs.YthnddhgkjkpmfaaDoor
/- tlv's told: an error's number. -/
namespace Go.Proofs.YthnddhgkjkpmfaaDoor
set_option linter.unusedSimpArgs false
set_option linter.unusedVariables false
namespace Tlv
open Go.RowKit Go.Shelf
attribute [local go_sem] Oper.semAt_some
theorem told_nil (a0 a1 a2 a3 : Addr) (w : World) (h : GA a0 a1 a2 a3 w) : Calls Tryd.prog 28 #[.nilIface] w fun e w' => e = .returned (.int .i64 0) ∧ Below w.heap.size w w' := by
  have hG := h.below ((Below.refl _ w).alloc (Nat.le_refl _) (.cells #[.int .i64 0] 64))
  have g0 := hG.g0
  have g1 := hG.g1
  have g2 := hG.g2
  have g3 := hG.g3
  go_enter Tryd.func28, Tryd.ntmps28
  go_wp2_with (first
    | (go_at_call 40; refine (as_nil _ _).mono ?_; rintro e w' ⟨rfl, rfl⟩)
    | (go_at_call 41; refine (is_nil _ _).mono ?_; rintro e w' ⟨rfl, rfl⟩))
  go_ret
  exact ⟨rfl, (Below.refl _ _).alloc (Nat.le_refl _) _⟩
theorem told_len (n x : Int) (a0 a1 a2 a3 : Addr) (w : World) (h : GA a0 a1 a2 a3 w) : Calls Tryd.prog 28 #[wlen n x] w fun e w' => e = .returned (.int .i64 x) ∧ Below w.heap.size w w' := by
  go_enter Tryd.func28, Tryd.ntmps28
  have hB0 : Below w.heap.size w (w.alloc (.cells #[.int .i64 0] 64)) := (Below.refl _ _).alloc (Nat.le_refl _) _
  have hG0 := h.below hB0
  go_wp2_with fail
  refine (as_len n x w.heap.size _ _ hG0.et (World.alloc_heap_new w _) rfl).mono ?_
  rintro e w1 ⟨rfl, hb, hc⟩
  have hB1 := hB0.trans hb
  have c0 := cell_of_row w1 w.heap.size 0 _ _ _ hc
  simp at c0
  clear hc hG0 hB0 hb
  go_wp2_with fail
  go_ret
  exact ⟨rfl, hB1⟩
theorem told_short (n : Int) (a0 a1 a2 a3 : Addr) (w : World) (h : GA a0 a1 a2 a3 w) :
    Calls Tryd.prog 28 #[werr n a0] w fun e w' => e = .returned (.int .i64 10) ∧ Below w.heap.size w w' := by
  go_enter Tryd.func28, Tryd.ntmps28
  have hB0 : Below w.heap.size w (w.alloc (.cells #[.int .i64 0] 64)) := (Below.refl _ _).alloc (Nat.le_refl _) _
  have hG0 := h.below hB0
  go_wp2_with fail
  refine (as_miss n a0 w.heap.size _ hG0.et).mono ?_
  rintro e w1 ⟨rfl, hb⟩
  have hB1 := bl_trans hB0 hb
  have hG1 := h.below hB1
  clear hG0 hB0 hb
  have gg1 := hG1.g0
  go_wp2_with fail
  refine (is_same n a0 _).mono ?_
  rintro e w2 ⟨rfl, hb2⟩
  go_wp2_with fail
  go_ret
  exact ⟨rfl, bl_trans hB1 hb2⟩
theorem told_form (n : Int) (a0 a1 a2 a3 : Addr) (w : World) (h : GA a0 a1 a2 a3 w) :
    Calls Tryd.prog 28 #[werr n a1] w fun e w' => e = .returned (.int .i64 11) ∧ Below w.heap.size w w' := by
  go_enter Tryd.func28, Tryd.ntmps28
  have hB0 : Below w.heap.size w (w.alloc (.cells #[.int .i64 0] 64)) := (Below.refl _ _).alloc (Nat.le_refl _) _
  have hG0 := h.below hB0
  go_wp2_with fail
  refine (as_miss n a1 w.heap.size _ hG0.et).mono ?_
  rintro e w1 ⟨rfl, hb⟩
  have hB1 := bl_trans hB0 hb
  have hG1 := h.below hB1
  clear hG0 hB0 hb
  have gg1 := hG1.g0
  go_wp2_with fail
  obtain ⟨ca1, ta1, hca1⟩ := hG1.h0
  obtain ⟨cb1, tb1, hcb1⟩ := hG1.h1
  refine (is_other n a1 a0 cb1 ca1 tb1 ta1 _ (Ne.symm h.n01) hcb1 hca1).mono ?_
  rintro e w2 ⟨rfl, hb2⟩
  have hB2 := bl_trans hB1 hb2
  have hG2 := h.below hB2
  clear hca1 hcb1 gg1
  have gg2 := hG2.g1
  go_wp2_with fail
  refine (is_same n a1 _).mono ?_
  rintro e w3 ⟨rfl, hb3⟩
  go_wp2_with fail
  go_ret
  exact ⟨rfl, bl_trans hB2 hb3⟩
theorem told_tag (n : Int) (a0 a1 a2 a3 : Addr) (w : World) (h : GA a0 a1 a2 a3 w) :
    Calls Tryd.prog 28 #[werr n a2] w fun e w' => e = .returned (.int .i64 20) ∧ Below w.heap.size w w' := by
  go_enter Tryd.func28, Tryd.ntmps28
  have hB0 : Below w.heap.size w (w.alloc (.cells #[.int .i64 0] 64)) := (Below.refl _ _).alloc (Nat.le_refl _) _
  have hG0 := h.below hB0
  go_wp2_with fail
  refine (as_miss n a2 w.heap.size _ hG0.et).mono ?_
  rintro e w1 ⟨rfl, hb⟩
  have hB1 := bl_trans hB0 hb
  have hG1 := h.below hB1
  clear hG0 hB0 hb
  have gg1 := hG1.g0
  go_wp2_with fail
  obtain ⟨ca1, ta1, hca1⟩ := hG1.h0
  obtain ⟨cb1, tb1, hcb1⟩ := hG1.h2
  refine (is_other n a2 a0 cb1 ca1 tb1 ta1 _ (Ne.symm h.n02) hcb1 hca1).mono ?_
  rintro e w2 ⟨rfl, hb2⟩
  have hB2 := bl_trans hB1 hb2
  have hG2 := h.below hB2
  clear hca1 hcb1 gg1
  have gg2 := hG2.g1
  go_wp2_with fail
  obtain ⟨ca2, ta2, hca2⟩ := hG2.h1
  obtain ⟨cb2, tb2, hcb2⟩ := hG2.h2
  refine (is_other n a2 a1 cb2 ca2 tb2 ta2 _ (Ne.symm h.n12) hcb2 hca2).mono ?_
  rintro e w3 ⟨rfl, hb3⟩
  have hB3 := bl_trans hB2 hb3
  have hG3 := h.below hB3
  clear hca2 hcb2 gg2
  have gg3 := hG3.g2
  go_wp2_with fail
  refine (is_same n a2 _).mono ?_
  rintro e w4 ⟨rfl, hb4⟩
  go_wp2_with fail
  go_ret
  exact ⟨rfl, bl_trans hB3 hb4⟩
theorem told_node (n : Int) (a0 a1 a2 a3 : Addr) (w : World) (h : GA a0 a1 a2 a3 w) :
    Calls Tryd.prog 28 #[werr n a3] w fun e w' => e = .returned (.int .i64 21) ∧ Below w.heap.size w w' := by
  go_enter Tryd.func28, Tryd.ntmps28
  have hB0 : Below w.heap.size w (w.alloc (.cells #[.int .i64 0] 64)) := (Below.refl _ _).alloc (Nat.le_refl _) _
  have hG0 := h.below hB0
  go_wp2_with fail
  refine (as_miss n a3 w.heap.size _ hG0.et).mono ?_
  rintro e w1 ⟨rfl, hb⟩
  have hB1 := bl_trans hB0 hb
  have hG1 := h.below hB1
  clear hG0 hB0 hb
  have gg1 := hG1.g0
  go_wp2_with fail
  obtain ⟨ca1, ta1, hca1⟩ := hG1.h0
  obtain ⟨cb1, tb1, hcb1⟩ := hG1.h3
  refine (is_other n a3 a0 cb1 ca1 tb1 ta1 _ (Ne.symm h.n03) hcb1 hca1).mono ?_
  rintro e w2 ⟨rfl, hb2⟩
  have hB2 := bl_trans hB1 hb2
  have hG2 := h.below hB2
  clear hca1 hcb1 gg1
  have gg2 := hG2.g1
  go_wp2_with fail
  obtain ⟨ca2, ta2, hca2⟩ := hG2.h1
  obtain ⟨cb2, tb2, hcb2⟩ := hG2.h3
  refine (is_other n a3 a1 cb2 ca2 tb2 ta2 _ (Ne.symm h.n13) hcb2 hca2).mono ?_
  rintro e w3 ⟨rfl, hb3⟩
  have hB3 := bl_trans hB2 hb3
  have hG3 := h.below hB3
  clear hca2 hcb2 gg2
  have gg3 := hG3.g2
  go_wp2_with fail
  obtain ⟨ca3, ta3, hca3⟩ := hG3.h2
  obtain ⟨cb3, tb3, hcb3⟩ := hG3.h3
  refine (is_other n a3 a2 cb3 ca3 tb3 ta3 _ (Ne.symm h.n23) hcb3 hca3).mono ?_
  rintro e w4 ⟨rfl, hb4⟩
  have hB4 := bl_trans hB3 hb4
  have hG4 := h.below hB4
  clear hca3 hcb3 gg3
  have gg4 := hG4.g3
  go_wp2_with fail
  refine (is_same n a3 _).mono ?_
  rintro e w5 ⟨rfl, hb5⟩
  go_wp2_with fail
  go_ret
  exact ⟨rfl, bl_trans hB4 hb5⟩
end Tlv
end Go.Proofs.YthnddhgkjkpmfaaDoor
/- A second law for 'for x := range f { .. }' of this repo's own: the loop's side holds a set U of blocks that may grow from round to round; the iterator turns no block of U, the loop's body turns blocks of U alone, and new ones; neither turns a block of Rd. -/
namespace Go.Proofs.YthnddhgkjkpmfaaDoor
set_option linter.unusedSimpArgs false
set_option linter.unusedVariables false
open Go.RowKit
theorem Chg.trans' {S T : Nat → Prop} {A B C : World} (h : Chg S A B) (k : Chg T B C) (hT : ∀ j, j < A.heap.size → T j → S j) : Chg S A C :=
  ⟨k.os.trans h.os, k.tape.trans h.tape, k.output.trans h.output, Nat.le_trans h.size k.size, fun i hi hs => (k.block i (Nat.lt_of_lt_of_le hi h.size) (fun e => hs (hT i hi e))).trans (h.block i hi hs)⟩
structure UStep (U : Nat → Prop) (A : World) (U' : Nat → Prop) (B : World) : Prop where
  old : ∀ j, U' j → U j ∨ A.heap.size ≤ j
  lt : ∀ j, U' j → j < B.heap.size
  chg : Chg U A B
theorem UStep.same {U : Nat → Prop} {A B : World} (hU : ∀ j, U j → j < A.heap.size) (h : Chg U A B) : UStep U A U B := ⟨fun _ h => .inl h, fun j hj => Nat.lt_of_lt_of_le (hU j hj) h.size, h⟩
theorem UStep.trans {U U' U'' : Nat → Prop} {A B C : World} (h : UStep U A U' B) (k : UStep U' B U'' C) : UStep U A U'' C :=
  ⟨fun j hj => by
      rcases k.old j hj with h1 | h1
      · exact h.old j h1
      · exact .inr (Nat.le_trans h.chg.size h1),
    k.lt, ⟨k.chg.os.trans h.chg.os, k.chg.tape.trans h.chg.tape, k.chg.output.trans h.chg.output, Nat.le_trans h.chg.size k.chg.size, fun i hi hs => (k.chg.block i (Nat.lt_of_lt_of_le hi h.chg.size) (fun h' => by
      rcases h.old i h' with h2 | h2
      · exact hs h2
      · omega)).trans (h.chg.block i hi hs)⟩⟩
def LZ (z : Nat) (k : Nat) : Prop := k = z ∨ k = z + 1
def itPostD (I : Nat → (Nat → Prop) → World → Prop) (Ix : Code → Nat → (Nat → Prop) → World → Prop) (U : Nat → Prop) (k : Nat) (A : World) : Exit → Act → World → Prop
  | .normal, _, B => ∃ U', UStep U A U' B ∧ I k U' B
  | .ret, _, B => ∃ U', UStep U A U' B ∧ Ix .ret k U' B
  | .exit id, _, B => ∃ U', UStep U A U' B ∧ Ix (.exit id) k U' B
  | .goto t, _, B => ∃ U', UStep U A U' B ∧ Ix (.goto t) k U' B
  | .panic _, _, _ => False
  | .outgrown, _, _ => False
variable {F : Fence} {n : Nat} {P : Program}
end Go.Proofs.YthnddhgkjkpmfaaDoor
/- A third law for 'for x := range f { .. }' of this repo's own: an iterator that keeps no state in cells (its captured variables are only read): it turns no block that lay; the loop's side keeps what the iterator reads (W0), and the loop's own two blocks. -/
namespace Go.Proofs.YthnddhgkjkpmfaaDoor
set_option linter.unusedSimpArgs false
set_option linter.unusedVariables false
open Go.RowKit
def IterE {α : Type} (F : Fence) (n : Nat) (P : Program) (g : Nat) (lb : Array Value) (encs : α → Array Value) (xs : List α) (W0 : World → Prop) : Prop :=
  ∀ (l : Nat) (J Jx : Nat → World → Prop) (W : World), (∀ k A, J k A → W0 A) →
    (∀ k A B, J k A → Below A.heap.size A B → J k B) → (∀ k A B, Jx k A → Below A.heap.size A B → Jx k B) →
    (∀ k x A, xs[k]? = some x → J k A → YieldAt F (n - 1) P l (encs x) A fun e B =>
      (e = .returned (.bool true) ∧ J (k + 1) B) ∨ (e = .returned (.bool false) ∧ Jx (k + 1) B)) →
    J 0 W →
    CallsIn F n P g (#[.func (.yield l) #[] #[]] ++ lb) W fun e B => (∃ v, e = .returned v) ∧ (J xs.length B ∨ ∃ k, k ≤ xs.length ∧ Jx k B)
structure LK (z : Nat) (A B : World) : Prop where
  size : A.heap.size ≤ B.heap.size
  z0 : B.heap[z]? = A.heap[z]?
  z1 : B.heap[z + 1]? = A.heap[z + 1]?
theorem LK.trans {z : Nat} {A B C : World} (h : LK z A B) (k : LK z B C) : LK z A C := ⟨Nat.le_trans h.size k.size, k.z0.trans h.z0, k.z1.trans h.z1⟩
theorem LK.of_chg {z : Nat} {S : Nat → Prop} {A B : World} (h : Chg S A B) (hz : z + 2 ≤ A.heap.size) (hs : ∀ j, S j → ¬ LZ z j) : LK z A B :=
  ⟨h.size, h.block _ (by omega) (fun q => hs _ q (.inl rfl)), h.block _ (by omega) (fun q => hs _ q (.inr rfl))⟩
theorem LK.of_below {z : Nat} {A B : World} (h : Below A.heap.size A B) (hz : z + 2 ≤ A.heap.size) : LK z A B := LK.of_chg (S := fun _ => False) (Chg.of_below h) hz (fun _ h => h.elim)
def itPostE (I : Nat → World → Prop) (Ix : Code → Nat → World → Prop) (z : Nat) (k : Nat) (A : World) : Exit → Act → World → Prop
  | .normal, _, B => LK z A B ∧ I k B
  | .ret, _, B => LK z A B ∧ Ix .ret k B
  | .exit id, _, B => LK z A B ∧ Ix (.exit id) k B
  | .goto t, _, B => LK z A B ∧ Ix (.goto t) k B
  | .panic _, _, _ => False
  | .outgrown, _, _ => False
variable {F : Fence} {n : Nat} {P : Program}
theorem wpIn_range_itE {α : Type} {g : Operand} {ps : Array Tmp} {assign body : Code} {Q : Exit → Act → World → Prop} {a : Act} {w : World}
    (hro : F.round = none) (h1 : 1 ≤ n) {gf : Nat} {lb : Array Value} (hg : a.eval g = .func (.func gf) #[] lb) (hFg : F.fn gf) (eg : ∀ args w, (callFunc gf args).run P w = .ok (.enter gf args) w)
    {encs : α → Array Value} {xs : List α} {W0 : World → Prop} (hit : IterE F (n - 1) P gf lb encs xs W0) (hps : ∀ x, (encs x).size = ps.size)
    (I : Nat → World → Prop) (Ix : Code → Nat → World → Prop) (hW0 : ∀ k A, I k A → W0 A)
    (hI : ∀ k A B, I k A → w.heap.size + 2 ≤ B.heap.size → Chg (LZ w.heap.size) A B → I k B) (hIx : ∀ c k A B, Ix c k A → Chg (LZ w.heap.size) A B → Ix c k B) (h0 : I 0 w)
    (Ax : α → Act → World → Prop) (hAx : ∀ x a' A B, Ax x a' A → Chg (LZ w.heap.size) A B → Ax x a' B)
    (hassign : ∀ (l k : Nat) (x : α) (A : World) (K : Act → World → Prop), xs[k]? = some x → I k A → w.heap.size + 2 ≤ A.heap.size →
      (∀ a' B, LK w.heap.size A B → I k B → Ax x a' B → K a' B) →
      assign.wpIn (F.inRound l) (n - 1 - 1) P (Exit.then K (fun _ _ _ => False)) { tmps := (ps.zip (encs x)).foldl (fun t (p, v) => t.setIfInBounds p v) a.tmps, defers := [] } A)
    (hbody : ∀ (k : Nat) (x : α) (a' : Act) (A : World), (∃ r, A.heap[w.heap.size + 1]? = some (.loop r)) → A.heap[w.heap.size]? = some (.deferred (some [])) → xs[k]? = some x → I k A → w.heap.size + 2 ≤ A.heap.size → Ax x a' A →
      body.wpIn (F.inRound (w.heap.size + 1)) (n - 1 - 1) P (itPostE I Ix w.heap.size (k + 1) A) a' A)
    (hdone : ∀ (B : World), I xs.length B → w.heap.size + 2 ≤ B.heap.size → B.heap[w.heap.size]? = some (.deferred (some [])) → Q .normal { a with defers := { target := .collected w.heap.size, args := #[] } :: a.defers } B)
    (hstop : ∀ (c : Code) (k : Nat) (B : World), k ≤ xs.length → Ix c k B → w.heap.size + 2 ≤ B.heap.size → B.heap[w.heap.size]? = some (.deferred (some [])) → c.wpIn F n P Q { a with defers := { target := .collected w.heap.size, args := #[] } :: a.defers } B) :
    (Code.rangeFunc g ps assign body).wpIn F n P Q a w := by
  refine wpIn_rangeFunc ?_
  intro fn hfn
  rw [hro]
  obtain ⟨rec, hrec⟩ : ∃ rec : LoopState → Option Code → Loop, rec = fun st pe => { state := st, pending := pe, fn, tmps := a.tmps, params := ps, assign, body, defers := w.heap.size } := ⟨_, rfl⟩
  obtain ⟨W1, hW1⟩ : ∃ W1, (w.alloc (.deferred (some []))).alloc (.loop (rec .ready none)) = W1 := ⟨_, rfl⟩
  have hs1 : W1.heap.size = w.heap.size + 2 := by rw [← hW1]; simp
  have hL1 : W1.heap[w.heap.size + 1]? = some (.loop (rec .ready none)) := by
    rw [← hW1]; have := World.alloc_heap_new (w.alloc (.deferred (some []))) (.loop (rec .ready none)); rwa [World.size_alloc] at this
  have hK1 : W1.heap[w.heap.size]? = some (.deferred (some [])) := by
    rw [← hW1]; exact (Below.heap_alloc _ _ _ (by simp)).trans (World.alloc_heap_new w _)
  have hC1 : ∀ S, Chg S w W1 := fun S => by rw [← hW1]; exact ((Chg.refl S w).alloc _).alloc _
  obtain ⟨z, hz⟩ : ∃ z, w.heap.size = z := ⟨_, rfl⟩
  have hI1 : I 0 W1 := hI _ _ _ h0 (by omega) (hC1 _)
  have hbl : ∀ {A B : World}, Below A.heap.size A B → Chg (LZ z) A B := fun h => Chg.of_below h
  refine ⟨w.heap.size + 1, [{ target := .collected w.heap.size, args := #[] }], W1, { target := .fn (.func gf) lb, args := #[.func (.yield (w.heap.size + 1)) #[] #[]] }, W1, gf,
    #[.func (.yield (w.heap.size + 1)) #[] #[]] ++ lb, W1, ?_, ?_, ?_, ?_, fun _ => h1, ?_⟩
  · rw [← hW1, hrec]; exact run_enterLoop_outer _ _ _ _ _
  · simp only [resolve, hg]
    simp [go_sem]
  · intro f' hf'; simp [Target.leads] at hf'; subst hf'; exact hFg
  · simp [invoke, go_sem, eg]
  · simp only [hz] at *
    refine (hit (z + 1)
      (fun k W => z + 2 ≤ W.heap.size ∧ I k W ∧ W.heap[z + 1]? = some (.loop (rec .ready none)) ∧ W.heap[z]? = some (.deferred (some [])))
      (fun k W => z + 2 ≤ W.heap.size ∧ ∃ c, Ix c k W ∧ W.heap[z + 1]? = some (.loop (rec .done (some c))) ∧ W.heap[z]? = some (.deferred (some [])))
      W1 (fun k A h => hW0 k A h.2.1)
      (fun k A B hs hc => by
        obtain ⟨hsz, hi, hl, hk⟩ := hs
        exact ⟨Nat.le_trans hsz hc.size, hI k A B hi (Nat.le_trans hsz hc.size) (hbl hc), (Chg.of_below (S := fun _ => False) hc).heap hl (fun h => h), (Chg.of_below (S := fun _ => False) hc).heap hk (fun h => h)⟩)
      (fun k A B hs hc => by
        obtain ⟨hsz, c, hx, hl, hk⟩ := hs
        exact ⟨Nat.le_trans hsz hc.size, c, hIx c k A B hx (hbl hc), (Chg.of_below (S := fun _ => False) hc).heap hl (fun h => h), (Chg.of_below (S := fun _ => False) hc).heap hk (fun h => h)⟩)
      ?_ ⟨by omega, hI1, hL1, hK1⟩).mono ?_
    · rintro k x W hx ⟨hsz, hi, hl, hk⟩
      have hy := run_yield (P := P) (args := encs x) hl (by rw [hrec]; exact hps x)
      rw [hrec] at hy
      refine ⟨fn, _, assign, body, hy, roundIn_of_wpIn hfn (hassign _ k x W _ hx hi hsz ?_)⟩
      clear hy
      intro a' Wa hca hia hax
      have hl' := hca.z1.trans hl
      have hk' := hca.z0.trans hk
      have hlt : z + 1 < Wa.heap.size := (Array.getElem?_eq_some_iff.1 hl').1
      refine ⟨_, run_beginRound hl' (by rw [hrec]), ?_⟩
      obtain ⟨W2, hW2⟩ : ∃ W2, Wa.putObj (z + 1) (.loop { rec .ready none with state := .busy }) = W2 := ⟨_, rfl⟩
      have hl2 : W2.heap[z + 1]? = some (.loop { rec .ready none with state := .busy }) := by rw [← hW2]; exact World.putObj_heap_same hlt
      have hk2 : W2.heap[z]? = some (.deferred (some [])) := by rw [← hW2]; exact (World.putObj_heap_other (by omega)).trans hk'
      have hc2 : Chg (LZ z) Wa W2 := by rw [← hW2]; exact (Chg.refl _ _).putObj (.inr rfl) _
      have hs2 : Wa.heap.size = W2.heap.size := by rw [← hW2]; simp
      have hsa := hca.size
      rw [hW2]
      refine wpIn_mono (hbody k x a' _ ⟨_, hl2⟩ hk2 hx (hI _ _ _ hia (by omega) hc2) (by omega) (hAx x a' _ _ hax hc2)) ?_
      have fin : ∀ (jump : Option Code) (W3 : World), LK z W2 W3 →
          (Instr.endRound (z + 1) jump).run P W3 = .ok (.bool jump.isNone) (W3.putObj (z + 1) (.loop (rec (if jump.isNone then .ready else .done) jump))) ∧
          (W3.putObj (z + 1) (.loop (rec (if jump.isNone then .ready else .done) jump))).heap[z + 1]? = some (.loop (rec (if jump.isNone then .ready else .done) jump)) ∧
          (W3.putObj (z + 1) (.loop (rec (if jump.isNone then .ready else .done) jump))).heap[z]? = some (.deferred (some [])) ∧
          Chg (LZ z) W3 (W3.putObj (z + 1) (.loop (rec (if jump.isNone then .ready else .done) jump))) ∧ z + 2 ≤ (W3.putObj (z + 1) (.loop (rec (if jump.isNone then .ready else .done) jump))).heap.size := fun jump W3 hk3 => by
        have hl3 := hk3.z1.trans hl2
        have := run_endRound (P := P) jump hl3
        rw [hrec] at this ⊢
        have hs3 := hk3.size
        have hps : ∀ (o : Obj), (W3.putObj (z + 1) o).heap.size = W3.heap.size := fun o => by simp
        have cz : ∀ (o : Obj), Chg (LZ z) W3 (W3.putObj (z + 1) o) := fun o => (Chg.refl _ _).putObj (.inr rfl) _
        exact ⟨this, World.putObj_heap_same (Array.getElem?_eq_some_iff.1 hl3).1, (World.putObj_heap_other (by omega)).trans (hk3.z0.trans hk2), cz _, by rw [hps]; omega⟩
      rintro e a3 W3 hp
      cases e with
      | normal =>
        obtain ⟨hk3, hi3⟩ := hp
        obtain ⟨hr, hl4, hk4, hc4, hs4⟩ := fin none W3 hk3
        exact ⟨_, _, hr, .inl ⟨rfl, hs4, hI _ _ _ hi3 hs4 hc4, hl4, hk4⟩⟩
      | ret =>
        obtain ⟨hk3, hi3⟩ := hp
        obtain ⟨hr, hl4, hk4, hc4, hs4⟩ := fin (some .ret) W3 hk3
        exact ⟨_, _, hr, .inr ⟨rfl, hs4, .ret, hIx _ _ _ _ hi3 hc4, hl4, hk4⟩⟩
      | exit id =>
        obtain ⟨hk3, hi3⟩ := hp
        obtain ⟨hr, hl4, hk4, hc4, hs4⟩ := fin (some (.exit id)) W3 hk3
        exact ⟨_, _, hr, .inr ⟨rfl, hs4, .exit id, hIx _ _ _ _ hi3 hc4, hl4, hk4⟩⟩
      | goto t =>
        obtain ⟨hk3, hi3⟩ := hp
        obtain ⟨hr, hl4, hk4, hc4, hs4⟩ := fin (some (.goto t)) W3 hk3
        exact ⟨_, _, hr, .inr ⟨rfl, hs4, .goto t, hIx _ _ _ _ hi3 hc4, hl4, hk4⟩⟩
      | panic ch => exact hp.elim
      | outgrown => exact hp.elim
    · rintro e W2 ⟨⟨v, rfl⟩, (⟨hsz, hi, hl, hk⟩ | ⟨k, hkle, hsz, c, hi, hl, hk⟩)⟩
      · have cz : ∀ o, Chg (LZ z) W2 (W2.putObj (z + 1) o) := fun o => (Chg.refl _ _).putObj (.inr rfl) _
        have hps : ∀ (o : Obj), (W2.putObj (z + 1) o).heap.size = W2.heap.size := fun o => by simp
        exact ⟨none, _, by have := run_endLoop (P := P) hl (by rw [hrec]; simp); rw [hrec] at this; exact this,
          hdone _ (hI _ _ _ hi (by rw [hps]; exact hsz) (cz _)) (by rw [hps]; exact hsz) ((World.putObj_heap_other (by omega)).trans hk)⟩
      · have cz : ∀ o, Chg (LZ z) W2 (W2.putObj (z + 1) o) := fun o => (Chg.refl _ _).putObj (.inr rfl) _
        have hps : ∀ (o : Obj), (W2.putObj (z + 1) o).heap.size = W2.heap.size := fun o => by simp
        exact ⟨some c, _, by have := run_endLoop (P := P) hl (by rw [hrec]; simp); rw [hrec] at this; exact this,
          hstop c k _ hkle (hIx _ _ _ _ hi (cz _)) (by rw [hps]; exact hsz) ((World.putObj_heap_other (by omega)).trans hk)⟩
end Go.Proofs.YthnddhgkjkpmfaaDoor
/- slices.Backward over a row of trees, and the row as it is read. -/
namespace Go.Proofs.YthnddhgkjkpmfaaDoor
set_option linter.unusedSimpArgs false
set_option linter.unusedVariables false
namespace Tlv
open Go.RowKit Go.Shelf Go.Proofs.YthnddhgkjkpmfaaDoorW.PrintWords Go.Proofs.YthnddhgkjkpmfaaDoor.KTlv
attribute [local go_sem] Oper.semAt_some
structure El where
  x : Nd
  a : Option Addr
  c : Nat
def El.v (e : El) : Value := .agg #[.int .i64 e.x.f0, .string e.x.f1, .slice e.a e.x.f2.length e.c]
def At3 (w : World) (p : Addr) (e : El) : Prop :=
  w.cell? p = some (.int .i64 e.x.f0) ∧ w.cell? ⟨p.block, p.off + 1, none⟩ = some (.string e.x.f1) ∧ w.cell? ⟨p.block, p.off + 2, none⟩ = some (.slice e.a e.x.f2.length e.c)
def Row3 (w : World) (A : Option Addr) (es : List El) : Prop :=
  es.length ≤ 9223372036854775807 ∧ (es ≠ [] → ∃ ad, A = some ad ∧ ∀ (i : Nat) (e : El), es[i]? = some e → At3 w (ad.add (i * 3)) e)
theorem At3.below {w w' : World} {p : Addr} {e : El} (h : At3 w p e) (hb : Below w.heap.size w w') : At3 w' p e :=
  ⟨(hb.cell (lt_of_cell h.1)).trans h.1, (hb.cell (lt_of_cell h.2.1)).trans h.2.1, (hb.cell (lt_of_cell h.2.2)).trans h.2.2⟩
theorem Row3.below {w w' : World} {A : Option Addr} {es : List El} (h : Row3 w A es) (hb : Below w.heap.size w w') : Row3 w' A es :=
  ⟨h.1, fun hn => by
    obtain ⟨ad, h1, h2⟩ := h.2 hn
    exact ⟨ad, h1, fun i e he => (h2 i e he).below hb⟩⟩
theorem rows_of {w : World} {A : Option Addr} {xs : List Nd} (h : Kd.C k24 w A xs.length xs) :
    ∃ es : List El, es.map (·.x) = xs ∧ Row3 w A es ∧ ∀ e ∈ es, e.x.f2.length ≤ e.c ∧ Kd.C k24 w e.a e.x.f2.length e.x.f2 := by
  have hmax := Kd.C_max h
  have key : ∀ i : Nat, i < xs.length → ∃ e : El, xs[i]? = some e.x ∧ (∃ ad, A = some ad ∧ At3 w (ad.add (i * 3)) e) ∧ e.x.f2.length ≤ e.c ∧ Kd.C k24 w e.a e.x.f2.length e.x.f2 := by
    intro i hi
    obtain ⟨ad, A2, c2, hA, h0, h1, h2, h3, h4⟩ := at_T24 h (i : Int) (by omega) (by omega)
    simp only [Int.toNat_natCast] at h0 h1 h2
    have hx : xs[i]? = some (rd_T24 xs (i : Int)) := by
      unfold rd_T24
      rw [Int.toNat_natCast, List.getD_eq_getElem?_getD, List.getElem?_eq_getElem hi]
      rfl
    exact ⟨⟨rd_T24 xs i, A2, c2⟩, hx, ⟨ad, hA, h0, h1, h2⟩, h3, h4⟩
  have all : ∀ n, n ≤ xs.length → ∃ es : List El, es.map (·.x) = xs.take n ∧ (∀ (i : Nat) (e : El), es[i]? = some e → ∃ ad, A = some ad ∧ At3 w (ad.add (i * 3)) e) ∧ ∀ e ∈ es, e.x.f2.length ≤ e.c ∧ Kd.C k24 w e.a e.x.f2.length e.x.f2 := by
    intro n
    induction n with
    | zero => intro _; exact ⟨[], by simp, fun i e h => by simp at h, fun e h => by simp at h⟩
    | succ n ih =>
      intro hn
      obtain ⟨es, h1, h2, h3⟩ := ih (by omega)
      obtain ⟨e, g1, g2, g3⟩ := key n (by omega)
      have hlen : es.length = n := by have := congrArg List.length h1; rw [List.length_map, List.length_take] at this; omega
      refine ⟨es ++ [e], ?_, ?_, ?_⟩
      · rw [List.map_append, h1, List.take_add_one, g1]; rfl
      · intro i e' he
        rw [List.getElem?_append] at he
        by_cases hi : i < es.length
        · rw [if_pos hi] at he; exact h2 i e' he
        · rw [if_neg hi] at he
          have : i - es.length = 0 := by
            rcases Nat.eq_zero_or_pos (i - es.length) with h | h
            · exact h
            · rw [List.getElem?_eq_none (by simp; omega)] at he; cases he
          rw [this] at he
          simp at he
          subst he
          rw [show i = n by omega]
          exact g2
      · intro e' he
        rcases List.mem_append.1 he with h | h
        · exact h3 e' h
        · rw [List.mem_singleton.1 h]; exact g3
  obtain ⟨es, h1, h2, h3⟩ := all xs.length (Nat.le_refl _)
  rw [List.take_length] at h1
  have hlen : es.length = xs.length := by rw [← h1, List.length_map]
  refine ⟨es, h1, ⟨by omega, fun hn => ?_⟩, h3⟩
  obtain ⟨e0, t0, rfl⟩ : ∃ e t, es = e :: t := by
    cases es with
    | nil => exact absurd rfl hn
    | cons e t => exact ⟨e, t, rfl⟩
  obtain ⟨ad, hA, _⟩ := h2 0 e0 rfl
  refine ⟨ad, hA, fun i e he => ?_⟩
  obtain ⟨ad', hA', h⟩ := h2 i e he
  rw [hA] at hA'
  cases hA'
  exact h
def bck (es : List El) : List (Int × El) := (es.zipIdx.map fun p => ((p.2 : Int), p.1)).reverse
theorem bck_len (es : List El) : (bck es).length = es.length := by simp [bck]
theorem bck_get (es : List El) (k : Nat) (e : El) (h : k < es.length) (he : es[es.length - 1 - k]? = some e) : (bck es)[k]? = some (((es.length - 1 - k : Nat) : Int), e) := by
  unfold bck
  rw [List.getElem?_reverse (by simpa using h)]
  simp only [List.length_map, List.length_zipIdx]
  rw [List.getElem?_map, List.getElem?_zipIdx, he]
  simp
end Tlv
end Go.Proofs.YthnddhgkjkpmfaaDoor
/- slices.Backward over a row of trees. -/
namespace Go.Proofs.YthnddhgkjkpmfaaDoor
set_option linter.unusedSimpArgs false
set_option linter.unusedVariables false
namespace Tlv
open Go.RowKit Go.Shelf Go.Proofs.YthnddhgkjkpmfaaDoorW.PrintWords Go.Proofs.YthnddhgkjkpmfaaDoor.KTlv
attribute [local go_sem] Oper.semAt_some
theorem back_any (A : Option Addr) (n c : Nat) (w : World) : Calls Tryd.prog 62 #[.slice A n c] w
    fun e w' => e = .returned (.func (.func 71) #[] #[.pointer (some ⟨w.heap.size, 0, none⟩)]) ∧ w' = w.alloc (.cells #[.slice A n c] 22) := by
  go_enter Tryd.func62, Tryd.ntmps62
  go_wp2
  go_ret
  exact ⟨rfl, rfl⟩
def BW (A : Option Addr) (es : List El) (c : Nat) (B : Nat) (w : World) : Prop := w.heap[B]? = some (.cells #[.slice A es.length c] 22 (0, 0)) ∧ Row3 w A es
set_option maxRecDepth 100000 in
set_option maxHeartbeats 4000000 in
theorem back_it (m : Nat) (A : Option Addr) (es : List El) (c B : Nat) :
    IterE Fence.wide m Tryd.prog 71 #[.pointer (some ⟨B, 0, none⟩)] (fun x : Int × El => #[.int .i64 x.1, x.2.v]) (bck es) (BW A es c B) := by
  intro l J Jx W hW hJ hJx hY h0
  have HW := Lib.hid hW
  have HJ := Lib.hid hJ
  have HY := Lib.hid hY
  have HJx := Lib.hid hJx
  have r0 := hW 0 W h0
  have z0 := cell_of_row W B 0 _ _ _ r0.1
  simp at z0
  have hmx := r0.2.1
  obtain ⟨n, hn⟩ : ∃ n : Nat, es.length = n := ⟨_, rfl⟩
  have HN := Lib.hid hn
  rw [hn] at z0 hmx
  have hw1 : wrap64 ((n : Int) - 1) = n - 1 := by unfold wrap64; omega
  clear hW hJ hY hJx r0 hn
  refine callsIn_of_wp Tryd.func71 rfl trivial ?_ rfl
  simp only [Tryd.ntmps71, List.size_toArray, List.length_cons, List.length_nil, Nat.reduceAdd, Nat.reduceSub, Array.replicate_succ, Array.replicate_zero, List.push_toArray, List.append_toArray, List.nil_append, List.cons_append]
  refine wpIn_wide.2 ((wpIn_wide (n := m)).1 ?_)
  gi_wp2_with fail
  gi_loopw [3] (fun v wr => ∃ k : Nat, v = .int .i64 ((n : Int) - 1 - k) ∧ k ≤ n ∧ J k wr)
    (fun v _ => (intOf v + 1).toNat)
  case atStart => exact ⟨0, by simp, Nat.zero_le _, h0⟩
  case round =>
    obtain ⟨k, rfl, hk, hJk⟩ := hrel
    have rB := HW.out k _ hJk
    have c0 := cell_of_row wr B 0 _ _ _ rB.1
    simp at c0
    rw [HN.out] at c0
    obtain ⟨i, hi⟩ : ∃ i : Int, (n : Int) - 1 - k = i := ⟨_, rfl⟩
    have hw2 : wrap64 (i - 1) = i - 1 := by unfold wrap64; omega
    by_cases hlt : k < n
    · have p0 : 0 ≤ i := by omega
      have q0 : i < n := by omega
      have hit : es.length - 1 - k = i.toNat := by rw [HN.out]; omega
      obtain ⟨e, he⟩ : ∃ e, es[i.toNat]? = some e := ⟨_, List.getElem?_eq_getElem (by rw [HN.out]; omega)⟩
      obtain ⟨ad, hA, h3⟩ := rB.2.2 (by intro h; rw [h] at he; simp at he)
      have hx := bck_get es k e (by rw [HN.out]; exact hlt) (by rw [hit]; exact he)
      rw [hit, show ((i.toNat : Nat) : Int) = i by omega] at hx
      obtain ⟨d0, d1, d2⟩ := h3 i.toNat e he
      rw [hA] at c0
      obtain ⟨fn, tmps, assign, body, hy, hYR⟩ := HY.out k _ wr hx hJk
      have HH := Lib.hid hi
      simp only [El.v] at hy
      rw [hi]
      clear hx he h3 hA rB hit hi
      replace p0 := eq_true p0
      replace q0 := eq_true q0
      gi_wp2_with fail
      refine ⟨fun h => (by cases h), hYR.mono ?_⟩
      rintro e' W4 (⟨rfl, hJ4⟩ | ⟨rfl, hJx4⟩)
      · gi_wp2_with fail
        go_roundw
        case rel => exact ⟨k + 1, by have := HH.out; congr 1; omega, by omega, hJ4⟩
        case measure => have := HH.out; simp [intOf]; omega
      · gi_wp2_with fail
        (try simp only [Exit.inBlock, Exit.then])
        refine bodyPost_ret (results_none rfl _ _ _) rfl ?_
        exact ⟨⟨_, rfl⟩, .inr ⟨k + 1, by rw [bck_len, HN.out]; omega, hJx4⟩⟩
    · have hi0 : i = -1 := by omega
      rw [hi]
      subst hi0
      gi_wp2_with fail
      try rw [Exit.noGoto_normal]
      go_end0
      exact ⟨⟨_, rfl⟩, .inl (by rw [bck_len, HN.out, show n = k by omega]; exact hJk)⟩
end Tlv
end Go.Proofs.YthnddhgkjkpmfaaDoor
/- A fourth law for 'for x := range f { .. }' of this repo's own: as IterD's, of an iterator that is asked for at most K rounds. -/
namespace Go.Proofs.YthnddhgkjkpmfaaDoor
set_option linter.unusedSimpArgs false
set_option linter.unusedVariables false
open Go.RowKit
def IterK (K : Nat) {α : Type} (F : Fence) (n : Nat) (P : Program) (g : Nat) (lb : Array Value) (encs : α → Array Value) (xs : List α) (Rd : Nat → Prop) (W0 : (Nat → Prop) → World → Prop) (E : World → Prop) : Prop :=
  ∀ (l : Nat) (J Jx : Nat → (Nat → Prop) → World → Prop) (U0 : Nat → Prop) (W : World), W0 U0 W → (∀ j, U0 j → j < W.heap.size ∧ ¬ Rd j) → (∀ j, Rd j → j < W.heap.size) →
    (∀ k U A, J k U A → k ≤ K) → (∀ k U A B, J k U A → Chg (fun j => ¬ U j ∧ ¬ Rd j) A B → J k U B) → (∀ k U A B, Jx k U A → Chg (fun j => ¬ U j ∧ ¬ Rd j) A B → Jx k U B) →
    (∀ k x U A, xs[k]? = some x → (∀ j, U j → j < A.heap.size ∧ ¬ Rd j) → J k U A → YieldAt F (n - 1) P l (encs x) A fun e B =>
      (e = .returned (.bool true) ∧ ∃ U', UStep U A U' B ∧ J (k + 1) U' B) ∨ (e = .returned (.bool false) ∧ ∃ U', UStep U A U' B ∧ Jx (k + 1) U' B)) →
    J 0 U0 W →
    CallsIn F n P g (#[.func (.yield l) #[] #[]] ++ lb) W fun e B => (∃ v, e = .returned v) ∧ W.heap.size ≤ B.heap.size ∧ ((∃ U, (∀ j, U j → j < B.heap.size ∧ ¬ Rd j) ∧ J xs.length U B ∧ E B) ∨ ∃ k, k ≤ xs.length ∧ ∃ U, (∀ j, U j → j < B.heap.size ∧ ¬ Rd j) ∧ Jx k U B)
variable {F : Fence} {n : Nat} {P : Program}
theorem wpIn_range_itK {K : Nat} {α : Type} {g : Operand} {ps : Array Tmp} {assign body : Code} {Q : Exit → Act → World → Prop} {a : Act} {w : World}
    (hro : F.round = none) (h1 : 1 ≤ n) {gf : Nat} {lb : Array Value} (hg : a.eval g = .func (.func gf) #[] lb) (hFg : F.fn gf) (eg : ∀ args w, (callFunc gf args).run P w = .ok (.enter gf args) w)
    {encs : α → Array Value} {xs : List α} {Rd : Nat → Prop} {W0 : (Nat → Prop) → World → Prop} {E : World → Prop} (hit : IterK K F (n - 1) P gf lb encs xs Rd W0 E) (hRd : ∀ j, Rd j → j < w.heap.size)
    (U0 : Nat → Prop) (hU0 : ∀ j, U0 j → j < w.heap.size ∧ ¬ Rd j)
    (hW0 : ∀ W, Chg (fun _ => False) w W → W.heap.size = w.heap.size + 2 → W0 (fun j => U0 j ∨ LZ w.heap.size j) W) (hps : ∀ x, (encs x).size = ps.size)
    (I : Nat → (Nat → Prop) → World → Prop) (Ix : Code → Nat → (Nat → Prop) → World → Prop) (hK : ∀ k U A, I k U A → k ≤ K)
    (hI : ∀ k U A B, I k U A → w.heap.size + 2 ≤ B.heap.size → Chg (fun j => ¬ U j ∧ ¬ Rd j) A B → I k U B) (hIx : ∀ c k U A B, Ix c k U A → Chg (fun j => ¬ U j ∧ ¬ Rd j) A B → Ix c k U B)
    (hE : ∀ A B, E A → Chg (LZ w.heap.size) A B → E B) (h0 : I 0 U0 w)
    (Ax : α → Act → World → Prop) (hAx : ∀ x a' A B, Ax x a' A → Chg (LZ w.heap.size) A B → Ax x a' B)
    (hassign : ∀ (l k : Nat) (x : α) (U : Nat → Prop) (A : World) (K : Act → World → Prop), xs[k]? = some x → I k U A → (∀ j, U j → j < A.heap.size ∧ ¬ Rd j) → w.heap.size + 2 ≤ A.heap.size →
      (∀ a' U1 B, UStep U A U1 B → I k U1 B → Ax x a' B → K a' B) →
      assign.wpIn (F.inRound l) (n - 1 - 1) P (Exit.then K (fun _ _ _ => False)) { tmps := (ps.zip (encs x)).foldl (fun t (p, v) => t.setIfInBounds p v) a.tmps, defers := [] } A)
    (hbody : ∀ (k : Nat) (x : α) (U : Nat → Prop) (a' : Act) (A : World), (∃ r, A.heap[w.heap.size + 1]? = some (.loop r)) → xs[k]? = some x → I k U A → (∀ j, U j → j < A.heap.size ∧ ¬ Rd j) → w.heap.size + 2 ≤ A.heap.size → Ax x a' A →
      body.wpIn (F.inRound (w.heap.size + 1)) (n - 1 - 1) P (itPostD I Ix U (k + 1) A) a' A)
    (hdone : ∀ (U : Nat → Prop) (B : World), I xs.length U B → E B → (∀ j, U j → j < B.heap.size ∧ ¬ Rd j) → w.heap.size + 2 ≤ B.heap.size → B.heap[w.heap.size]? = some (.deferred (some [])) → Q .normal { a with defers := { target := .collected w.heap.size, args := #[] } :: a.defers } B)
    (hstop : ∀ (c : Code) (k : Nat) (U : Nat → Prop) (B : World), k ≤ xs.length → Ix c k U B → (∀ j, U j → j < B.heap.size ∧ ¬ Rd j) → w.heap.size + 2 ≤ B.heap.size → B.heap[w.heap.size]? = some (.deferred (some [])) → c.wpIn F n P Q { a with defers := { target := .collected w.heap.size, args := #[] } :: a.defers } B) :
    (Code.rangeFunc g ps assign body).wpIn F n P Q a w := by
  refine wpIn_rangeFunc ?_
  intro fn hfn
  rw [hro]
  obtain ⟨rec, hrec⟩ : ∃ rec : LoopState → Option Code → Loop, rec = fun st pe => { state := st, pending := pe, fn, tmps := a.tmps, params := ps, assign, body, defers := w.heap.size } := ⟨_, rfl⟩
  obtain ⟨W1, hW1⟩ : ∃ W1, (w.alloc (.deferred (some []))).alloc (.loop (rec .ready none)) = W1 := ⟨_, rfl⟩
  have hs1 : W1.heap.size = w.heap.size + 2 := by rw [← hW1]; simp
  have hL1 : W1.heap[w.heap.size + 1]? = some (.loop (rec .ready none)) := by
    rw [← hW1]; have := World.alloc_heap_new (w.alloc (.deferred (some []))) (.loop (rec .ready none)); rwa [World.size_alloc] at this
  have hK1 : W1.heap[w.heap.size]? = some (.deferred (some [])) := by
    rw [← hW1]; exact (Below.heap_alloc _ _ _ (by simp)).trans (World.alloc_heap_new w _)
  have hC1 : ∀ S, Chg S w W1 := fun S => by rw [← hW1]; exact ((Chg.refl S w).alloc _).alloc _
  obtain ⟨z, hz⟩ : ∃ z, w.heap.size = z := ⟨_, rfl⟩
  have hI1 : I 0 U0 W1 := hI _ _ _ _ h0 (by omega) (hC1 _)
  -- what the loop hands to the iterator: U and the loop's own blocks
  obtain ⟨UL, hUL⟩ : ∃ UL : (Nat → Prop) → Nat → Prop, UL = fun U j => U j ∨ LZ z j := ⟨_, rfl⟩
  have ulz : ∀ U, UL U z := fun U => by rw [hUL]; exact .inr (.inl rfl)
  have ulz1 : ∀ U, UL U (z + 1) := fun U => by rw [hUL]; exact .inr (.inr rfl)
  have ulU : ∀ U j, U j → UL U j := fun U j h => by rw [hUL]; exact .inl h
  -- a change of the iterator's leaves U alone, and the loop's blocks
  have jI : ∀ {U A B}, Chg (fun j => ¬ UL U j ∧ ¬ Rd j) A B → Chg (fun j => ¬ U j ∧ ¬ Rd j) A B := fun h => h.mono (fun k hk => ⟨fun hS => hk.1 (ulU _ _ hS), hk.2⟩)
  have jR : ∀ j, LZ z j → ¬ Rd j := fun j hj hr => by
    have := hRd j hr
    rcases hj with hj | hj <;> omega
  have jZ : ∀ {U : Nat → Prop} {A B : World}, (∀ j, U j → ¬ LZ z j) → Chg (LZ z) A B → Chg (fun j => ¬ U j ∧ ¬ Rd j) A B := fun hu h => h.mono (fun k hk => ⟨fun hS => hu k hS hk, jR k hk⟩)
  refine ⟨w.heap.size + 1, [{ target := .collected w.heap.size, args := #[] }], W1, { target := .fn (.func gf) lb, args := #[.func (.yield (w.heap.size + 1)) #[] #[]] }, W1, gf,
    #[.func (.yield (w.heap.size + 1)) #[] #[]] ++ lb, W1, ?_, ?_, ?_, ?_, fun _ => h1, ?_⟩
  · rw [← hW1, hrec]; exact run_enterLoop_outer _ _ _ _ _
  · simp only [resolve, hg]
    simp [go_sem]
  · intro f' hf'; simp [Target.leads] at hf'; subst hf'; exact hFg
  · simp [invoke, go_sem, eg]
  · simp only [hz] at *
    refine (hit (z + 1)
      (fun k U W => ∃ U', U = UL U' ∧ (∀ j, U' j → ¬ LZ z j) ∧ z + 2 ≤ W.heap.size ∧ I k U' W ∧ W.heap[z + 1]? = some (.loop (rec .ready none)) ∧ W.heap[z]? = some (.deferred (some [])))
      (fun k U W => ∃ U', U = UL U' ∧ (∀ j, U' j → ¬ LZ z j) ∧ z + 2 ≤ W.heap.size ∧ ∃ c, Ix c k U' W ∧ W.heap[z + 1]? = some (.loop (rec .done (some c))) ∧ W.heap[z]? = some (.deferred (some [])))
      (UL U0) W1 (by rw [hUL]; exact hW0 _ (hC1 _) hs1)
      (fun j hj => by
        rw [hUL] at hj
        rcases hj with hj | hj
        · have := hU0 j hj; exact ⟨by omega, this.2⟩
        · exact ⟨by rcases hj with hj | hj <;> omega, jR j hj⟩)
      (fun j hj => by have := hRd j hj; omega) (fun k U A hs => by obtain ⟨U', _, _, _, hi, _⟩ := hs; exact hK k U' A hi)
      (fun k U A B hs hc => by
        obtain ⟨U', rfl, hu, hsz, hi, hl, hk⟩ := hs
        exact ⟨U', rfl, hu, Nat.le_trans hsz hc.size, hI k U' A B hi (Nat.le_trans hsz hc.size) (jI hc), hc.heap hl (fun h => h.1 (ulz1 _)), hc.heap hk (fun h => h.1 (ulz _))⟩)
      (fun k U A B hs hc => by
        obtain ⟨U', rfl, hu, hsz, c, hx, hl, hk⟩ := hs
        exact ⟨U', rfl, hu, Nat.le_trans hsz hc.size, c, hIx c k U' A B hx (jI hc), hc.heap hl (fun h => h.1 (ulz1 _)), hc.heap hk (fun h => h.1 (ulz _))⟩)
      ?_ ⟨U0, rfl, fun j hj h => by
        have h1' := (hU0 j hj).1
        rcases h with h | h <;> omega, by omega, hI1, hL1, hK1⟩).mono ?_
    · rintro k x U W hx hUlt ⟨U, rfl, hu, hsz, hi, hl, hk⟩
      have hUl : ∀ j, U j → j < W.heap.size ∧ ¬ Rd j := fun j hj => hUlt j (ulU _ _ hj)
      have hy := run_yield (P := P) (args := encs x) hl (by rw [hrec]; exact hps x)
      rw [hrec] at hy
      refine ⟨fn, _, assign, body, hy, roundIn_of_wpIn hfn (hassign _ k x U W _ hx hi hUl hsz ?_)⟩
      clear hy
      intro a' U1 Wa hca hia hax
      have hnz : ¬ U z := fun h => hu _ h (.inl rfl)
      have hnz1 : ¬ U (z + 1) := fun h => hu _ h (.inr rfl)
      have hl' := hca.chg.heap hl hnz1
      have hk' := hca.chg.heap hk hnz
      have hlt : z + 1 < Wa.heap.size := (Array.getElem?_eq_some_iff.1 hl').1
      have hu1 : ∀ j, U1 j → ¬ LZ z j := fun j hj h => by
        rcases hca.old j hj with h2 | h2
        · exact hu j h2 h
        · rcases h with h | h <;> omega
      refine ⟨_, run_beginRound hl' (by rw [hrec]), ?_⟩
      obtain ⟨W2, hW2⟩ : ∃ W2, Wa.putObj (z + 1) (.loop { rec .ready none with state := .busy }) = W2 := ⟨_, rfl⟩
      have hl2 : W2.heap[z + 1]? = some (.loop { rec .ready none with state := .busy }) := by rw [← hW2]; exact World.putObj_heap_same hlt
      have hk2 : W2.heap[z]? = some (.deferred (some [])) := by rw [← hW2]; exact (World.putObj_heap_other (by omega)).trans hk'
      have hc2 : Chg (LZ z) Wa W2 := by rw [← hW2]; exact (Chg.refl _ _).putObj (.inr rfl) _
      have hs2 : Wa.heap.size = W2.heap.size := by rw [← hW2]; simp
      have hsa := hca.chg.size
      rw [hW2]
      have hlt1 : ∀ j, U1 j → j < W2.heap.size ∧ ¬ Rd j := fun j hj => ⟨by have := hca.lt j hj; omega, fun hr => by
        rcases hca.old j hj with h2 | h2
        · exact (hUl j h2).2 hr
        · have := hRd j hr; omega⟩
      refine wpIn_mono (hbody k x U1 a' _ ⟨_, hl2⟩ hx (hI _ _ _ _ hia (by omega) (jZ hu1 hc2)) hlt1 (by omega) (hAx x a' _ _ hax hc2)) ?_
      have fin : ∀ (jump : Option Code) (U3 : Nat → Prop) (W3 : World), UStep U1 W2 U3 W3 →
          (Instr.endRound (z + 1) jump).run P W3 = .ok (.bool jump.isNone) (W3.putObj (z + 1) (.loop (rec (if jump.isNone then .ready else .done) jump))) ∧
          (W3.putObj (z + 1) (.loop (rec (if jump.isNone then .ready else .done) jump))).heap[z + 1]? = some (.loop (rec (if jump.isNone then .ready else .done) jump)) ∧
          (W3.putObj (z + 1) (.loop (rec (if jump.isNone then .ready else .done) jump))).heap[z]? = some (.deferred (some [])) ∧
          Chg (LZ z) W3 (W3.putObj (z + 1) (.loop (rec (if jump.isNone then .ready else .done) jump))) ∧ (∀ j, U3 j → ¬ LZ z j) ∧
          UStep (UL U) W (UL U3) (W3.putObj (z + 1) (.loop (rec (if jump.isNone then .ready else .done) jump))) ∧ z + 2 ≤ (W3.putObj (z + 1) (.loop (rec (if jump.isNone then .ready else .done) jump))).heap.size := fun jump U3 W3 hk3 => by
        have hl3 := hk3.chg.heap hl2 (fun h => hu1 _ h (.inr rfl))
        have := run_endRound (P := P) jump hl3
        rw [hrec] at this ⊢
        have hs3 := hk3.chg.size
        have hps : ∀ (o : Obj), (W3.putObj (z + 1) o).heap.size = W3.heap.size := fun o => by simp
        have cz : ∀ (o : Obj), Chg (LZ z) W3 (W3.putObj (z + 1) o) := fun o => (Chg.refl _ _).putObj (.inr rfl) _
        have hu3 : ∀ j, U3 j → ¬ LZ z j := fun j hj h => by
          rcases hk3.old j hj with h2 | h2
          · exact hu1 j h2 h
          · rcases h with h | h <;> omega
        refine ⟨this, World.putObj_heap_same (Array.getElem?_eq_some_iff.1 hl3).1, (World.putObj_heap_other (by omega)).trans (hk3.chg.heap hk2 (fun h => hu1 _ h (.inl rfl))), cz _, hu3, ⟨fun j hj => ?_, fun j hj => ?_, ?_⟩, by rw [hps]; omega⟩
        · rw [hUL] at hj ⊢
          rcases hj with hj | hj
          · rcases hk3.old j hj with h2 | h2
            · rcases hca.old j h2 with h4 | h4
              · exact .inl (.inl h4)
              · exact .inr h4
            · right; omega
          · exact .inl (.inr hj)
        · rw [hps]
          rw [hUL] at hj
          rcases hj with hj | hj | hj
          · exact hk3.lt j hj
          · omega
          · omega
        · have c1 : Chg (UL U) W Wa := hca.chg.mono (ulU _)
          have c2 : Chg (UL U) Wa W2 := hc2.mono (fun j h => by rw [hUL]; exact .inr h)
          have c3 : Chg (UL U) W W3 := (c1.trans c2).trans' hk3.chg (fun j hj hU => by
            rcases hca.old j hU with h4 | h4
            · exact ulU _ _ h4
            · omega)
          exact c3.trans ((cz _).mono (fun j h => by rw [hUL]; exact .inr h))
      rintro e a3 W3 hp
      cases e with
      | normal =>
        obtain ⟨U3, hk3, hi3⟩ := hp
        obtain ⟨hr, hl4, hk4, hc4, hu3, hst, hs4⟩ := fin none U3 W3 hk3
        exact ⟨_, _, hr, .inl ⟨rfl, _, hst, U3, rfl, hu3, hs4, hI _ _ _ _ hi3 hs4 (jZ hu3 hc4), hl4, hk4⟩⟩
      | ret =>
        obtain ⟨U3, hk3, hi3⟩ := hp
        obtain ⟨hr, hl4, hk4, hc4, hu3, hst, hs4⟩ := fin (some .ret) U3 W3 hk3
        exact ⟨_, _, hr, .inr ⟨rfl, _, hst, U3, rfl, hu3, hs4, .ret, hIx _ _ _ _ _ hi3 (jZ hu3 hc4), hl4, hk4⟩⟩
      | exit id =>
        obtain ⟨U3, hk3, hi3⟩ := hp
        obtain ⟨hr, hl4, hk4, hc4, hu3, hst, hs4⟩ := fin (some (.exit id)) U3 W3 hk3
        exact ⟨_, _, hr, .inr ⟨rfl, _, hst, U3, rfl, hu3, hs4, .exit id, hIx _ _ _ _ _ hi3 (jZ hu3 hc4), hl4, hk4⟩⟩
      | goto t =>
        obtain ⟨U3, hk3, hi3⟩ := hp
        obtain ⟨hr, hl4, hk4, hc4, hu3, hst, hs4⟩ := fin (some (.goto t)) U3 W3 hk3
        exact ⟨_, _, hr, .inr ⟨rfl, _, hst, U3, rfl, hu3, hs4, .goto t, hIx _ _ _ _ _ hi3 (jZ hu3 hc4), hl4, hk4⟩⟩
      | panic ch => exact hp.elim
      | outgrown => exact hp.elim
    · rintro e W2 ⟨⟨v, rfl⟩, hs2, (⟨U, hlt, ⟨U, rfl, hu, hsz, hi, hl, hk⟩, hE2⟩ | ⟨k, hkle, U, hlt, U, rfl, hu, hsz, c, hi, hl, hk⟩)⟩
      · have cz : ∀ o, Chg (LZ z) W2 (W2.putObj (z + 1) o) := fun o => (Chg.refl _ _).putObj (.inr rfl) _
        have hps : ∀ (o : Obj), (W2.putObj (z + 1) o).heap.size = W2.heap.size := fun o => by simp
        exact ⟨none, _, by have := run_endLoop (P := P) hl (by rw [hrec]; simp); rw [hrec] at this; exact this,
          hdone U _ (hI _ _ _ _ hi (by rw [hps]; exact hsz) (jZ hu (cz _))) (hE _ _ hE2 (cz _)) (fun j hj => ⟨by rw [hps]; exact (hlt j (ulU _ _ hj)).1, (hlt j (ulU _ _ hj)).2⟩) (by rw [hps]; exact hsz) ((World.putObj_heap_other (by omega)).trans hk)⟩
      · have cz : ∀ o, Chg (LZ z) W2 (W2.putObj (z + 1) o) := fun o => (Chg.refl _ _).putObj (.inr rfl) _
        have hps : ∀ (o : Obj), (W2.putObj (z + 1) o).heap.size = W2.heap.size := fun o => by simp
        exact ⟨some c, _, by have := run_endLoop (P := P) hl (by rw [hrec]; simp); rw [hrec] at this; exact this,
          hstop c k U _ hkle (hIx _ _ _ _ _ hi (jZ hu (cz _))) (fun j hj => ⟨by rw [hps]; exact (hlt j (ulU _ _ hj)).1, (hlt j (ulU _ _ hj)).2⟩) (by rw [hps]; exact hsz) ((World.putObj_heap_other (by omega)).trans hk)⟩
end Go.Proofs.YthnddhgkjkpmfaaDoor
/- All trees in one, as they lie. -/
namespace Go.Proofs.YthnddhgkjkpmfaaDoor
set_option linter.unusedSimpArgs false
set_option linter.unusedVariables false
namespace Tlv
open Go.RowKit Go.Shelf Go.Proofs.YthnddhgkjkpmfaaDoorW.PrintWords Go.Proofs.YthnddhgkjkpmfaaDoor.KTlv
theorem kid_lt5 {k n : Nd} (h : k ∈ n.f2) : SizeOf.sizeOf k < SizeOf.sizeOf n := by
  obtain ⟨t, s, ks⟩ := n
  have := List.sizeOf_lt_of_mem (show k ∈ ks from h)
  simp only [S24.mk.sizeOf_spec]
  omega
def Kids (w : World) (e : El) (es : List El) : Prop := es.map (·.x) = e.x.f2 ∧ Row3 w e.a es ∧ ∀ k ∈ es, k.x.f2.length ≤ k.c ∧ Kd.C k24 w k.a k.x.f2.length k.x.f2
open Classical in
noncomputable def kidsE (w : World) (e : El) : List El := if h : ∃ es, Kids w e es then Classical.choose h else []
theorem kidsE_mem (w : World) (e k : El) (h : k ∈ kidsE w e) : k.x ∈ e.x.f2 := by
  unfold kidsE at h
  split at h
  · rename_i hh
    have := (Classical.choose_spec hh).1
    rw [← this]
    exact List.mem_map.2 ⟨k, h, rfl⟩
  · cases h
theorem kidsE_spec (w : World) (e : El) (h : Kd.C k24 w e.a e.x.f2.length e.x.f2) : Kids w e (kidsE w e) := by
  obtain ⟨es, h1, h2, h3⟩ := rows_of h
  have hh : ∃ es, Kids w e es := ⟨es, h1, h2, h3⟩
  unfold kidsE
  rw [dif_pos hh]
  exact Classical.choose_spec hh
noncomputable def preE (w : World) (d : Int) (e : El) : List (Int × El) := (d, e) :: (kidsE w e).attach.flatMap fun k => preE w (d + 1) k.1
termination_by SizeOf.sizeOf e.x
decreasing_by exact kid_lt5 (kidsE_mem w e k.1 k.2)
theorem preE_eq (w : World) (d : Int) (e : El) : preE w d e = (d, e) :: (kidsE w e).flatMap (preE w (d + 1)) := by
  rw [preE]
  congr 1
  rw [List.flatMap_def, List.flatMap_def]
  congr 1
  exact List.attach_map_val
theorem preL_flat (d : Int) : ∀ ks : List Nd, preL d ks = ks.flatMap (pre d)
  | [] => rfl
  | k :: ks => by rw [preL, preL_flat d ks]; rfl
theorem pre_eq (d : Int) (n : Nd) : pre d n = (d, n) :: n.f2.flatMap (pre (d + 1)) := by
  obtain ⟨t, s, ks⟩ := n
  rw [pre, preL_flat]
theorem preE_spec (w : World) : ∀ (m : Nat) (e : El) (d : Int), SizeOf.sizeOf e.x < m → Kd.C k24 w e.a e.x.f2.length e.x.f2 → e.x.f2.length ≤ e.c →
    (preE w d e).map (fun p => (p.1, p.2.x)) = pre d e.x ∧ ∀ p ∈ preE w d e, p.2.x.f2.length ≤ p.2.c ∧ Kd.C k24 w p.2.a p.2.x.f2.length p.2.x.f2 := by
  intro m
  induction m with
  | zero => intro e d h; exact absurd h (Nat.not_lt_zero _)
  | succ m ih =>
    intro e d hs hC hc
    obtain ⟨h1, h2, h3⟩ := kidsE_spec w e hC
    have hk : ∀ k ∈ kidsE w e, (preE w (d + 1) k).map (fun p => (p.1, p.2.x)) = pre (d + 1) k.x ∧ ∀ p ∈ preE w (d + 1) k, p.2.x.f2.length ≤ p.2.c ∧ Kd.C k24 w p.2.a p.2.x.f2.length p.2.x.f2 := fun k hk =>
      ih k (d + 1) (by have := kid_lt5 (kidsE_mem w e k hk); omega) (h3 k hk).2 (h3 k hk).1
    constructor
    · rw [preE_eq, pre_eq, List.map_cons, ← h1, List.map_flatMap, List.flatMap_map]
      congr 1
      rw [List.flatMap_def, List.flatMap_def]
      congr 1
      exact List.map_congr_left fun k hkm => (hk k hkm).1
    · intro p hp
      rw [preE_eq] at hp
      rcases List.mem_cons.1 hp with rfl | hp
      · exact ⟨hc, hC⟩
      · obtain ⟨k, hkm, hpk⟩ := List.mem_flatMap.1 hp
        exact (hk k hkm).2 p hpk
noncomputable def restE (w : World) (st : List (Int × El)) : List (Int × El) := st.flatMap fun p => preE w p.1 p.2
theorem restE_cons (w : World) (d : Int) (e : El) (st : List (Int × El)) : restE w ((d, e) :: st) = (d, e) :: restE w ((kidsE w e).map (fun k => (d + 1, k)) ++ st) := by
  unfold restE
  rw [List.flatMap_cons, preE_eq, List.flatMap_append, List.flatMap_map]
  rfl
def cellsE (st : List (Int × El)) : List Value := st.reverse.flatMap fun p => [.int .i64 p.2.x.f0, .string p.2.x.f1, .slice p.2.a p.2.x.f2.length p.2.c]
def deepsE (st : List (Int × El)) : List Value := st.reverse.map fun p => .int .i64 p.1
theorem cellsE_cons (p : Int × El) (st : List (Int × El)) : cellsE (p :: st) = cellsE st ++ [.int .i64 p.2.x.f0, .string p.2.x.f1, .slice p.2.a p.2.x.f2.length p.2.c] := by simp [cellsE]
theorem deepsE_cons (p : Int × El) (st : List (Int × El)) : deepsE (p :: st) = deepsE st ++ [.int .i64 p.1] := by simp [deepsE]
theorem cellsE_len (st : List (Int × El)) : (cellsE st).length = st.length * 3 := by
  induction st with
  | nil => rfl
  | cons p st ih => rw [cellsE_cons, List.length_append, ih, List.length_cons]; simp; omega
theorem deepsE_len (st : List (Int × El)) : (deepsE st).length = st.length := by simp [deepsE]
end Tlv
end Go.Proofs.YthnddhgkjkpmfaaDoor
/- A region that draws its order, in a round of a loop over a function: the walk that holds a fact of the world, which may end at an operation (a store), takes the loads ahead of it first. -/
namespace Go.Proofs.YthnddhgkjkpmfaaDoor
set_option linter.unusedSimpArgs false
set_option linter.unusedVariables false
open Go.RowKit
variable {P : Program} {ops : Array Oper} {Q : Exit → Act → World → Prop} {md : Region.Mode} {S : Array Bool → World → Prop}
def wpAnyL (P : Program) (md : Region.Mode) (ops : Array Oper) (Q : Exit → Act → World → Prop) (S : Array Bool → World → Prop) : Nat → Array Bool → Act → World → Prop
  | 0, listed, a, w => Region.ready md ops listed = [] ∧ Q .normal a w
  | fuel + 1, listed, a, w =>
    (Region.ready md ops listed = [] → Q .normal a w) ∧
    ∀ i ∈ Region.ready md ops listed, wpOp P ops Q i (fun a' w' => S (listed.setIfInBounds i true) w' ∧ wpAnyL P md ops Q S fuel (listed.setIfInBounds i true) a' w') a w
theorem wpAny_of_L : ∀ (fuel : Nat) (listed : Array Bool) (a : Act) (w : World), wpAnyL P md ops Q S fuel listed a w → wpAny P md ops Q fuel listed a w
  | 0, _, _, _, h => h
  | fuel + 1, _, _, _, h => ⟨h.1, fun i hi => wpOp_mono (fun a' w' h' => wpAny_of_L fuel _ a' w' h'.2) (h.2 i hi)⟩
def waits (md : Region.Mode) (ops : Array Oper) (i : Nat) (chain : List Nat) : Bool :=
  chain.all fun b => match ops[b]? with
    | some ob => ob.after.any fun e => Region.binds md e && (e.on == i || chain.contains e.on)
    | none => false
theorem getD_contra {l : Array Bool} {i : Nat} (h : l.getD i true = false) (h' : l.getD i false = true) : False := by
  rcases Nat.lt_or_ge i l.size with hl | hl
  · simp [hl] at h h'
    rw [h] at h'
    cases h'
  · simp [Array.getElem?_eq_none hl] at h
theorem waits_ready {i j : Nat} {chain : List Nat} {listed : Array Bool} (h : waits md ops i chain = true) (hi : listed.getD i true = false) (hc : ∀ b ∈ chain, listed.getD b true = false) (hj : j ∈ Region.ready md ops listed) : j ∉ chain := by
  intro hjc
  have h1 := List.all_eq_true.1 h j hjc
  obtain ⟨_, oj, hoj, hall⟩ := mem_ready.1 hj
  rw [hoj] at h1
  simp only [Array.any_eq_true] at h1
  obtain ⟨q, hq, h2⟩ := h1
  simp only [Bool.and_eq_true, Bool.or_eq_true, beq_iff_eq] at h2
  have h3 := hall _ (Array.getElem_mem hq) h2.1
  rcases h2.2 with h4 | h4
  · rw [h4] at h3
    exact getD_contra hi h3
  · exact getD_contra (hc _ (by simpa using h4)) h3
theorem wpAnyL_first {i : Nat} {oi : Oper} {v : Value} {T : World → Prop} {chain : List Nat} (hi : ops[i]? = some oi) (hsel : ∀ (j : Nat) (o : Oper) cs b, ops[j]? = some o → o.op ≠ .select cs b)
    (hQ : ∀ c a w, Q (.panic c) (a.put oi.dst v) w → Q (.panic c) a w) (hch : waits md ops i chain = true) (hSi : ∀ L w, S (L.setIfInBounds i true) w → S L w)
    (hT : ∀ L w, (∀ b ∈ chain, L.getD b true = false) → S L w → T w) :
    ∀ (fuel : Nat) (listed : Array Bool) (a : Act) (w : World), (∀ b ∈ chain, listed.getD b true = false) →
      (∀ j oj, ops[j]? = some oj → j ≠ i → listed.getD j true = false → (∀ e ∈ oj.after, Region.binds md e = true → e.on ≠ i) → oi.apart ops oj = true) →
      i ∈ Region.ready md ops listed → YieldsIf P ops T oi v a → S (listed.setIfInBounds i true) w →
      wpAnyL P md ops Q S fuel (listed.setIfInBounds i true) (a.put oi.dst v) w → wpAnyL P md ops Q S (fuel + 1) listed a w := by
  intro fuel
  induction fuel with
  | zero =>
    intro listed a w hb _ hr hy hS H
    refine ⟨fun h => (by rw [h] at hr; cases hr), fun j hj => ?_⟩
    by_cases hji : j = i
    · subst hji; exact hy.wpOp hi (hT _ _ hb (hSi _ _ hS)) ⟨hS, H⟩
    · have := ready_mono hj hji
      rw [H.1] at this
      cases this
  | succ fuel ih =>
    intro listed a w hb hfree hr hy hS H
    refine ⟨fun h => (by rw [h] at hr; cases hr), fun j hj => ?_⟩
    by_cases hji : j = i
    · subst hji; exact hy.wpOp hi (hT _ _ hb (hSi _ _ hS)) ⟨hS, H⟩
    · have h1 := H.2 j (ready_mono hj hji)
      have hun0 := (mem_ready.1 hr).1
      have hjc := waits_ready hch hun0 hb hj
      obtain ⟨hjun, oj, hoj, hall⟩ := mem_ready.1 hj
      have hnot : ∀ e ∈ oj.after, Region.binds md e = true → e.on ≠ i := fun e he hbd heq => getD_contra hun0 (heq ▸ hall e he hbd)
      have h2 := wpOp_putIf hoj (hfree j oj hoj hji hjun hnot) (fun cs b => hsel i oi cs b hi) (fun cs b => hsel j oj cs b hoj) hQ hy h1
      have hfree' : ∀ k ok, ops[k]? = some ok → k ≠ i → (listed.setIfInBounds j true).getD k true = false →
          (∀ e ∈ ok.after, Region.binds md e = true → e.on ≠ i) → oi.apart ops ok = true := fun k ok hk hki hun hno => by
        refine hfree k ok hk hki ?_ hno
        by_cases hjk : j = k
        · subst hjk; exact hjun
        · rw [getD_set_ne true hjk] at hun; exact hun
      have hb' : ∀ b ∈ chain, (listed.setIfInBounds j true).getD b true = false := fun b hbc => by
        rw [getD_set_ne true (show j ≠ b from fun e => hjc (by rw [e]; exact hbc))]
        exact hb b hbc
      refine wpOp_mono (fun a' w' h3 => ?_) h2
      obtain ⟨g1, g2, g3⟩ := h3
      rw [← Array.setIfInBounds_comm _ _ hji] at g2 g3
      exact ⟨hSi _ _ g2, ih (listed.setIfInBounds j true) a' w' hb' hfree' (ready_mono hr (Ne.symm hji)) g1 g2 g3⟩
theorem wpAnyL_take {i : Nat} {oi : Oper} {v : Value} {T : World → Prop} {chain : List Nat} {fuel : Nat} {listed : Array Bool} {a : Act} {w : World} (hi : ops[i]? = some oi)
    (hs : Region.noSelect ops = true) (hf : Region.free md ops listed i = true) (hr : (Region.ready md ops listed).contains i = true)
    (hQ : ∀ c a w, Q (.panic c) (a.put oi.dst v) w → Q (.panic c) a w) (hch : waits md ops i chain = true) (hb : (chain.all fun b => !(listed.getD b true)) = true)
    (hSi : ∀ L w, S (L.setIfInBounds i true) w ↔ S L w) (hT : ∀ L w, (∀ b ∈ chain, L.getD b true = false) → S L w → T w) (hy : YieldsIf P ops T oi v a) (hS : S listed w)
    (h : wpAnyL P md ops Q S fuel (listed.setIfInBounds i true) (a.put oi.dst v) w) : wpAnyL P md ops Q S (fuel + 1) listed a w :=
  wpAnyL_first hi (Region.noSelect_spec hs) hQ hch (fun L w => (hSi L w).1) hT fuel listed a w (fun b hbc => by have := List.all_eq_true.1 hb b hbc; simpa using this) (Region.free_spec hi hf) (by simpa using hr) hy ((hSi _ _).2 hS) h
theorem wpAnyL_all {rs : List Nat} {fuel : Nat} {listed : Array Bool} {a : Act} {w : World} (hr : Region.ready md ops listed = rs) (hne : rs ≠ [])
    (h : ∀ i ∈ rs, wpOp P ops Q i (fun a' w' => S (listed.setIfInBounds i true) w' ∧ wpAnyL P md ops Q S fuel (listed.setIfInBounds i true) a' w') a w) : wpAnyL P md ops Q S (fuel + 1) listed a w :=
  ⟨fun h0 => absurd (hr ▸ h0) hne, hr ▸ h⟩
theorem wpAnyL_done {fuel : Nat} {listed : Array Bool} {a : Act} {w : World} (hr : Region.ready md ops listed = []) (h : Q .normal a w) : wpAnyL P md ops Q S fuel listed a w := by
  cases fuel with
  | zero => exact ⟨hr, h⟩
  | succ n => exact ⟨fun _ => h, fun i hi => by rw [hr] at hi; cases hi⟩
theorem wpOpL {i : Nat} {o : Oper} {K : Act → World → Prop} {a : Act} {w : World} (ho : ops[i]? = some o) (hw : Region.wanted o (yielded ops a.tmps) = true) (h : Oper.wp P o a w K Q) : wpOp P ops Q i K a w := by
  unfold wpOp
  simp only [ho, hw, if_true]
  exact .inl h
theorem wpIn_of_wp_round {l n : Nat} {o : Oper} {a : Act} {w : World} {K : Act → World → Prop} (ho : ∀ c, o.op ≠ .defer c) (h : o.wp P a w K Q) : o.wpIn (Fence.wide.inRound l) n P a w K Q := by
  refine ⟨fun f _ => trivial, ?_⟩
  rw [Oper.semAt_plain _ _ _ ho]
  unfold Oper.wp at h
  generalize (execOp a.eval o).run P w = r at *
  cases r with
  | ok nx w' =>
    cases nx with
    | value v => exact h
    | skip => exact h
    | defer d => exact h
    | enter f args => exact ⟨fun h => (by cases h), CallsIn.inRound _ (callsIn_wide.2 h)⟩
    | row row args => exact ⟨fun h => (by cases h), fun c cs _ => let ⟨v, w', r, st⟩ := h c cs; ⟨v, w', r, stepsIn_wide.2 st⟩⟩
    | _ => exact h.elim
  | halt x w' => cases x <;> exact h
def noDefer (ops : Array Oper) : Bool := ops.all fun o => match o.op with
  | .defer _ => false
  | _ => true
theorem noDefer_spec (h : noDefer ops = true) (i : Nat) (o : Oper) (ho : ops[i]? = some o) : ∀ c, o.op ≠ .defer c := by
  intro c hc
  have := Array.all_eq_true_iff_forall_mem.1 h o (Array.mem_of_getElem? ho)
  simp [hc] at this
theorem wpAnyIn_of_wpAny {l n : Nat} (hQ : ¬ LetsOut Q) (hd : noDefer ops = true) : ∀ (fuel : Nat) (listed : Array Bool) (a : Act) (w : World), wpAny P md ops Q fuel listed a w → wpAnyIn (Fence.wide.inRound l) n P md ops Q fuel listed a w
  | 0, _, _, _, h => h
  | fuel + 1, listed, a, w, h => by
    refine ⟨h.1, fun i hi => ?_⟩
    have h1 := wpOp_mono (fun a' w' h' => wpAnyIn_of_wpAny (l := l) (n := n) hQ hd fuel _ a' w' h') (h.2 i hi)
    unfold wpOpIn
    unfold wpOp at h1
    cases ho : ops[i]? with
    | none => rw [ho] at h1; exact h1
    | some o =>
      rw [ho] at h1
      simp only at h1 ⊢
      by_cases hw : Region.wanted o (yielded ops a.tmps) = true
      · rw [if_pos hw] at h1 ⊢
        rcases h1 with h1 | ⟨_, h1⟩
        · exact wpIn_of_wp_round (noDefer_spec hd i o ho) h1
        · exact absurd h1 hQ
      · rw [if_neg hw] at h1 ⊢
        exact ⟨fun f _ => trivial, h1⟩
theorem wpIn_region_round {l n id : Nat} {a : Act} {w : World} (hm : P.follows .mixedOrders = true) (hd : noDefer ops = true) (hQ : ¬ LetsOut Q)
    (h : wpAnyL P .any ops Q S ops.size (Array.replicate ops.size false) a w.drew) : (Code.region id ops true).wpIn (Fence.wide.inRound l) n P Q a w :=
  wpIn_region_any hm (wpAnyIn_of_wpAny hQ hd _ _ _ _ (wpAny_of_L _ _ _ _ h))
end Go.Proofs.YthnddhgkjkpmfaaDoor
/- The stack of trees, as it lies, and what holds of it while a tree's Kids are laid on it. -/
namespace Go.Proofs.YthnddhgkjkpmfaaDoor
set_option linter.unusedSimpArgs false
set_option linter.unusedVariables false
namespace Tlv
open Go.RowKit Go.Shelf Go.Proofs.YthnddhgkjkpmfaaDoorW.PrintWords Go.Proofs.YthnddhgkjkpmfaaDoor.KTlv
section
variable {F : Fence} {nF : Nat} {P : Program} {w : World}
theorem step_append_own {o : Oper} {a : Act} {K : Act → World → Prop} {Q : Exit → Act → World → Prop} (s x : Operand) (t : TypeId)
    (ho : o.op = .call { callee := .builtin .append, args := #[s, x], argTypes := #[t, t] })
    (base : Nat) (e : TypeId) (i : TypeInfo) (z : Value) (size bytes : Nat) (ht : P.underlying t = some (.slice e)) (hi : P.info? e = some i) (hz : i.zero = some z)
    (hsize : i.size = size) (hby : i.bytes = bytes) (hzs : z.cells.size = size) (hsz : 0 < size)
    (v : Value) (n : Nat) (xs : List Value) (hs : a.eval s = v) (hown : w.ownsRow base e size v n xs)
    (ad : Addr) (m c : Nat) (news : List Value) (hx : a.eval x = .slice (some ad) m c) (hl : news.length = m * size) (hnews : ∀ j u, news[j]? = some u → w.cell? (ad.add j) = some u) (h1 : ∀ u ∈ news, u.oneCell' = true)
    (h63 : n + m ≤ maxLen) (hbytes : (n + m) * bytes ≤ 140737488355328) (hbase : base ≤ w.heap.size)
    (h : ∀ v' w', w'.ownsRow base e size v' (n + m) (xs ++ news) → w.grownBy w' v.ownBlock → (v'.ownBlock = v.ownBlock ∨ v'.ownBlock = some w.heap.size) → K (a.put o.dst v') w') :
    Oper.wp P o a w K Q := by
  obtain ⟨v', w', hr, h2, h3, h4, h5⟩ := run_append_own_at (P := P) w base t o.type e i z size bytes ht hi hz hsize hby hzs hsz v n xs hown ad m c news hl hnews h1 h63 hbytes hbase
  unfold Oper.wp
  simp [execOp, ho, resolve, invoke, builtin, hs, hx, hr, Result.andThen, Oper.upon]
  exact h _ _ h2 h3 h5
end
theorem wpOpK {ops : Array Oper} {P : Program} {Q : Exit → Act → World → Prop} {i : Nat} {o : Oper} {K : Act → World → Prop} {a : Act} {w : World} (ho : ops[i]? = some o) (hw : Region.wanted o (yielded ops a.tmps) = true)
    (h : ∀ K' : Act → World → Prop, Shut (∀ a w, K a w → K' a w) → Oper.wp P o a w K' Q) : wpOp P ops Q i K a w := wpOpL ho hw (h K (fun _ _ h => h))
def Told (T D nb bd : Nat) (v u : Value) (ke : El) (d : Int) (w : World) : Prop :=
  w.cell? ⟨T, 0, none⟩ = some v ∧ w.cell? ⟨nb, 0, none⟩ = some (.int .i64 ke.x.f0) ∧ w.cell? ⟨nb, 1, none⟩ = some (.string ke.x.f1) ∧ w.cell? ⟨nb, 2, none⟩ = some (.slice ke.a ke.x.f2.length ke.c) ∧
  w.cell? ⟨D, 0, none⟩ = some u ∧ w.cell? ⟨bd, 0, none⟩ = some (.int .i64 d)
theorem Told.keep {T D nb bd : Nat} {v u : Value} {ke : El} {d : Int} {A B : World} (h : Told T D nb bd v u ke d A) (hT : B.heap[T]? = A.heap[T]?) (hD : B.heap[D]? = A.heap[D]?) (hn : B.heap[nb]? = A.heap[nb]?) (hb : B.heap[bd]? = A.heap[bd]?) : Told T D nb bd v u ke d B := by
  obtain ⟨h1, h2, h3, h4, h5, h6⟩ := h
  have e : ∀ (q c : Nat), B.heap[q]? = A.heap[q]? → B.cell? ⟨q, c, none⟩ = A.cell? ⟨q, c, none⟩ := fun q c hq => by simp only [World.cell?, hq]
  exact ⟨(e _ _ hT).trans h1, (e _ _ hn).trans h2, (e _ _ hn).trans h3, (e _ _ hn).trans h4, (e _ _ hD).trans h5, (e _ _ hb).trans h6⟩
structure Stk (base T D : Nat) (v u : Value) (st : List (Int × El)) (w : World) : Prop where
  tb : w.heap[T]? = some (.cells #[v] 22 (0, 0))
  db : w.heap[D]? = some (.cells #[u] 111 (0, 0))
  tr : w.ownsRow base 24 3 v st.length (cellsE st)
  dr : w.ownsRow base 3 1 u st.length (deepsE st)
def stkOf (es : List El) (d : Int) (st : List (Int × El)) (j : Nat) : List (Int × El) := (es.drop (es.length - j)).map (fun k => (d + 1, k)) ++ st
theorem stkOf_zero (es : List El) (d : Int) (st : List (Int × El)) : stkOf es d st 0 = st := by simp [stkOf]
theorem stkOf_all (es : List El) (d : Int) (st : List (Int × El)) : stkOf es d st es.length = es.map (fun k => (d + 1, k)) ++ st := by simp [stkOf]
theorem stkOf_succ (es : List El) (d : Int) (st : List (Int × El)) (j : Nat) (k : El) (hj : j < es.length) (hk : es[es.length - 1 - j]? = some k) : stkOf es d st (j + 1) = (d + 1, k) :: stkOf es d st j := by
  unfold stkOf
  obtain ⟨h1, h2⟩ := List.getElem?_eq_some_iff.1 hk
  rw [show es.length - (j + 1) = es.length - 1 - j by omega, List.drop_eq_getElem_cons h1, h2, show es.length - 1 - j + 1 = es.length - j by omega]
  rfl
theorem stkOf_len (es : List El) (d : Int) (st : List (Int × El)) (j : Nat) (h : j ≤ es.length) : (stkOf es d st j).length = j + st.length := by
  unfold stkOf
  rw [List.length_append, List.length_map, List.length_drop]
  omega
structure KI (w0 : World) (J : (Nat → Prop) → World → Prop) (U : Nat → Prop) (base T D BB bd z : Nat) (a : Option Addr) (c : Nat) (es : List El) (d : Int) (st : List (Int × El)) (Ds : List Nat) (j : Nat) (A : World) : Prop where
  stk : ∃ v u, Stk base T D v u (stkOf es d st j) A ∧ (∀ r, v.ownBlock = some r → ¬ U r ∧ ¬ LZ z r) ∧ (∀ r, u.ownBlock = some r → ¬ U r ∧ ¬ LZ z r ∧ r ≠ bd)
  jj : J U A
  bb : A.heap[BB]? = some (.cells #[.slice a es.length c] 22 (0, 0))
  bw : Below w0.heap.size w0 A
  ii : A.heap[bd]? = some (.cells #[.int .i64 d] 3 (0, 0))
  mk_ : ∀ q ∈ Ds, A.heap[q]? = some (.deferred (some []))
  sz : z ≤ A.heap.size
structure KN (w0 : World) (U : Nat → Prop) (base T D BB bd z : Nat) (Ds : List Nat) : Prop where
  ww : w0.heap.size ≤ base
  bT : base ≤ T
  TD : T < D
  Dz : D < z
  Bz : BB < z
  dz : bd < z
  Uz : ∀ j, U j → j < z
  mz : ∀ q ∈ Ds, q < z
  sB : D < BB
  sd : D < bd
  db : bd ≠ BB
theorem Stk.move {base T D : Nat} {v u : Value} {st : List (Int × El)} {A B : World} (h : Stk base T D v u st A) (hT : B.heap[T]? = A.heap[T]?) (hD : B.heap[D]? = A.heap[D]?)
    (hv : ∀ r, v.ownBlock = some r → B.heap[r]? = A.heap[r]?) (hu : ∀ r, u.ownBlock = some r → B.heap[r]? = A.heap[r]?) : Stk base T D v u st B :=
  ⟨hT.trans h.tb, hD.trans h.db, own_move h.tr hv, own_move h.dr hu⟩
theorem KI.chg {w0 : World} {J : (Nat → Prop) → World → Prop} {U : Nat → Prop} {base T D BB bd z : Nat} {a : Option Addr} {c : Nat} {es : List El} {d : Int} {st : List (Int × El)} {Ds : List Nat} {j : Nat} {A B : World}
    (h : KI w0 J U base T D BB bd z a c es d st Ds j A) (hn : KN w0 U base T D BB bd z Ds) (hJ : ∀ A B, J U A → Chg (fun j => ¬ U j ∧ ¬ j < w0.heap.size) A B → J U B) (hc : Chg (LZ z) A B) : KI w0 J U base T D BB bd z a c es d st Ds j B := by
  have h1 := hn.ww; have h2 := hn.bT; have h3 := hn.TD; have h4 := hn.Dz; have h5 := hn.Bz; have h6 := hn.dz
  have hne : ∀ q, q < z → ¬ LZ z q := fun q hq h => by rcases h with h | h <;> omega
  have hsz := h.sz
  have hs := hc.size
  obtain ⟨v, u, hS, hv, hu⟩ := h.stk
  refine ⟨⟨v, u, hS.move (hc.block _ (by omega) (hne _ (by omega))) (hc.block _ (by omega) (hne _ (by omega))) (fun r hr => hc.block _ (own_lt hS.tr r hr) (hv r hr).2) (fun r hr => hc.block _ (own_lt hS.dr r hr) (hu r hr).2.1), hv, hu⟩,
    hJ A B h.jj (hc.mono (fun q hq => ⟨fun hU => by have := hn.Uz q hU; rcases hq with hq | hq <;> omega, by rcases hq with hq | hq <;> omega⟩)),
    hc.heap h.bb (hne _ h5), Below.chg h.bw hc (by omega) (fun q hq => by rcases hq with hq | hq <;> omega), hc.heap h.ii (hne _ h6), fun q hq => hc.heap (h.mk_ q hq) (hne _ (hn.mz q hq)), Nat.le_trans hsz hs⟩
theorem KI.push {w0 : World} {J : (Nat → Prop) → World → Prop} {U : Nat → Prop} {base T D BB bd z : Nat} {a : Option Addr} {c : Nat} {es : List El} {d : Int} {st : List (Int × El)} {Ds : List Nat} {j : Nat} {A B : World}
    (h : KI w0 J U base T D BB bd z a c es d st Ds j A) (hn : KN w0 U base T D BB bd z Ds) (hJ : ∀ A B, J U A → Chg (fun j => ¬ U j ∧ ¬ j < w0.heap.size) A B → J U B) (hz : z + 2 ≤ A.heap.size)
    (uT : ¬ U T) (uD : ¬ U D) (hDs : ∀ q ∈ Ds, D < q) (hj : j < es.length) {ke : El} (hk : es[es.length - 1 - j]? = some ke) {v u v2 u2 : Value} (hS : Stk base T D v u (stkOf es d st j) A)
    (hv : ∀ r, v.ownBlock = some r → ¬ U r ∧ ¬ LZ z r) (hu : ∀ r, u.ownBlock = some r → ¬ U r ∧ ¬ LZ z r ∧ r ≠ bd)
    (hc : Chg (fun q => v.ownBlock = some q ∨ u.ownBlock = some q) A B)
    (h1 : B.ownsRow base 24 3 v2 ((stkOf es d st j).length + 1) (cellsE (stkOf es d st j) ++ [.int .i64 ke.x.f0, .string ke.x.f1, .slice ke.a ke.x.f2.length ke.c]))
    (h2 : B.ownsRow base 3 1 u2 ((stkOf es d st j).length + 1) (deepsE (stkOf es d st j) ++ [.int .i64 (d + 1)]))
    (h3 : v2.ownBlock = v.ownBlock ∨ ∃ b, v2.ownBlock = some b ∧ A.heap.size ≤ b) (h4 : u2.ownBlock = u.ownBlock ∨ ∃ b, u2.ownBlock = some b ∧ A.heap.size ≤ b) :
    LK z A ((B.setCell ⟨T, 0, none⟩ v2).setCell ⟨D, 0, none⟩ u2) ∧ KI w0 J U base T D BB bd z a c es d st Ds (j + 1) ((B.setCell ⟨T, 0, none⟩ v2).setCell ⟨D, 0, none⟩ u2) := by
  have g1 := hn.ww; have g2 := hn.bT; have g3 := hn.TD; have g4 := hn.Dz; have g5 := hn.Bz; have g6 := hn.dz
  have hs := hc.size
  obtain ⟨C, hC⟩ : ∃ C, (B.setCell ⟨T, 0, none⟩ v2).setCell ⟨D, 0, none⟩ u2 = C := ⟨_, rfl⟩
  have tyV : ∀ q, v.ownBlock = some q → ∃ cs, A.heap[q]? = some (.cells cs 24 (0, 0)) := fun q hq => own_typed hS.tr q hq
  have tyU : ∀ q, u.ownBlock = some q → ∃ cs, A.heap[q]? = some (.cells cs 3 (0, 0)) := fun q hq => own_typed hS.dr q hq
  have nT : ¬ (v.ownBlock = some T ∨ u.ownBlock = some T) := by
    rintro (e | e)
    · obtain ⟨cs, e2⟩ := tyV _ e; rw [hS.tb] at e2; simp at e2
    · obtain ⟨cs, e2⟩ := tyU _ e; rw [hS.tb] at e2; simp at e2
  have nD : ¬ (v.ownBlock = some D ∨ u.ownBlock = some D) := by
    rintro (e | e)
    · obtain ⟨cs, e2⟩ := tyV _ e; rw [hS.db] at e2; simp at e2
    · obtain ⟨cs, e2⟩ := tyU _ e; rw [hS.db] at e2; simp at e2
  have bT := hc.heap hS.tb nT
  have bD := hc.heap hS.db nD
  have cC : Chg (fun q => (v.ownBlock = some q ∨ u.ownBlock = some q) ∨ q = T ∨ q = D) A C := by
    rw [← hC]
    exact ((hc.mono (fun q hq => .inl hq)).setCell (.inr (.inl rfl)) _).setCell (.inr (.inr rfl)) _
  have fB : ∀ q, q ≠ T → q ≠ D → C.heap[q]? = B.heap[q]? := fun q hq1 hq2 => by
    rw [← hC, Below.heap_setCell _ _ _ _ (by simpa using hq2), Below.heap_setCell _ _ _ _ (by simpa using hq1)]
  have tC : C.heap[T]? = some (.cells #[v2] 22 (0, 0)) := by
    rw [← hC, Below.heap_setCell _ _ _ _ (by simp; omega)]
    have := Size.set_row bT (off := 0) v2
    simpa using this
  have dC : C.heap[D]? = some (.cells #[u2] 111 (0, 0)) := by
    rw [← hC]
    have h0 : (B.setCell ⟨T, 0, none⟩ v2).heap[D]? = some (.cells #[u] 111 (0, 0)) := by
      rw [Below.heap_setCell _ _ _ _ (by simp; omega)]; exact bD
    have := Size.set_row h0 (off := 0) u2
    simpa using this
  have tyV2 : ∀ q, v2.ownBlock = some q → q ≠ T ∧ q ≠ D := fun q hq => by
    obtain ⟨cs, e⟩ := own_typed h1 q hq
    exact ⟨fun e2 => by rw [e2, bT] at e; simp at e, fun e2 => by rw [e2, bD] at e; simp at e⟩
  have tyU2 : ∀ q, u2.ownBlock = some q → q ≠ T ∧ q ≠ D := fun q hq => by
    obtain ⟨cs, e⟩ := own_typed h2 q hq
    exact ⟨fun e2 => by rw [e2, bT] at e; simp at e, fun e2 => by rw [e2, bD] at e; simp at e⟩
  have r1 := own_move h1 (w1 := C) (fun q hq => fB q (tyV2 q hq).1 (tyV2 q hq).2)
  have r2 := own_move h2 (w1 := C) (fun q hq => fB q (tyU2 q hq).1 (tyU2 q hq).2)
  have sUD : ∀ q, (v.ownBlock = some q ∨ u.ownBlock = some q) ∨ q = T ∨ q = D → ¬ U q ∧ ¬ LZ z q ∧ base ≤ q := fun q hq => by
    rcases hq with (e | e) | e | e
    · exact ⟨(hv q e).1, (hv q e).2, own_base hS.tr q e⟩
    · exact ⟨(hu q e).1, (hu q e).2.1, own_base hS.dr q e⟩
    · subst e; exact ⟨uT, fun e => by (rcases e with e | e <;> omega), by omega⟩
    · subst e; exact ⟨uD, fun e => by (rcases e with e | e <;> omega), by omega⟩
  have hbig : ∀ b, A.heap.size ≤ b → ¬ U b ∧ ¬ LZ z b ∧ b ≠ bd := fun b hb => ⟨fun e => by have := hn.Uz b e; omega, fun e => by (rcases e with e | e <;> omega), by omega⟩
  rw [hC]
  refine ⟨LK.of_chg cC hz (fun q hq => (sUD q hq).2.1), ⟨v2, u2, ⟨tC, dC, ?_, ?_⟩, fun r hr => ?_, fun r hr => ?_⟩, hJ A C h.jj (cC.mono (fun q hq => ⟨(sUD q hq).1, by have := (sUD q hq).2.2; omega⟩)), ?_, Below.chg h.bw cC (by omega) (fun q hq => by have := (sUD q hq).2.2; omega), ?_, fun q hq => ?_, by have := cC.size; omega⟩
  · rw [stkOf_succ es d st j ke hj hk, cellsE_cons, List.length_cons]; exact r1
  · rw [stkOf_succ es d st j ke hj hk, deepsE_cons, List.length_cons]; exact r2
  · rcases h3 with e | ⟨b, e, hb⟩
    · exact hv r (e ▸ hr)
    · rw [e] at hr; cases hr; exact ⟨(hbig _ hb).1, (hbig _ hb).2.1⟩
  · rcases h4 with e | ⟨b, e, hb⟩
    · exact hu r (e ▸ hr)
    · rw [e] at hr; cases hr; exact hbig _ hb
  · refine cC.heap h.bb (fun e => ?_)
    rcases e with (e | e) | e | e
    · obtain ⟨cs, e2⟩ := tyV _ e; rw [h.bb] at e2; simp at e2
    · obtain ⟨cs, e2⟩ := tyU _ e; rw [h.bb] at e2; simp at e2
    · have := hn.sB; omega
    · have := hn.sB; omega
  · refine cC.heap h.ii (fun e => ?_)
    rcases e with (e | e) | e | e
    · obtain ⟨cs, e2⟩ := tyV _ e; rw [h.ii] at e2; simp at e2
    · exact (hu _ e).2.2 rfl
    · have := hn.sd; omega
    · have := hn.sd; omega
  · refine cC.heap (h.mk_ q hq) (fun e => ?_)
    rcases e with (e | e) | e | e
    · obtain ⟨cs, e2⟩ := tyV _ e; rw [h.mk_ q hq] at e2; simp at e2
    · obtain ⟨cs, e2⟩ := tyU _ e; rw [h.mk_ q hq] at e2; simp at e2
    · have := hDs q hq; omega
    · have := hDs q hq; omega
theorem KI.fresh {base T D nb bd : Nat} {v u : Value} {st : List (Int × El)} {ke : El} {d : Int} {A : World} (hS : Stk base T D v u st A) (hbd : ∀ r, u.ownBlock = some r → r ≠ bd) (hnb : v.ownBlock ≠ some nb)
    (hrow : A.heap[nb]? = some (.cells #[.int .i64 ke.x.f0, .string ke.x.f1, .slice ke.a ke.x.f2.length ke.c] 24 (0, 0))) (hii : A.heap[bd]? = some (.cells #[.int .i64 d] 3 (0, 0))) (hT : Told T D nb bd v u ke d A) :
    (∀ X, Chg (fun q => v.ownBlock = some q ∨ u.ownBlock = some q) A X → X.heap[T]? = some (.cells #[v] 22 (0, 0)) ∧ X.heap[D]? = some (.cells #[u] 111 (0, 0))) ∧
    (∀ X, Chg (fun q => v.ownBlock = some q ∨ u.ownBlock = some q) A X → ∀ L : Array Bool, L.getD 9 true = false → Told T D nb bd v u ke d X) ∧
    (∀ r, u.ownBlock = some r → some r ≠ v.ownBlock) ∧ (∀ r, A.heap.size ≤ r → some r ≠ v.ownBlock) := by
  have tyV : ∀ q, v.ownBlock = some q → ∃ cs, A.heap[q]? = some (.cells cs 24 (0, 0)) := fun q hq => own_typed hS.tr q hq
  have tyU : ∀ q, u.ownBlock = some q → ∃ cs, A.heap[q]? = some (.cells cs 3 (0, 0)) := fun q hq => own_typed hS.dr q hq
  have nT : ¬ (v.ownBlock = some T ∨ u.ownBlock = some T) := by
    rintro (e | e)
    · obtain ⟨cs, e2⟩ := tyV _ e; rw [hS.tb] at e2; simp at e2
    · obtain ⟨cs, e2⟩ := tyU _ e; rw [hS.tb] at e2; simp at e2
  have nD : ¬ (v.ownBlock = some D ∨ u.ownBlock = some D) := by
    rintro (e | e)
    · obtain ⟨cs, e2⟩ := tyV _ e; rw [hS.db] at e2; simp at e2
    · obtain ⟨cs, e2⟩ := tyU _ e; rw [hS.db] at e2; simp at e2
  have nN : ¬ (v.ownBlock = some nb ∨ u.ownBlock = some nb) := by
    rintro (e | e)
    · exact hnb e
    · obtain ⟨cs, e2⟩ := tyU _ e; rw [hrow] at e2; simp at e2
  have nB : ¬ (v.ownBlock = some bd ∨ u.ownBlock = some bd) := by
    rintro (e | e)
    · obtain ⟨cs, e2⟩ := tyV _ e; rw [hii] at e2; simp at e2
    · exact hbd _ e rfl
  refine ⟨fun X hc => ⟨hc.heap hS.tb nT, hc.heap hS.db nD⟩, fun X hc L _ => ?_, fun r hr e => ?_, fun r hr e => ?_⟩
  · exact hT.keep (hc.block _ (Array.getElem?_eq_some_iff.1 hS.tb).1 nT) (hc.block _ (Array.getElem?_eq_some_iff.1 hS.db).1 nD) (hc.block _ (Array.getElem?_eq_some_iff.1 hrow).1 nN) (hc.block _ (Array.getElem?_eq_some_iff.1 hii).1 nB)
  · obtain ⟨c1, e1⟩ := tyV r e.symm
    obtain ⟨c2, e2⟩ := tyU r hr
    rw [e1] at e2
    simp at e2
  · have := own_lt hS.tr r e.symm
    omega
end Tlv
end Go.Proofs.YthnddhgkjkpmfaaDoor
/- tlv's trees: the iterator over all trees in one. -/
namespace Go.Proofs.YthnddhgkjkpmfaaDoor
set_option linter.unusedSimpArgs false
set_option linter.unusedVariables false
namespace Tlv
open Go.RowKit Go.Shelf Go.Proofs.YthnddhgkjkpmfaaDoorW.PrintWords Go.Proofs.YthnddhgkjkpmfaaDoor.KTlv
attribute [local go_sem] Oper.semAt_some
theorem trees_any (t : Int) (s : ByteArray) (a : Option Addr) (n c : Nat) (w : World) : Calls Tryd.prog 47 #[.agg #[.int .i64 t, .string s, .slice a n c]] w
    fun e w' => e = .returned (.func (.func 61) #[] #[.pointer (some ⟨w.heap.size, 0, none⟩)]) ∧ w' = w.alloc (.cells #[.int .i64 t, .string s, .slice a n c] 24) := by
  go_enter Tryd.func47, Tryd.ntmps47
  go_wp2
  go_ret
  exact ⟨rfl, rfl⟩
def marks (Ds : List Nat) : List Deferred := Ds.map fun D => { target := .collected D, args := #[] }
theorem leaves_marks {F : Fence} {m : Nat} {P : Program} {fn : Func} {tmps : Array Value} {R : Ending → World → Prop} : ∀ (Ds : List Nat) (w : World), Ds.Nodup → (∀ D ∈ Ds, w.heap[D]? = some (.deferred (some []))) →
    (∀ w', Chg (fun j => j ∈ Ds) w w' → ∃ v, (results fn tmps).run P w' = .ok v w' ∧ R (.returned v) w') → LeavesInM F m P fn tmps R (marks Ds) .returning w
  | [], w, _, _, h => by
    obtain ⟨v, h1, h2⟩ := h w (Chg.refl _ _)
    exact ⟨_, h1, h2⟩
  | D :: Ds, w, hn, hd, h => by
    obtain ⟨hn1, hn2⟩ := List.nodup_cons.1 hn
    have h0 := hd D (List.mem_cons_self ..)
    refine ⟨by simp, .inl ⟨D, _, rfl, run_takeDeferred h0, leaves_marks Ds _ hn2 (fun D' hD' => ?_) (fun w' hc => h w' ?_)⟩⟩
    · rw [World.putObj_heap_other (by rintro rfl; exact hn1 hD')]
      exact hd D' (List.mem_cons_of_mem _ hD')
    · exact ((Chg.refl (fun j => j ∈ D :: Ds) w).putObj (List.mem_cons_self ..) _).trans (hc.mono (fun j hj => List.mem_cons_of_mem _ hj))
set_option maxRecDepth 100000 in
set_option maxHeartbeats 4000000 in
theorem trees_it (m : Nat) (hm : 1 ≤ m) (w0 : World) (e : El) (B : Nat) (hC : Kd.C k24 w0 e.a e.x.f2.length e.x.f2) (hc : e.x.f2.length ≤ e.c) (hk : ∀ p ∈ preE w0 1 e, p.2.x.f2.length ≤ 1000) :
    IterK 200 Fence.wide m Tryd.prog 61 #[.pointer (some ⟨B, 0, none⟩)] (fun x : Int × El => #[.int .i64 x.1, x.2.v]) (preE w0 1 e) (fun j => j < w0.heap.size)
      (fun U W => W.heap[B]? = some (.cells #[.int .i64 e.x.f0, .string e.x.f1, .slice e.a e.x.f2.length e.c] 24 (0, 0)) ∧ ¬ U B ∧ Below w0.heap.size w0 W ∧ w0.heap.size ≤ W.heap.size) (fun _ => True) := by
  obtain ⟨L, hL⟩ : ∃ L, preE w0 1 e = L := ⟨_, rfl⟩
  have HL := Lib.hid hL
  rw [hL] at hk ⊢
  clear hL
  intro l J Jx U0 W ⟨wB, uB, hb0, hs0⟩ hU hR hK hJ hJx hY h0
  have HK := Lib.hid hK
  have HJ := Lib.hid hJ
  have HY := Lib.hid hY
  have HJx := Lib.hid hJx
  have HU := Lib.hid hU
  have HSP := Lib.hid (show ∀ p ∈ L, p.2.x.f2.length ≤ p.2.c ∧ Kd.C k24 w0 p.2.a p.2.x.f2.length p.2.x.f2 from fun p hp => (preE_spec w0 _ e 1 (Nat.lt_succ_self _) hC hc).2 p (by rw [HL.out]; exact hp))
  have HC := Lib.hid hC
  have HKK := Lib.hid hk
  have c0 := cell_of_row W B 0 _ _ _ wB
  have c1 := cell_of_row W B 1 _ _ _ wB
  have c2 := cell_of_row W B 2 _ _ _ wB
  simp at c0 c1 c2
  clear hK hJ hY hJx hU hC hk
  refine callsIn_of_wp_marks Tryd.func61 rfl trivial ?_ rfl
  simp only [Tryd.ntmps61, List.size_toArray, List.length_cons, List.length_nil, Nat.reduceAdd, Nat.reduceSub, Array.replicate_succ, Array.replicate_zero, List.push_toArray, List.append_toArray, List.nil_append, List.cons_append]
  refine wpIn_wide.2 (wp_scope_straight ((wpIn_wide (n := m)).1 ?_))
  gi_wp2_with fail
  refine wpIn_label ?_
  gi_wp2_with fail
  refine wpIn_wide.2 ?_
  obtain ⟨T, hT⟩ : ∃ T, W.heap.size + 1 + 1 = T := ⟨_, rfl⟩
  obtain ⟨D, hD⟩ : ∃ D, T + 1 = D := ⟨_, rfl⟩
  rw [hT, hD]
  have HT := Lib.hid hT
  have HD := Lib.hid hD
  clear hT hD
  refine wp_loop_ghost_k (fun g a' wr => ∃ (u5 u6 u7 u9 u13 u14 u15 u16 u17 u18 u19 u20 u21 u22 u23 u24 u25 u26 u27 u28 u29 u30 u31 u32 u33 u34 u35 u36 u37 u38 u39 u40 u43 u44 u45 u46 u47 u48 u49 u50 u51 : Value) (Ds : List Nat), (∃ (k : Nat) (U : Nat → Prop) (v u : Value) (st : List (Int × El)), g = L.length - k ∧ k ≤ L.length ∧ J k U wr ∧ (∀ j, U j → j < wr.heap.size ∧ ¬ j < w0.heap.size) ∧ ¬ U T ∧ ¬ U D ∧
      (∀ r, v.ownBlock = some r → ¬ U r) ∧ (∀ r, u.ownBlock = some r → ¬ U r) ∧ Stk W.heap.size T D v u st wr ∧ Below w0.heap.size w0 wr ∧ D + 1 ≤ wr.heap.size ∧
      RowKit.Hid (L.drop k = restE w0 st) ∧ RowKit.Hid (st.length ≤ 1 + 1000 * k) ∧ RowKit.Hid (∀ p ∈ st, p.1 ≤ 1 + k ∧ 1 ≤ p.1) ∧ RowKit.Hid (Ds.Nodup) ∧ RowKit.Hid (∀ q ∈ Ds, wr.heap[q]? = some (.deferred (some [])) ∧ ¬ U q ∧ D < q)) ∧
      a' = { tmps := #[Value.func (.yield l) #[] #[], .pointer (some ⟨B, 0, none⟩), undef, .pointer (some ⟨T, 0, none⟩), .pointer (some ⟨D, 0, none⟩), u5, u6, u7, undef, u9, .agg #[.int .i64 e.x.f0, .string e.x.f1, .slice e.a e.x.f2.length e.c], .slice (some ⟨W.heap.size, 0, none⟩) 1 1, .slice (some ⟨W.heap.size + 1, 0, none⟩) 1 1, u13, u14, u15, u16, u17, u18, u19, u20, u21, u22, u23, u24, u25, u26, u27, u28, u29, u30, u31, u32, u33, u34, u35, u36, u37, u38, u39, u40, undef, undef, u43, u44, u45, u46, u47, u48, u49, u50, u51], defers := marks Ds }) L.length ⟨_, _, _, _, _, _, _, _, _, _, _, _, _, _, _, _, _, _, _, _, _, _, _, _, _, _, _, _, _, _, _, _, _, _, _, _, _, _, _, _, _, [], ?atStart, rfl⟩ ?round
  case atStart =>
    have eT := HT.out
    have eD := HD.out
    have hU := HU.out
    have c4 : ∀ S, Chg S W ((((W.alloc (.cells #[.int .i64 e.x.f0, .string e.x.f1, .slice e.a e.x.f2.length e.c] 24)).alloc (.cells #[.int .i64 1] 3)).alloc (.cells #[.slice (some ⟨W.heap.size, 0, none⟩) 1 1] 22)).alloc (.cells #[.slice (some ⟨W.heap.size + 1, 0, none⟩) 1 1] 111)) := fun S => ((((Chg.refl S W).alloc _).alloc _).alloc _).alloc _
    refine ⟨0, U0, .slice (some ⟨W.heap.size, 0, none⟩) 1 1, .slice (some ⟨W.heap.size + 1, 0, none⟩) 1 1, [(1, e)], by simp, Nat.zero_le _, HJ.out _ _ _ _ h0 (c4 _), fun j hj => ⟨by have := (hU j hj).1; simp; omega, (hU j hj).2⟩,
      fun h => by have := (hU _ h).1; omega, fun h => by have := (hU _ h).1; omega, ?_, ?_, ⟨?_, ?_, ?_, ?_⟩, ?_, by simp; omega, ?_, ?_, ?_, ?_, ?_⟩
    · rintro r hr h
      simp [Value.ownBlock] at hr
      have := (hU _ h).1; omega
    · rintro r hr h
      simp [Value.ownBlock] at hr
      have := (hU _ h).1; omega
    · have := World.alloc_heap_new ((W.alloc (.cells #[.int .i64 e.x.f0, .string e.x.f1, .slice e.a e.x.f2.length e.c] 24)).alloc (.cells #[.int .i64 1] 3)) (.cells #[.slice (some ⟨W.heap.size, 0, none⟩) 1 1] 22)
      simp only [World.size_alloc] at this
      rw [eT] at this
      exact ((Chg.refl (fun _ => False) _).alloc _).heap this (by simp)
    · have := World.alloc_heap_new (((W.alloc (.cells #[.int .i64 e.x.f0, .string e.x.f1, .slice e.a e.x.f2.length e.c] 24)).alloc (.cells #[.int .i64 1] 3)).alloc (.cells #[.slice (some ⟨W.heap.size, 0, none⟩) 1 1] 22)) (.cells #[.slice (some ⟨W.heap.size + 1, 0, none⟩) 1 1] 111)
      simp only [World.size_alloc] at this
      rw [eT, eD] at this
      exact this
    · exact (((World.ownsRow_lit (base := W.heap.size) (e := 24) (size := 3) W #[.int .i64 e.x.f0, .string e.x.f1, .slice e.a e.x.f2.length e.c] 1 (Nat.le_refl _) (by unfold maxLen; omega) rfl).alloc _).alloc _).alloc _
    · have := World.ownsRow_lit (base := W.heap.size) (e := 3) (size := 1) (W.alloc (.cells #[.int .i64 e.x.f0, .string e.x.f1, .slice e.a e.x.f2.length e.c] 24)) #[.int .i64 1] 1 (by simp) (by unfold maxLen; omega) rfl
      rw [World.size_alloc] at this
      exact (this.alloc _).alloc _
    · exact Below.chg hb0 (c4 (fun _ => False)) hs0 (fun _ h => h.elim)
    · show L.drop 0 = restE w0 [(1, e)]
      rw [List.drop_zero, ← HL.out]
      simp [restE]
    · show 1 ≤ 1 + 1000 * 0
      omega
    · intro p hp
      rw [List.mem_singleton.1 hp]
      exact ⟨by simp, by simp⟩
    · exact List.nodup_nil
    · intro q hq
      cases hq
  case round =>
    intro gk a1 wr hinv JJ KK hJJ hKK
    obtain ⟨u5, u6, u7, u9, u13, u14, u15, u16, u17, u18, u19, u20, u21, u22, u23, u24, u25, u26, u27, u28, u29, u30, u31, u32, u33, u34, u35, u36, u37, u38, u39, u40, u43, u44, u45, u46, u47, u48, u49, u50, u51, Ds, hrel, ha⟩ := hinv
    subst ha
    try dsimp only
    obtain ⟨k, U, v, u, st, hg, hkl, hJk, hUk, uT, uD, uv, uu, ⟨rT, rD, oT, oD⟩, hbw, hsz, hre, hln, hdp, hnd, hds⟩ := hrel
    have cT := cell_of_row wr T 0 _ _ _ rT
    have cD := cell_of_row wr D 0 _ _ _ rD
    simp at cT cD
    refine (wpIn_wide (n := m)).1 ?_
    cases st with
    | nil =>
      obtain ⟨A, c, rfl⟩ : ∃ A c, v = .slice A 0 c := by
        rcases oT.2 with ⟨rfl, _⟩ | ⟨g, cap, cur, rfl, _⟩
        · exact ⟨_, _, rfl⟩
        · exact ⟨_, _, rfl⟩
      have hfin : k = L.length := by
        have h : L.drop k = [] := hre
        have := congrArg List.length h
        simp at this
        omega
      have HJ2 := Lib.hid hJk
      have HU2 := Lib.hid hUk
      have HS := Lib.hid hsz
      have HF := Lib.hid hfin
      have eT := HT.out
      have eD := HD.out
      clear hJk hUk hbw oT oD rT rD hre hfin hg hkl hsz eT eD
      gi_wp2_with fail
      try rw [Exit.noGoto_normal]
      have eT := HT.out
      have eD := HD.out
      have eS := HS.out
      refine leaves_marks Ds _ hnd.out (fun q hq => (hds.out q hq).1) (fun w' hc => ⟨_, results_none rfl _ _ _, ?_⟩)
      have hcs := hc.size
      have hJ9 : J k U w' := HJ.out _ _ _ _ HJ2.out (hc.mono (fun j hj => ⟨(hds.out j hj).2.1, by have := (hds.out j hj).2.2; omega⟩))
      rw [HF.out] at hJ9
      exact ⟨⟨_, rfl⟩, by omega, .inl ⟨U, fun j hj => ⟨by have := (HU2.out j hj).1; omega, by have := (HU2.out j hj).2; omega⟩, hJ9⟩⟩
    | cons p st =>
      obtain ⟨d, x⟩ := p
      obtain ⟨n, hn⟩ : ∃ n, st.length = n := ⟨_, rfl⟩
      rw [List.length_cons, hn] at oT oD
      obtain ⟨g, cap, rfl⟩ := ownsRow_succ oT
      obtain ⟨g', cap', rfl⟩ := ownsRow_succ oD
      have hcl : (cellsE st).length = n * 3 := by rw [cellsE_len, hn]
      have hdl : (deepsE st).length = n := by rw [deepsE_len, hn]
      have e0 := oT.cellAt (n * 3) (by omega)
      have e1 := oT.cellAt (n * 3 + 1) (by omega)
      have e2 := oT.cellAt (n * 3 + 2) (by omega)
      have e3 := oD.cellAt n (by omega)
      rw [cellsE_cons, List.getElem?_append_right (by omega), hcl] at e0 e1 e2
      rw [deepsE_cons, List.getElem?_append_right (by omega), hdl] at e3
      simp at e0 e1 e2 e3
      have hcapT : n + 1 ≤ cap := by
        rcases oT.2 with ⟨h, _⟩ | ⟨_, _, _, h, _, _, h2, _⟩
        · cases h
        · cases h; exact h2
      have hcapD : n + 1 ≤ cap' := by
        rcases oD.2 with ⟨h, _⟩ | ⟨_, _, _, h, _, _, h2, _⟩
        · cases h
        · cases h; exact h2
      have hgT : g ≠ T := by
        rintro rfl
        obtain ⟨c, hc⟩ := own_typed oT g rfl
        rw [rT] at hc
        simp at hc
      have hgD : g ≠ D := by
        rintro rfl
        obtain ⟨c, hc⟩ := own_typed oT g rfl
        rw [rD] at hc
        simp at hc
      have hg'T : g' ≠ T := by
        rintro rfl
        obtain ⟨c, hc⟩ := own_typed oD g' rfl
        rw [rT] at hc
        simp at hc
      have hg'D : g' ≠ D := by
        rintro rfl
        obtain ⟨c, hc⟩ := own_typed oD g' rfl
        rw [rD] at hc
        simp at hc
      have PT := Lib.hid (ownsRow_pop (by rw [cellsE_len, hn]) (by rw [cellsE_cons] at oT; exact oT))
      have PD := Lib.hid (ownsRow_pop (by rw [deepsE_len, hn, Nat.mul_one]) (by rw [deepsE_cons] at oD; exact oD))
      have HGT := Lib.hid (And.intro (And.intro hgT hgD) (And.intro hg'T hg'D))
      clear hgT hgD hg'T hg'D
      have hmx : n + 1 ≤ 9223372036854775807 := by
        rcases oT.2 with ⟨h, _⟩ | ⟨_, _, _, h, _, _, _, h2, _⟩
        · cases h
        · cases h; unfold maxLen at h2; omega
      have hb1 := Lib.hid oT
      have hb2 := Lib.hid oD
      have HJ2 := Lib.hid hJk
      have HU2 := Lib.hid hUk
      have HS := Lib.hid hsz
      have HRT := Lib.hid rT
      have HRD := Lib.hid rD
      have HBW := Lib.hid hbw
      have HG := Lib.hid hg
      have HKL := Lib.hid hkl
      have hq0 : (n : Int) < (n : Int) + 1 := by omega
      have hp0 : 0 ≤ (n : Int) := by omega
      have hq1 : (n : Int) ≤ (cap : Int) := by omega
      have hq2 : (n : Int) ≤ (cap' : Int) := by omega
      have hgt : ((n + 1 : Nat) : Int) > 0 := by omega
      have hw1 : wrap64 (n : Int) = (n : Int) := by unfold wrap64; omega
      clear oT oD hJk hUk hsz rT rD hbw hg hkl hcl hdl hmx hcapT hcapD
      replace hp0 := eq_true hp0
      replace hq0 := eq_true hq0
      replace hq1 := eq_true hq1
      replace hq2 := eq_true hq2
      replace hgt := eq_true hgt
      have l1 := lt_of_cell cT
      have l2 := lt_of_cell cD
      have l3 := lt_of_cell e0
      have l4 := lt_of_cell e3
      simp only at l1 l2 l3 l4
      have mixed : Tryd.prog.follows Departure.mixedOrders = true := by kernel_rfl
      gi_wp2_with fail
      refine wpIn_wide.2 ?_
      obtain ⟨K0, hK0⟩ : ∃ K0 : Act → World → Prop, K0 = (fun a' wc => ∃ (bx bd : Nat) (u13 u14 u15 u16 u17 u18 u19 u20 u21 u22 u23 u24 u25 u26 u27 u28 u29 u30 u31 u32 u33 u34 u35 u36 u37 u38 u39 u40 u43 u44 u45 u46 u47 u48 u49 u50 u51 : Value), a' = { tmps := #[Value.func (.yield l) #[] #[], .pointer (some ⟨B, 0, none⟩), undef, .pointer (some ⟨T, 0, none⟩), .pointer (some ⟨D, 0, none⟩), .int .i64 n, .pointer (some ⟨bx, 0, none⟩), .pointer (some ⟨bd, 0, none⟩), undef, u9, .agg #[.int .i64 e.x.f0, .string e.x.f1, .slice e.a e.x.f2.length e.c], .slice (some ⟨W.heap.size, 0, none⟩) 1 1, .slice (some ⟨W.heap.size + 1, 0, none⟩) 1 1, u13, u14, u15, u16, u17, u18, u19, u20, u21, u22, u23, u24, u25, u26, u27, u28, u29, u30, u31, u32, u33, u34, u35, u36, u37, u38, u39, u40, undef, undef, u43, u44, u45, u46, u47, u48, u49, u50, u51], defers := marks Ds } ∧ RowKit.Hid (wr.heap.size ≤ bx) ∧ RowKit.Hid (wr.heap.size ≤ bd) ∧
        RowKit.Hid (wc.heap[bx]? = some (.cells #[.int .i64 x.x.f0, .string x.x.f1, .slice x.a x.x.f2.length x.c] 24 (0, 0))) ∧ RowKit.Hid (wc.heap[bd]? = some (.cells #[.int .i64 d] 3 (0, 0))) ∧ RowKit.Hid (Below wr.heap.size wr wc)) := ⟨_, rfl⟩
      have HK0 := Lib.hid hK0
      clear hK0
      refine wp_mono (Q := Exit.then K0 (fun _ _ _ => False)) ?first ?rest
      case first =>
        go_region
        all_goals show K0 _ _
        all_goals rw [HK0.out]
        all_goals first
          | (exact ⟨_, _, _, _, _, _, _, _, _, _, _, _, _, _, _, _, _, _, _, _, _, _, _, _, _, _, _, _, _, _, _, _, _, _, _, _, _, _, _, rfl, Nat.le_refl _, Nat.le_succ _, (Below.heap_alloc _ _ _ (by simp)).trans (World.alloc_heap_new wr _), by
            have := World.alloc_heap_new (wr.alloc (.cells #[.int .i64 x.x.f0, .string x.x.f1, .slice x.a x.x.f2.length x.c] 24)) (.cells #[.int .i64 d] 3)
            rw [World.size_alloc] at this
            exact this, Below.drew (bl_alloc (bl_alloc (Below.refl _ _) _) _)⟩)
          | (exact ⟨_, _, _, _, _, _, _, _, _, _, _, _, _, _, _, _, _, _, _, _, _, _, _, _, _, _, _, _, _, _, _, _, _, _, _, _, _, _, _, rfl, Nat.le_succ _, Nat.le_refl _, by
            have := World.alloc_heap_new (wr.alloc (.cells #[.int .i64 d] 3)) (.cells #[.int .i64 x.x.f0, .string x.x.f1, .slice x.a x.x.f2.length x.c] 24)
            rw [World.size_alloc] at this
            exact this, (Below.heap_alloc _ _ _ (by simp)).trans (World.alloc_heap_new wr _), Below.drew (bl_alloc (bl_alloc (Below.refl _ _) _) _)⟩)
      case rest =>
        rintro e' a' wc hcut
        have hne : e' = .normal := by cases e' <;> first | rfl | exact hcut.elim
        subst hne
        replace hcut : K0 a' wc := hcut
        rw [HK0.out] at hcut
        obtain ⟨bx, bd, u13, u14, u15, u16, u17, u18, u19, u20, u21, u22, u23, u24, u25, u26, u27, u28, u29, u30, u31, u32, u33, u34, u35, u36, u37, u38, u39, u40, u43, u44, u45, u46, u47, u48, u49, u50, u51, rfl, hbx, hbd, rX, rI, hB⟩ := hcut
        have tT := (hB.out.block _ l1).trans HRT.out
        have tD := (hB.out.block _ l2).trans HRD.out
        have kT := cell_of_row wc T 0 _ _ _ tT
        have kD := cell_of_row wc D 0 _ _ _ tD
        have fT : wc.frozen? ⟨T, 0, none⟩ = false := Lib.frozen_of_heap tT 0
        have fD : wc.frozen? ⟨D, 0, none⟩ = false := Lib.frozen_of_heap tD 0
        have hTD : T ≠ D := by have := HD.out; omega
        simp at kT kD
        have HTT := Lib.hid tT
        have HTD := Lib.hid tD
        clear tT tD cT cD e0 e1 e2 e3
        gi_wp2_with fail
        refine wpIn_wide.2 ?_
        go_region
        obtain ⟨W5, hW5⟩ : ∃ W5, ((wc.setCell ⟨T, 0, none⟩ (.slice (some ⟨g, 0, none⟩) n cap)).setCell ⟨D, 0, none⟩ (.slice (some ⟨g', 0, none⟩) n cap')).drew = W5 := ⟨_, rfl⟩
        have c5 : Chg (fun j => j = T ∨ j = D) wr W5 := by
          rw [← hW5]
          exact (((Chg.of_below hB.out).setCell (.inl rfl) _).setCell (.inr rfl) _).drew
        have eT := HT.out
        have eD := HD.out
        have hU := HU2.out
        have b5T : W5.heap[T]? = some (.cells #[.slice (some ⟨g, 0, none⟩) n cap] 22 (0, 0)) := by
          rw [← hW5]
          show ((wc.setCell _ _).setCell _ _).heap[T]? = _
          rw [Below.heap_setCell _ _ _ _ (by simpa using hTD)]
          have := Size.set_row HTT.out (off := 0) (.slice (some ⟨g, 0, none⟩) n cap)
          simpa using this
        have b5D : W5.heap[D]? = some (.cells #[.slice (some ⟨g', 0, none⟩) n cap'] 111 (0, 0)) := by
          rw [← hW5]
          show ((wc.setCell _ _).setCell _ _).heap[D]? = _
          have h0 : (wc.setCell ⟨T, 0, none⟩ (.slice (some ⟨g, 0, none⟩) n cap)).heap[D]? = some (.cells #[.slice (some ⟨g', 0, none⟩) (n + 1) cap'] 111 (0, 0)) := by
            rw [Below.heap_setCell _ _ _ _ (by simpa using (Ne.symm hTD))]
            exact HTD.out
          have := Size.set_row h0 (off := 0) (.slice (some ⟨g', 0, none⟩) n cap')
          simpa using this
        have x5 : W5.heap[bx]? = some (.cells #[.int .i64 x.x.f0, .string x.x.f1, .slice x.a x.x.f2.length x.c] 24 (0, 0)) := by
          have h1 := hbx.out
          rw [← hW5]
          show ((wc.setCell _ _).setCell _ _).heap[bx]? = _
          rw [Below.heap_setCell _ _ _ _ (by simp; omega), Below.heap_setCell _ _ _ _ (by simp; omega)]
          exact rX.out
        have i5 : W5.heap[bd]? = some (.cells #[.int .i64 d] 3 (0, 0)) := by
          have h1 := hbd.out
          rw [← hW5]
          show ((wc.setCell _ _).setCell _ _).heap[bd]? = _
          rw [Below.heap_setCell _ _ _ _ (by simp; omega), Below.heap_setCell _ _ _ _ (by simp; omega)]
          exact rI.out
        have hU5 : ∀ j, U j → j < W5.heap.size ∧ ¬ j < w0.heap.size := fun j hj => ⟨Nat.lt_of_lt_of_le (HU2.out j hj).1 c5.size, (HU2.out j hj).2⟩
        have hJ5 : J k U W5 := HJ.out _ _ _ _ HJ2.out (c5.mono (fun j hj => by
          rcases hj with rfl | rfl
          · exact ⟨uT, by omega⟩
          · exact ⟨uD, by omega⟩))
        have hx : L[k]? = some (d, x) := by
          have h : (L.drop k)[0]? = some (d, x) := by rw [hre.out, restE_cons]; rfl
          rw [List.getElem?_drop] at h
          simpa using h
        obtain ⟨fn, tmps, assign, body, hy, hYR⟩ := HY.out k (d, x) U W5 hx hU5 hJ5
        simp only [El.v] at hy
        have HC5 := Lib.hid c5
        have HX5 := Lib.hid x5
        have HI5 := Lib.hid i5
        have HT5 := Lib.hid b5T
        have HD5 := Lib.hid b5D
        have HU5 := Lib.hid hU5
        have HX := Lib.hid hx
        have k0 := cell_of_row W5 bx 0 _ _ _ x5
        have k1 := cell_of_row W5 bx 1 _ _ _ x5
        have k2 := cell_of_row W5 bx 2 _ _ _ x5
        have k3 := cell_of_row W5 bd 0 _ _ _ i5
        simp at k0 k1 k2 k3
        rw [hW5]
        clear hW5 c5 eT eD hU b5T b5D x5 i5 hU5 hJ5 hx kT kD fT fD hTD
        gi_wp2_with fail
        refine hYR.mono ?_
        rintro r W6 (⟨rfl, U', hst, hJ6⟩ | ⟨rfl, U', hst, hJ6⟩)
        · have hU' : ∀ j, U' j → j < W6.heap.size ∧ ¬ j < w0.heap.size := fun j hj => ⟨hst.lt j hj, fun h => by
            rcases hst.old j hj with h2 | h2
            · exact (HU5.out j h2).2 h
            · have := HC5.out.size; have := HS.out; have := HT.out; have := HD.out; omega⟩
          have n6 : ∀ j, j < W5.heap.size → ¬ U j → ¬ U' j := fun j hj hn h => by
            rcases hst.old j h with h2 | h2
            · exact hn h2
            · omega
          have q5 := HC5.out.size
          have uX : ¬ U bx := fun h => by have := (HU2.out _ h).1; have := hbx.out; omega
          have uI : ¬ U bd := fun h => by have := (HU2.out _ h).1; have := hbd.out; omega
          have ug : ¬ U g := uv g rfl
          have ug' : ¬ U g' := uu g' rfl
          have lX := (Array.getElem?_eq_some_iff.1 HX5.out).1
          have lI := (Array.getElem?_eq_some_iff.1 HI5.out).1
          have lT := (Array.getElem?_eq_some_iff.1 HT5.out).1
          have lD := (Array.getElem?_eq_some_iff.1 HD5.out).1
          have HX6 := Lib.hid (hst.chg.heap HX5.out uX)
          have HI6 := Lib.hid (hst.chg.heap HI5.out uI)
          have HT6 := Lib.hid (hst.chg.heap HT5.out uT)
          have HD6 := Lib.hid (hst.chg.heap HD5.out uD)
          have g5 : W5.heap[g]? = wr.heap[g]? := HC5.out.block g l3 (by rintro (h | h); exact HGT.out.1.1 h; exact HGT.out.1.2 h)
          have g5' : W5.heap[g']? = wr.heap[g']? := HC5.out.block g' l4 (by rintro (h | h); exact HGT.out.2.1 h; exact HGT.out.2.2 h)
          have HPT := Lib.hid (own_move PT.out (w1 := W6) (fun r hr => by
            simp [Value.ownBlock] at hr
            subst hr
            exact (hst.chg.block g (Nat.lt_of_lt_of_le l3 q5) ug).trans g5))
          have HPD := Lib.hid (own_move PD.out (w1 := W6) (fun r hr => by
            simp [Value.ownBlock] at hr
            subst hr
            exact (hst.chg.block g' (Nat.lt_of_lt_of_le l4 q5) ug').trans g5'))
          have HN6 := Lib.hid n6
          have HU6 := Lib.hid hU'
          have HB6 : RowKit.Hid (Below w0.heap.size w0 W6) := by
            have h1 := HBW.out
            have h2 : Below w0.heap.size w0 W5 := Below.chg h1 HC5.out h1.size (fun j hj => by
              have := HT.out; have := HD.out
              rcases hj with rfl | rfl <;> omega)
            exact Below.chg h2 hst.chg h2.size (fun j hj => by have := (HU5.out j hj).2; omega)
          have u6T := n6 T lT uT
          have u6D := n6 D lD uD
          have u6g := n6 g (Nat.lt_of_lt_of_le l3 q5) ug
          have u6g' := n6 g' (Nat.lt_of_lt_of_le l4 q5) ug'
          have u6X := n6 bx lX uX
          have u6I := n6 bd lI uI
          have HJ6 := Lib.hid hJ6
          have s6 := hst.chg.size
          have k2' := cell_of_row W6 bx 2 _ _ _ HX6.out
          simp at k2'
          have HST := Lib.hid hst
          clear n6 hU' g5 g5' hJ6 hst k0 k1 k2 k3
          gi_wp2_with fail
          refine ⟨trivial, (callsIn_wide.2 (back_any x.a x.x.f2.length x.c W6)).mono ?_⟩
          rintro r W7 ⟨rfl, rfl⟩
          gi_wp2_with fail
          have hxm : (d, x) ∈ L := List.mem_of_getElem? HX.out
          have hxC := HSP.out (d, x) hxm
          have hx1000 := HKK.out (d, x) hxm
          simp only at hxC hx1000
          obtain ⟨es, hes⟩ : ∃ es, kidsE w0 x = es := ⟨_, rfl⟩
          have hKd : Kids w0 x es := hes ▸ kidsE_spec w0 x hxC.2
          have hel : es.length = x.x.f2.length := by rw [← hKd.1, List.length_map]
          rw [← hel]
          obtain ⟨W7, hW7⟩ : ∃ W7, W6.alloc (.cells #[.slice x.a es.length x.c] 22) = W7 := ⟨_, rfl⟩
          have hz : W7.heap.size = W6.heap.size + 1 := by rw [← hW7]; simp
          have hb7 : Below W6.heap.size W6 W7 := by rw [← hW7]; exact bl_alloc (Below.refl _ _) _
          have hbb : W7.heap[W6.heap.size]? = some (.cells #[.slice x.a es.length x.c] 22 (0, 0)) := by rw [← hW7]; exact World.alloc_heap_new W6 _
          have eT := HT.out
          have eD := HD.out
          have eS := HS.out
          have e5 := HC5.out.size
          have e6 := HST.out.chg.size
          have ex := hbx.out
          have ed := hbd.out
          have hq6 : ∀ q ∈ Ds, W6.heap[q]? = some (.deferred (some [])) ∧ ¬ U' q ∧ D < q := fun q hq => by
            obtain ⟨h1, h2, h3⟩ := hds.out q hq
            have h5 : W5.heap[q]? = some (.deferred (some [])) := HC5.out.heap h1 (by rintro (h | h) <;> omega)
            have hlt := (Array.getElem?_eq_some_iff.1 h5).1
            refine ⟨HST.out.chg.heap h5 h2, fun h => ?_, h3⟩
            rcases HST.out.old q h with h4 | h4
            · exact h2 h4
            · omega
          have HKN : KN w0 U' W.heap.size T D W6.heap.size bd W7.heap.size Ds :=
            ⟨hs0, by omega, by omega, by omega, by omega, by omega, fun j hj => by have := (HU6.out j hj).1; omega, fun q hq => by have := (Array.getElem?_eq_some_iff.1 (hq6 q hq).1).1; omega, by omega, by omega, by omega⟩
          have h0K : KI w0 (J (k + 1)) U' W.heap.size T D W6.heap.size bd W7.heap.size x.a x.c es d st Ds 0 W7 := by
            refine ⟨⟨.slice (some ⟨g, 0, none⟩) n cap, .slice (some ⟨g', 0, none⟩) n cap', ⟨?_, ?_, ?_, ?_⟩, fun r hr => ?_, fun r hr => ?_⟩, ?_, hbb, ?_, ?_, fun q hq => ?_, Nat.le_refl _⟩
            · exact hb7.block _ (by omega) |>.trans HT6.out
            · exact hb7.block _ (by omega) |>.trans HD6.out
            · rw [stkOf_zero, hn]; exact own_move HPT.out (fun r hr => hb7.block r (own_lt HPT.out r hr))
            · rw [stkOf_zero, hn]; exact own_move HPD.out (fun r hr => hb7.block r (own_lt HPD.out r hr))
            · simp [Value.ownBlock] at hr; subst hr
              exact ⟨u6g, fun h => by rcases h with h | h <;> omega⟩
            · simp [Value.ownBlock] at hr; subst hr
              exact ⟨u6g', fun h => by (rcases h with h | h <;> omega), by omega⟩
            · exact HJ.out _ _ _ _ HJ6.out (Chg.of_below hb7)
            · exact Below.chg HB6.out (Chg.of_below (S := fun _ => False) hb7) HB6.out.size (fun _ h => h.elim)
            · exact hb7.block _ (by omega) |>.trans HI6.out
            · exact hb7.block _ (Array.getElem?_eq_some_iff.1 (hq6 q hq).1).1 |>.trans (hq6 q hq).1
          have hJc : ∀ A B, J (k + 1) U' A → Chg (fun j => ¬ U' j ∧ ¬ j < w0.heap.size) A B → J (k + 1) U' B := fun A B h hc => HJ.out _ _ _ _ h hc
          rw [hW7]
          have HEL := Lib.hid hel
          have HES := Lib.hid hes
          have HKD := Lib.hid hKd
          have HQ6 := Lib.hid hq6
          have HZ := Lib.hid hz
          have HJC := Lib.hid hJc
          have H1K := Lib.hid hx1000
          have HNL := Lib.hid hn
          clear hel hes hKd hq6 hz hJc hbb hxC hx1000 hb7 hW7 hn
          refine wpIn_range_itE rfl hm (gf := 71) (lb := #[.pointer (some ⟨W6.heap.size, 0, none⟩)]) rfl trivial (enters_of Tryd.func71 (by kernel_rfl) rfl)
            (back_it (m - 1) x.a es x.c W6.heap.size) (fun _ => rfl)
            (fun j A => KI w0 (J (k + 1)) U' W.heap.size T D W6.heap.size bd W7.heap.size x.a x.c es d st Ds j A) (fun _ _ _ => False)
            (fun j A h => ⟨h.bb, HKD.out.2.1.below h.bw⟩)
            (fun j A B h hs hc => h.chg HKN HJC.out hc) (fun _ _ _ _ h _ => h) h0K
            (fun y a' A => ∃ nb : Nat, W7.heap.size + 2 ≤ nb ∧ A.heap[nb]? = some (.cells #[.int .i64 y.2.x.f0, .string y.2.x.f1, .slice y.2.a y.2.x.f2.length y.2.c] 24 (0, 0)) ∧ (∀ vv, A.heap[T]? = some (.cells #[vv] 22 (0, 0)) → vv.ownBlock ≠ some nb) ∧ ∃ (v0 v1 v2 v5 v6 v8 v10 v11 v12 v13 v14 v15 v16 v17 v18 v19 v20 v21 v22 v23 v24 v25 v26 v27 v28 v29 v30 v31 v32 v33 v34 v35 v36 v37 v38 v39 v40 v41 v42 v43 v44 v45 v46 v47 v48 v49 v50 v51 : Value), a' = { tmps := #[v0, v1, v2, .pointer (some ⟨T, 0, none⟩), .pointer (some ⟨D, 0, none⟩), v5, v6, .pointer (some ⟨bd, 0, none⟩), v8, .pointer (some ⟨nb, 0, none⟩), v10, v11, v12, v13, v14, v15, v16, v17, v18, v19, v20, v21, v22, v23, v24, v25, v26, v27, v28, v29, v30, v31, v32, v33, v34, v35, v36, v37, v38, v39, v40, v41, v42, v43, v44, v45, v46, v47, v48, v49, v50, v51], defers := [] })
            ?hAx ?assign ?body ?done ?stop
          case stop => rintro c j B _ h; exact h.elim
          case hAx =>
            rintro y a' A B' ⟨nb, h1, h2, h3, h4⟩ hc
            refine ⟨nb, h1, hc.heap h2 (fun h => by rcases h with h | h <;> omega), fun vv hvv => ?_, h4⟩
            have q1 := HKN.Dz
            have q2 := HKN.TD
            have q3 := (Array.getElem?_eq_some_iff.1 h2).1
            exact h3 vv ((hc.block T (by omega) (fun h => by rcases h with h | h <;> omega)).symm.trans hvv)
          case assign =>
            intro l2 j y A K2 hy2 hI hs2 hK2
            simp only [El.v]
            gi_wp2_with fail
            refine hK2 _ _ (LK.of_below (bl_alloc (Below.refl _ _) _) hs2) (hI.chg HKN HJC.out (Chg.of_below (bl_alloc (Below.refl _ _) _))) ⟨A.heap.size, hs2, World.alloc_heap_new A _, fun vv hvv e => (by
              obtain ⟨va, ua, hS, _, _⟩ := hI.stk
              have h1 := (Below.heap_alloc A (.cells #[.int .i64 y.2.x.f0, .string y.2.x.f1, .slice y.2.a y.2.x.f2.length y.2.c] 24) T (Array.getElem?_eq_some_iff.1 hS.tb).1).trans hS.tb
              rw [h1] at hvv
              simp at hvv
              subst hvv
              have := own_lt hS.tr _ e
              omega), _, _, _, _, _, _, _, _, _, _, _, _, _, _, _, _, _, _, _, _, _, _, _, _, _, _, _, _, _, _, _, _, _, _, _, _, _, _, _, _, _, _, _, _, _, _, _, _, rfl⟩
          case body =>
            intro j y a' A hr0 hdf hy2 hI hs2 hAx
            obtain ⟨nb, hnb, hrow, hnv, v0, v1, v2, v5, v6, v8, v10, v11, v12, v13, v14, v15, v16, v17, v18, v19, v20, v21, v22, v23, v24, v25, v26, v27, v28, v29, v30, v31, v32, v33, v34, v35, v36, v37, v38, v39, v40, v41, v42, v43, v44, v45, v46, v47, v48, v49, v50, v51, rfl⟩ := hAx
            obtain ⟨v', u', hS, hv, hu⟩ := hI.stk
            have hj : j < es.length := by have := (List.getElem?_eq_some_iff.1 hy2).1; rwa [bck_len] at this
            obtain ⟨ke, hke⟩ : ∃ ke, es[es.length - 1 - j]? = some ke := ⟨_, List.getElem?_eq_getElem (by omega)⟩
            rw [bck_get es j ke hj hke] at hy2
            obtain rfl := Option.some.inj hy2
            simp only at hrow
            have hsl := stkOf_len es d st j (Nat.le_of_lt hj)
            have cT2 := cell_of_row A T 0 _ _ _ hS.tb
            have cD2 := cell_of_row A D 0 _ _ _ hS.db
            have cI2 := cell_of_row A bd 0 _ _ _ hI.ii
            have cN0 := cell_of_row A nb 0 _ _ _ hrow
            have cN1 := cell_of_row A nb 1 _ _ _ hrow
            have cN2 := cell_of_row A nb 2 _ _ _ hrow
            simp at cT2 cD2 cI2 cN0 cN1 cN2
            gi_wp2_with fail
            have hT0 : Told T D nb bd v' u' ke d A.drew := ⟨cT2, cN0, cN1, cN2, cD2, cI2⟩
            have hS0 : ∀ L : Array Bool, L.getD 9 true = false → Told T D nb bd v' u' ke d A.drew := fun L _ => hT0
            have hd0 := hdp.out (d, x) (List.mem_cons_self ..)
            simp only at hd0
            have hk200 := HK.out _ _ _ hI.jj
            have hwd : wrap64 (d + 1) = d + 1 := by unfold wrap64; omega
            have hwi : IntKind.i64.wrap (d + 1) = d + 1 := by rw [IntKind.wrap_i64]; omega
            refine wpIn_region_round (S := fun L w' => L.getD 9 true = false → Told T D nb bd v' u' ke d w') mixed (by kernel_rfl) (by rintro ⟨_, _, h⟩; exact h) ?_
            refine wpAnyL_take (i := 0) (v := v') (chain := [3, 9]) (T := Told T D nb bd v' u' ke d) rfl (by kernel_rfl) (by kernel_rfl) (by kernel_rfl) (fun _ _ _ h => h) (by kernel_rfl) (by kernel_rfl)
              (fun L w => by simp only [getD_set_ne true (show (0 : Nat) ≠ 9 by decide)]) (fun L w hb hS9 => hS9 (hb 9 (by simp))) (Or.inl ⟨by rfl, ?y0⟩) (hS0 _) ?r0
            case y0 => intro w hw; obtain ⟨w1, w2, w3, w4, w5, w6⟩ := hw; go_simp; try rfl
            try simp only [Act.put, List.setIfInBounds_toArray, List.set_cons_zero, List.set_cons_succ]
            refine wpAnyL_take (i := 1) (v := .agg #[.int .i64 ke.x.f0, .string ke.x.f1, .slice ke.a ke.x.f2.length ke.c]) (chain := [2, 3, 9]) (T := Told T D nb bd v' u' ke d) rfl (by kernel_rfl) (by kernel_rfl) (by kernel_rfl) (fun _ _ _ h => h) (by kernel_rfl) (by kernel_rfl)
              (fun L w => by simp only [getD_set_ne true (show (1 : Nat) ≠ 9 by decide)]) (fun L w hb hS9 => hS9 (hb 9 (by simp))) (Or.inl ⟨by rfl, ?y1⟩) (hS0 _) ?r1
            case y1 => intro w hw; obtain ⟨w1, w2, w3, w4, w5, w6⟩ := hw; go_simp; try rfl
            try simp only [Act.put, List.setIfInBounds_toArray, List.set_cons_zero, List.set_cons_succ]
            refine wpAnyL_take (i := 4) (v := u') (chain := [8, 9]) (T := Told T D nb bd v' u' ke d) rfl (by kernel_rfl) (by kernel_rfl) (by kernel_rfl) (fun _ _ _ h => h) (by kernel_rfl) (by kernel_rfl)
              (fun L w => by simp only [getD_set_ne true (show (4 : Nat) ≠ 9 by decide)]) (fun L w hb hS9 => hS9 (hb 9 (by simp))) (Or.inl ⟨by rfl, ?y4⟩) (hS0 _) ?r4
            case y4 => intro w hw; obtain ⟨w1, w2, w3, w4, w5, w6⟩ := hw; go_simp; try rfl
            try simp only [Act.put, List.setIfInBounds_toArray, List.set_cons_zero, List.set_cons_succ]
            refine wpAnyL_take (i := 5) (v := .int .i64 d) (chain := [6, 7, 8, 9]) (T := Told T D nb bd v' u' ke d) rfl (by kernel_rfl) (by kernel_rfl) (by kernel_rfl) (fun _ _ _ h => h) (by kernel_rfl) (by kernel_rfl)
              (fun L w => by simp only [getD_set_ne true (show (5 : Nat) ≠ 9 by decide)]) (fun L w hb hS9 => hS9 (hb 9 (by simp))) (Or.inl ⟨by rfl, ?y5⟩) (hS0 _) ?r5
            case y5 => intro w hw; obtain ⟨w1, w2, w3, w4, w5, w6⟩ := hw; go_simp; try rfl
            try simp only [Act.put, List.setIfInBounds_toArray, List.set_cons_zero, List.set_cons_succ]
            refine wpAnyL_take (i := 6) (v := .int .i64 (d + 1)) (chain := [7, 8, 9]) (T := Told T D nb bd v' u' ke d) rfl (by kernel_rfl) (by kernel_rfl) (by kernel_rfl) (fun _ _ _ h => h) (by kernel_rfl) (by kernel_rfl)
              (fun L w => by simp only [getD_set_ne true (show (6 : Nat) ≠ 9 by decide)]) (fun L w hb hS9 => hS9 (hb 9 (by simp))) (Or.inl ⟨by rfl, ?y6⟩) (hS0 _) ?r6
            case y6 => intro w hw; obtain ⟨w1, w2, w3, w4, w5, w6⟩ := hw; go_simp; first | done | exact hwi | rfl
            try simp only [Act.put, List.setIfInBounds_toArray, List.set_cons_zero, List.set_cons_succ]
            have hfr := KI.fresh hS (fun r hr => (hu r hr).2.2) (hnv _ hS.tb) hrow hI.ii ⟨cT2, cN0, cN1, cN2, cD2, cI2⟩
            obtain ⟨X, hX⟩ : ∃ X, A.drew = X := ⟨_, rfl⟩
            have HC := Lib.hid (show Chg (fun q => v'.ownBlock = some q ∨ u'.ownBlock = some q) A X from hX ▸ (Chg.refl _ A).drew)
            have HV := Lib.hid (show X.ownsRow W.heap.size 24 3 v' (stkOf es d st j).length (cellsE (stkOf es d st j)) from hX ▸ hS.tr)
            have HW := Lib.hid (show X.ownsRow W.heap.size 3 1 u' (stkOf es d st j).length (deepsE (stkOf es d st j)) from hX ▸ hS.dr)
            rw [hX]
            clear hX
            have HTB := Lib.hid hfr.1
            have HTK := Lib.hid hfr.2.1
            have HNE := Lib.hid hfr.2.2.1
            have HNV := Lib.hid hfr.2.2.2
            have hlen6 : (stkOf es d st j).length ≤ 1000000 := by
              have h1 : ((d, x) :: st).length ≤ 1 + 1000 * k := hln.out
              have h3 := H1K.out
              have h4 := HEL.out
              simp only [List.length_cons] at h1
              omega
            obtain ⟨iN, hiN0, hzN0⟩ := Option.map_eq_some_iff.1 (show (Tryd.prog.info? 24).map (fun i => (i.zero, i.size, i.bytes)) = some (some (.agg #[.int .i64 0, .string ⟨#[]⟩, .slice none 0 0]), 3, 48) by kernel_rfl)
            obtain ⟨iI, hiI0, hzI0⟩ := Option.map_eq_some_iff.1 (show (Tryd.prog.info? 3).map (fun i => (i.zero, i.size, i.bytes)) = some (some (.int .i64 0), 1, 8) by kernel_rfl)
            have hiN : Tryd.prog.info? 24 = some iN ∧ iN.zero = some (.agg #[.int .i64 0, .string ⟨#[]⟩, .slice none 0 0]) ∧ iN.size = 3 ∧ iN.bytes = 48 := ⟨hiN0, congrArg (·.1) hzN0, congrArg (·.2.1) hzN0, congrArg (·.2.2) hzN0⟩
            have hiI : Tryd.prog.info? 3 = some iI ∧ iI.zero = some (.int .i64 0) ∧ iI.size = 1 ∧ iI.bytes = 8 := ⟨hiI0, congrArg (·.1) hzI0, congrArg (·.2.1) hzI0, congrArg (·.2.2) hzI0⟩
            -- body {
            refine wpAnyL_all (rs := [2, 7]) (by kernel_rfl) (by simp) (fun i hi => ?_)
            obtain rfl | rfl : i = 2 ∨ i = 7 := by simpa using hi
            · clear hi
              refine wpOpK rfl (by rfl) (fun K' hK => ?_)
              go_simp
              obtain ⟨X1, hY⟩ : ∃ Y_, X.alloc (.cells #[.int .i64 ke.x.f0, .string ke.x.f1, .slice ke.a ke.x.f2.length ke.c] 24) = Y_ := ⟨_, rfl⟩
              obtain ⟨b45, hb45⟩ : ∃ b, X.heap.size = b := ⟨_, rfl⟩
              have N45 := Lib.hid (show A.heap.size ≤ b45 ∧ X1.heap[b45]? = _ from ⟨hb45 ▸ HC.out.size, hb45 ▸ hY ▸ World.alloc_heap_new X (.cells #[.int .i64 ke.x.f0, .string ke.x.f1, .slice ke.a ke.x.f2.length ke.c] 24)⟩)
              have hbl : Below X.heap.size X X1 := hY ▸ bl_alloc (Below.refl _ _) _
              rw [hY, hb45]
              replace HV := Lib.hid (own_move HV.out (fun r hr => hbl.block r (own_lt HV.out r hr)))
              replace HW := Lib.hid (own_move HW.out (fun r hr => hbl.block r (own_lt HW.out r hr)))
              replace HC := Lib.hid (HC.out.trans (Chg.of_below hbl))
              refine hK.out _ _ ⟨HTK.out X1 HC.out _, ?_⟩
              clear hK K' hbl hb45
              clear hY
              try simp only [Act.put, List.setIfInBounds_toArray, List.set_cons_zero, List.set_cons_succ]
              refine wpAnyL_all (rs := [3, 7]) (by kernel_rfl) (by simp) (fun i hi => ?_)
              obtain rfl | rfl : i = 3 ∨ i = 7 := by simpa using hi
              · clear hi
                refine wpOpK rfl (by rfl) (fun K' hK => ?_)
                refine step_append_own (.tmp 43) (.tmp 45) 22 rfl W.heap.size 24 iN (.agg #[.int .i64 0, .string ⟨#[]⟩, .slice none 0 0]) 3 48 Tryd.underlying22 hiN.1 hiN.2.1 hiN.2.2.1 hiN.2.2.2 rfl (by decide) v' (stkOf es d st j).length (cellsE (stkOf es d st j)) rfl HV.out ⟨b45, 0, none⟩ 1 1 [.int .i64 ke.x.f0, .string ke.x.f1, .slice ke.a ke.x.f2.length ke.c] rfl rfl (World.news_of_block N45.out.2) (by simp [Value.oneCell']) (by unfold maxLen; omega) (by omega) (by have := HC.out.size; have := HS.out; have := hI.sz; have := HZ.out; omega) ?_
                intro v2 X2 ho hg hat
                have HV2 := Lib.hid ho
                have HA3 := Lib.hid (show v2.ownBlock = v'.ownBlock ∨ ∃ b, v2.ownBlock = some b ∧ A.heap.size ≤ b from hat.imp id (fun e => ⟨_, e, HC.out.size⟩))
                replace HW := Lib.hid (own_move HW.out (fun r hr => hg.block r (own_lt HW.out r hr) (HNE.out r hr)))
                replace HC := Lib.hid (HC.out.grown hg (fun r hr => .inl (.inl hr)))
                clear ho hg hat
                refine hK.out _ _ ⟨HTK.out X2 HC.out _, ?_⟩
                clear hK K' HV N45
                try simp only [Act.put, List.setIfInBounds_toArray, List.set_cons_zero, List.set_cons_succ]
                refine wpAnyL_all (rs := [7]) (by kernel_rfl) (by simp) (fun i hi => ?_)
                obtain rfl : i = 7 := by simpa using hi
                clear hi
                refine wpOpK rfl (by rfl) (fun K' hK => ?_)
                go_simp
                obtain ⟨X3, hY⟩ : ∃ Y_, X2.alloc (.cells #[.int .i64 (d + 1)] 3) = Y_ := ⟨_, rfl⟩
                obtain ⟨b50, hb50⟩ : ∃ b, X2.heap.size = b := ⟨_, rfl⟩
                have N50 := Lib.hid (show A.heap.size ≤ b50 ∧ X3.heap[b50]? = _ from ⟨hb50 ▸ HC.out.size, hb50 ▸ hY ▸ World.alloc_heap_new X2 (.cells #[.int .i64 (d + 1)] 3)⟩)
                have hbl : Below X2.heap.size X2 X3 := hY ▸ bl_alloc (Below.refl _ _) _
                rw [hY, hb50]
                replace HV2 := Lib.hid (own_move HV2.out (fun r hr => hbl.block r (own_lt HV2.out r hr)))
                replace HW := Lib.hid (own_move HW.out (fun r hr => hbl.block r (own_lt HW.out r hr)))
                replace HC := Lib.hid (HC.out.trans (Chg.of_below hbl))
                refine hK.out _ _ ⟨HTK.out X3 HC.out _, ?_⟩
                clear hK K' hbl hb50
                clear hY
                try simp only [Act.put, List.setIfInBounds_toArray, List.set_cons_zero, List.set_cons_succ]
                refine wpAnyL_all (rs := [8]) (by kernel_rfl) (by simp) (fun i hi => ?_)
                obtain rfl : i = 8 := by simpa using hi
                clear hi
                refine wpOpK rfl (by rfl) (fun K' hK => ?_)
                refine step_append_own (.tmp 47) (.tmp 50) 111 rfl W.heap.size 3 iI (.int .i64 0) 1 8 Tryd.underlying111 hiI.1 hiI.2.1 hiI.2.2.1 hiI.2.2.2 rfl (by decide) u' (stkOf es d st j).length (deepsE (stkOf es d st j)) rfl HW.out ⟨b50, 0, none⟩ 1 1 [.int .i64 (d + 1)] rfl rfl (World.news_of_block N50.out.2) (by simp [Value.oneCell']) (by unfold maxLen; omega) (by omega) (by have := HC.out.size; have := HS.out; have := hI.sz; have := HZ.out; omega) ?_
                intro u2 X4 ho hg hat
                have HW2 := Lib.hid ho
                have HA8 := Lib.hid (show u2.ownBlock = u'.ownBlock ∨ ∃ b, u2.ownBlock = some b ∧ A.heap.size ≤ b from hat.imp id (fun e => ⟨_, e, HC.out.size⟩))
                replace HV2 := Lib.hid (own_move HV2.out (fun r hr => hg.block r (own_lt HV2.out r hr) (fun e => by
                  obtain ⟨c1, e1⟩ := own_typed HV2.out r hr
                  obtain ⟨c2, e2⟩ := own_typed HW.out r e.symm
                  rw [e1] at e2
                  simp at e2)))
                replace HC := Lib.hid (HC.out.grown hg (fun r hr => .inl (.inr hr)))
                clear ho hg hat
                refine hK.out _ _ ⟨HTK.out X4 HC.out _, ?_⟩
                clear hK K' HW N50
                try simp only [Act.put, List.setIfInBounds_toArray, List.set_cons_zero, List.set_cons_succ]
                refine wpAnyL_all (rs := [9]) (by kernel_rfl) (by simp) (fun i hi => ?_)
                obtain rfl : i = 9 := by simpa using hi
                clear hi
                obtain ⟨gA, cA, rfl⟩ := ownsRow_succ HV2.out
                obtain ⟨gB, cB, rfl⟩ := ownsRow_succ HW2.out
                have FIN := KI.push hI HKN HJC.out hs2 u6T u6D (fun q hq => (HQ6.out q hq).2.2) hj hke hS hv hu HC.out HV2.out HW2.out HA3.out HA8.out
                have ⟨xT, xD⟩ := HTB.out X4 HC.out
                have yT := cell_of_row X4 T 0 _ _ _ xT
                have yD := cell_of_row X4 D 0 _ _ _ xD
                simp at yT yD
                have zT : X4.frozen? ⟨T, 0, none⟩ = false := Lib.frozen_of_heap xT 0
                have zD : X4.frozen? ⟨D, 0, none⟩ = false := Lib.frozen_of_heap xD 0
                have hTD6 : T ≠ D := by have := HD.out; omega
                refine wpOpK rfl (by rfl) (fun K' hK => ?_)
                go_simp
                refine hK.out _ _ ⟨fun h => (by first | (simp at h; done) | exact absurd h (by decide)), ?_⟩
                clear hK K'
                try simp only [Act.put, List.setIfInBounds_toArray, List.set_cons_zero, List.set_cons_succ]
                refine wpAnyL_all (rs := [10]) (by kernel_rfl) (by simp) (fun i hi => ?_)
                obtain rfl : i = 10 := by simpa using hi
                clear hi
                refine wpOpK rfl (by rfl) (fun K' hK => ?_)
                go_simp
                refine hK.out _ _ ⟨fun h => (by first | (simp at h; done) | exact absurd h (by decide)), ?_⟩
                clear hK K'
                try simp only [Act.put, List.setIfInBounds_toArray, List.set_cons_zero, List.set_cons_succ]
                refine wpAnyL_done (by kernel_rfl) ?_
                rw [hsl] at FIN
                exact ⟨FIN.1, FIN.2⟩
              · clear hi
                refine wpOpK rfl (by rfl) (fun K' hK => ?_)
                go_simp
                obtain ⟨X2, hY⟩ : ∃ Y_, X1.alloc (.cells #[.int .i64 (d + 1)] 3) = Y_ := ⟨_, rfl⟩
                obtain ⟨b50, hb50⟩ : ∃ b, X1.heap.size = b := ⟨_, rfl⟩
                have N50 := Lib.hid (show A.heap.size ≤ b50 ∧ X2.heap[b50]? = _ from ⟨hb50 ▸ HC.out.size, hb50 ▸ hY ▸ World.alloc_heap_new X1 (.cells #[.int .i64 (d + 1)] 3)⟩)
                have hbl : Below X1.heap.size X1 X2 := hY ▸ bl_alloc (Below.refl _ _) _
                rw [hY, hb50]
                replace N45 := Lib.hid (show A.heap.size ≤ b45 ∧ X2.heap[b45]? = _ from ⟨N45.out.1, (hbl.block _ (Array.getElem?_eq_some_iff.1 N45.out.2).1).trans N45.out.2⟩)
                replace HV := Lib.hid (own_move HV.out (fun r hr => hbl.block r (own_lt HV.out r hr)))
                replace HW := Lib.hid (own_move HW.out (fun r hr => hbl.block r (own_lt HW.out r hr)))
                replace HC := Lib.hid (HC.out.trans (Chg.of_below hbl))
                refine hK.out _ _ ⟨HTK.out X2 HC.out _, ?_⟩
                clear hK K' hbl hb50
                clear hY
                try simp only [Act.put, List.setIfInBounds_toArray, List.set_cons_zero, List.set_cons_succ]
                refine wpAnyL_all (rs := [3]) (by kernel_rfl) (by simp) (fun i hi => ?_)
                obtain rfl : i = 3 := by simpa using hi
                clear hi
                refine wpOpK rfl (by rfl) (fun K' hK => ?_)
                refine step_append_own (.tmp 43) (.tmp 45) 22 rfl W.heap.size 24 iN (.agg #[.int .i64 0, .string ⟨#[]⟩, .slice none 0 0]) 3 48 Tryd.underlying22 hiN.1 hiN.2.1 hiN.2.2.1 hiN.2.2.2 rfl (by decide) v' (stkOf es d st j).length (cellsE (stkOf es d st j)) rfl HV.out ⟨b45, 0, none⟩ 1 1 [.int .i64 ke.x.f0, .string ke.x.f1, .slice ke.a ke.x.f2.length ke.c] rfl rfl (World.news_of_block N45.out.2) (by simp [Value.oneCell']) (by unfold maxLen; omega) (by omega) (by have := HC.out.size; have := HS.out; have := hI.sz; have := HZ.out; omega) ?_
                intro v2 X3 ho hg hat
                have HV2 := Lib.hid ho
                have HA3 := Lib.hid (show v2.ownBlock = v'.ownBlock ∨ ∃ b, v2.ownBlock = some b ∧ A.heap.size ≤ b from hat.imp id (fun e => ⟨_, e, HC.out.size⟩))
                replace HW := Lib.hid (own_move HW.out (fun r hr => hg.block r (own_lt HW.out r hr) (HNE.out r hr)))
                replace N50 := Lib.hid (show A.heap.size ≤ b50 ∧ X3.heap[b50]? = _ from ⟨N50.out.1, (hg.block _ (Array.getElem?_eq_some_iff.1 N50.out.2).1 (HNV.out _ N50.out.1)).trans N50.out.2⟩)
                replace HC := Lib.hid (HC.out.grown hg (fun r hr => .inl (.inl hr)))
                clear ho hg hat
                refine hK.out _ _ ⟨HTK.out X3 HC.out _, ?_⟩
                clear hK K' HV N45
                try simp only [Act.put, List.setIfInBounds_toArray, List.set_cons_zero, List.set_cons_succ]
                refine wpAnyL_all (rs := [8]) (by kernel_rfl) (by simp) (fun i hi => ?_)
                obtain rfl : i = 8 := by simpa using hi
                clear hi
                refine wpOpK rfl (by rfl) (fun K' hK => ?_)
                refine step_append_own (.tmp 47) (.tmp 50) 111 rfl W.heap.size 3 iI (.int .i64 0) 1 8 Tryd.underlying111 hiI.1 hiI.2.1 hiI.2.2.1 hiI.2.2.2 rfl (by decide) u' (stkOf es d st j).length (deepsE (stkOf es d st j)) rfl HW.out ⟨b50, 0, none⟩ 1 1 [.int .i64 (d + 1)] rfl rfl (World.news_of_block N50.out.2) (by simp [Value.oneCell']) (by unfold maxLen; omega) (by omega) (by have := HC.out.size; have := HS.out; have := hI.sz; have := HZ.out; omega) ?_
                intro u2 X4 ho hg hat
                have HW2 := Lib.hid ho
                have HA8 := Lib.hid (show u2.ownBlock = u'.ownBlock ∨ ∃ b, u2.ownBlock = some b ∧ A.heap.size ≤ b from hat.imp id (fun e => ⟨_, e, HC.out.size⟩))
                replace HV2 := Lib.hid (own_move HV2.out (fun r hr => hg.block r (own_lt HV2.out r hr) (fun e => by
                  obtain ⟨c1, e1⟩ := own_typed HV2.out r hr
                  obtain ⟨c2, e2⟩ := own_typed HW.out r e.symm
                  rw [e1] at e2
                  simp at e2)))
                replace HC := Lib.hid (HC.out.grown hg (fun r hr => .inl (.inr hr)))
                clear ho hg hat
                refine hK.out _ _ ⟨HTK.out X4 HC.out _, ?_⟩
                clear hK K' HW N50
                try simp only [Act.put, List.setIfInBounds_toArray, List.set_cons_zero, List.set_cons_succ]
                refine wpAnyL_all (rs := [9]) (by kernel_rfl) (by simp) (fun i hi => ?_)
                obtain rfl : i = 9 := by simpa using hi
                clear hi
                obtain ⟨gA, cA, rfl⟩ := ownsRow_succ HV2.out
                obtain ⟨gB, cB, rfl⟩ := ownsRow_succ HW2.out
                have FIN := KI.push hI HKN HJC.out hs2 u6T u6D (fun q hq => (HQ6.out q hq).2.2) hj hke hS hv hu HC.out HV2.out HW2.out HA3.out HA8.out
                have ⟨xT, xD⟩ := HTB.out X4 HC.out
                have yT := cell_of_row X4 T 0 _ _ _ xT
                have yD := cell_of_row X4 D 0 _ _ _ xD
                simp at yT yD
                have zT : X4.frozen? ⟨T, 0, none⟩ = false := Lib.frozen_of_heap xT 0
                have zD : X4.frozen? ⟨D, 0, none⟩ = false := Lib.frozen_of_heap xD 0
                have hTD6 : T ≠ D := by have := HD.out; omega
                refine wpOpK rfl (by rfl) (fun K' hK => ?_)
                go_simp
                refine hK.out _ _ ⟨fun h => (by first | (simp at h; done) | exact absurd h (by decide)), ?_⟩
                clear hK K'
                try simp only [Act.put, List.setIfInBounds_toArray, List.set_cons_zero, List.set_cons_succ]
                refine wpAnyL_all (rs := [10]) (by kernel_rfl) (by simp) (fun i hi => ?_)
                obtain rfl : i = 10 := by simpa using hi
                clear hi
                refine wpOpK rfl (by rfl) (fun K' hK => ?_)
                go_simp
                refine hK.out _ _ ⟨fun h => (by first | (simp at h; done) | exact absurd h (by decide)), ?_⟩
                clear hK K'
                try simp only [Act.put, List.setIfInBounds_toArray, List.set_cons_zero, List.set_cons_succ]
                refine wpAnyL_done (by kernel_rfl) ?_
                rw [hsl] at FIN
                exact ⟨FIN.1, FIN.2⟩
            · clear hi
              refine wpOpK rfl (by rfl) (fun K' hK => ?_)
              go_simp
              obtain ⟨X1, hY⟩ : ∃ Y_, X.alloc (.cells #[.int .i64 (d + 1)] 3) = Y_ := ⟨_, rfl⟩
              obtain ⟨b50, hb50⟩ : ∃ b, X.heap.size = b := ⟨_, rfl⟩
              have N50 := Lib.hid (show A.heap.size ≤ b50 ∧ X1.heap[b50]? = _ from ⟨hb50 ▸ HC.out.size, hb50 ▸ hY ▸ World.alloc_heap_new X (.cells #[.int .i64 (d + 1)] 3)⟩)
              have hbl : Below X.heap.size X X1 := hY ▸ bl_alloc (Below.refl _ _) _
              rw [hY, hb50]
              replace HV := Lib.hid (own_move HV.out (fun r hr => hbl.block r (own_lt HV.out r hr)))
              replace HW := Lib.hid (own_move HW.out (fun r hr => hbl.block r (own_lt HW.out r hr)))
              replace HC := Lib.hid (HC.out.trans (Chg.of_below hbl))
              refine hK.out _ _ ⟨HTK.out X1 HC.out _, ?_⟩
              clear hK K' hbl hb50
              clear hY
              try simp only [Act.put, List.setIfInBounds_toArray, List.set_cons_zero, List.set_cons_succ]
              refine wpAnyL_all (rs := [2]) (by kernel_rfl) (by simp) (fun i hi => ?_)
              obtain rfl : i = 2 := by simpa using hi
              clear hi
              refine wpOpK rfl (by rfl) (fun K' hK => ?_)
              go_simp
              obtain ⟨X2, hY⟩ : ∃ Y_, X1.alloc (.cells #[.int .i64 ke.x.f0, .string ke.x.f1, .slice ke.a ke.x.f2.length ke.c] 24) = Y_ := ⟨_, rfl⟩
              obtain ⟨b45, hb45⟩ : ∃ b, X1.heap.size = b := ⟨_, rfl⟩
              have N45 := Lib.hid (show A.heap.size ≤ b45 ∧ X2.heap[b45]? = _ from ⟨hb45 ▸ HC.out.size, hb45 ▸ hY ▸ World.alloc_heap_new X1 (.cells #[.int .i64 ke.x.f0, .string ke.x.f1, .slice ke.a ke.x.f2.length ke.c] 24)⟩)
              have hbl : Below X1.heap.size X1 X2 := hY ▸ bl_alloc (Below.refl _ _) _
              rw [hY, hb45]
              replace N50 := Lib.hid (show A.heap.size ≤ b50 ∧ X2.heap[b50]? = _ from ⟨N50.out.1, (hbl.block _ (Array.getElem?_eq_some_iff.1 N50.out.2).1).trans N50.out.2⟩)
              replace HV := Lib.hid (own_move HV.out (fun r hr => hbl.block r (own_lt HV.out r hr)))
              replace HW := Lib.hid (own_move HW.out (fun r hr => hbl.block r (own_lt HW.out r hr)))
              replace HC := Lib.hid (HC.out.trans (Chg.of_below hbl))
              refine hK.out _ _ ⟨HTK.out X2 HC.out _, ?_⟩
              clear hK K' hbl hb45
              clear hY
              try simp only [Act.put, List.setIfInBounds_toArray, List.set_cons_zero, List.set_cons_succ]
              refine wpAnyL_all (rs := [3]) (by kernel_rfl) (by simp) (fun i hi => ?_)
              obtain rfl : i = 3 := by simpa using hi
              clear hi
              refine wpOpK rfl (by rfl) (fun K' hK => ?_)
              refine step_append_own (.tmp 43) (.tmp 45) 22 rfl W.heap.size 24 iN (.agg #[.int .i64 0, .string ⟨#[]⟩, .slice none 0 0]) 3 48 Tryd.underlying22 hiN.1 hiN.2.1 hiN.2.2.1 hiN.2.2.2 rfl (by decide) v' (stkOf es d st j).length (cellsE (stkOf es d st j)) rfl HV.out ⟨b45, 0, none⟩ 1 1 [.int .i64 ke.x.f0, .string ke.x.f1, .slice ke.a ke.x.f2.length ke.c] rfl rfl (World.news_of_block N45.out.2) (by simp [Value.oneCell']) (by unfold maxLen; omega) (by omega) (by have := HC.out.size; have := HS.out; have := hI.sz; have := HZ.out; omega) ?_
              intro v2 X3 ho hg hat
              have HV2 := Lib.hid ho
              have HA3 := Lib.hid (show v2.ownBlock = v'.ownBlock ∨ ∃ b, v2.ownBlock = some b ∧ A.heap.size ≤ b from hat.imp id (fun e => ⟨_, e, HC.out.size⟩))
              replace HW := Lib.hid (own_move HW.out (fun r hr => hg.block r (own_lt HW.out r hr) (HNE.out r hr)))
              replace N50 := Lib.hid (show A.heap.size ≤ b50 ∧ X3.heap[b50]? = _ from ⟨N50.out.1, (hg.block _ (Array.getElem?_eq_some_iff.1 N50.out.2).1 (HNV.out _ N50.out.1)).trans N50.out.2⟩)
              replace HC := Lib.hid (HC.out.grown hg (fun r hr => .inl (.inl hr)))
              clear ho hg hat
              refine hK.out _ _ ⟨HTK.out X3 HC.out _, ?_⟩
              clear hK K' HV N45
              try simp only [Act.put, List.setIfInBounds_toArray, List.set_cons_zero, List.set_cons_succ]
              refine wpAnyL_all (rs := [8]) (by kernel_rfl) (by simp) (fun i hi => ?_)
              obtain rfl : i = 8 := by simpa using hi
              clear hi
              refine wpOpK rfl (by rfl) (fun K' hK => ?_)
              refine step_append_own (.tmp 47) (.tmp 50) 111 rfl W.heap.size 3 iI (.int .i64 0) 1 8 Tryd.underlying111 hiI.1 hiI.2.1 hiI.2.2.1 hiI.2.2.2 rfl (by decide) u' (stkOf es d st j).length (deepsE (stkOf es d st j)) rfl HW.out ⟨b50, 0, none⟩ 1 1 [.int .i64 (d + 1)] rfl rfl (World.news_of_block N50.out.2) (by simp [Value.oneCell']) (by unfold maxLen; omega) (by omega) (by have := HC.out.size; have := HS.out; have := hI.sz; have := HZ.out; omega) ?_
              intro u2 X4 ho hg hat
              have HW2 := Lib.hid ho
              have HA8 := Lib.hid (show u2.ownBlock = u'.ownBlock ∨ ∃ b, u2.ownBlock = some b ∧ A.heap.size ≤ b from hat.imp id (fun e => ⟨_, e, HC.out.size⟩))
              replace HV2 := Lib.hid (own_move HV2.out (fun r hr => hg.block r (own_lt HV2.out r hr) (fun e => by
                obtain ⟨c1, e1⟩ := own_typed HV2.out r hr
                obtain ⟨c2, e2⟩ := own_typed HW.out r e.symm
                rw [e1] at e2
                simp at e2)))
              replace HC := Lib.hid (HC.out.grown hg (fun r hr => .inl (.inr hr)))
              clear ho hg hat
              refine hK.out _ _ ⟨HTK.out X4 HC.out _, ?_⟩
              clear hK K' HW N50
              try simp only [Act.put, List.setIfInBounds_toArray, List.set_cons_zero, List.set_cons_succ]
              refine wpAnyL_all (rs := [9]) (by kernel_rfl) (by simp) (fun i hi => ?_)
              obtain rfl : i = 9 := by simpa using hi
              clear hi
              obtain ⟨gA, cA, rfl⟩ := ownsRow_succ HV2.out
              obtain ⟨gB, cB, rfl⟩ := ownsRow_succ HW2.out
              have FIN := KI.push hI HKN HJC.out hs2 u6T u6D (fun q hq => (HQ6.out q hq).2.2) hj hke hS hv hu HC.out HV2.out HW2.out HA3.out HA8.out
              have ⟨xT, xD⟩ := HTB.out X4 HC.out
              have yT := cell_of_row X4 T 0 _ _ _ xT
              have yD := cell_of_row X4 D 0 _ _ _ xD
              simp at yT yD
              have zT : X4.frozen? ⟨T, 0, none⟩ = false := Lib.frozen_of_heap xT 0
              have zD : X4.frozen? ⟨D, 0, none⟩ = false := Lib.frozen_of_heap xD 0
              have hTD6 : T ≠ D := by have := HD.out; omega
              refine wpOpK rfl (by rfl) (fun K' hK => ?_)
              go_simp
              refine hK.out _ _ ⟨fun h => (by first | (simp at h; done) | exact absurd h (by decide)), ?_⟩
              clear hK K'
              try simp only [Act.put, List.setIfInBounds_toArray, List.set_cons_zero, List.set_cons_succ]
              refine wpAnyL_all (rs := [10]) (by kernel_rfl) (by simp) (fun i hi => ?_)
              obtain rfl : i = 10 := by simpa using hi
              clear hi
              refine wpOpK rfl (by rfl) (fun K' hK => ?_)
              go_simp
              refine hK.out _ _ ⟨fun h => (by first | (simp at h; done) | exact absurd h (by decide)), ?_⟩
              clear hK K'
              try simp only [Act.put, List.setIfInBounds_toArray, List.set_cons_zero, List.set_cons_succ]
              refine wpAnyL_done (by kernel_rfl) ?_
              rw [hsl] at FIN
              exact ⟨FIN.1, FIN.2⟩
            -- body }
          case done =>
            intro B' hI hs2 hdf
            obtain ⟨v', u', hS, hv, hu⟩ := hI.stk
            rw [bck_len, stkOf_all] at hS
            show KK _ _
            have hlt6 := (List.getElem?_eq_some_iff.1 HX.out).1
            refine hKK _ _ (Handed.intro (L.length - (k + 1)) (by have := HG.out; omega) (hJJ _ _ _ ⟨_, _, _, _, _, _, _, _, _, _, _, _, _, _, _, _, _, _, _, _, _, _, _, _, _, _, _, _, _, _, _, _, _, _, _, _, _, _, _, _, _, W7.heap.size :: Ds, ⟨k + 1, U', v', u', _, rfl, by omega, hI.jj, fun q hq => ⟨by have := (HU6.out q hq).1; have := HZ.out; omega, (HU6.out q hq).2⟩, u6T, u6D,
              fun r hr => (hv r hr).1, fun r hr => (hu r hr).1, hS, hI.bw, by have := HKN.Dz; omega, ?_, ?_, ?_, ?_, ?_⟩, rfl⟩))
            · show L.drop (k + 1) = restE w0 (es.map (fun q => (d + 1, q)) ++ st)
              have h1 : L.drop k = (d, x) :: restE w0 ((kidsE w0 x).map (fun q => (d + 1, q)) ++ st) := by rw [← restE_cons]; exact hre.out
              rw [HES.out] at h1
              rw [← List.drop_drop, h1]
              rfl
            · show (es.map (fun q => (d + 1, q)) ++ st).length ≤ 1 + 1000 * (k + 1)
              have h1 : ((d, x) :: st).length ≤ 1 + 1000 * k := hln.out
              have h2 := HEL.out
              have h3 := H1K.out
              simp only [List.length_append, List.length_map, List.length_cons] at h1 ⊢
              omega
            · intro p hp
              have h0 := hdp.out (d, x) (List.mem_cons_self ..)
              simp only at h0
              rcases List.mem_append.1 hp with h | h
              · obtain ⟨q, _, rfl⟩ := List.mem_map.1 h
                exact ⟨by simp only; omega, by simp only; omega⟩
              · have := hdp.out p (List.mem_cons_of_mem _ h)
                exact ⟨by omega, this.2⟩
            · exact List.nodup_cons.2 ⟨fun h => by have := HKN.mz _ h; omega, hnd.out⟩
            · intro q hq
              rcases List.mem_cons.1 hq with rfl | h
              · exact ⟨hdf, fun h => by have := HKN.Uz _ h; omega, HKN.Dz⟩
              · exact ⟨hI.mk_ q h, (HQ6.out q h).2⟩
        · gi_wp2_with fail
          try rw [Exit.noGoto_normal]
          have hq6 : ∀ q ∈ Ds, W6.heap[q]? = some (.deferred (some [])) ∧ ¬ U' q ∧ D < q := fun q hq => by
            obtain ⟨h1, h2, h3⟩ := hds.out q hq
            have hD := HD.out
            have h5 : W5.heap[q]? = some (.deferred (some [])) := HC5.out.heap h1 (by rintro (h | h) <;> omega)
            have hlt := (Array.getElem?_eq_some_iff.1 h5).1
            refine ⟨hst.chg.heap h5 h2, fun h => ?_, h3⟩
            rcases hst.old q h with h4 | h4
            · exact h2 h4
            · omega
          have hlt6 := (List.getElem?_eq_some_iff.1 HX.out).1
          have s5 := HC5.out.size
          have s6 := hst.chg.size
          have eT := HT.out
          have eD := HD.out
          have eS := HS.out
          refine leaves_marks Ds _ hnd.out (fun q hq => (hq6 q hq).1) (fun w' hc => ⟨_, results_none rfl _ _ _, ?_⟩)
          have hcs := hc.size
          have hJ9 : Jx (k + 1) U' w' := HJx.out _ _ _ _ hJ6 (hc.mono (fun j hj => ⟨(hq6 j hj).2.1, by have := (hq6 j hj).2.2; omega⟩))
          have hU9 : ∀ j, U' j → j < w'.heap.size ∧ w0.heap.size ≤ j := fun j hj => ⟨Nat.lt_of_lt_of_le (hst.lt j hj) hcs, by
            rcases hst.old j hj with h4 | h4
            · have := (HU2.out j h4).2; omega
            · omega⟩
          clear hq6
          exact ⟨⟨_, rfl⟩, by omega, .inr ⟨k + 1, by omega, U', fun j hj => ⟨(hU9 j hj).1, by have := (hU9 j hj).2; omega⟩, hJ9⟩⟩
end Tlv
end Go.Proofs.YthnddhgkjkpmfaaDoor
/- tlv's isShaped. -/
namespace Go.Proofs.YthnddhgkjkpmfaaDoor
set_option linter.unusedSimpArgs false
set_option linter.unusedVariables false
namespace Tlv
open Go.RowKit Go.Shelf Go.Proofs.YthnddhgkjkpmfaaDoorW.PrintWords Go.Proofs.YthnddhgkjkpmfaaDoor.KTlv Go.Proofs.YthnddhgkjkpmfaaDoor.PureB
attribute [local go_sem] Oper.semAt_some
theorem bits_all : ∀ n : Nat, n < 256 → Go.bits .and .i64 (n : Int) 31 = (n : Int) % 32 ∧ (Go.bits .and .i64 (n : Int) 32 != 0) = decide ((n : Int) / 32 % 2 = 1) := by decide +kernel
theorem inner_f (t : Int) (h0 : 0 ≤ t) (h1 : t ≤ 255) : LTlvO.tlv_isInner.f t = some (inner t) := by
  have := (bits_all t.toNat (by omega)).2
  rw [show ((t.toNat : Nat) : Int) = t by omega] at this
  unfold LTlvO.tlv_isInner.f inner
  rw [this]
theorem one_f (n : Nd) : LTlvO.tlv_isOne.f n.f0 n.f1 n.f2 = some (one n) := by
  unfold LTlvO.tlv_isOne.f one
  by_cases h0 : n.f0 < 0
  · rw [if_pos h0, decide_eq_false (show ¬ 0 ≤ n.f0 by omega)]; rfl
  rw [if_neg h0, decide_eq_true (show 0 ≤ n.f0 by omega)]
  by_cases h1 : n.f0 > 255
  · rw [if_pos h1, decide_eq_false (show ¬ n.f0 ≤ 255 by omega)]; rfl
  rw [if_neg h1, decide_eq_true (show n.f0 ≤ 255 by omega)]
  have h2 := (bits_all n.f0.toNat (by omega)).1
  rw [show ((n.f0.toNat : Nat) : Int) = n.f0 by omega] at h2
  rw [h2, inner_f n.f0 (by omega) (by omega)]
  by_cases h3 : n.f0 % 32 = 31
  · rw [if_pos h3, decide_eq_false (show ¬ (n.f0 % 32 ≠ 31) by omega)]; rfl
  rw [if_neg h3, decide_eq_true h3]
  simp only [Option.bind_some, Bool.true_and]
  by_cases h4 : inner n.f0 = true
  · rw [if_pos h4, if_pos h4]
    congr 1
    rw [Bool.eq_iff_iff, decide_eq_true_eq, beq_iff_eq]
    exact toList_nil
  · rw [if_neg h4, if_neg h4]
    congr 1
    rw [Bool.eq_iff_iff, decide_eq_true_eq, beq_iff_eq]
    omega
theorem one_c (x : El) (w : World) (hC : Kd.C k24 w x.a x.x.f2.length x.x.f2) (hc : x.x.f2.length ≤ x.c) :
    Calls Tryd.prog 48 #[x.v] w fun e w' => e = .returned (.bool (one x.x)) ∧ Below w.heap.size w w' :=
  LTlvO.tlv_isOne.calls x.x.f0 x.x.f1 x.a x.c x.x.f2 _ w hC hc (one_f x.x)
theorem take_all {α : Type} {L : List α} {k : Nat} {x : α} {p : α → Bool} (h : L[k]? = some x) (ha : (L.take k).all p = true) (hx : p x = true) : (L.take (k + 1)).all p = true := by
  rw [List.take_add_one, h, List.all_append, ha]
  simp [hx]
theorem all_not {α : Type} {L : List α} {k : Nat} {x : α} {p : α → Bool} (h : L[k]? = some x) (hx : p x = false) : L.all p = false := by
  cases ha : L.all p with
  | false => rfl
  | true =>
    have := List.all_eq_true.1 ha x (List.mem_of_getElem? h)
    rw [this] at hx
    cases hx
def okE (p : Int × El) : Bool := okAt (p.1, p.2.x)
theorem all_map (L : List (Int × El)) : (L.map (fun p => (p.1, p.2.x))).all okAt = L.all okE := by
  induction L with
  | nil => rfl
  | cons p L ih => rw [List.map_cons, List.all_cons, List.all_cons, ih]; rfl
structure Cnt (w : World) (L : List (Int × El)) (k : Nat) (U : Nat → Prop) (A : World) : Prop where
  r : A.heap[w.heap.size + 1]? = some (.cells #[.bool false] 4 (0, 0))
  n : A.heap[w.heap.size + 2]? = some (.cells #[.int .i64 k] 3 (0, 0))
  ur : U (w.heap.size + 1)
  un : U (w.heap.size + 2)
  bw : Below w.heap.size w A
  sz : w.heap.size + 4 ≤ A.heap.size
  kl : k ≤ 200
  ok : (L.take k).all okE = true
structure Met (w : World) (b : Bool) (U : Nat → Prop) (A : World) : Prop where
  r : A.heap[w.heap.size + 1]? = some (.cells #[.bool false] 4 (0, 0))
  ur : U (w.heap.size + 1)
  bw : Below w.heap.size w A
  sz : w.heap.size + 4 ≤ A.heap.size
  no : b = false
theorem Cnt.chg {w : World} {L : List (Int × El)} {k : Nat} {U : Nat → Prop} {A B : World} (h : Cnt w L k U A) (hc : Chg (fun j => ¬ U j ∧ ¬ j < w.heap.size) A B) : Cnt w L k U B :=
  ⟨hc.heap h.r (fun e => e.1 h.ur), hc.heap h.n (fun e => e.1 h.un), h.ur, h.un, Below.chg h.bw hc (by have := h.sz; omega) (fun _ hk => Nat.le_of_not_lt hk.2), Nat.le_trans h.sz hc.size, h.kl, h.ok⟩
theorem Met.chg {w : World} {b : Bool} {U : Nat → Prop} {A B : World} (h : Met w b U A) (hc : Chg (fun j => ¬ U j ∧ ¬ j < w.heap.size) A B) : Met w b U B :=
  ⟨hc.heap h.r (fun e => e.1 h.ur), h.ur, Below.chg h.bw hc (by have := h.sz; omega) (fun _ hk => Nat.le_of_not_lt hk.2), Nat.le_trans h.sz hc.size, h.no⟩
theorem Cnt.step {w : World} {L : List (Int × El)} {k : Nat} {U U' : Nat → Prop} {A B : World} (h : Cnt w L k U A) (hb : Below A.heap.size A B) (hU : ∀ j, U j → U' j) : Cnt w L k U' B :=
  ⟨(hb.block _ (Array.getElem?_eq_some_iff.1 h.r).1).trans h.r, (hb.block _ (Array.getElem?_eq_some_iff.1 h.n).1).trans h.n, hU _ h.ur, hU _ h.un, Below.chg h.bw (Chg.of_below (S := fun _ => False) hb) (by have := h.sz; omega) (fun _ h => h.elim), Nat.le_trans h.sz hb.size, h.kl, h.ok⟩
set_option maxRecDepth 100000 in
set_option maxHeartbeats 4000000 in
theorem shaped_c (x : Nd) (a : Option Addr) (c : Nat) (w : World) (hC : Kd.C k24 w a x.f2.length x.f2) (hc : x.f2.length ≤ c) (hk : ∀ p ∈ pre 1 x, p.2.f2.length ≤ 1000) :
    Calls Tryd.prog 34 #[.agg #[.int .i64 x.f0, .string x.f1, .slice a x.f2.length c]] w fun e w' => e = .returned (.bool (shaped x)) ∧ Below w.heap.size w w' := by
  obtain ⟨hmap, hall⟩ := preE_spec w _ ⟨x, a, c⟩ 1 (Nat.lt_succ_self _) hC hc
  have hk' : ∀ p ∈ preE w 1 ⟨x, a, c⟩, p.2.x.f2.length ≤ 1000 := fun p hp => hk (p.1, p.2.x) (by rw [← hmap]; exact List.mem_map.2 ⟨p, hp, rfl⟩)
  have hit := trees_it (9 - 1) (by decide) w ⟨x, a, c⟩ (w.heap.size + 3) hC hc hk'
  obtain ⟨L, hL⟩ : ∃ L, preE w 1 ⟨x, a, c⟩ = L := ⟨_, rfl⟩
  rw [hL] at hit hall hmap
  have hsh : shaped x = (decide (L.length ≤ 200) && L.all okE) := by
    unfold shaped
    rw [← hmap, all_map, List.length_map]
  have HS := Lib.hid hsh
  have HALL := Lib.hid hall
  have HIT := Lib.hid hit
  obtain ⟨b, hb⟩ : ∃ b, shaped x = b := ⟨_, rfl⟩
  rw [hb] at HS ⊢
  clear hk hk' hC hc hit hall hmap hsh hL hb
  refine (callsIn_wide (n := 9)).1 ?_
  refine callsIn_of_wp_marks Tryd.func34 rfl trivial ?_ rfl
  simp only [Tryd.ntmps34, List.size_toArray, List.length_cons, List.length_nil, Nat.reduceAdd, Nat.reduceSub, Array.replicate_succ, Array.replicate_zero, List.push_toArray, List.append_toArray, List.nil_append, List.cons_append]
  gi_wp2_with fail
  refine ⟨trivial, (callsIn_wide.2 (trees_any x.f0 x.f1 a x.f2.length c _)).mono ?_⟩
  rintro e w2 ⟨rfl, rfl⟩
  gi_wp2_with fail
  have hsz : ((((w.alloc (.cells #[.int .i64 x.f0, .string x.f1, .slice a x.f2.length c] 24)).alloc (.cells #[.bool false] 4)).alloc (.cells #[.int .i64 0] 3)).alloc (.cells #[.int .i64 x.f0, .string x.f1, .slice a x.f2.length c] 24)).heap.size = w.heap.size + 4 := by simp
  have hB0 : Below w.heap.size w ((((w.alloc (.cells #[.int .i64 x.f0, .string x.f1, .slice a x.f2.length c] 24)).alloc (.cells #[.bool false] 4)).alloc (.cells #[.int .i64 0] 3)).alloc (.cells #[.int .i64 x.f0, .string x.f1, .slice a x.f2.length c] 24)) := bl_alloc (bl_alloc (bl_alloc (bl_alloc (Below.refl _ _) _) _) _) _
  have z1 : (((w.alloc (.cells #[.int .i64 x.f0, .string x.f1, .slice a x.f2.length c] 24)).alloc (.cells #[.bool false] 4)).alloc (.cells #[.int .i64 0] 3)).heap[w.heap.size + 2]? = some (.cells #[.int .i64 0] 3 (0, 0)) := by
    have := World.alloc_heap_new ((w.alloc (.cells #[.int .i64 x.f0, .string x.f1, .slice a x.f2.length c] 24)).alloc (.cells #[.bool false] 4)) (.cells #[.int .i64 0] 3)
    simpa using this
  have z2 : (((w.alloc (.cells #[.int .i64 x.f0, .string x.f1, .slice a x.f2.length c] 24)).alloc (.cells #[.bool false] 4)).alloc (.cells #[.int .i64 0] 3)).heap[w.heap.size + 1]? = some (.cells #[.bool false] 4 (0, 0)) := by
    have := World.alloc_heap_new (w.alloc (.cells #[.int .i64 x.f0, .string x.f1, .slice a x.f2.length c] 24)) (.cells #[.bool false] 4)
    refine ((Chg.refl (fun _ => False) _).alloc _).heap ?_ (by simp)
    simpa using this
  have k1 : ((((w.alloc (.cells #[.int .i64 x.f0, .string x.f1, .slice a x.f2.length c] 24)).alloc (.cells #[.bool false] 4)).alloc (.cells #[.int .i64 0] 3)).alloc (.cells #[.int .i64 x.f0, .string x.f1, .slice a x.f2.length c] 24)).heap[w.heap.size + 1]? = some (.cells #[.bool false] 4 (0, 0)) :=
    ((Chg.refl (fun _ => False) _).alloc _).heap z2 (by simp)
  have k2 : ((((w.alloc (.cells #[.int .i64 x.f0, .string x.f1, .slice a x.f2.length c] 24)).alloc (.cells #[.bool false] 4)).alloc (.cells #[.int .i64 0] 3)).alloc (.cells #[.int .i64 x.f0, .string x.f1, .slice a x.f2.length c] 24)).heap[w.heap.size + 2]? = some (.cells #[.int .i64 (0 : Nat)] 3 (0, 0)) :=
    ((Chg.refl (fun _ => False) _).alloc _).heap z1 (by simp)
  have k3 : ((((w.alloc (.cells #[.int .i64 x.f0, .string x.f1, .slice a x.f2.length c] 24)).alloc (.cells #[.bool false] 4)).alloc (.cells #[.int .i64 0] 3)).alloc (.cells #[.int .i64 x.f0, .string x.f1, .slice a x.f2.length c] 24)).heap[w.heap.size + 3]? = some (.cells #[.int .i64 x.f0, .string x.f1, .slice a x.f2.length c] 24 (0, 0)) := by
    have := World.alloc_heap_new (((w.alloc (.cells #[.int .i64 x.f0, .string x.f1, .slice a x.f2.length c] 24)).alloc (.cells #[.bool false] 4)).alloc (.cells #[.int .i64 0] 3)) (.cells #[.int .i64 x.f0, .string x.f1, .slice a x.f2.length c] 24)
    simpa using this
  obtain ⟨Z, hZ⟩ : ∃ Z, ((((w.alloc (.cells #[.int .i64 x.f0, .string x.f1, .slice a x.f2.length c] 24)).alloc (.cells #[.bool false] 4)).alloc (.cells #[.int .i64 0] 3)).alloc (.cells #[.int .i64 x.f0, .string x.f1, .slice a x.f2.length c] 24)) = Z := ⟨_, rfl⟩
  rw [hZ] at hsz hB0 k1 k2 k3 ⊢
  clear hZ z1 z2
  refine wpIn_range_itK rfl (by decide) (gf := 61) (lb := #[.pointer (some ⟨w.heap.size + 3, 0, none⟩)]) rfl trivial (enters_of Tryd.func61 (by kernel_rfl) rfl)
    HIT.out (fun j hj => by omega) (fun j => j = w.heap.size + 1 ∨ j = w.heap.size + 2) (fun j hj => ⟨by omega, by omega⟩)
    (fun W hc hs2 => ⟨hc.heap k3 (by simp), by rintro ((e | e) | (e | e)) <;> omega, Below.chg hB0 hc (by omega) (fun _ h => h.elim), by have := hc.size; omega⟩) (fun _ => rfl)
    (fun k U A => Cnt w L k U A) (fun cd _ U A => cd = .ret ∧ Met w b U A) (fun k U A h => h.kl)
    (fun k U A B h _ hc => h.chg hc) (fun cd k U A B h hc => ⟨h.1, h.2.chg hc⟩) (fun _ _ h _ => h) ⟨k1, k2, .inl rfl, .inr rfl, hB0, by omega, by omega, rfl⟩
    (fun p a' A => ∃ nb : Nat, Z.heap.size + 2 ≤ nb ∧ A.heap[nb]? = some (.cells #[.int .i64 p.2.x.f0, .string p.2.x.f1, .slice p.2.a p.2.x.f2.length p.2.c] 24 (0, 0)) ∧ ∃ v0 v1 v6 v7 v8 v9 v10 v11 v12 v13 v14 v15 v16 v17 v18 v19 v20 v21 v22 v23 v24 v25 v26 v27 v28 : Value, a' = { tmps := #[v0, v1, .pointer (some ⟨w.heap.size + 1, 0, none⟩), .pointer (some ⟨w.heap.size + 2, 0, none⟩), .int .i64 p.1, .pointer (some ⟨nb, 0, none⟩), v6, v7, v8, v9, v10, v11, v12, v13, v14, v15, v16, v17, v18, v19, v20, v21, v22, v23, v24, v25, v26, v27, v28], defers := [] })
    ?hAx ?assign ?body ?done ?stop
  case hAx =>
    rintro p a' A B ⟨nb, h1, h2, h3⟩ hc
    exact ⟨nb, h1, hc.heap h2 (fun h => by rcases h with h | h <;> omega), h3⟩
  case assign =>
    intro l k p U A K hx hi hU hs2 hK
    simp only [El.v]
    gi_wp2_with fail
    have hbn := bl_alloc (Below.refl A.heap.size A) (.cells #[.int .i64 p.2.x.f0, .string p.2.x.f1, .slice p.2.a p.2.x.f2.length p.2.c] 24)
    exact hK _ (fun j => U j ∨ j = A.heap.size) _ ⟨fun j hj => hj.imp id (fun e => by omega), fun j hj => by
      rcases hj with hj | hj
      · have := (hU j hj).1; simp; omega
      · simp; omega, (Chg.refl _ _).alloc _⟩ (hi.step hbn (fun _ h => .inl h)) ⟨A.heap.size, hs2, World.alloc_heap_new A _, _, _, _, _, _, _, _, _, _, _, _, _, _, _, _, _, _, _, _, _, _, _, _, _, _, rfl⟩
  case body =>
    rintro k p U a' A hr0 hx hI hU hs2 ⟨nb, hnb, hrow, v0, v1, v6, v7, v8, v9, v10, v11, v12, v13, v14, v15, v16, v17, v18, v19, v20, v21, v22, v23, v24, v25, v26, v27, v28, rfl⟩
    have cR := cell_of_row A (w.heap.size + 1) 0 _ _ _ hI.r
    have cN := cell_of_row A (w.heap.size + 2) 0 _ _ _ hI.n
    have c0 := cell_of_row A nb 0 _ _ _ hrow
    have c1 := cell_of_row A nb 1 _ _ _ hrow
    have c2 := cell_of_row A nb 2 _ _ _ hrow
    simp at cR cN c0 c1 c2
    have hkl := hI.kl
    have hsA := hI.sz
    have q1 : w.heap.size + 1 ≠ nb := by omega
    have q2 : w.heap.size + 2 ≠ nb := by omega
    obtain ⟨i, hi⟩ : ∃ i : Int, (k : Int) + 1 = i := ⟨_, rfl⟩
    have hw : wrap64 ((k : Int) + 1) = i := by unfold wrap64; omega
    have HI := Lib.hid hI
    have HX := Lib.hid hx
    have HU := Lib.hid hU
    have HIi := Lib.hid hi
    have hlen : k < L.length := (List.getElem?_eq_some_iff.1 hx).1
    have hUB : ∀ B, Chg (fun j => j = w.heap.size + 1 ∨ j = w.heap.size + 2) A B → UStep U A U B := fun B hc => ⟨fun _ h => .inl h, fun j hj => Nat.lt_of_lt_of_le (HU.out j hj).1 hc.size, hc.mono (fun j hj => hj.elim (fun e => e ▸ HI.out.ur) (fun e => e ▸ HI.out.un))⟩
    have HUB := Lib.hid hUB
    have HLEN := Lib.hid hlen
    have hmet : ∀ B, Chg (fun j => j = w.heap.size + 1 ∨ j = w.heap.size + 2) A B → B.heap[w.heap.size + 1]? = some (.cells #[.bool false] 4 (0, 0)) → b = false → Met w b U B := fun B hc hr hbf =>
      ⟨hr, HI.out.ur, Below.chg HI.out.bw hc (by omega) (fun j hj => by omega), Nat.le_trans HI.out.sz hc.size, hbf⟩
    have HMET := Lib.hid hmet
    clear hI hx hU hi hlen hUB hmet
    have fR : A.frozen? ⟨w.heap.size + 1, 0, none⟩ = false := Boxed.frozen HI.out.r
    have fN : A.frozen? ⟨w.heap.size + 2, 0, none⟩ = false := Boxed.frozen HI.out.n
    have n12 : w.heap.size + 1 ≠ w.heap.size + 2 := by omega
    have n21 : w.heap.size + 2 ≠ w.heap.size + 1 := by omega
    have hcs : ∀ v, Chg (fun j => j = w.heap.size + 1 ∨ j = w.heap.size + 2) A (A.setCell ⟨w.heap.size + 2, 0, none⟩ v) := fun v => (Chg.refl _ A).setCell (.inr rfl) v
    have HCS := Lib.hid hcs
    clear hcs
    by_cases h1 : 200 < (k : Int) + 1
    · have g1 := eq_true h1
      have hbf : RowKit.Hid (b = false) := by
        have e2 := HLEN.out
        rw [HS.out, decide_eq_false (show ¬ L.length ≤ 200 by omega)]; rfl
      clear h1
      gi_wp2_with fail
      refine ⟨trivial, ?_⟩
      gi_wp2_with fail
      refine ⟨U, HUB.out _ ((HCS.out _).setCell (.inl rfl) _), rfl, HMET.out _ ((HCS.out _).setCell (.inl rfl) _) (Boxed.set _ (Boxed.other HI.out.r n12 _)) hbf.out⟩
    have g1 := eq_false h1
    have HK1 := Lib.hid (show k + 1 ≤ 200 by omega)
    clear h1
    have hno : ∀ _ : okE p = false, b = false := fun h => by rw [HS.out, all_not HX.out h, Bool.and_false]
    have HNO := Lib.hid hno
    clear hno
    by_cases h2 : 12 < p.1
    · have g2 := eq_true h2
      have hbf : RowKit.Hid (b = false) := HNO.out (by unfold okE okAt; rw [decide_eq_false (show ¬ p.1 ≤ 12 by omega)]; rfl)
      clear h2
      gi_wp2_with fail
      refine ⟨trivial, ?_⟩
      gi_wp2_with fail
      refine ⟨U, HUB.out _ ((HCS.out _).setCell (.inl rfl) _), rfl, HMET.out _ ((HCS.out _).setCell (.inl rfl) _) (Boxed.set _ (Boxed.other HI.out.r n12 _)) hbf.out⟩
    have g2 := eq_false h2
    have HD := Lib.hid (show p.1 ≤ 12 by omega)
    clear h2
    have hA2 : Below w.heap.size w (A.setCell ⟨w.heap.size + 2, 0, none⟩ (.int .i64 ((k : Int) + 1))) := Below.chg HI.out.bw (HCS.out _) (by omega) (fun j hj => by omega)
    have hpm := HALL.out p (List.mem_of_getElem? HX.out)
    have HC := Lib.hid (one_c p.2 _ (Kd.C_below hpm.2 hA2) hpm.1)
    have HB2 := Lib.hid hA2
    clear hA2 hpm
    gi_wp2_with fail
    refine ⟨trivial, ((callsIn_wide.2 HC.out).inRound _).mono ?_⟩
    rintro e w3 ⟨rfl, hb3⟩
    have hch : Chg (fun j => j = w.heap.size + 1 ∨ j = w.heap.size + 2) A w3 := (HCS.out _).trans (Chg.of_below hb3)
    have hr3 : w3.heap[w.heap.size + 1]? = some (.cells #[.bool false] 4 (0, 0)) := (hb3.block _ (by simp; omega)).trans (Boxed.other HI.out.r n12 _)
    have hn3 : w3.heap[w.heap.size + 2]? = some (.cells #[.int .i64 ((k : Int) + 1)] 3 (0, 0)) := (hb3.block _ (by simp; omega)).trans (Boxed.set _ HI.out.n)
    have hq3 : w3.heap[nb]? = some (.cells #[.int .i64 p.2.x.f0, .string p.2.x.f1, .slice p.2.a p.2.x.f2.length p.2.c] 24 (0, 0)) := (hb3.block _ (by simp; exact (Array.getElem?_eq_some_iff.1 hrow).1)).trans (((Chg.refl (fun j => j = w.heap.size + 2) A).setCell rfl _).heap hrow (by omega))
    have d1 := cell_of_row w3 nb 1 _ _ _ hq3
    have dR := cell_of_row w3 (w.heap.size + 1) 0 _ _ _ hr3
    simp at d1 dR
    have fR3 : w3.frozen? ⟨w.heap.size + 1, 0, none⟩ = false := Boxed.frozen hr3
    have HCH := Lib.hid hch
    have HR3 := Lib.hid hr3
    have HN3 := Lib.hid hn3
    clear hch hr3 hn3 hq3 hb3 c0 c1 c2 cR cN hrow
    by_cases h3 : one p.2.x = true
    · rw [h3]
      by_cases h4 : 4000 < (p.2.x.f1.size : Int)
      · have g4 := eq_true h4
        have hbf : RowKit.Hid (b = false) := HNO.out (by unfold okE okAt; rw [decide_eq_false (show ¬ p.2.x.f1.size ≤ 4000 by omega), Bool.and_false, Bool.and_false])
        clear h4 h3
        gi_wp2_with fail
        exact ⟨U, HUB.out _ (HCH.out.setCell (.inl rfl) _), rfl, HMET.out _ (HCH.out.setCell (.inl rfl) _) (Boxed.set _ HR3.out) hbf.out⟩
      · have g4 := eq_false h4
        have hok : okE p = true := by
          unfold okE okAt
          rw [h3, decide_eq_true HD.out, decide_eq_true (show p.2.x.f1.size ≤ 4000 by omega)]; rfl
        have HOK := Lib.hid hok
        clear h4 h3 hok
        gi_wp2_with fail
        exact ⟨U, HUB.out _ HCH.out, HR3.out, by have := HN3.out; rwa [show (k : Int) + 1 = ((k + 1 : Nat) : Int) by omega] at this, HI.out.ur, HI.out.un, Below.chg HI.out.bw HCH.out (by have := HI.out.sz; omega) (fun j hj => by omega), Nat.le_trans HI.out.sz HCH.out.size, HK1.out, take_all HX.out HI.out.ok HOK.out⟩
    · have h5 : one p.2.x = false := by simpa using h3
      rw [h5]
      have hbf : RowKit.Hid (b = false) := HNO.out (by unfold okE okAt; rw [h5, Bool.false_and, Bool.and_false])
      clear h3 h5
      gi_wp2_with fail
      exact ⟨U, HUB.out _ (HCH.out.setCell (.inl rfl) _), rfl, HMET.out _ (HCH.out.setCell (.inl rfl) _) (Boxed.set _ HR3.out) hbf.out⟩
  case done =>
    rintro U B hI _ hU hs2 hK
    have cR := cell_of_row B (w.heap.size + 1) 0 _ _ _ hI.r
    simp at cR
    have fR : B.frozen? ⟨w.heap.size + 1, 0, none⟩ = false := Boxed.frozen hI.r
    have hbt : RowKit.Hid (b = true) := by
      have h1 := hI.kl
      have h2 := hI.ok
      rw [List.take_length] at h2
      rw [HS.out, h2, decide_eq_true h1]; rfl
    have HI := Lib.hid hI
    have HK := Lib.hid hK
    clear hI hK
    gi_wp2_with fail
    have hT : (B.setCell ⟨w.heap.size + 1, 0, none⟩ (.bool true)).heap[Z.heap.size]? = some (.deferred (some [])) := ((Chg.refl (fun j => j = w.heap.size + 1) B).setCell rfl _).heap HK.out (by omega)
    refine ⟨by simp, .inl ⟨_, _, rfl, run_takeDeferred hT, ?_⟩⟩
    have hrr : ∀ o, ((B.setCell ⟨w.heap.size + 1, 0, none⟩ (.bool true)).putObj Z.heap.size o).cell? ⟨w.heap.size + 1, 0, none⟩ = some (.bool true) := fun o =>
      Boxed.cell (t := 4) (((Chg.refl (fun j => j = Z.heap.size) _).putObj rfl o).heap (Boxed.set (.bool true) HI.out.r) (by omega))
    refine ⟨.bool true, by simp [results, Tryd.results34, go_sem, hrr], by rw [hbt.out], ?_⟩
    exact Below.chg (Below.chg HI.out.bw ((Chg.refl (fun j => j = w.heap.size + 1) B).setCell rfl _) (by have := HI.out.sz; omega) (fun j hj => by omega)) ((Chg.refl (fun z => w.heap.size ≤ z) _).putObj (by omega) _) (by have := HI.out.sz; simp; omega) (fun z hz => hz)
  case stop =>
    rintro cd k U B hk ⟨rfl, hM⟩ hU hs2 hK
    have cR := cell_of_row B (w.heap.size + 1) 0 _ _ _ hM.r
    simp at cR
    have HM := Lib.hid hM
    have HK := Lib.hid hK
    clear hM hK
    gi_wp2_with fail
    refine ⟨by simp, .inl ⟨_, _, rfl, run_takeDeferred HK.out, ?_⟩⟩
    have hrr : ∀ o, (B.putObj Z.heap.size o).cell? ⟨w.heap.size + 1, 0, none⟩ = some (.bool false) := fun o =>
      Boxed.cell (t := 4) (((Chg.refl (fun j => j = Z.heap.size) _).putObj rfl o).heap HM.out.r (by omega))
    refine ⟨.bool false, by simp [results, Tryd.results34, go_sem, hrr], by rw [HM.out.no], ?_⟩
    exact Below.chg HM.out.bw ((Chg.refl (fun z => w.heap.size ≤ z) _).putObj (by omega) _) (by have := HM.out.sz; omega) (fun z hz => hz)
end Tlv
end Go.Proofs.YthnddhgkjkpmfaaDoor
/- tlv's Same: slices.EqualFunc over rows of trees, and trees. -/
namespace Go.Proofs.YthnddhgkjkpmfaaDoor
set_option linter.unusedSimpArgs false
set_option linter.unusedVariables false
namespace Tlv
open Go.RowKit Go.Shelf Go.Proofs.YthnddhgkjkpmfaaDoorW.PrintWords Go.Proofs.YthnddhgkjkpmfaaDoor.KTlv Go.Proofs.YthnddhgkjkpmfaaDoor.PureB
attribute [local go_sem] Oper.semAt_some
def SameAt (x : Nd) : Prop := ∀ (y : Nd) (A A' : Option Addr) (c c' : Nat) (w : World), Kd.C k24 w A x.f2.length x.f2 → Kd.C k24 w A' y.f2.length y.f2 →
  Calls Tryd.prog 23 #[.agg #[.int .i64 x.f0, .string x.f1, .slice A x.f2.length c], .agg #[.int .i64 y.f0, .string y.f1, .slice A' y.f2.length c']] w fun e w' => e = .returned (.bool (same x y)) ∧ Below w.heap.size w w'
theorem sameL_len : ∀ xs ys : List Nd, xs.length ≠ ys.length → sameL xs ys = false := by
  intro xs ys h
  cases hs : sameL xs ys with
  | false => rfl
  | true => exact absurd (congrArg List.length ((sameL_iff xs ys).1 hs)) h
set_option maxRecDepth 100000 in
set_option maxHeartbeats 4000000 in
theorem eqf_c (xs ys : List Nd) (A A' : Option Addr) (c c' : Nat) (w : World) (hx : Kd.C k24 w A xs.length xs) (hy : Kd.C k24 w A' ys.length ys) (hS : ∀ x ∈ xs, SameAt x) :
    Calls Tryd.prog 37 #[.slice A xs.length c, .slice A' ys.length c', .func (.func 23) #[] #[]] w
      fun e w' => e = .returned (.bool (sameL xs ys)) ∧ Below w.heap.size w w' := by
  obtain ⟨es, h1, hr, he⟩ := rows_of hx
  obtain ⟨es', h1', hr', he'⟩ := rows_of hy
  have hmx := Kd.C_max hx
  have hl : es.length = xs.length := by rw [← h1, List.length_map]
  have hl' : es'.length = ys.length := by rw [← h1', List.length_map]
  by_cases hn : xs.length = ys.length
  case neg =>
    have hf := sameL_len xs ys hn
    have hn2 : ¬ ((xs.length : Int) = (ys.length : Int)) := by omega
    clear hS hx hy hr hr' he he'
    go_enter Tryd.func37, Tryd.ntmps37
    go_wp2_with fail
    all_goals (go_ret; exact ⟨by rw [hf]; rfl, Below.refl _ _⟩)
  obtain ⟨n, hN⟩ : ∃ n : Nat, xs.length = n := ⟨_, rfl⟩
  have hN' : ys.length = n := by omega
  rw [hN, hN']
  have HS := Lib.hid hS
  have HR := Lib.hid hr
  have HR' := Lib.hid hr'
  have HE := Lib.hid he
  have HE' := Lib.hid he'
  have H1 := Lib.hid h1
  have H1' := Lib.hid h1'
  have HL : RowKit.Hid (es.length = n) := by rw [hl, hN]; rfl
  have HL' : RowKit.Hid (es'.length = n) := by rw [hl', hN']; rfl
  rw [hN] at hmx
  clear hS hr hr' he he' hx hy hl hl' hn hN hN' h1 h1'
  go_enter Tryd.func37, Tryd.ntmps37
  go_wp2_with fail
  go_loopw [17] (fun v wr => ∃ k : Nat, v = .int .i64 k ∧ k ≤ n ∧ Below w.heap.size w wr ∧ RowKit.Hid (sameL xs ys = sameL (xs.drop k) (ys.drop k)))
    (fun v _ => n - (intOf v).toNat)
  case atStart => exact ⟨0, rfl, Nat.zero_le _, Below.refl _ _, rfl⟩
  case round =>
    obtain ⟨k, rfl, hk, hb, hq⟩ := hrel
    have HB := Lib.hid hb
    by_cases hlt : k < n
    · obtain ⟨e, hee⟩ : ∃ e, es[k]? = some e := ⟨_, List.getElem?_eq_getElem (by rw [HL.out]; omega)⟩
      obtain ⟨e', hee'⟩ : ∃ e, es'[k]? = some e := ⟨_, List.getElem?_eq_getElem (by rw [HL'.out]; omega)⟩
      obtain ⟨ad, hA, h3⟩ := (HR.out.below hb).2 (by intro h; rw [h] at hee; simp at hee)
      obtain ⟨ad', hA', h3'⟩ := (HR'.out.below hb).2 (by intro h; rw [h] at hee'; simp at hee')
      obtain ⟨d0, d1, d2⟩ := h3 k e hee
      obtain ⟨g0, g1, g2⟩ := h3' k e' hee'
      have hxk : xs[k]? = some e.x := by rw [← H1.out, List.getElem?_map, hee]; rfl
      have hyk : ys[k]? = some e'.x := by rw [← H1'.out, List.getElem?_map, hee']; rfl
      have hst : sameL (xs.drop k) (ys.drop k) = (same e.x e'.x && sameL (xs.drop (k + 1)) (ys.drop (k + 1))) := by
        obtain ⟨hi, hx⟩ := List.getElem?_eq_some_iff.1 hxk
        obtain ⟨hi', hx'⟩ := List.getElem?_eq_some_iff.1 hyk
        rw [List.drop_eq_getElem_cons hi, List.drop_eq_getElem_cons hi', hx, hx']
        rfl
      have HST := Lib.hid hst
      have hSx : SameAt e.x := HS.out _ (List.mem_of_getElem? hxk)
      have hC := (HE.out e (List.mem_of_getElem? hee)).2
      have hC' := (HE'.out e' (List.mem_of_getElem? hee')).2
      have HSX := Lib.hid (fun W (hW : Below w.heap.size w W) => hSx e'.x e.a e'.a e.c e'.c W (Kd.C_below hC hW) (Kd.C_below hC' hW))
      have q0 : (k : Int) < n := by omega
      have p0 : 0 ≤ (k : Int) := by omega
      have hlt1 := lt_of_cell d0
      have hlt2 := lt_of_cell d1
      have hlt3 := lt_of_cell d2
      have hlt1' := lt_of_cell g0
      have hlt2' := lt_of_cell g1
      have hlt3' := lt_of_cell g2
      have hw1 : wrap64 ((k : Int) + 1) = ((k + 1 : Nat) : Int) := by unfold wrap64; omega
      clear hee hee' h3 h3' hxk hyk hst hSx hC hC' hb
      rw [hA, hA']
      replace p0 := eq_true p0
      replace q0 := eq_true q0
      go_wp2_with fail
      have hB1 := bl_alloc (bl_alloc HB.out (.cells #[.int .i64 e.x.f0, .string e.x.f1, .slice e.a e.x.f2.length e.c] 24)) (.cells #[.int .i64 e'.x.f0, .string e'.x.f1, .slice e'.a e'.x.f2.length e'.c] 24)
      refine (HSX.out _ hB1).mono ?_
      rintro r W2 ⟨rfl, hb2⟩
      have HB2 := Lib.hid (bl_trans hB1 hb2)
      clear hb2 hB1
      cases hs : same e.x e'.x with
      | true =>
        go_wp2_with fail
        go_roundw
        case rel => exact ⟨k + 1, rfl, by omega, HB2.out, by rw [hq.out, HST.out, hs]; rfl⟩
        case measure => simp [intOf]; omega
      | false =>
        go_wp2_with fail
        go_ret
        exact ⟨by rw [hq.out, HST.out, hs]; rfl, HB2.out⟩
    · obtain rfl : k = n := by omega
      have hfin : sameL xs ys = true := by
        rw [hq.out, List.drop_eq_nil_of_le (by rw [← H1.out, List.length_map, HL.out]; exact Nat.le_refl _), List.drop_eq_nil_of_le (by rw [← H1'.out, List.length_map, HL'.out]; exact Nat.le_refl _)]
        rfl
      clear hq
      go_wp2_with fail
      go_ret
      exact ⟨by rw [hfin]; rfl, HB.out⟩
set_option maxHeartbeats 4000000 in
theorem Same_step (t t' : Int) (s s' : ByteArray) (xs ys : List Nd) (A A' : Option Addr) (c c' : Nat) (w : World) (hx : Kd.C k24 w A xs.length xs) (hy : Kd.C k24 w A' ys.length ys) (hS : ∀ k ∈ xs, SameAt k) :
    Calls Tryd.prog 23 #[.agg #[.int .i64 t, .string s, .slice A xs.length c], .agg #[.int .i64 t', .string s', .slice A' ys.length c']] w
      fun e w' => e = .returned (.bool (decide (t = t') && (decide (s = s') && sameL xs ys))) ∧ Below w.heap.size w w' := by
  have HQ := Lib.hid (fun W (hW : Below w.heap.size w W) => eqf_c xs ys A A' c c' W (Kd.C_below hx hW) (Kd.C_below hy hW) hS)
  obtain ⟨nx, hnx⟩ : ∃ n, xs.length = n := ⟨_, rfl⟩
  obtain ⟨ny, hny⟩ : ∃ n, ys.length = n := ⟨_, rfl⟩
  obtain ⟨b, hb⟩ : ∃ b, sameL xs ys = b := ⟨_, rfl⟩
  rw [hnx, hny, hb] at HQ
  rw [hnx, hny, hb]
  clear hx hy hS hnx hny hb
  have HB := Lib.hid (bl_alloc (bl_alloc (Below.refl w.heap.size w) (.cells #[.int .i64 t, .string s, .slice A nx c] 24)) (.cells #[.int .i64 t', .string s', .slice A' ny c'] 24))
  by_cases h0 : t = t'
  · subst h0
    by_cases h1 : s = s'
    · subst h1
      go_enter Tryd.func23, Tryd.ntmps23
      go_wp2_with fail
      refine (HQ.out _ HB.out).mono ?_
      rintro r W2 ⟨rfl, hb2⟩
      have HB2 := Lib.hid (bl_trans HB.out hb2)
      clear hb2 HQ
      go_wp2_with fail
      go_ret
      exact ⟨by simp, HB2.out⟩
    · have h2 : decide (s = s') = false := decide_eq_false h1
      have e1 : (s.toList == s'.toList) = false := by
        rw [beq_eq_false_iff_ne]
        intro h; exact h1 (toList_inj.1 h)
      rw [h2]
      clear h2 h1
      go_enter Tryd.func23, Tryd.ntmps23
      go_wp2_with fail
      go_ret
      exact ⟨by simp, HB.out⟩
  · have h2 : decide (t = t') = false := decide_eq_false h0
    have e1 : (t == t') = false := by rw [beq_eq_false_iff_ne]; exact h0
    rw [h2]
    clear h2 h0
    go_enter Tryd.func23, Tryd.ntmps23
    go_wp2_with fail
    go_ret
    exact ⟨by simp, HB.out⟩
theorem kid_lt {t : Int} {s : ByteArray} {ks : List Nd} {k : Nd} (h : k ∈ ks) : SizeOf.sizeOf k < SizeOf.sizeOf (S24.mk t s ks) := by
  have := List.sizeOf_lt_of_mem h
  simp only [S24.mk.sizeOf_spec]
  omega
theorem Same_c (x : Nd) : SameAt x := by
  suffices h : ∀ n, ∀ x : Nd, SizeOf.sizeOf x < n → SameAt x from h _ x (Nat.lt_succ_self _)
  intro n
  induction n with
  | zero => intro x hx; exact absurd hx (Nat.not_lt_zero _)
  | succ n ih =>
    intro x hx
    obtain ⟨t, s, ks⟩ := x
    intro y A A' c c' w h1 h2
    have := Same_step t y.f0 s y.f1 ks y.f2 A A' c c' w h1 h2 (fun k hk => ih k (by have := kid_lt (t := t) (s := s) hk; omega))
    rw [same]
    exact this
end Tlv
end Go.Proofs.YthnddhgkjkpmfaaDoor
