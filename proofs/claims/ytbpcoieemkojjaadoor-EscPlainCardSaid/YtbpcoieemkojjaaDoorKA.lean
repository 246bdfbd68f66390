/- KA: several texts of this seat laid as one. -/
import Derived.Test.YtbpcoieemkojjaaDoorProg
import Derived.WalkKit
import Derived.WalkLawsBesides
import Derived.WalkSpells
import Derived.Laws.Rows
import Derived.Laws.Tables
import Derived.Below
import Derived.Lib.Hide
import Derived.Laws.BitsLemmas
import Derived.Laws.BitsAllLaws
import Derived.Lib.ConvBytes
import Derived.Test.YtbpcoieemkojjaaDoorWWords
import Derived.LaidEql
import Derived.Stop.Asserts
import Derived.RowKitTokens
import Derived.Lib.Strings
import Derived.Lib.TrimByte
import Derived.RangeFuncNested
import Derived.RangeFuncBound
import Derived.RangeFuncCalls
import Derived.RangeFuncLeaves
import Derived.Shelf.Abstract
import Derived.Shelf.RegionOpen
import Derived.OwnWalkIn
import Derived.TacticsInMore
import Derived.LoopNIn
import Derived.LoopIn
import Derived.Maps.AppendAt
import Derived.RegionTactic
import Derived.LoopTactic
import Derived.Outline
/- Small lemmas on worlds that all walks of this seat use. -/
namespace Go.Proofs.YtbpcoieemkojjaaDoor
set_option linter.unusedSimpArgs false
set_option linter.unusedVariables false
open Go.RowKit
theorem bl_alloc {a w : World} (h : Below a.heap.size a w) (o : Obj) : Below a.heap.size a (w.alloc o) := h.alloc h.size o
theorem bl_trans {a w w' : World} (h : Below a.heap.size a w) (h' : Below w.heap.size w w') : Below a.heap.size a w' := h.trans (h'.mono h.size)
theorem lt_of_cell {w : World} {a : Addr} {v : Value} (h : w.cell? a = some v) : a.block < w.heap.size := by
  rcases Nat.lt_or_ge a.block w.heap.size with h' | h'
  · exact h'
  · simp [World.cell?, Array.getElem?_eq_none h'] at h
theorem setRow_below {g B : Nat} {a w : World} (h : Below B a w) (hp : B ≤ g) (cs : Array Value) : Below B a (w.setRow g cs) := by
  refine h.trans ⟨rfl, rfl, rfl, by simp [World.setRow], fun k hk => ?_⟩
  simp only [World.setRow, Array.getElem?_modify]
  rw [if_neg (by omega)]
theorem setRow_heap {g : Nat} {w : World} {cs old : Array Value} {t : TypeId} (h : w.heap[g]? = some (.cells old t (0, 0))) : (w.setRow g cs).heap[g]? = some (.cells cs t (0, 0)) := by
  simp only [World.setRow, Array.getElem?_modify, h]
  simp
open Go.Proofs.YtbpcoieemkojjaaDoorW.PrintWords in
/-- '[]byte(s)'. -/
theorem conv_sb {P : Program} (w : World) (src dst e : TypeId) (s : ByteArray) (hs : P.underlying src = some .string) (hd : P.underlying dst = some (.slice e)) (he : P.underlying e = some (.int .u8)) :
    ∃ W cap, (convert src dst (.string s)).run P w = .ok (.slice (some ⟨w.heap.size, 0, none⟩) s.size cap) W ∧ Below w.heap.size w W ∧ W.heap.size = w.heap.size + 1 ∧ s.size ≤ cap ∧
      ∀ j, j < s.size → W.cell? ⟨w.heap.size, j, none⟩ = some (.int .u8 (bt s j)) :=
  ⟨_, _, Lib.run_convert_string_bytes w src dst e s hs hd he,
    ⟨rfl, rfl, rfl, by rw [Lib.bytesWorld_size]; omega, fun k hk => Lib.bytesWorld_at_old w e s k hk⟩, Lib.bytesWorld_size w e s, grownCap_ge _ _ _ _, fun j hj => by
      rw [Lib.bytesWorld_cell w e s j hj, bt, dif_pos (by simpa using hj)]; simp [List.getD, hj]; rfl⟩
theorem or_byte (m b : Int) (h0 : 0 ≤ b) (h1 : b ≤ 255) (hm : -36028797018963968 ≤ m) (hm2 : m ≤ 36028797018963967) : bits .or .i64 (m * 256) b = m * 256 + b := by
  show IntKind.i64.wrap ((BitVec.ofInt 64 (m * 256) ||| BitVec.ofInt 64 b).toNat : Int) = _
  rw [BitVec.toNat_or, BitVec.toNat_ofInt, BitVec.toNat_ofInt]
  rw [show ((2 ^ 64 : Nat) : Int) = 18446744073709551616 from rfl]
  obtain ⟨q, hq⟩ : ∃ q : Nat, ((m * 256) % 18446744073709551616).toNat = 256 * q := ⟨((m * 256) % 18446744073709551616).toNat / 256, by omega⟩
  obtain ⟨c, hc⟩ : ∃ c : Nat, (b % 18446744073709551616).toNat = c := ⟨_, rfl⟩
  have hcb : (c : Int) = b := by omega
  have hj : 256 * q + c = 256 * q ||| c := Nat.two_pow_add_eq_or_of_lt (i := 8) (by omega) q
  rw [hq, hc, ← hj, IntKind.wrap_i64]
  omega
end Go.Proofs.YtbpcoieemkojjaaDoor
/- Go's own errors.As and errors.Is at this seat: closed facts on the entries of internal/reflectlite, and the contracts at nil. -/
namespace Go.Proofs.YtbpcoieemkojjaaDoor
set_option linter.unusedSimpArgs false
set_option linter.unusedVariables false
open Go.RowKit Go.Extern.Stop Go.Stop Go.Extern

/-- errors.As(nil, target). -/
theorem as_nil (t : Value) (w : World) :
    Calls Tryd.prog 43 #[.nilIface, t] w fun e w' => e = .returned (.bool false) ∧ w = w' := by
  go_enter Tryd.func43, Tryd.ntmps43
  go_wp2
  go_ret
  exact ⟨rfl, rfl⟩

/-- errors.Is(nil, x). -/
theorem is_nil (b : Addr) (w : World) :
    Calls Tryd.prog 44 #[.nilIface, .iface 131 (.pointer (some b))] w fun e w' => e = .returned (.bool false) ∧ w = w' := by
  have hn := run_eql_iface_nil_left (P := Tryd.prog) w 131 (.pointer (some b)) Tryd.underlying47
  go_enter Tryd.func44, Tryd.ntmps44
  go_wp2
  go_ret
  exact ⟨rfl, rfl⟩

theorem rlm (z : Sem Value) (f : TypeId → Addr → Nat → Nat → Sem Value) (v : Value) :
    ReflectliteValue.method z f #[v] = (do match ← ReflectliteValue.parts v with | none => z | some (t, a, fl) => f t a fl (fl % 32)) := rfl
theorem rls (v x : Value) : ReflectliteValue.set #[v, x] = (do
    let (some (dst, a, fl), some (src, b, _)) := (← ReflectliteValue.parts v, ← ReflectliteValue.parts x)
      | unsupported (.noEntry "extern/(internal/reflectlite.Value).Set.zeroValue")
    if fl / ReflectliteValue.flagAddr % 2 == 0 then unsupported (.noEntry "extern/(internal/reflectlite.Value).Set.unaddressable")
    let val ← loadVar src b
    if ← Rtype.directlyAssignable dst src then storeVar dst a val
    else if ← Rtype.implements dst src then
      if (← Rtype.kind src) == 20 then
        match val with
        | .nilIface => unsupported (.noEntry "extern/reflectlite: a nil value of one interface type handed on as a value of another")
        | _ => storeVar dst a val
      else storeVar dst a (.iface src val)
    else panicString ("reflectlite.Set: value of type " ++ (← Rtype.spelt src) ++ " is not assignable to type " ++ (← Rtype.spelt dst))
    pure (.tuple #[])) := rfl

theorem eMethodKind (h : Value) (w : World) : (Go.method 262 101 (.agg #[h]) "Kind").run Tryd.prog w = .ok (92, h) w := by kernel_rfl
theorem eMethodElem (h : Value) (w : World) : (Go.method 262 101 (.agg #[h]) "Elem").run Tryd.prog w = .ok (104, .agg #[h]) w := by kernel_rfl
theorem eMethodImplements (h : Value) (w : World) : (Go.method 262 101 (.agg #[h]) "Implements").run Tryd.prog w = .ok (105, .agg #[h]) w := by kernel_rfl
theorem eMethodAssignableTo (h : Value) (w : World) : (Go.method 262 101 (.agg #[h]) "AssignableTo").run Tryd.prog w = .ok (102, .agg #[h]) w := by kernel_rfl
theorem eMethodComparable (v : Value) (w : World) : (Go.method 262 101 v "Comparable").run Tryd.prog w = .ok (103, v) w := by kernel_rfl
theorem eTypeOfES (v : Value) (w : World) : (ReflectliteType.typeOf #[.iface 131 v]).run Tryd.prog w = .ok (.iface 101 (.agg #[.pointer (some ⟨7, 131, none⟩)])) w := by kernel_rfl
/-- the model's entry for (rtype).Comparable, under a name -/
def cmpE : Array Value → Sem Value := ReflectliteType.method fun t => do Rtype.noPackHeld "Comparable" t; pure (.bool (← typeInfo t).comparable)
theorem eComparableES (w : World) : (cmpE #[.agg #[.pointer (some ⟨7, 131, none⟩)]]).run Tryd.prog w = .ok (.bool true) w := by kernel_rfl
theorem eComp : (Tryd.prog.info? 131).map (·.comparable) = some true := by kernel_rfl
theorem eSize : (Tryd.prog.info? 151).map (·.size) = some 1 := by kernel_rfl
theorem eNoIs (v : Value) (xT : TypeId) (w : World) : (Instr.typeAssert (.iface 131 v) xT 112 true).run Tryd.prog w = .ok (.tuple #[.nilIface, .bool false]) w := run_typeAssert_lacksB Tryd.underlying112 (by kernel_rfl) (by kernel_rfl) v xT w
theorem eNoUnwrap (v : Value) (xT : TypeId) (w : World) : (Instr.typeAssert (.iface 131 v) xT 108 true).run Tryd.prog w = .ok (.tuple #[.nilIface, .bool false]) w := run_typeAssert_lacksB Tryd.underlying108 (by kernel_rfl) (by kernel_rfl) v xT w
theorem eNoUnwraps (v : Value) (xT : TypeId) (w : World) : (Instr.typeAssert (.iface 131 v) xT 109 true).run Tryd.prog w = .ok (.tuple #[.nilIface, .bool false]) w := run_typeAssert_lacksB Tryd.underlying109 (by kernel_rfl) (by kernel_rfl) v xT w
end Go.Proofs.YtbpcoieemkojjaaDoor
/- Texts as rows of bytes: small plain laws. No program in sight. -/
namespace Go.Proofs.YtbpcoieemkojjaaDoor.PureB
set_option linter.unusedSimpArgs false
set_option linter.unusedVariables false
open Go.RowKit Go.Proofs.YtbpcoieemkojjaaDoorW.PrintWords
theorem w64 {n : Int} (h : -9223372036854775808 ≤ n) (h2 : n ≤ 9223372036854775807) : wrap64 n = n := by unfold wrap64; omega
theorem son_size (xs : List Int) : (strOfNums xs).size = xs.length := by simp [strOfNums, ByteArray.size]
theorem bt_at' (s : ByteArray) (i : Int) (h : i.toNat < s.size) : bt s i = ((s[i.toNat]'h).toNat : Int) := dif_pos h
theorem bt_nat (s : ByteArray) (i : Nat) (h : i < s.size) : bt s (i : Int) = ((s[i]'h).toNat : Int) := dif_pos (by simpa using h)
theorem bt_out (s : ByteArray) (i : Nat) (h : ¬ i < s.size) : bt s (i : Int) = 0 := dif_neg (by simpa using h)
theorem of_nat (x : Int) (h : 0 ≤ x) (h2 : x < 256) : ((UInt8.ofNat x.toNat).toNat : Int) = x := by rw [UInt8.toNat_ofNat']; omega
theorem bt_son (xs : List Int) (j : Nat) (x : Int) (h : xs[j]? = some x) (h0 : 0 ≤ x) (h1 : x < 256) : bt (strOfNums xs) j = x := by
  obtain ⟨hj, rfl⟩ := List.getElem?_eq_some_iff.1 h
  have hl : j < (strOfNums xs).size := by rw [son_size]; omega
  rw [bt_nat _ _ hl]
  have : (strOfNums xs)[j]'hl = UInt8.ofNat (xs[j]).toNat := by simp [strOfNums, ByteArray.getElem_eq_getElem_data]
  rw [this, of_nat _ h0 h1]
theorem ba_ext {s t : ByteArray} (h : s.size = t.size) (hb : ∀ j : Nat, j < s.size → bt s j = bt t j) : s = t := by
  apply ByteArray.ext
  apply Array.ext
  · exact h
  · intro i h1 h2
    have := hb i h1
    rw [bt_nat s i h1, bt_nat t i h2] at this
    have h3 : s[i]'h1 = t[i]'h2 := UInt8.toNat_inj.1 (by omega)
    exact h3
theorem toList_inj {s t : ByteArray} : s.toList = t.toList ↔ s = t := by
  rw [Lib.toList_data, Lib.toList_data]
  constructor
  · intro h; apply ByteArray.ext; exact Array.toList_inj.1 h
  · rintro rfl; rfl
theorem toList_nil {s : ByteArray} : s.toList = ([] : List UInt8) ↔ s.size = 0 := by
  rw [Lib.toList_data, Array.toList_eq_nil_iff, ← Array.size_eq_zero_iff]
  exact Iff.rfl
theorem toList_len (s : ByteArray) : s.toList.length = s.size := by rw [Lib.toList_data, Array.length_toList]; rfl
theorem bt_app_l (p q : ByteArray) (j : Nat) (h : j < p.size) : bt (p ++ q) j = bt p j := by
  rw [bt_nat (p ++ q) j (by rw [ByteArray.size_append]; omega), bt_nat p j h, ByteArray.getElem_append_left h]
theorem bt_app_r (p q : ByteArray) (j : Nat) : bt (p ++ q) ((p.size : Int) + j) = bt q j := by
  have e : (p.size : Int) + j = ((p.size + j : Nat) : Int) := by omega
  rw [e]
  by_cases h : j < q.size
  · rw [bt_nat (p ++ q) _ (by rw [ByteArray.size_append]; omega), bt_nat q j h, ByteArray.getElem_append_right (by omega)]
    congr 2
    simp
  · rw [bt_out _ _ (by rw [ByteArray.size_append]; omega), bt_out _ _ h]
theorem bt_extract (s : ByteArray) (a b j : Nat) (hj : a + j < b) (hb : b ≤ s.size) : bt (s.extract a b) j = bt s ((a : Int) + j) := by
  have e : (a : Int) + j = ((a + j : Nat) : Int) := by omega
  have hs : (s.extract a b).size = b - a := by simp; omega
  rw [e, bt_nat _ j (by omega), bt_nat s _ (by omega), ByteArray.getElem_extract]
theorem extract_size (s : ByteArray) (a b : Nat) (hb : b ≤ s.size) : (s.extract a b).size = b - a := by simp; omega
theorem one_size (x : UInt8) : (⟨#[x]⟩ : ByteArray).size = 1 := rfl
theorem bt_one (x : UInt8) : bt (⟨#[x]⟩ : ByteArray) 0 = (x.toNat : Int) := rfl
end Go.Proofs.YtbpcoieemkojjaaDoor.PureB
/- base64 and digits, plainly, on lists of bytes' numbers. No program in sight. -/
namespace Go.Proofs.YtbpcoieemkojjaaDoor
set_option linter.unusedSimpArgs false
set_option linter.unusedVariables false
namespace Code
open Go.RowKit Go.Proofs.YtbpcoieemkojjaaDoorW.PrintWords Go.Proofs.YtbpcoieemkojjaaDoor.PureB
/-- a text's bytes -/
def bl (s : ByteArray) : List Int := s.data.toList.map fun b => (b.toNat : Int)
theorem bl_len (s : ByteArray) : (bl s).length = s.size := by unfold bl; rw [List.length_map, Array.length_toList]; rfl
theorem bl_byte (s : ByteArray) : ∀ x ∈ bl s, 0 ≤ x ∧ x < 256 := by
  intro x hx
  obtain ⟨b, _, rfl⟩ := List.mem_map.1 hx
  have := b.toNat_lt
  omega
theorem bl_get (s : ByteArray) (j : Nat) (h : j < s.size) : (bl s)[j]? = some (bt s j) := by
  unfold bl
  rw [List.getElem?_map, Array.getElem?_toList, Array.getElem?_eq_getElem h]
  simp only [Option.map_some]
  rw [bt_nat s j h]
  rfl
theorem son_bl (s : ByteArray) : strOfNums (bl s) = s := by
  refine ba_ext (by rw [son_size, bl_len]) (fun j hj => ?_)
  rw [son_size, bl_len] at hj
  have hb := bl_byte s _ (List.mem_of_getElem? (bl_get s j hj))
  exact bt_son _ _ _ (bl_get s j hj) hb.1 hb.2
theorem bl_son (l : List Int) (h : ∀ x ∈ l, 0 ≤ x ∧ x < 256) : bl (strOfNums l) = l := by
  apply List.ext_getElem?
  intro j
  by_cases hj : j < l.length
  · have hx : l[j]? = some (l[j]'hj) := List.getElem?_eq_getElem hj
    have hb := h _ (List.mem_of_getElem? hx)
    rw [bl_get _ _ (by rw [son_size]; exact hj), hx, bt_son _ _ _ hx hb.1 hb.2]
  · rw [List.getElem?_eq_none (by rw [bl_len, son_size]; omega), List.getElem?_eq_none (by omega)]
/-- the sign of a number below 64 -/
def b64 (i : Int) : Int := if i < 26 then 65 + i else if i < 52 then 71 + i else if i < 62 then i - 4 else if i = 62 then 43 else 47
/-- all signs -/
def alpha : List Int := (List.range 64).map fun (j : Nat) => b64 (j : Int)
/-- a text's base64 -/
def baseL : List Int → List Int
  | [] => []
  | [a] => [b64 (a / 4), b64 (a % 4 * 16), 61, 61]
  | [a, b] => [b64 (a / 4), b64 (a % 4 * 16 + b / 16), b64 (b % 16 * 4), 61]
  | a :: b :: c :: r => [b64 (a / 4), b64 (a % 4 * 16 + b / 16), b64 (b % 16 * 4 + c / 64), b64 (c % 64)] ++ baseL r
/-- what a sign is worth -/
def worthL (c : Int) : Option Int := if 65 ≤ c ∧ c ≤ 90 then some (c - 65) else if 97 ≤ c ∧ c ≤ 122 then some (c - 71) else if 48 ≤ c ∧ c ≤ 57 then some (c + 4) else if c = 43 then some 62 else if c = 47 then some 63 else none
theorem b64_byte (i : Int) (h0 : 0 ≤ i) (h1 : i < 64) : 43 ≤ b64 i ∧ b64 i ≤ 122 ∧ b64 i ≠ 61 := by
  unfold b64
  repeat' split
  all_goals omega
theorem worth_b64 (i : Int) (h0 : 0 ≤ i) (h1 : i < 64) : worthL (b64 i) = some i := by
  unfold b64 worthL
  repeat' split
  all_goals first | omega | (congr 1; omega)
theorem b64_worth (c v : Int) (h : worthL c = some v) : 0 ≤ v ∧ v < 64 ∧ b64 v = c := by
  unfold worthL at h
  repeat' split at h
  all_goals first | cases h | skip
  all_goals
    unfold b64
    repeat' split
    all_goals omega
/-- digits -/
def dg (i : Int) : Int := if i < 10 then 48 + i else 87 + i
def hexL (l : List Int) : List Int := l.flatMap fun b => [dg (b / 16), dg (b % 16)]
/-- what a digit is worth -/
def dv (c : Int) : Int := if 48 ≤ c ∧ c ≤ 57 then c - 48 else if 97 ≤ c ∧ c ≤ 102 then c - 87 else if 65 ≤ c ∧ c ≤ 70 then c - 55 else -1
def unhexL : List Int → Option (List Int)
  | [] => some []
  | [_] => none
  | a :: b :: r => if dv a < 0 ∨ dv b < 0 then none else (unhexL r).map fun l => (16 * dv a + dv b) :: l
end Code
end Go.Proofs.YtbpcoieemkojjaaDoor
/- base64 plainly, second part: pieces. No program in sight. -/
namespace Go.Proofs.YtbpcoieemkojjaaDoor
set_option linter.unusedSimpArgs false
set_option linter.unusedVariables false
namespace Code
open Go.RowKit Go.Proofs.YtbpcoieemkojjaaDoorW.PrintWords Go.Proofs.YtbpcoieemkojjaaDoor.PureB
theorem bl_extract (s : ByteArray) (a b : Nat) : bl (s.extract a b) = ((bl s).take b).drop a := by
  unfold bl
  rw [← List.map_take, ← List.map_drop]
  congr 1
  rw [ByteArray.data_extract, Array.toList_extract, List.extract_eq_take_drop, List.drop_take]
theorem bl_append (s t : ByteArray) : bl (s ++ t) = bl s ++ bl t := by
  unfold bl
  rw [← List.map_append]
  congr 1
theorem baseL_append : ∀ (l m : List Int), l.length % 3 = 0 → baseL (l ++ m) = baseL l ++ baseL m
  | [], m, _ => rfl
  | [a], _, h => by simp at h
  | [a, b], _, h => by simp at h
  | a :: b :: c :: r, m, h => by
    simp only [List.cons_append, baseL]
    rw [baseL_append r m (by simp only [List.length_cons] at h; omega)]
    simp
theorem baseL_len : ∀ (l : List Int), (baseL l).length = 4 * ((l.length + 2) / 3)
  | [] => rfl
  | [a] => by simp [baseL]
  | [a, b] => by simp [baseL]
  | a :: b :: c :: r => by
    simp only [baseL, List.length_append, List.length_cons, List.length_nil, baseL_len r]
    omega
theorem baseL_byte : ∀ (l : List Int), (∀ x ∈ l, 0 ≤ x ∧ x < 256) → ∀ y ∈ baseL l, 0 ≤ y ∧ y < 256
  | [], _ => by intro y hy; simp [baseL] at hy
  | [a], h => by
    have ha := h a (by simp)
    have b1 := b64_byte (a / 4) (by omega) (by omega)
    have b2 := b64_byte (a % 4 * 16) (by omega) (by omega)
    intro y hy
    simp [baseL] at hy
    rcases hy with rfl | rfl | rfl <;> omega
  | [a, b], h => by
    have ha := h a (by simp)
    have hb := h b (by simp)
    have b1 := b64_byte (a / 4) (by omega) (by omega)
    have b2 := b64_byte (a % 4 * 16 + b / 16) (by omega) (by omega)
    have b3 := b64_byte (b % 16 * 4) (by omega) (by omega)
    intro y hy
    simp [baseL] at hy
    rcases hy with rfl | rfl | rfl | rfl <;> omega
  | a :: b :: c :: r, h => by
    have ha := h a (by simp)
    have hb := h b (by simp)
    have hc := h c (by simp)
    have b1 := b64_byte (a / 4) (by omega) (by omega)
    have b2 := b64_byte (a % 4 * 16 + b / 16) (by omega) (by omega)
    have b3 := b64_byte (b % 16 * 4 + c / 64) (by omega) (by omega)
    have b4 := b64_byte (c % 64) (by omega) (by omega)
    intro y hy
    simp only [baseL, List.mem_append, List.mem_cons, List.not_mem_nil, or_false] at hy
    rcases hy with (rfl | rfl | rfl | rfl) | hy
    all_goals first | omega | skip
    exact baseL_byte r (fun x hx => h x (by simp [hx])) y hy
theorem bl_piece (s : ByteArray) (n k : Nat) : bl (s.extract (k * n) (min (k * n + n) s.size)) = ((bl s).drop (k * n)).take n := by
  rw [bl_extract, List.drop_take]
  have : (bl s).length = s.size := bl_len s
  rw [List.take_eq_take_iff]
  simp only [List.length_drop, this]
  omega
theorem take_piece (l : List Int) (n k : Nat) : l.take ((k + 1) * n) = l.take (k * n) ++ (l.drop (k * n)).take n := by
  rw [show (k + 1) * n = k * n + n by rw [Nat.add_mul, Nat.one_mul], List.take_add]
theorem baseL_step (l : List Int) (k : Nat) (h : k * 3 < l.length) : baseL (l.take ((k + 1) * 3)) = baseL (l.take (k * 3)) ++ baseL ((l.drop (k * 3)).take 3) := by
  rw [take_piece, baseL_append _ _ (by rw [List.length_take]; omega)]
/-- a piece's size -/
theorem piece_size (s : ByteArray) (n k : Nat) : (s.extract (k * n) (min (k * n + n) s.size)).size = min n (s.size - k * n) := by
  rw [ByteArray.size_extract]; omega
end Code
end Go.Proofs.YtbpcoieemkojjaaDoor
/- base64 plainly, third part: rough reading. No program in sight. -/
namespace Go.Proofs.YtbpcoieemkojjaaDoor
set_option linter.unusedSimpArgs false
set_option linter.unusedVariables false
namespace Code
open Go.RowKit Go.Proofs.YtbpcoieemkojjaaDoorW.PrintWords Go.Proofs.YtbpcoieemkojjaaDoor.PureB
/-- a piece without the pads at its end -/
def strip (l : List Int) : List Int := (l.reverse.dropWhile (· == 61)).reverse
def vals : List Int → Option (List Int)
  | [] => some []
  | c :: r => match worthL c with
    | none => none
    | some v => (vals r).map (v :: ·)
def nsum (vs : List Int) : Int := vs.foldl (fun n v => n * 64 + v) 0
def bys (x : Int) (m : Nat) : List Int := (List.range m).map fun r => x / 256 ^ (m - 1 - r) % 256
def ungV (vs : List Int) : List Int := bys (nsum vs / 2 ^ (6 * vs.length % 8)) (6 * vs.length / 8)
/-- what a piece tells -/
def ungL (g : List Int) : Option (List Int) := (vals (strip g)).map ungV
theorem strip_bl (l : ByteArray) : bl ⟨(Lib.trimRightB l.data.toList 61).toArray⟩ = strip (bl l) := by
  unfold bl strip Lib.trimRightB
  simp only []
  have key : ∀ l : List UInt8, (l.dropWhile (· == 61)).map (fun b : UInt8 => (b.toNat : Int)) = (l.map (fun b : UInt8 => (b.toNat : Int))).dropWhile (· == 61) := by
    intro l
    induction l with
    | nil => rfl
    | cons a l ih =>
      simp only [List.map_cons, List.dropWhile_cons]
      by_cases h : a = 61
      · subst h; simpa using ih
      · have : ¬ ((a.toNat : Int) == 61) = true := by
          simp only [beq_iff_eq]
          intro e
          apply h
          apply UInt8.toNat_inj.1
          show a.toNat = 61
          omega
        rw [if_neg (by simpa using h), if_neg this]
        rfl
  rw [List.map_reverse, key, List.map_reverse]
theorem strip_len (l : List Int) : (strip l).length ≤ l.length := by
  unfold strip
  rw [List.length_reverse]
  have := (List.dropWhile_suffix (fun x : Int => x == 61) (l := l.reverse)).length_le
  simpa using this
theorem vals_some : ∀ (l vs : List Int), vals l = some vs → vs.length = l.length ∧ ∀ v ∈ vs, 0 ≤ v ∧ v < 64
  | [], vs, h => by
    simp [vals] at h; subst h; simp
  | c :: r, vs, h => by
    unfold vals at h
    cases hc : worthL c with
    | none => rw [hc] at h; cases h
    | some v =>
      rw [hc] at h
      simp only [Option.map_eq_some_iff] at h
      obtain ⟨us, hu, rfl⟩ := h
      obtain ⟨h1, h2⟩ := vals_some r us hu
      obtain ⟨b0, b1, _⟩ := b64_worth c v hc
      refine ⟨by simp [h1], ?_⟩
      intro x hx
      rcases List.mem_cons.1 hx with rfl | hx
      · exact ⟨b0, b1⟩
      · exact h2 x hx
theorem vals_append (l : List Int) (c v : Int) (vs : List Int) (h : vals l = some vs) (hc : worthL c = some v) : vals (l ++ [c]) = some (vs ++ [v]) := by
  induction l generalizing vs with
  | nil => simp [vals] at h ⊢; subst h; simp [hc]
  | cons a l ih =>
    simp only [List.cons_append]
    unfold vals at h ⊢
    cases ha : worthL a with
    | none => rw [ha] at h; cases h
    | some u =>
      rw [ha] at h
      simp only [Option.map_eq_some_iff] at h
      obtain ⟨us, hu, rfl⟩ := h
      simp [ih us hu]
theorem vals_none (l m : List Int) (c : Int) (hc : worthL c = none) : vals (l ++ c :: m) = none := by
  induction l with
  | nil => simp [vals, hc]
  | cons a l ih =>
    simp only [List.cons_append]
    unfold vals
    cases worthL a with
    | none => rfl
    | some u => simp [ih]
theorem nsum_append (vs : List Int) (v : Int) : nsum (vs ++ [v]) = nsum vs * 64 + v := by simp [nsum]
theorem nsum_bound (vs : List Int) (h : ∀ v ∈ vs, 0 ≤ v ∧ v < 64) : 0 ≤ nsum vs ∧ nsum vs < 64 ^ vs.length := by
  have key : ∀ (vs : List Int) (n : Int) (k : Nat), 0 ≤ n → n < 64 ^ k → (∀ v ∈ vs, 0 ≤ v ∧ v < 64) → 0 ≤ vs.foldl (fun n v => n * 64 + v) n ∧ vs.foldl (fun n v => n * 64 + v) n < 64 ^ (k + vs.length) := by
    intro vs
    induction vs with
    | nil => intro n k h0 h1 _; exact ⟨h0, h1⟩
    | cons v vs ih =>
      intro n k h0 h1 h
      have hv := h v (by simp)
      have := ih (n * 64 + v) (k + 1) (by omega) (by rw [Int.pow_succ]; omega) (fun x hx => h x (by simp [hx]))
      simp only [List.foldl_cons, List.length_cons]
      rw [show k + (vs.length + 1) = k + 1 + vs.length by omega]
      exact this
  have := key vs 0 0 (by omega) (by decide) h
  rw [Nat.zero_add] at this
  exact this
theorem bys_len (x : Int) (m : Nat) : (bys x m).length = m := by simp [bys]
theorem bys_byte (x : Int) (m : Nat) : ∀ y ∈ bys x m, 0 ≤ y ∧ y < 256 := by
  intro y hy
  simp only [bys, List.mem_map] at hy
  obtain ⟨r, _, rfl⟩ := hy
  omega
end Code
end Go.Proofs.YtbpcoieemkojjaaDoor
/- base64 plainly, fourth part: a text's rough reading. No program in sight. -/
namespace Go.Proofs.YtbpcoieemkojjaaDoor
set_option linter.unusedSimpArgs false
set_option linter.unusedVariables false
namespace Code
open Go.RowKit Go.Proofs.YtbpcoieemkojjaaDoorW.PrintWords Go.Proofs.YtbpcoieemkojjaaDoor.PureB
/-- a text's pieces of four, read one by one -/
def rough : List (List Int) → Option (List Int)
  | [] => some []
  | g :: r => match ungL g with
    | none => none
    | some l => (rough r).map (l ++ ·)
theorem rough_append (l : List (List Int)) (acc : List Int) (g x : List Int) (h : rough l = some acc) (hg : ungL g = some x) : rough (l ++ [g]) = some (acc ++ x) := by
  induction l generalizing acc with
  | nil => simp [rough] at h ⊢; subst h; simp [hg]
  | cons a l ih =>
    simp only [List.cons_append]
    unfold rough at h ⊢
    cases ha : ungL a with
    | none => rw [ha] at h; cases h
    | some u =>
      rw [ha] at h
      simp only [Option.map_eq_some_iff] at h
      obtain ⟨us, hu, rfl⟩ := h
      simp [ih us hu]
theorem rough_none (l m : List (List Int)) (g : List Int) (hg : ungL g = none) : rough (l ++ g :: m) = none := by
  induction l with
  | nil => simp [rough, hg]
  | cons a l ih =>
    simp only [List.cons_append]
    unfold rough
    cases ungL a with
    | none => rfl
    | some u => simp [ih]
theorem ungL_bound (g x : List Int) (h : ungL g = some x) (hl : g.length ≤ 4) : x.length ≤ 3 ∧ ∀ y ∈ x, 0 ≤ y ∧ y < 256 := by
  unfold ungL at h
  simp only [Option.map_eq_some_iff] at h
  obtain ⟨vs, hv, rfl⟩ := h
  obtain ⟨h1, _⟩ := vals_some _ _ hv
  have := strip_len g
  unfold ungV
  rw [bys_len]
  exact ⟨by omega, bys_byte _ _⟩
theorem rough_bound : ∀ (l : List (List Int)) (acc : List Int), rough l = some acc → (∀ g ∈ l, g.length ≤ 4) → acc.length ≤ 3 * l.length ∧ ∀ y ∈ acc, 0 ≤ y ∧ y < 256
  | [], acc, h, _ => by simp [rough] at h; subst h; simp
  | g :: r, acc, h, hl => by
    unfold rough at h
    cases hg : ungL g with
    | none => rw [hg] at h; cases h
    | some x =>
      rw [hg] at h
      simp only [Option.map_eq_some_iff] at h
      obtain ⟨us, hu, rfl⟩ := h
      obtain ⟨a1, a2⟩ := ungL_bound g x hg (hl g (by simp))
      obtain ⟨b1, b2⟩ := rough_bound r us hu (fun q hq => hl q (by simp [hq]))
      refine ⟨by simp; omega, ?_⟩
      intro y hy
      rcases List.mem_append.1 hy with h | h
      · exact a2 y h
      · exact b2 y h
/-- a list's pieces -/
def pieces (l : List Int) (n m : Nat) : List (List Int) := (List.range m).map fun j => (l.drop (j * n)).take n
theorem pieces_len (l : List Int) (n m : Nat) : (pieces l n m).length = m := by simp [pieces]
theorem pieces_succ (l : List Int) (n m : Nat) : pieces l n (m + 1) = pieces l n m ++ [(l.drop (m * n)).take n] := by simp [pieces, List.range_succ]
theorem pieces_split (l : List Int) (n : Nat) : ∀ (m k : Nat), k < m → ∃ r, pieces l n m = pieces l n k ++ (l.drop (k * n)).take n :: r := by
  intro m k h
  obtain ⟨d, rfl⟩ : ∃ d, m = k + 1 + d := ⟨m - (k + 1), by omega⟩
  induction d with
  | zero => exact ⟨[], pieces_succ l n k⟩
  | succ d ih =>
    obtain ⟨r, hr⟩ := ih (by omega)
    refine ⟨r ++ [(l.drop ((k + 1 + d) * n)).take n], ?_⟩
    rw [show k + 1 + (d + 1) = k + 1 + d + 1 by omega, pieces_succ, hr]
    simp
theorem pieces_le (l : List Int) (n m : Nat) : ∀ g ∈ pieces l n m, g.length ≤ n := by
  intro g hg
  simp only [pieces, List.mem_map] at hg
  obtain ⟨j, _, rfl⟩ := hg
  rw [List.length_take]
  omega
/-- the text of some base64 -/
def unbL (l : List Int) : Option (List Int) := match rough (pieces l 4 ((l.length + 3) / 4)) with
  | none => none
  | some t => if baseL t = l then some t else none
end Code
end Go.Proofs.YtbpcoieemkojjaaDoor
/- UTF-8, plainly: the model's decoder and encoder, byte by byte. No program in sight. -/
namespace Go.Proofs.YtbpcoieemkojjaaDoor
set_option linter.unusedSimpArgs false
set_option linter.unusedVariables false
namespace Utf
open Go.RowKit Go.Proofs.YtbpcoieemkojjaaDoorW.PrintWords
/-- which numbers are signs -/
def vr (c : Int) : Bool := decide (0 ≤ c ∧ c ≤ 1114111 ∧ ¬ (55296 ≤ c ∧ c ≤ 57343))
/-- a sign's bytes -/
def eb (c : Int) : List Int :=
  if c < 128 then [c] else if c < 2048 then [192 + c / 64, 128 + c % 64] else if c < 65536 then [224 + c / 4096, 128 + c / 64 % 64, 128 + c % 64]
  else [240 + c / 262144, 128 + c / 4096 % 64, 128 + c / 64 % 64, 128 + c % 64]
/-- some bytes stand at a place -/
def Pre (s : ByteArray) (i : Nat) (l : List Int) : Prop := i + l.length ≤ s.size ∧ ∀ j : Nat, j < l.length → bt s ((i : Int) + j) = l.getD j 0
theorem bt_get (s : ByteArray) (i : Nat) : bt s (i : Int) = ((s.get! i).toNat : Int) := by
  unfold bt
  split
  · rename_i h
    have h' : i < s.size := by simpa using h
    show ((s[i]'h').toNat : Int) = _
    rw [show s.get! i = s[i]'h' by simp [ByteArray.get!, getElem!_pos, h']; rfl]
  · rename_i h
    have h' : ¬ i < s.size := by simpa using h
    have : s.get! i = 0 := by
      rcases s with ⟨a⟩
      simp only [ByteArray.get!]
      rw [getElem!_neg]
      · rfl
      · exact h'
    simp [this]
/-- the sign that begins at a place: 0 bytes, if there is none -/
def sign1 (s : ByteArray) (i : Nat) : Int × Nat := if Utf8.decode s i = (65533, 1) then (0, 0) else ((Utf8.decode s i).1, (Utf8.decode s i).2)
theorem eb_len (c : Int) : (eb c).length = if c < 128 then 1 else if c < 2048 then 2 else if c < 65536 then 3 else 4 := by
  unfold eb
  repeat' split
  all_goals rfl
theorem eb_pos (c : Int) : 0 < (eb c).length := by
  rw [eb_len]
  repeat' split
  all_goals omega
theorem bt_out (s : ByteArray) (i : Int) (h : ¬ i.toNat < s.size) : bt s i = 0 := by unfold bt; rw [dif_neg h]
/-- The decoder in bytes. -/
theorem decode_bt (s : ByteArray) (i : Nat) (h : i < s.size) :
    ∀ b0 b1 b2 b3 : Nat, (b0 : Int) = bt s i → (b1 : Int) = bt s ((i : Int) + 1) → (b2 : Int) = bt s ((i : Int) + 2) → (b3 : Int) = bt s ((i : Int) + 3) →
    Utf8.decode s i = (if b0 < 128 then (b0, 1) else
      if b0 / 32 = 6 ∧ i + 1 < s.size ∧ b1 / 64 = 2 then (if b0 % 32 * 64 + b1 % 64 ≥ 128 then (b0 % 32 * 64 + b1 % 64, 2) else (65533, 1)) else
      if b0 / 16 = 14 ∧ (i + 1 < s.size ∧ b1 / 64 = 2) ∧ (i + 2 < s.size ∧ b2 / 64 = 2) then
        (if b0 % 16 * 4096 + b1 % 64 * 64 + b2 % 64 ≥ 2048 ∧ Utf8.valid ((b0 % 16 * 4096 + b1 % 64 * 64 + b2 % 64 : Nat) : Int) = true then (b0 % 16 * 4096 + b1 % 64 * 64 + b2 % 64, 3) else (65533, 1)) else
      if b0 / 8 = 30 ∧ (i + 1 < s.size ∧ b1 / 64 = 2) ∧ (i + 2 < s.size ∧ b2 / 64 = 2) ∧ (i + 3 < s.size ∧ b3 / 64 = 2) then
        (if b0 % 8 * 262144 + b1 % 64 * 4096 + b2 % 64 * 64 + b3 % 64 ≥ 65536 ∧ Utf8.valid ((b0 % 8 * 262144 + b1 % 64 * 4096 + b2 % 64 * 64 + b3 % 64 : Nat) : Int) = true then (b0 % 8 * 262144 + b1 % 64 * 4096 + b2 % 64 * 64 + b3 % 64, 4) else (65533, 1))
      else (65533, 1)) := by
  intro b0 b1 b2 b3 h0 h1 h2 h3
  have g : ∀ k : Nat, bt s ((i : Int) + k) = ((s.get! (i + k)).toNat : Int) := fun k => by rw [← bt_get]; simp
  have g0 : bt s (i : Int) = ((s.get! (i + 0)).toNat : Int) := by have := g 0; simpa using this
  have g1 : bt s ((i : Int) + 1) = ((s.get! (i + 1)).toNat : Int) := g 1
  have g2 : bt s ((i : Int) + 2) = ((s.get! (i + 2)).toNat : Int) := g 2
  have g3 : bt s ((i : Int) + 3) = ((s.get! (i + 3)).toNat : Int) := g 3
  obtain rfl : b0 = (s.get! (i + 0)).toNat := by rw [g0] at h0; omega
  obtain rfl : b1 = (s.get! (i + 1)).toNat := by rw [g1] at h1; omega
  obtain rfl : b2 = (s.get! (i + 2)).toNat := by rw [g2] at h2; omega
  obtain rfl : b3 = (s.get! (i + 3)).toNat := by rw [g3] at h3; omega
  simp only [Utf8.decode, Utf8.runeError, Bool.and_eq_true, decide_eq_true_eq, beq_iff_eq, and_assoc, ge_iff_le]
theorem valid_vr (c : Int) : Utf8.valid c = vr c := by
  unfold Utf8.valid vr
  rw [Bool.eq_iff_iff]
  simp only [Bool.or_eq_true, Bool.and_eq_true, decide_eq_true_eq]
  omega
/-- What the decoder takes is what the encoder writes. -/
theorem sign1_pre (s : ByteArray) (i : Nat) (h : i < s.size) (hn : (sign1 s i).2 ≠ 0) : vr (sign1 s i).1 = true ∧ (sign1 s i).2 = (eb (sign1 s i).1).length ∧ Pre s i (eb (sign1 s i).1) := by
  have r : ∀ k : Int, ∃ b : Nat, (b : Int) = bt s ((i : Int) + k) ∧ b ≤ 255 := fun k => ⟨(bt s ((i : Int) + k)).toNat, by have := bt_range s ((i : Int) + k); omega, by have := bt_range s ((i : Int) + k); omega⟩
  obtain ⟨b0, h0, r0⟩ := r 0
  obtain ⟨b1, h1, r1⟩ := r 1
  obtain ⟨b2, h2, r2⟩ := r 2
  obtain ⟨b3, h3, r3⟩ := r 3
  rw [Int.add_zero] at h0
  have hd := decode_bt s i h b0 b1 b2 b3 h0 h1 h2 h3
  unfold sign1 at hn ⊢
  by_cases hbad : Utf8.decode s i = (65533, 1)
  · rw [if_pos hbad] at hn; simp at hn
  rw [if_neg hbad]
  have fin : ∀ c n : Nat, Utf8.decode s i = (c, n) → vr c = true → n = (eb c).length → Pre s i (eb c) → vr ((Utf8.decode s i).1 : Int) = true ∧ (Utf8.decode s i).2 = (eb (Utf8.decode s i).1).length ∧ Pre s i (eb (Utf8.decode s i).1) := by
    intro c n e a b c; rw [e]; exact ⟨a, b, c⟩
  have hbad' := hbad
  rw [hd] at hbad'
  have c0 : bt s ((i : Int) + (0 : Nat)) = b0 := by simpa using h0.symm
  have c1 : bt s ((i : Int) + (1 : Nat)) = b1 := h1.symm
  have c2 : bt s ((i : Int) + (2 : Nat)) = b2 := h2.symm
  have c3 : bt s ((i : Int) + (3 : Nat)) = b3 := h3.symm
  split at hd
  · rename_i k
    have e : eb (b0 : Int) = [(b0 : Int)] := by unfold eb; rw [if_pos (by omega)]
    refine fin _ _ hd (by simp [vr]; omega) (by rw [e]; rfl) ⟨by rw [e]; simp; omega, fun j hj => ?_⟩
    rw [e] at hj ⊢
    obtain rfl : j = 0 := by simpa using hj
    exact c0
  rename_i k0
  rw [if_neg k0] at hbad'
  split at hd
  · rename_i k
    rw [if_pos k] at hbad'
    split at hd
    · rename_i k2
      obtain ⟨c, hc⟩ : ∃ c : Nat, c = b0 % 32 * 64 + b1 % 64 := ⟨_, rfl⟩
      rw [← hc] at hd k2
      have e : eb (c : Int) = [192 + (c : Int) / 64, 128 + (c : Int) % 64] := by unfold eb; rw [if_neg (by omega), if_pos (by omega)]
      refine fin _ _ hd (by simp [vr]; omega) (by rw [e]; rfl) ⟨by rw [e]; simp; omega, fun j hj => ?_⟩
      rw [e] at hj ⊢
      rcases (show j = 0 ∨ j = 1 by simp at hj; omega) with rfl | rfl
      · rw [c0]; simp; omega
      · rw [c1]; simp; omega
    · rename_i k2; rw [if_neg k2] at hbad'; exact absurd rfl hbad'
  rename_i k1
  rw [if_neg k1] at hbad'
  split at hd
  · rename_i k
    rw [if_pos k] at hbad'
    split at hd
    · rename_i k2
      obtain ⟨c, hc⟩ : ∃ c : Nat, c = b0 % 16 * 4096 + b1 % 64 * 64 + b2 % 64 := ⟨_, rfl⟩
      rw [← hc] at hd k2
      have hv := k2.2
      rw [valid_vr] at hv
      have e : eb (c : Int) = [224 + (c : Int) / 4096, 128 + (c : Int) / 64 % 64, 128 + (c : Int) % 64] := by unfold eb; rw [if_neg (by omega), if_neg (by omega), if_pos (by omega)]
      refine fin _ _ hd hv (by rw [e]; rfl) ⟨by rw [e]; simp; omega, fun j hj => ?_⟩
      rw [e] at hj ⊢
      rcases (show j = 0 ∨ j = 1 ∨ j = 2 by simp at hj; omega) with rfl | rfl | rfl
      · rw [c0]; simp; omega
      · rw [c1]; simp; omega
      · rw [c2]; simp; omega
    · rename_i k2; rw [if_neg k2] at hbad'; exact absurd rfl hbad'
  rename_i k1'
  rw [if_neg k1'] at hbad'
  split at hd
  · rename_i k
    rw [if_pos k] at hbad'
    split at hd
    · rename_i k2
      obtain ⟨c, hc⟩ : ∃ c : Nat, c = b0 % 8 * 262144 + b1 % 64 * 4096 + b2 % 64 * 64 + b3 % 64 := ⟨_, rfl⟩
      rw [← hc] at hd k2
      have hv := k2.2
      rw [valid_vr] at hv
      have e : eb (c : Int) = [240 + (c : Int) / 262144, 128 + (c : Int) / 4096 % 64, 128 + (c : Int) / 64 % 64, 128 + (c : Int) % 64] := by unfold eb; rw [if_neg (by omega), if_neg (by omega), if_neg (by omega)]
      refine fin _ _ hd hv (by rw [e]; rfl) ⟨by rw [e]; simp; omega, fun j hj => ?_⟩
      rw [e] at hj ⊢
      rcases (show j = 0 ∨ j = 1 ∨ j = 2 ∨ j = 3 by simp at hj; omega) with rfl | rfl | rfl | rfl
      · rw [c0]; simp; omega
      · rw [c1]; simp; omega
      · rw [c2]; simp; omega
      · rw [c3]; simp; omega
    · rename_i k2; rw [if_neg k2] at hbad'; exact absurd rfl hbad'
  · rename_i k3; rw [if_neg k3] at hbad'; exact absurd rfl hbad'
/-- What the encoder writes the decoder takes. -/
theorem pre_sign1 (s : ByteArray) (i : Nat) (c : Int) (hc : vr c = true) (hp : Pre s i (eb c)) : sign1 s i = (c, (eb c).length) := by
  have hlen := hp.1
  have hpos := eb_pos c
  have h : i < s.size := by omega
  have r : ∀ k : Int, ∃ b : Nat, (b : Int) = bt s ((i : Int) + k) ∧ b ≤ 255 := fun k => ⟨(bt s ((i : Int) + k)).toNat, by have := bt_range s ((i : Int) + k); omega, by have := bt_range s ((i : Int) + k); omega⟩
  obtain ⟨b0, h0, r0⟩ := r 0
  obtain ⟨b1, h1, r1⟩ := r 1
  obtain ⟨b2, h2, r2⟩ := r 2
  obtain ⟨b3, h3, r3⟩ := r 3
  rw [Int.add_zero] at h0
  have hd := decode_bt s i h b0 b1 b2 b3 h0 h1 h2 h3
  have c0 : bt s ((i : Int) + (0 : Nat)) = b0 := by simpa using h0.symm
  have c1 : bt s ((i : Int) + (1 : Nat)) = b1 := h1.symm
  have c2 : bt s ((i : Int) + (2 : Nat)) = b2 := h2.symm
  have c3 : bt s ((i : Int) + (3 : Nat)) = b3 := h3.symm
  have hv : ∀ m : Nat, (m : Int) = c → Utf8.valid (m : Int) = true := fun m e => by rw [e, valid_vr]; exact hc
  have hc' := hc
  simp only [vr, decide_eq_true_eq] at hc'
  have fin : ∀ m n : Nat, Utf8.decode s i = (m, n) → (m : Int) = c → n = (eb c).length → ((m, n) : Nat × Nat) ≠ (65533, 1) → sign1 s i = (c, (eb c).length) := by
    intro m n e a b d
    unfold sign1
    rw [e, if_neg d]
    exact Prod.ext a b
  by_cases k0 : c < 128
  · have e : eb c = [c] := by unfold eb; rw [if_pos k0]
    rw [e] at hp
    have p0 := hp.2 0 (by simp)
    rw [c0] at p0
    simp at p0
    rw [if_pos (by omega)] at hd
    exact fin _ _ hd p0 (by rw [e]; rfl) (by intro q; injection q with q1 q2; omega)
  by_cases k1 : c < 2048
  · have e : eb c = [192 + c / 64, 128 + c % 64] := by unfold eb; rw [if_neg k0, if_pos k1]
    rw [e] at hp
    have p0 := hp.2 0 (by simp)
    have p1 := hp.2 1 (by simp)
    have p2 := hp.1
    rw [c0] at p0
    rw [c1] at p1
    simp at p0 p1 p2
    rw [if_neg (by omega), if_pos (by omega), if_pos (by omega)] at hd
    exact fin _ _ hd (by omega) (by rw [e]; rfl) (by intro q; injection q with q1 q2; omega)
  by_cases k2 : c < 65536
  · have e : eb c = [224 + c / 4096, 128 + c / 64 % 64, 128 + c % 64] := by unfold eb; rw [if_neg k0, if_neg k1, if_pos k2]
    rw [e] at hp
    have p0 := hp.2 0 (by simp)
    have p1 := hp.2 1 (by simp)
    have p3 := hp.2 2 (by simp)
    have p2 := hp.1
    rw [c0] at p0
    rw [c1] at p1
    rw [c2] at p3
    simp at p0 p1 p2 p3
    rw [if_neg (by omega), if_neg (by omega), if_pos (by omega), if_pos ⟨by omega, hv _ (by omega)⟩] at hd
    exact fin _ _ hd (by omega) (by rw [e]; rfl) (by intro q; injection q with q1 q2; omega)
  · have e : eb c = [240 + c / 262144, 128 + c / 4096 % 64, 128 + c / 64 % 64, 128 + c % 64] := by unfold eb; rw [if_neg k0, if_neg k1, if_neg k2]
    rw [e] at hp
    have p0 := hp.2 0 (by simp)
    have p1 := hp.2 1 (by simp)
    have p3 := hp.2 2 (by simp)
    have p4 := hp.2 3 (by simp)
    have p2 := hp.1
    rw [c0] at p0
    rw [c1] at p1
    rw [c2] at p3
    rw [c3] at p4
    simp at p0 p1 p2 p3 p4
    rw [if_neg (by omega), if_neg (by omega), if_neg (by omega), if_pos (by omega), if_pos ⟨by omega, hv _ (by omega)⟩] at hd
    exact fin _ _ hd (by omega) (by rw [e]; rfl) (by intro q; injection q with q1 q2; omega)
/-- No sign's bytes stand at a place where the decoder sees none, and just one sign's elsewhere. -/
theorem sign1_iff (s : ByteArray) (i : Nat) (h : i < s.size) (c : Int) (n : Nat) (hn : n ≠ 0) : sign1 s i = (c, n) ↔ vr c = true ∧ n = (eb c).length ∧ Pre s i (eb c) := by
  constructor
  · intro e
    have := sign1_pre s i h (by rw [e]; exact hn)
    rw [e] at this
    exact this
  · rintro ⟨a, rfl, b⟩
    exact pre_sign1 s i c a b
theorem sign1_zero (s : ByteArray) (i : Nat) (h : (sign1 s i).2 = 0) (hi : i < s.size) (c : Int) (hc : vr c = true) : ¬ Pre s i (eb c) := by
  intro hp
  rw [pre_sign1 s i c hc hp] at h
  have := eb_pos c
  simp at h
  rw [h] at this
  simp at this
end Utf
end Go.Proofs.YtbpcoieemkojjaaDoor
/- Texts of UTF-8, plainly: their signs, one behind the other. No program in sight. -/
namespace Go.Proofs.YtbpcoieemkojjaaDoor
set_option linter.unusedSimpArgs false
set_option linter.unusedVariables false
namespace Utf
open Go.RowKit Go.Proofs.YtbpcoieemkojjaaDoorW.PrintWords
/-- the signs from a place on, each with its place; where none stands, or -1 -/
def sc (s : ByteArray) : Nat → Nat → List (Int × Int) × Int
  | 0, _ => ([], -1)
  | k + 1, i => if i < s.size then (if (sign1 s i).2 = 0 then ([], (i : Int)) else (((i : Int), (sign1 s i).1) :: (sc s k (i + (sign1 s i).2)).1, (sc s k (i + (sign1 s i).2)).2)) else ([], -1)
def bad (s : ByteArray) : Int := (sc s s.size 0).2
def sgn (s : ByteArray) : List Int := (sc s s.size 0).1.map (·.2)
/-- signs that lead from one place to another -/
inductive Runs (s : ByteArray) : Nat → List Int → Nat → Prop
  | nil (i : Nat) : Runs s i [] i
  | cons (i : Nat) (c : Int) (l : List Int) (j : Nat) (hc : vr c = true) (hp : Pre s i (eb c)) (h : Runs s (i + (eb c).length) l j) : Runs s i (c :: l) j
theorem pre_lt {s : ByteArray} {i : Nat} {c : Int} (h : Pre s i (eb c)) : i < s.size := by have := h.1; have := eb_pos c; omega
theorem Runs.le {s : ByteArray} {i j : Nat} {l : List Int} (h : Runs s i l j) (hi : i ≤ s.size) : i ≤ j ∧ j ≤ s.size := by
  induction h with
  | nil i => exact ⟨Nat.le_refl _, hi⟩
  | cons i c l j hc hp h ih => have := ih hp.1; omega
theorem Runs.len {s : ByteArray} {i j : Nat} {l : List Int} (h : Runs s i l j) : i + l.length ≤ j := by
  induction h with
  | nil i => simp
  | cons i c l j hc hp h ih => have := eb_pos c; simp; omega
theorem Runs.vrs {s : ByteArray} {i j : Nat} {l : List Int} (h : Runs s i l j) : ∀ c ∈ l, vr c = true := by
  induction h with
  | nil i => simp
  | cons i c l j hc hp h ih => intro d hd; rcases List.mem_cons.1 hd with rfl | hd; exact hc; exact ih d hd
theorem sign1_of_runs {s : ByteArray} {i : Nat} {c : Int} (hc : vr c = true) (hp : Pre s i (eb c)) : sign1 s i = (c, (eb c).length) := pre_sign1 s i c hc hp
/-- How sc ends. -/
def End (s : ByteArray) (j : Nat) (b : Int) : Prop := (s.size ≤ j ∧ b = -1) ∨ (j < s.size ∧ (sign1 s j).2 = 0 ∧ b = j)
theorem sc_runs (s : ByteArray) : ∀ (k i : Nat), s.size ≤ i + k → ∃ j, Runs s i ((sc s k i).1.map (·.2)) j ∧ End s j (sc s k i).2
  | 0, i, h => ⟨i, Runs.nil i, .inl ⟨by omega, rfl⟩⟩
  | k + 1, i, h => by
    by_cases hi : i < s.size
    · by_cases hz : (sign1 s i).2 = 0
      · refine ⟨i, ?_, ?_⟩
        · simp only [sc, if_pos hi, if_pos hz]; exact Runs.nil i
        · simp only [sc, if_pos hi, if_pos hz]; exact .inr ⟨hi, hz, rfl⟩
      · obtain ⟨hv, hl, hp⟩ := sign1_pre s i hi hz
        obtain ⟨j, hr, he⟩ := sc_runs s k (i + (sign1 s i).2) (by omega)
        refine ⟨j, ?_, ?_⟩
        · simp only [sc, if_pos hi, if_neg hz, List.map_cons]
          exact Runs.cons i _ _ j hv hp (by rw [← hl]; exact hr)
        · simp only [sc, if_pos hi, if_neg hz]; exact he
    · refine ⟨i, ?_, .inl ⟨by omega, ?_⟩⟩
      · simp only [sc, if_neg hi]; exact Runs.nil i
      · simp only [sc, if_neg hi]
theorem sc_det (s : ByteArray) {i j : Nat} {l : List Int} {b : Int} (h : Runs s i l j) (he : End s j b) : ∀ k, s.size ≤ i + k → (sc s k i).1.map (·.2) = l ∧ (sc s k i).2 = b := by
  induction h with
  | nil i =>
    intro k hk
    cases k with
    | zero =>
      rcases he with ⟨_, rfl⟩ | ⟨h1, _⟩
      · exact ⟨rfl, rfl⟩
      · omega
    | succ k =>
      rcases he with ⟨h1, rfl⟩ | ⟨h1, h2, rfl⟩
      · simp only [sc, if_neg (show ¬ i < s.size by omega)]; exact ⟨rfl, trivial⟩
      · simp only [sc, if_pos h1, if_pos h2]; exact ⟨rfl, trivial⟩
  | cons i c l j hc hp h ih =>
    intro k hk
    have hi := pre_lt hp
    have hs := pre_sign1 s i c hc hp
    have hpos := eb_pos c
    obtain ⟨m, rfl⟩ : ∃ m, k = m + 1 := ⟨k - 1, by omega⟩
    obtain ⟨h1, h2⟩ := ih he m (by omega)
    simp only [sc, if_pos hi]
    rw [hs]
    simp only [if_neg (show ¬ (eb c).length = 0 by omega), List.map_cons]
    exact ⟨by rw [h1], h2⟩
theorem bad_runs (s : ByteArray) : ∃ j, Runs s 0 (sgn s) j ∧ End s j (bad s) := sc_runs s s.size 0 (by omega)
theorem bad_det (s : ByteArray) {j : Nat} {l : List Int} {b : Int} (h : Runs s 0 l j) (he : End s j b) : sgn s = l ∧ bad s = b := sc_det s h he s.size (by omega)
theorem bad_ge (s : ByteArray) : -1 ≤ bad s := by
  obtain ⟨j, _, h | h⟩ := bad_runs s
  · omega
  · omega
theorem bad_lt (s : ByteArray) : bad s < s.size ∨ bad s = -1 := by
  obtain ⟨j, _, h | h⟩ := bad_runs s
  · omega
  · omega
/-- A right text's signs lead through it. -/
theorem right_runs {s : ByteArray} (h : bad s < 0) : Runs s 0 (sgn s) s.size ∧ bad s = -1 := by
  obtain ⟨j, hr, he | he⟩ := bad_runs s
  · have := hr.le (Nat.zero_le _)
    obtain rfl : j = s.size := by omega
    exact ⟨hr, he.2⟩
  · omega
theorem bad_of_runs {s : ByteArray} {l : List Int} (h : Runs s 0 l s.size) : sgn s = l ∧ bad s = -1 := bad_det s h (.inl ⟨Nat.le_refl _, rfl⟩)
/-! Other texts -/
/-- t's bytes are those of s from a place on. -/
def Sub (t s : ByteArray) (o : Nat) : Prop := o + t.size ≤ s.size ∧ ∀ j : Nat, j < t.size → bt t j = bt s ((o : Int) + j)
theorem Pre.sub {t s : ByteArray} {o i : Nat} {l : List Int} (h : Pre t i l) (hs : Sub t s o) : Pre s (o + i) l :=
  ⟨by have := h.1; have := hs.1; omega, fun j hj => by
    have h1 := h.1
    have h2 := hs.2 (i + j) (by omega)
    have h3 := h.2 j hj
    rw [show ((o + i : Nat) : Int) + j = (o : Int) + ((i + j : Nat) : Int) by omega, ← h2, ← h3]
    congr 1⟩
theorem Pre.of_sub {t s : ByteArray} {o i : Nat} {l : List Int} (h : Pre s (o + i) l) (hs : Sub t s o) (hi : i + l.length ≤ t.size) : Pre t i l :=
  ⟨hi, fun j hj => by
    have h2 := hs.2 (i + j) (by omega)
    have h3 := h.2 j hj
    rw [show ((o + i : Nat) : Int) + j = (o : Int) + ((i + j : Nat) : Int) by omega, ← h2] at h3
    rw [← h3]
    congr 1⟩
theorem Runs.sub {t s : ByteArray} {o i j : Nat} {l : List Int} (h : Runs t i l j) (hs : Sub t s o) : Runs s (o + i) l (o + j) := by
  induction h with
  | nil i => exact Runs.nil _
  | cons i c l j hc hp h ih => exact Runs.cons _ c l _ hc (hp.sub hs) (by rw [Nat.add_assoc]; exact ih)
theorem Runs.of_sub {t s : ByteArray} {o j : Nat} {l : List Int} {a : Nat} (h : Runs s a l j) (hs : Sub t s o) : ∀ i, a = o + i → j ≤ o + t.size → ∃ j', j = o + j' ∧ Runs t i l j' := by
  induction h with
  | nil a => intro i e _; exact ⟨i, e, Runs.nil _⟩
  | cons a c l j hc hp h ih =>
    intro i e hj
    subst e
    have hle := h.len
    obtain ⟨j', e1, hr⟩ := ih (i + (eb c).length) (by omega) hj
    exact ⟨j', e1, Runs.cons _ c l _ hc (hp.of_sub hs (by omega)) hr⟩
theorem Runs.trans {s : ByteArray} {i j k : Nat} {l m : List Int} (h : Runs s i l j) (h' : Runs s j m k) : Runs s i (l ++ m) k := by
  induction h with
  | nil i => exact h'
  | cons i c l j hc hp h ih => exact Runs.cons _ c _ _ hc hp (ih h')
theorem zero_of_sub {t s : ByteArray} {o i : Nat} (h : (sign1 s (o + i)).2 = 0) (hs : Sub t s o) (hi : i < t.size) : (sign1 t i).2 = 0 := by
  by_cases hz : (sign1 t i).2 = 0
  · exact hz
  obtain ⟨hv, hl, hp⟩ := sign1_pre t i hi hz
  have := hs.1
  exact absurd (hp.sub hs) (sign1_zero s (o + i) h (by omega) _ hv)
/-- behind a place from which t goes to its end -/
theorem zero_sub_end {t s : ByteArray} {o i : Nat} (h : (sign1 t i).2 = 0) (hs : Sub t s o) (he : o + t.size = s.size) (hi : i < t.size) : (sign1 s (o + i)).2 = 0 := by
  by_cases hz : (sign1 s (o + i)).2 = 0
  · exact hz
  obtain ⟨hv, hl, hp⟩ := sign1_pre s (o + i) (by omega) hz
  have h1 := hp.1
  exact absurd (hp.of_sub hs (by omega)) (sign1_zero t i h hi _ hv)
/-- The bytes of signs. -/
def ebs (l : List Int) : List Int := l.flatMap eb
theorem ebs_cons (c : Int) (l : List Int) : ebs (c :: l) = eb c ++ ebs l := rfl
theorem Runs.bytes {s : ByteArray} {i j : Nat} {l : List Int} (h : Runs s i l j) (hi : i ≤ s.size) : Pre s i (ebs l) ∧ j = i + (ebs l).length := by
  induction h with
  | nil i => exact ⟨⟨by simpa [ebs] using hi, by simp [ebs]⟩, by simp [ebs]⟩
  | cons i c l j hc hp h ih =>
    obtain ⟨⟨h1, h2⟩, h3⟩ := ih hp.1
    rw [ebs_cons]
    refine ⟨⟨by simp; omega, fun k hk => ?_⟩, by simp; omega⟩
    by_cases hlt : k < (eb c).length
    · rw [hp.2 k hlt]
      simp only [List.getD_eq_getElem?_getD]
      rw [List.getElem?_append_left hlt]
    · have := h2 (k - (eb c).length) (by simp at hk; omega)
      rw [show ((i + (eb c).length : Nat) : Int) + ((k - (eb c).length : Nat) : Int) = (i : Int) + k by omega] at this
      rw [this]
      simp only [List.getD_eq_getElem?_getD]
      rw [List.getElem?_append_right (by omega)]
theorem runs_of_bytes {s : ByteArray} : ∀ (l : List Int) (i : Nat), (∀ c ∈ l, vr c = true) → Pre s i (ebs l) → Runs s i l (i + (ebs l).length)
  | [], i, _, _ => by simpa [ebs] using Runs.nil i
  | c :: l, i, hv, hp => by
    obtain ⟨h1, h2⟩ := hp
    rw [ebs_cons] at h1 h2 ⊢
    simp only [List.length_append] at h1 h2 ⊢
    refine Runs.cons i c l _ (hv c (by simp)) ⟨by omega, fun j hj => ?_⟩ ?_
    · have := h2 j (by omega)
      rw [this]
      simp only [List.getD_eq_getElem?_getD]
      rw [List.getElem?_append_left hj]
    · have := runs_of_bytes (s := s) l (i + (eb c).length) (fun c hc => hv c (by simp [hc])) ⟨by omega, fun j hj => by
        have := h2 ((eb c).length + j) (by omega)
        rw [show ((i + (eb c).length : Nat) : Int) + (j : Int) = (i : Int) + (((eb c).length + j : Nat) : Int) by omega, this]
        simp only [List.getD_eq_getElem?_getD]
        rw [List.getElem?_append_right (by omega)]
        congr 2
        omega⟩
      rwa [Nat.add_assoc] at this
end Utf
end Go.Proofs.YtbpcoieemkojjaaDoor
/- A law for 'for x := range f { .. }' of this repo's own: the iterator may keep state of its own in blocks of a set SI that the loop's body leaves alone; the body's blocks are left alone by the iterator. -/
namespace Go.Proofs.YtbpcoieemkojjaaDoor
set_option linter.unusedSimpArgs false
set_option linter.unusedVariables false
open Go.RowKit

/-- From A to B blocks of S alone are turned, and new ones are laid. -/
structure Chg (S : Nat → Prop) (A B : World) : Prop where
  os : B.os = A.os
  tape : B.tape = A.tape
  output : B.output = A.output
  size : A.heap.size ≤ B.heap.size
  block : ∀ k, k < A.heap.size → ¬ S k → B.heap[k]? = A.heap[k]?
theorem Chg.refl (S : Nat → Prop) (A : World) : Chg S A A := ⟨rfl, rfl, rfl, Nat.le_refl _, fun _ _ _ => rfl⟩
theorem Chg.trans {S : Nat → Prop} {A B C : World} (h : Chg S A B) (k : Chg S B C) : Chg S A C :=
  ⟨k.os.trans h.os, k.tape.trans h.tape, k.output.trans h.output, Nat.le_trans h.size k.size, fun i hi hs => (k.block i (Nat.lt_of_lt_of_le hi h.size) hs).trans (h.block i hi hs)⟩
theorem Chg.mono {S T : Nat → Prop} {A B : World} (h : Chg S A B) (hst : ∀ k, S k → T k) : Chg T A B := ⟨h.os, h.tape, h.output, h.size, fun k hk hs => h.block k hk (fun hS => hs (hst k hS))⟩
theorem Chg.alloc {S : Nat → Prop} {A B : World} (h : Chg S A B) (o : Obj) : Chg S A (B.alloc o) :=
  h.trans ⟨rfl, rfl, rfl, by simp, fun k hk _ => Below.heap_alloc _ _ _ hk⟩
theorem Chg.drew {S : Nat → Prop} {A B : World} (h : Chg S A B) : Chg S A B.drew := ⟨h.os, h.tape, h.output, h.size, h.block⟩
theorem Chg.drewN {S : Nat → Prop} {A B : World} (h : Chg S A B) (n : Nat) : Chg S A (B.drewN n) := ⟨h.os, h.tape, h.output, h.size, h.block⟩
theorem Chg.setCell {S : Nat → Prop} {A B : World} (h : Chg S A B) {p : Addr} (hp : S p.block) (v : Value) : Chg S A (B.setCell p v) :=
  h.trans ⟨rfl, rfl, rfl, by simp [World.setCell], fun k _ hs => Below.heap_setCell _ _ _ _ (fun e => hs (e ▸ hp))⟩
/-- A store into a block that came behind A. -/
theorem Chg.setNew {S : Nat → Prop} {A B : World} (h : Chg S A B) {p : Addr} (hp : A.heap.size ≤ p.block) (v : Value) : Chg S A (B.setCell p v) :=
  ⟨h.os, h.tape, h.output, Nat.le_trans h.size (by simp [World.setCell]), fun k hk hs => (Below.heap_setCell _ _ _ _ (fun e => by omega)).trans (h.block k hk hs)⟩
theorem Chg.putObj {S : Nat → Prop} {A B : World} (h : Chg S A B) {l : Nat} (hl : S l) (o : Obj) : Chg S A (B.putObj l o) :=
  h.trans ⟨rfl, rfl, rfl, by simp, fun k _ hs => World.putObj_heap_other (fun e => hs (e ▸ hl))⟩
theorem Chg.below {S : Nat → Prop} {A B : World} (h : Chg S A B) {C : World} {n : Nat} (hb : Below n B C) (hn : ∀ k, k < A.heap.size → ¬ S k → k < n) : Chg S A C :=
  ⟨hb.os.trans h.os, hb.tape.trans h.tape, hb.output.trans h.output, Nat.le_trans h.size hb.size, fun k hk hs => (hb.block k (hn k hk hs)).trans (h.block k hk hs)⟩
/-- A call that leaves all that lay alone. -/
theorem Chg.call {S : Nat → Prop} {A B : World} (h : Chg S A B) {C : World} (hb : Below B.heap.size B C) : Chg S A C := h.below hb (fun _ hk _ => Nat.lt_of_lt_of_le hk h.size)
theorem Chg.grown {S : Nat → Prop} {A B : World} (h : Chg S A B) {C : World} {row : Option Nat} (hg : B.grownBy C row) (hr : ∀ r, row = some r → S r ∨ A.heap.size ≤ r) : Chg S A C :=
  ⟨hg.os.trans h.os, hg.tape.trans h.tape, hg.output.trans h.output, Nat.le_trans h.size hg.size, fun k hk hs => (hg.block k (Nat.lt_of_lt_of_le hk h.size) (fun e => by rcases hr k e.symm with h1 | h1; exact hs h1; omega)).trans (h.block k hk hs)⟩
theorem Below.chg {n : Nat} {a A B : World} (h : Below n a A) {S : Nat → Prop} (hc : Chg S A B) (hn : n ≤ A.heap.size) (hs : ∀ k, S k → n ≤ k) : Below n a B :=
  h.trans ⟨hc.os, hc.tape, hc.output, hc.size, fun k hk => hc.block k (by omega) (fun e => by have := hs k e; omega)⟩
theorem Chg.cell {S : Nat → Prop} {A B : World} (h : Chg S A B) {a : Addr} {v : Value} (hv : A.cell? a = some v) (hs : ¬ S a.block) : B.cell? a = some v :=
  (World.cell?_of_block (w := A) (h.block a.block (lt_of_cell hv) hs)).trans hv
theorem Chg.heap {S : Nat → Prop} {A B : World} (h : Chg S A B) {k : Nat} {o : Obj} (hv : A.heap[k]? = some o) (hs : ¬ S k) : B.heap[k]? = some o :=
  (h.block k (Array.getElem?_eq_some_iff.1 hv).1 hs).trans hv
theorem Chg.of_below {S : Nat → Prop} {A B : World} (h : Below A.heap.size A B) : Chg S A B := (Chg.refl S A).call h

/-- The contract of an iterator that goes through xs. -/
def Iter {α : Type} (F : Fence) (n : Nat) (P : Program) (g : Nat) (lb : Array Value) (encs : α → Array Value) (SI : Nat → Prop) (xs : List α) (W0 : World → Prop) : Prop :=
  ∀ (l : Nat) (J Jx : Nat → World → Prop) (W : World), W0 W → (∀ k A B, J k A → Chg SI A B → J k B) → (∀ k A B, Jx k A → Chg SI A B → Jx k B) →
    (∀ k x A, xs[k]? = some x → J k A → YieldAt F (n - 1) P l (encs x) A fun e B =>
      (e = .returned (.bool true) ∧ J (k + 1) B ∧ Chg (fun j => ¬ SI j) A B) ∨ (e = .returned (.bool false) ∧ Jx (k + 1) B)) →
    J 0 W →
    CallsIn F n P g (#[.func (.yield l) #[] #[]] ++ lb) W fun e B => (∃ v, e = .returned v) ∧ (J xs.length B ∨ ∃ k, k ≤ xs.length ∧ Jx k B)

/-- What the loop itself and its iterator turn. -/
def SJ (SI : Nat → Prop) (z : Nat) (k : Nat) : Prop := SI k ∨ k = z ∨ k = z + 1

/-- How a round's body may be left. -/
def itPost (T : Nat → Prop) (I : Nat → World → Prop) (Ix : Code → Nat → World → Prop) (k : Nat) (A : World) : Exit → Act → World → Prop
  | .normal, _, B => Chg (fun j => ¬ T j) A B ∧ I k B
  | .ret, _, B => Chg (fun j => ¬ T j) A B ∧ Ix .ret k B
  | .exit id, _, B => Chg (fun j => ¬ T j) A B ∧ Ix (.exit id) k B
  | .goto t, _, B => Chg (fun j => ¬ T j) A B ∧ Ix (.goto t) k B
  | .panic _, _, _ => False
  | .outgrown, _, _ => False

variable {F : Fence} {n : Nat} {P : Program}

theorem wpIn_range_it {α : Type} {g : Operand} {ps : Array Tmp} {assign body : Code} {Q : Exit → Act → World → Prop} {a : Act} {w : World}
    (hro : F.round = none) (h1 : 1 ≤ n) {gf : Nat} {lb : Array Value} (hg : a.eval g = .func (.func gf) #[] lb) (hFg : F.fn gf) (eg : ∀ args w, (callFunc gf args).run P w = .ok (.enter gf args) w)
    {encs : α → Array Value} {SI : Nat → Prop} {xs : List α} {W0 : World → Prop} (hit : Iter F (n - 1) P gf lb encs SI xs W0)
    (hW0 : ∀ W, Chg (fun _ => False) w W → W0 W) (hSI : ∀ k, SI k → k < w.heap.size ∨ w.heap.size + 2 ≤ k) (hps : ∀ x, (encs x).size = ps.size)
    (I : Nat → World → Prop) (Ix : Code → Nat → World → Prop) (hI : ∀ k A B, I k A → Chg (SJ SI w.heap.size) A B → I k B) (hIx : ∀ c k A B, Ix c k A → Chg (SJ SI w.heap.size) A B → Ix c k B) (h0 : I 0 w)
    (Ax : α → Act → World → Prop) (hAx : ∀ x a' A B, Ax x a' A → Chg (SJ SI w.heap.size) A B → Ax x a' B)
    (hassign : ∀ (l k : Nat) (x : α) (A : World) (K : Act → World → Prop), xs[k]? = some x → I k A → (∀ a' B, Chg (fun j => ¬ SJ SI w.heap.size j) A B → I k B → Ax x a' B → K a' B) →
      assign.wpIn (F.inRound l) (n - 1 - 1) P (Exit.then K (fun _ _ _ => False)) { tmps := (ps.zip (encs x)).foldl (fun t (p, v) => t.setIfInBounds p v) a.tmps, defers := [] } A)
    (hbody : ∀ (k : Nat) (x : α) (a' : Act) (A : World), (∃ r, A.heap[w.heap.size + 1]? = some (.loop r)) → xs[k]? = some x → I k A → Ax x a' A → body.wpIn (F.inRound (w.heap.size + 1)) (n - 1 - 1) P (itPost (SJ SI w.heap.size) I Ix (k + 1) A) a' A)
    (hdone : ∀ (B : World), I xs.length B → B.heap[w.heap.size]? = some (.deferred (some [])) → Q .normal { a with defers := { target := .collected w.heap.size, args := #[] } :: a.defers } B)
    (hstop : ∀ (c : Code) (k : Nat) (B : World), k ≤ xs.length → Ix c k B → B.heap[w.heap.size]? = some (.deferred (some [])) → c.wpIn F n P Q { a with defers := { target := .collected w.heap.size, args := #[] } :: a.defers } B) :
    (Code.rangeFunc g ps assign body).wpIn F n P Q a w := by
  refine wpIn_rangeFunc ?_
  intro fn hfn
  rw [hro]
  obtain ⟨rec, hrec⟩ : ∃ rec : LoopState → Option Code → Loop, rec = fun st pe => { state := st, pending := pe, fn, tmps := a.tmps, params := ps, assign, body, defers := w.heap.size } := ⟨_, rfl⟩
  obtain ⟨W1, hW1⟩ : ∃ W1, (w.alloc (.deferred (some []))).alloc (.loop (rec .ready none)) = W1 := ⟨_, rfl⟩
  have hL1 : W1.heap[w.heap.size + 1]? = some (.loop (rec .ready none)) := by
    rw [← hW1]; have := World.alloc_heap_new (w.alloc (.deferred (some []))) (.loop (rec .ready none)); rwa [World.size_alloc] at this
  have hK1 : W1.heap[w.heap.size]? = some (.deferred (some [])) := by
    rw [← hW1]; exact (Below.heap_alloc _ _ _ (by simp)).trans (World.alloc_heap_new w _)
  have hC1 : ∀ S, Chg S w W1 := fun S => by rw [← hW1]; exact ((Chg.refl S w).alloc _).alloc _
  have hI1 : I 0 W1 := hI _ _ _ h0 (hC1 _)
  have hnl : ¬ SI (w.heap.size + 1) := fun h => by have := hSI _ h; omega
  have hnd : ¬ SI w.heap.size := fun h => by have := hSI _ h; omega
  have jl : SJ SI w.heap.size (w.heap.size + 1) := .inr (.inr rfl)
  have jd : SJ SI w.heap.size w.heap.size := .inr (.inl rfl)
  have jm : ∀ k, SI k → SJ SI w.heap.size k := fun k h => .inl h
  have jn : ∀ {A B : World}, Chg (fun j => ¬ SJ SI w.heap.size j) A B → Chg (fun j => ¬ SI j) A B := fun h => h.mono (fun k hk hS => hk (jm k hS))
  refine ⟨w.heap.size + 1, [{ target := .collected w.heap.size, args := #[] }], W1, { target := .fn (.func gf) lb, args := #[.func (.yield (w.heap.size + 1)) #[] #[]] }, W1, gf,
    #[.func (.yield (w.heap.size + 1)) #[] #[]] ++ lb, W1, ?_, ?_, ?_, ?_, fun _ => h1, ?_⟩
  · rw [← hW1, hrec]; exact run_enterLoop_outer _ _ _ _ _
  · simp only [resolve, hg]
    simp [go_sem]
  · intro f' hf'; simp [Target.leads] at hf'; subst hf'; exact hFg
  · simp [invoke, go_sem, eg]
  · refine (hit (w.heap.size + 1)
      (fun k W => I k W ∧ W.heap[w.heap.size + 1]? = some (.loop (rec .ready none)) ∧ W.heap[w.heap.size]? = some (.deferred (some [])))
      (fun k W => ∃ c, Ix c k W ∧ W.heap[w.heap.size + 1]? = some (.loop (rec .done (some c))) ∧ W.heap[w.heap.size]? = some (.deferred (some [])))
      W1 (hW0 _ (hC1 _))
      (fun k A B hs hc => ⟨hI k A B hs.1 (hc.mono jm), hc.heap hs.2.1 hnl, hc.heap hs.2.2 hnd⟩)
      (fun k A B hs hc => by
        obtain ⟨c, hx, hl, hk⟩ := hs
        exact ⟨c, hIx c k A B hx (hc.mono jm), hc.heap hl hnl, hc.heap hk hnd⟩)
      ?_ ⟨hI1, hL1, hK1⟩).mono ?_
    · rintro k x W hx ⟨hi, hl, hk⟩
      have hy := run_yield (P := P) (args := encs x) hl (by rw [hrec]; exact hps x)
      rw [hrec] at hy
      refine ⟨fn, _, assign, body, hy, roundIn_of_wpIn hfn (hassign _ k x W _ hx hi ?_)⟩
      clear hy
      intro a' Wa hca hia hax
      have hl' := hca.heap hl (fun h => h jl)
      have hk' := hca.heap hk (fun h => h jd)
      have hlt : w.heap.size + 1 < Wa.heap.size := (Array.getElem?_eq_some_iff.1 hl').1
      refine ⟨_, run_beginRound hl' (by rw [hrec]), ?_⟩
      obtain ⟨W2, hW2⟩ : ∃ W2, Wa.putObj (w.heap.size + 1) (.loop { rec .ready none with state := .busy }) = W2 := ⟨_, rfl⟩
      have hl2 : W2.heap[w.heap.size + 1]? = some (.loop { rec .ready none with state := .busy }) := by rw [← hW2]; exact World.putObj_heap_same hlt
      have hk2 : W2.heap[w.heap.size]? = some (.deferred (some [])) := by rw [← hW2]; exact (World.putObj_heap_other (by omega)).trans hk'
      have hc2 : Chg (SJ SI w.heap.size) Wa W2 := by rw [← hW2]; exact (Chg.refl _ _).putObj jl _
      have hc2' : Chg (fun j => ¬ SI j) W W2 := by rw [← hW2]; exact (jn hca).putObj hnl _
      rw [hW2]
      refine wpIn_mono (hbody k x a' _ ⟨_, hl2⟩ hx (hI _ _ _ hia hc2) (hAx x a' _ _ hax hc2)) ?_
      have fin : ∀ (jump : Option Code) (W3 : World), Chg (fun j => ¬ SJ SI w.heap.size j) W2 W3 →
          (Instr.endRound (w.heap.size + 1) jump).run P W3 = .ok (.bool jump.isNone) (W3.putObj (w.heap.size + 1) (.loop (rec (if jump.isNone then .ready else .done) jump))) ∧
          (W3.putObj (w.heap.size + 1) (.loop (rec (if jump.isNone then .ready else .done) jump))).heap[w.heap.size + 1]? = some (.loop (rec (if jump.isNone then .ready else .done) jump)) ∧
          (W3.putObj (w.heap.size + 1) (.loop (rec (if jump.isNone then .ready else .done) jump))).heap[w.heap.size]? = some (.deferred (some [])) ∧
          Chg (SJ SI w.heap.size) W3 (W3.putObj (w.heap.size + 1) (.loop (rec (if jump.isNone then .ready else .done) jump))) := fun jump W3 hk3 => by
        have hl3 := hk3.heap hl2 (fun h => h jl)
        have := run_endRound (P := P) jump hl3
        rw [hrec] at this ⊢
        exact ⟨this, World.putObj_heap_same (Array.getElem?_eq_some_iff.1 hl3).1, (World.putObj_heap_other (by omega)).trans (hk3.heap hk2 (fun h => h jd)), (Chg.refl _ _).putObj jl _⟩
      rintro e a3 W3 hp
      cases e with
      | normal =>
        obtain ⟨hk3, hi3⟩ := hp
        obtain ⟨hr, hl4, hk4, hc4⟩ := fin none W3 hk3
        exact ⟨_, _, hr, .inl ⟨rfl, ⟨hI _ _ _ hi3 hc4, hl4, hk4⟩, (hc2'.trans (jn hk3)).putObj hnl _⟩⟩
      | ret =>
        obtain ⟨hk3, hi3⟩ := hp
        obtain ⟨hr, hl4, hk4, hc4⟩ := fin (some .ret) W3 hk3
        exact ⟨_, _, hr, .inr ⟨rfl, .ret, hIx _ _ _ _ hi3 hc4, hl4, hk4⟩⟩
      | exit id =>
        obtain ⟨hk3, hi3⟩ := hp
        obtain ⟨hr, hl4, hk4, hc4⟩ := fin (some (.exit id)) W3 hk3
        exact ⟨_, _, hr, .inr ⟨rfl, .exit id, hIx _ _ _ _ hi3 hc4, hl4, hk4⟩⟩
      | goto t =>
        obtain ⟨hk3, hi3⟩ := hp
        obtain ⟨hr, hl4, hk4, hc4⟩ := fin (some (.goto t)) W3 hk3
        exact ⟨_, _, hr, .inr ⟨rfl, .goto t, hIx _ _ _ _ hi3 hc4, hl4, hk4⟩⟩
      | panic ch => exact hp.elim
      | outgrown => exact hp.elim
    · rintro e W2 ⟨⟨v, rfl⟩, (⟨hi, hl, hk⟩ | ⟨k, hkle, c, hi, hl, hk⟩)⟩
      · exact ⟨none, _, by have := run_endLoop (P := P) hl (by rw [hrec]; simp); rw [hrec] at this; exact this, hdone _ (hI _ _ _ hi ((Chg.refl _ _).putObj jl _)) ((World.putObj_heap_other (by omega)).trans hk)⟩
      · exact ⟨some c, _, by have := run_endLoop (P := P) hl (by rw [hrec]; simp); rw [hrec] at this; exact this, hstop c k _ hkle (hIx _ _ _ _ hi ((Chg.refl _ _).putObj jl _)) ((World.putObj_heap_other (by omega)).trans hk)⟩

/-- The same where the assignment to the loop's left sides lays nothing. -/
theorem wpIn_range_it1 {α : Type} {g : Operand} {ps : Array Tmp} {assign body : Code} {Q : Exit → Act → World → Prop} {a : Act} {w : World}
    (hro : F.round = none) (h1 : 1 ≤ n) {gf : Nat} {lb : Array Value} (hg : a.eval g = .func (.func gf) #[] lb) (hFg : F.fn gf) (eg : ∀ args w, (callFunc gf args).run P w = .ok (.enter gf args) w)
    {encs : α → Array Value} {SI : Nat → Prop} {xs : List α} {W0 : World → Prop} (hit : Iter F (n - 1) P gf lb encs SI xs W0)
    (hW0 : ∀ W, Chg (fun _ => False) w W → W0 W) (hSI : ∀ k, SI k → k < w.heap.size ∨ w.heap.size + 2 ≤ k) (hps : ∀ x, (encs x).size = ps.size)
    (I : Nat → World → Prop) (Ix : Code → Nat → World → Prop) (hI : ∀ k A B, I k A → Chg (SJ SI w.heap.size) A B → I k B) (hIx : ∀ c k A B, Ix c k A → Chg (SJ SI w.heap.size) A B → Ix c k B) (h0 : I 0 w) (a₁ : α → Act)
    (hassign : ∀ (l : Nat) (x : α) (A : World) (K : Act → World → Prop), K (a₁ x) A →
      assign.wpIn (F.inRound l) (n - 1 - 1) P (Exit.then K (fun _ _ _ => False)) { tmps := (ps.zip (encs x)).foldl (fun t (p, v) => t.setIfInBounds p v) a.tmps, defers := [] } A)
    (hbody : ∀ (k : Nat) (x : α) (A : World), (∃ r, A.heap[w.heap.size + 1]? = some (.loop r)) → xs[k]? = some x → I k A → body.wpIn (F.inRound (w.heap.size + 1)) (n - 1 - 1) P (itPost (SJ SI w.heap.size) I Ix (k + 1) A) (a₁ x) A)
    (hdone : ∀ (B : World), I xs.length B → B.heap[w.heap.size]? = some (.deferred (some [])) → Q .normal { a with defers := { target := .collected w.heap.size, args := #[] } :: a.defers } B)
    (hstop : ∀ (c : Code) (k : Nat) (B : World), k ≤ xs.length → Ix c k B → B.heap[w.heap.size]? = some (.deferred (some [])) → c.wpIn F n P Q { a with defers := { target := .collected w.heap.size, args := #[] } :: a.defers } B) :
    (Code.rangeFunc g ps assign body).wpIn F n P Q a w :=
  wpIn_range_it hro h1 hg hFg eg hit hW0 hSI hps I Ix hI hIx h0 (fun x a' _ => a' = a₁ x) (fun _ _ _ _ h _ => h)
    (fun l k x A K _ hi hK => hassign l x A K (hK _ _ (Chg.refl _ _) hi rfl)) (fun k x a' A hr hx hi ha => by subst ha; exact hbody k x A hr hx hi) hdone hstop

theorem ownsRow_chg {W W' : World} {base : Nat} {e : TypeId} {size : Nat} {v : Value} {n : Nat} {xs : List Value} (h : W.ownsRow base e size v n xs) {S : Nat → Prop} (hc : Chg S W W') (hs : ∀ k, S k → k < base) : W'.ownsRow base e size v n xs := by
  obtain ⟨h1, h2⟩ := h
  refine ⟨h1, ?_⟩
  rcases h2 with h2 | ⟨g, cap, cur, hv, hg, hh, r⟩
  · exact .inl h2
  · exact .inr ⟨g, cap, cur, hv, hg, hc.heap hh (fun hS => by have := hs g hS; omega), r⟩
theorem Boxed_chg {W W' : World} {B : Nat} {t : TypeId} {v : Value} (h : Boxed W B t v) {S : Nat → Prop} (hc : Chg S W W') (hs : ¬ S B) : Boxed W' B t v := hc.heap h hs

/-- 'out = append(out, ..)', out in a box. -/
theorem box_appended {W w1 : World} {base B : Nat} {t e : TypeId} {size : Nat} {v v' : Value} {k m : Nat} {xs ys : List Value} {tmp : Obj}
    (hv : Boxed W B t v) (hte : t ≠ e) (hrow : W.ownsRow base e size v k xs) (hown' : w1.ownsRow base e size v' m ys) (hgrow : (W.alloc tmp).grownBy w1 v.ownBlock) :
    Boxed w1 B t v ∧ Boxed (w1.setCell ⟨B, 0, none⟩ v') B t v' ∧ (w1.setCell ⟨B, 0, none⟩ v').ownsRow base e size v' m ys ∧
      ∀ S : Nat → Prop, S B → (∀ k, base ≤ k → S k) → Chg S W (w1.setCell ⟨B, 0, none⟩ v') := by
  have hv1 : Boxed w1 B t v := (hv.alloc tmp).kept hgrow (hv.not_row hte hrow)
  refine ⟨hv1, hv1.set v', hown'.kept (grownBy_setCell' w1 B v') (.inr (hv1.not_row hte hown').symm), fun S hB hS => ?_⟩
  refine Chg.setCell (Chg.grown ((Chg.refl S W).alloc tmp) hgrow fun r er => .inl (hS r ?_)) hB v'
  rcases hrow.2 with ⟨rfl, _⟩ | ⟨g, cap, cur, rfl, hb, _, _⟩
  · simp [Value.ownBlock] at er
  · obtain rfl : g = r := by simpa [Value.ownBlock] using er
    exact hb
end Go.Proofs.YtbpcoieemkojjaaDoor
/- A second law for 'for x := range f { .. }' of this repo's own: the loop's side holds a set U of blocks that may grow from round to round; the iterator turns no block of U, the loop's body turns blocks of U alone, and new ones; neither turns a block of Rd. -/
namespace Go.Proofs.YtbpcoieemkojjaaDoor
set_option linter.unusedSimpArgs false
set_option linter.unusedVariables false
open Go.RowKit

/-- A second change whose blocks, as far as they lay at the begin, are S's. -/
theorem Chg.trans' {S T : Nat → Prop} {A B C : World} (h : Chg S A B) (k : Chg T B C) (hT : ∀ j, j < A.heap.size → T j → S j) : Chg S A C :=
  ⟨k.os.trans h.os, k.tape.trans h.tape, k.output.trans h.output, Nat.le_trans h.size k.size, fun i hi hs => (k.block i (Nat.lt_of_lt_of_le hi h.size) (fun e => hs (hT i hi e))).trans (h.block i hi hs)⟩

/-- From A to B the loop's side turned blocks of U alone; U' holds what it holds now. -/
structure UStep (U : Nat → Prop) (A : World) (U' : Nat → Prop) (B : World) : Prop where
  old : ∀ j, U' j → U j ∨ A.heap.size ≤ j
  lt : ∀ j, U' j → j < B.heap.size
  chg : Chg U A B
theorem UStep.same {U : Nat → Prop} {A B : World} (hU : ∀ j, U j → j < A.heap.size) (h : Chg U A B) : UStep U A U B := ⟨fun _ h => .inl h, fun j hj => Nat.lt_of_lt_of_le (hU j hj) h.size, h⟩
theorem UStep.trans {U U' U'' : Nat → Prop} {A B C : World} (h : UStep U A U' B) (k : UStep U' B U'' C) : UStep U A U'' C :=
  ⟨fun j hj => by
      rcases k.old j hj with h1 | h1
      · exact h.old j h1
      · exact .inr (Nat.le_trans h.chg.size h1),
    k.lt, ⟨k.chg.os.trans h.chg.os, k.chg.tape.trans h.chg.tape, k.chg.output.trans h.chg.output, Nat.le_trans h.chg.size k.chg.size, fun i hi hs => (k.chg.block i (Nat.lt_of_lt_of_le hi h.chg.size) (fun h' => by
      rcases h.old i h' with h2 | h2
      · exact hs h2
      · omega)).trans (h.chg.block i hi hs)⟩⟩

/-- The contract of an iterator that goes through xs; W0: what it asks at its begin of the loop's blocks and of the world; E: what holds behind it, if it came to its end. -/
def IterD {α : Type} (F : Fence) (n : Nat) (P : Program) (g : Nat) (lb : Array Value) (encs : α → Array Value) (xs : List α) (Rd : Nat → Prop) (W0 : (Nat → Prop) → World → Prop) (E : World → Prop) : Prop :=
  ∀ (l : Nat) (J Jx : Nat → (Nat → Prop) → World → Prop) (U0 : Nat → Prop) (W : World), W0 U0 W → (∀ j, U0 j → j < W.heap.size ∧ ¬ Rd j) → (∀ j, Rd j → j < W.heap.size) →
    (∀ k U A B, J k U A → Chg (fun j => ¬ U j ∧ ¬ Rd j) A B → J k U B) → (∀ k U A B, Jx k U A → Chg (fun j => ¬ U j ∧ ¬ Rd j) A B → Jx k U B) →
    (∀ k x U A, xs[k]? = some x → (∀ j, U j → j < A.heap.size ∧ ¬ Rd j) → J k U A → YieldAt F (n - 1) P l (encs x) A fun e B =>
      (e = .returned (.bool true) ∧ ∃ U', UStep U A U' B ∧ J (k + 1) U' B) ∨ (e = .returned (.bool false) ∧ ∃ U', UStep U A U' B ∧ Jx (k + 1) U' B)) →
    J 0 U0 W →
    CallsIn F n P g (#[.func (.yield l) #[] #[]] ++ lb) W fun e B => (∃ v, e = .returned v) ∧ W.heap.size ≤ B.heap.size ∧ ((∃ U, (∀ j, U j → j < B.heap.size ∧ ¬ Rd j) ∧ J xs.length U B ∧ E B) ∨ ∃ k, k ≤ xs.length ∧ ∃ U, (∀ j, U j → j < B.heap.size ∧ ¬ Rd j) ∧ Jx k U B)

/-- The loop's own two blocks. -/
def LZ (z : Nat) (k : Nat) : Prop := k = z ∨ k = z + 1
/-- How a round's body may be left. -/
def itPostD (I : Nat → (Nat → Prop) → World → Prop) (Ix : Code → Nat → (Nat → Prop) → World → Prop) (U : Nat → Prop) (k : Nat) (A : World) : Exit → Act → World → Prop
  | .normal, _, B => ∃ U', UStep U A U' B ∧ I k U' B
  | .ret, _, B => ∃ U', UStep U A U' B ∧ Ix .ret k U' B
  | .exit id, _, B => ∃ U', UStep U A U' B ∧ Ix (.exit id) k U' B
  | .goto t, _, B => ∃ U', UStep U A U' B ∧ Ix (.goto t) k U' B
  | .panic _, _, _ => False
  | .outgrown, _, _ => False

variable {F : Fence} {n : Nat} {P : Program}

theorem wpIn_range_itD {α : Type} {g : Operand} {ps : Array Tmp} {assign body : Code} {Q : Exit → Act → World → Prop} {a : Act} {w : World}
    (hro : F.round = none) (h1 : 1 ≤ n) {gf : Nat} {lb : Array Value} (hg : a.eval g = .func (.func gf) #[] lb) (hFg : F.fn gf) (eg : ∀ args w, (callFunc gf args).run P w = .ok (.enter gf args) w)
    {encs : α → Array Value} {xs : List α} {Rd : Nat → Prop} {W0 : (Nat → Prop) → World → Prop} {E : World → Prop} (hit : IterD F (n - 1) P gf lb encs xs Rd W0 E) (hRd : ∀ j, Rd j → j < w.heap.size)
    (U0 : Nat → Prop) (hU0 : ∀ j, U0 j → j < w.heap.size ∧ ¬ Rd j)
    (hW0 : ∀ W, Chg (fun _ => False) w W → W.heap.size = w.heap.size + 2 → W0 (fun j => U0 j ∨ LZ w.heap.size j) W) (hps : ∀ x, (encs x).size = ps.size)
    (I : Nat → (Nat → Prop) → World → Prop) (Ix : Code → Nat → (Nat → Prop) → World → Prop)
    (hI : ∀ k U A B, I k U A → w.heap.size + 2 ≤ B.heap.size → Chg (fun j => ¬ U j ∧ ¬ Rd j) A B → I k U B) (hIx : ∀ c k U A B, Ix c k U A → Chg (fun j => ¬ U j ∧ ¬ Rd j) A B → Ix c k U B)
    (hE : ∀ A B, E A → Chg (LZ w.heap.size) A B → E B) (h0 : I 0 U0 w)
    (Ax : α → Act → World → Prop) (hAx : ∀ x a' A B, Ax x a' A → Chg (LZ w.heap.size) A B → Ax x a' B)
    (hassign : ∀ (l k : Nat) (x : α) (U : Nat → Prop) (A : World) (K : Act → World → Prop), xs[k]? = some x → I k U A → (∀ j, U j → j < A.heap.size ∧ ¬ Rd j) → w.heap.size + 2 ≤ A.heap.size →
      (∀ a' U1 B, UStep U A U1 B → I k U1 B → Ax x a' B → K a' B) →
      assign.wpIn (F.inRound l) (n - 1 - 1) P (Exit.then K (fun _ _ _ => False)) { tmps := (ps.zip (encs x)).foldl (fun t (p, v) => t.setIfInBounds p v) a.tmps, defers := [] } A)
    (hbody : ∀ (k : Nat) (x : α) (U : Nat → Prop) (a' : Act) (A : World), (∃ r, A.heap[w.heap.size + 1]? = some (.loop r)) → xs[k]? = some x → I k U A → (∀ j, U j → j < A.heap.size ∧ ¬ Rd j) → w.heap.size + 2 ≤ A.heap.size → Ax x a' A →
      body.wpIn (F.inRound (w.heap.size + 1)) (n - 1 - 1) P (itPostD I Ix U (k + 1) A) a' A)
    (hdone : ∀ (U : Nat → Prop) (B : World), I xs.length U B → E B → (∀ j, U j → j < B.heap.size ∧ ¬ Rd j) → w.heap.size + 2 ≤ B.heap.size → B.heap[w.heap.size]? = some (.deferred (some [])) → Q .normal { a with defers := { target := .collected w.heap.size, args := #[] } :: a.defers } B)
    (hstop : ∀ (c : Code) (k : Nat) (U : Nat → Prop) (B : World), k ≤ xs.length → Ix c k U B → (∀ j, U j → j < B.heap.size ∧ ¬ Rd j) → w.heap.size + 2 ≤ B.heap.size → B.heap[w.heap.size]? = some (.deferred (some [])) → c.wpIn F n P Q { a with defers := { target := .collected w.heap.size, args := #[] } :: a.defers } B) :
    (Code.rangeFunc g ps assign body).wpIn F n P Q a w := by
  refine wpIn_rangeFunc ?_
  intro fn hfn
  rw [hro]
  obtain ⟨rec, hrec⟩ : ∃ rec : LoopState → Option Code → Loop, rec = fun st pe => { state := st, pending := pe, fn, tmps := a.tmps, params := ps, assign, body, defers := w.heap.size } := ⟨_, rfl⟩
  obtain ⟨W1, hW1⟩ : ∃ W1, (w.alloc (.deferred (some []))).alloc (.loop (rec .ready none)) = W1 := ⟨_, rfl⟩
  have hs1 : W1.heap.size = w.heap.size + 2 := by rw [← hW1]; simp
  have hL1 : W1.heap[w.heap.size + 1]? = some (.loop (rec .ready none)) := by
    rw [← hW1]; have := World.alloc_heap_new (w.alloc (.deferred (some []))) (.loop (rec .ready none)); rwa [World.size_alloc] at this
  have hK1 : W1.heap[w.heap.size]? = some (.deferred (some [])) := by
    rw [← hW1]; exact (Below.heap_alloc _ _ _ (by simp)).trans (World.alloc_heap_new w _)
  have hC1 : ∀ S, Chg S w W1 := fun S => by rw [← hW1]; exact ((Chg.refl S w).alloc _).alloc _
  obtain ⟨z, hz⟩ : ∃ z, w.heap.size = z := ⟨_, rfl⟩
  have hI1 : I 0 U0 W1 := hI _ _ _ _ h0 (by omega) (hC1 _)
  -- what the loop hands to the iterator: U and the loop's own blocks
  obtain ⟨UL, hUL⟩ : ∃ UL : (Nat → Prop) → Nat → Prop, UL = fun U j => U j ∨ LZ z j := ⟨_, rfl⟩
  have ulz : ∀ U, UL U z := fun U => by rw [hUL]; exact .inr (.inl rfl)
  have ulz1 : ∀ U, UL U (z + 1) := fun U => by rw [hUL]; exact .inr (.inr rfl)
  have ulU : ∀ U j, U j → UL U j := fun U j h => by rw [hUL]; exact .inl h
  -- a change of the iterator's leaves U alone, and the loop's blocks
  have jI : ∀ {U A B}, Chg (fun j => ¬ UL U j ∧ ¬ Rd j) A B → Chg (fun j => ¬ U j ∧ ¬ Rd j) A B := fun h => h.mono (fun k hk => ⟨fun hS => hk.1 (ulU _ _ hS), hk.2⟩)
  have jR : ∀ j, LZ z j → ¬ Rd j := fun j hj hr => by
    have := hRd j hr
    rcases hj with hj | hj <;> omega
  have jZ : ∀ {U : Nat → Prop} {A B : World}, (∀ j, U j → ¬ LZ z j) → Chg (LZ z) A B → Chg (fun j => ¬ U j ∧ ¬ Rd j) A B := fun hu h => h.mono (fun k hk => ⟨fun hS => hu k hS hk, jR k hk⟩)
  refine ⟨w.heap.size + 1, [{ target := .collected w.heap.size, args := #[] }], W1, { target := .fn (.func gf) lb, args := #[.func (.yield (w.heap.size + 1)) #[] #[]] }, W1, gf,
    #[.func (.yield (w.heap.size + 1)) #[] #[]] ++ lb, W1, ?_, ?_, ?_, ?_, fun _ => h1, ?_⟩
  · rw [← hW1, hrec]; exact run_enterLoop_outer _ _ _ _ _
  · simp only [resolve, hg]
    simp [go_sem]
  · intro f' hf'; simp [Target.leads] at hf'; subst hf'; exact hFg
  · simp [invoke, go_sem, eg]
  · simp only [hz] at *
    refine (hit (z + 1)
      (fun k U W => ∃ U', U = UL U' ∧ (∀ j, U' j → ¬ LZ z j) ∧ z + 2 ≤ W.heap.size ∧ I k U' W ∧ W.heap[z + 1]? = some (.loop (rec .ready none)) ∧ W.heap[z]? = some (.deferred (some [])))
      (fun k U W => ∃ U', U = UL U' ∧ (∀ j, U' j → ¬ LZ z j) ∧ z + 2 ≤ W.heap.size ∧ ∃ c, Ix c k U' W ∧ W.heap[z + 1]? = some (.loop (rec .done (some c))) ∧ W.heap[z]? = some (.deferred (some [])))
      (UL U0) W1 (by rw [hUL]; exact hW0 _ (hC1 _) hs1)
      (fun j hj => by
        rw [hUL] at hj
        rcases hj with hj | hj
        · have := hU0 j hj; exact ⟨by omega, this.2⟩
        · exact ⟨by rcases hj with hj | hj <;> omega, jR j hj⟩)
      (fun j hj => by have := hRd j hj; omega)
      (fun k U A B hs hc => by
        obtain ⟨U', rfl, hu, hsz, hi, hl, hk⟩ := hs
        exact ⟨U', rfl, hu, Nat.le_trans hsz hc.size, hI k U' A B hi (Nat.le_trans hsz hc.size) (jI hc), hc.heap hl (fun h => h.1 (ulz1 _)), hc.heap hk (fun h => h.1 (ulz _))⟩)
      (fun k U A B hs hc => by
        obtain ⟨U', rfl, hu, hsz, c, hx, hl, hk⟩ := hs
        exact ⟨U', rfl, hu, Nat.le_trans hsz hc.size, c, hIx c k U' A B hx (jI hc), hc.heap hl (fun h => h.1 (ulz1 _)), hc.heap hk (fun h => h.1 (ulz _))⟩)
      ?_ ⟨U0, rfl, fun j hj h => by
        have h1' := (hU0 j hj).1
        rcases h with h | h <;> omega, by omega, hI1, hL1, hK1⟩).mono ?_
    · rintro k x U W hx hUlt ⟨U, rfl, hu, hsz, hi, hl, hk⟩
      have hUl : ∀ j, U j → j < W.heap.size ∧ ¬ Rd j := fun j hj => hUlt j (ulU _ _ hj)
      have hy := run_yield (P := P) (args := encs x) hl (by rw [hrec]; exact hps x)
      rw [hrec] at hy
      refine ⟨fn, _, assign, body, hy, roundIn_of_wpIn hfn (hassign _ k x U W _ hx hi hUl hsz ?_)⟩
      clear hy
      intro a' U1 Wa hca hia hax
      have hnz : ¬ U z := fun h => hu _ h (.inl rfl)
      have hnz1 : ¬ U (z + 1) := fun h => hu _ h (.inr rfl)
      have hl' := hca.chg.heap hl hnz1
      have hk' := hca.chg.heap hk hnz
      have hlt : z + 1 < Wa.heap.size := (Array.getElem?_eq_some_iff.1 hl').1
      have hu1 : ∀ j, U1 j → ¬ LZ z j := fun j hj h => by
        rcases hca.old j hj with h2 | h2
        · exact hu j h2 h
        · rcases h with h | h <;> omega
      refine ⟨_, run_beginRound hl' (by rw [hrec]), ?_⟩
      obtain ⟨W2, hW2⟩ : ∃ W2, Wa.putObj (z + 1) (.loop { rec .ready none with state := .busy }) = W2 := ⟨_, rfl⟩
      have hl2 : W2.heap[z + 1]? = some (.loop { rec .ready none with state := .busy }) := by rw [← hW2]; exact World.putObj_heap_same hlt
      have hk2 : W2.heap[z]? = some (.deferred (some [])) := by rw [← hW2]; exact (World.putObj_heap_other (by omega)).trans hk'
      have hc2 : Chg (LZ z) Wa W2 := by rw [← hW2]; exact (Chg.refl _ _).putObj (.inr rfl) _
      have hs2 : Wa.heap.size = W2.heap.size := by rw [← hW2]; simp
      have hsa := hca.chg.size
      rw [hW2]
      have hlt1 : ∀ j, U1 j → j < W2.heap.size ∧ ¬ Rd j := fun j hj => ⟨by have := hca.lt j hj; omega, fun hr => by
        rcases hca.old j hj with h2 | h2
        · exact (hUl j h2).2 hr
        · have := hRd j hr; omega⟩
      refine wpIn_mono (hbody k x U1 a' _ ⟨_, hl2⟩ hx (hI _ _ _ _ hia (by omega) (jZ hu1 hc2)) hlt1 (by omega) (hAx x a' _ _ hax hc2)) ?_
      have fin : ∀ (jump : Option Code) (U3 : Nat → Prop) (W3 : World), UStep U1 W2 U3 W3 →
          (Instr.endRound (z + 1) jump).run P W3 = .ok (.bool jump.isNone) (W3.putObj (z + 1) (.loop (rec (if jump.isNone then .ready else .done) jump))) ∧
          (W3.putObj (z + 1) (.loop (rec (if jump.isNone then .ready else .done) jump))).heap[z + 1]? = some (.loop (rec (if jump.isNone then .ready else .done) jump)) ∧
          (W3.putObj (z + 1) (.loop (rec (if jump.isNone then .ready else .done) jump))).heap[z]? = some (.deferred (some [])) ∧
          Chg (LZ z) W3 (W3.putObj (z + 1) (.loop (rec (if jump.isNone then .ready else .done) jump))) ∧ (∀ j, U3 j → ¬ LZ z j) ∧
          UStep (UL U) W (UL U3) (W3.putObj (z + 1) (.loop (rec (if jump.isNone then .ready else .done) jump))) ∧ z + 2 ≤ (W3.putObj (z + 1) (.loop (rec (if jump.isNone then .ready else .done) jump))).heap.size := fun jump U3 W3 hk3 => by
        have hl3 := hk3.chg.heap hl2 (fun h => hu1 _ h (.inr rfl))
        have := run_endRound (P := P) jump hl3
        rw [hrec] at this ⊢
        have hs3 := hk3.chg.size
        have hps : ∀ (o : Obj), (W3.putObj (z + 1) o).heap.size = W3.heap.size := fun o => by simp
        have cz : ∀ (o : Obj), Chg (LZ z) W3 (W3.putObj (z + 1) o) := fun o => (Chg.refl _ _).putObj (.inr rfl) _
        have hu3 : ∀ j, U3 j → ¬ LZ z j := fun j hj h => by
          rcases hk3.old j hj with h2 | h2
          · exact hu1 j h2 h
          · rcases h with h | h <;> omega
        refine ⟨this, World.putObj_heap_same (Array.getElem?_eq_some_iff.1 hl3).1, (World.putObj_heap_other (by omega)).trans (hk3.chg.heap hk2 (fun h => hu1 _ h (.inl rfl))), cz _, hu3, ⟨fun j hj => ?_, fun j hj => ?_, ?_⟩, by rw [hps]; omega⟩
        · rw [hUL] at hj ⊢
          rcases hj with hj | hj
          · rcases hk3.old j hj with h2 | h2
            · rcases hca.old j h2 with h4 | h4
              · exact .inl (.inl h4)
              · exact .inr h4
            · right; omega
          · exact .inl (.inr hj)
        · rw [hps]
          rw [hUL] at hj
          rcases hj with hj | hj | hj
          · exact hk3.lt j hj
          · omega
          · omega
        · have c1 : Chg (UL U) W Wa := hca.chg.mono (ulU _)
          have c2 : Chg (UL U) Wa W2 := hc2.mono (fun j h => by rw [hUL]; exact .inr h)
          have c3 : Chg (UL U) W W3 := (c1.trans c2).trans' hk3.chg (fun j hj hU => by
            rcases hca.old j hU with h4 | h4
            · exact ulU _ _ h4
            · omega)
          exact c3.trans ((cz _).mono (fun j h => by rw [hUL]; exact .inr h))
      rintro e a3 W3 hp
      cases e with
      | normal =>
        obtain ⟨U3, hk3, hi3⟩ := hp
        obtain ⟨hr, hl4, hk4, hc4, hu3, hst, hs4⟩ := fin none U3 W3 hk3
        exact ⟨_, _, hr, .inl ⟨rfl, _, hst, U3, rfl, hu3, hs4, hI _ _ _ _ hi3 hs4 (jZ hu3 hc4), hl4, hk4⟩⟩
      | ret =>
        obtain ⟨U3, hk3, hi3⟩ := hp
        obtain ⟨hr, hl4, hk4, hc4, hu3, hst, hs4⟩ := fin (some .ret) U3 W3 hk3
        exact ⟨_, _, hr, .inr ⟨rfl, _, hst, U3, rfl, hu3, hs4, .ret, hIx _ _ _ _ _ hi3 (jZ hu3 hc4), hl4, hk4⟩⟩
      | exit id =>
        obtain ⟨U3, hk3, hi3⟩ := hp
        obtain ⟨hr, hl4, hk4, hc4, hu3, hst, hs4⟩ := fin (some (.exit id)) U3 W3 hk3
        exact ⟨_, _, hr, .inr ⟨rfl, _, hst, U3, rfl, hu3, hs4, .exit id, hIx _ _ _ _ _ hi3 (jZ hu3 hc4), hl4, hk4⟩⟩
      | goto t =>
        obtain ⟨U3, hk3, hi3⟩ := hp
        obtain ⟨hr, hl4, hk4, hc4, hu3, hst, hs4⟩ := fin (some (.goto t)) U3 W3 hk3
        exact ⟨_, _, hr, .inr ⟨rfl, _, hst, U3, rfl, hu3, hs4, .goto t, hIx _ _ _ _ _ hi3 (jZ hu3 hc4), hl4, hk4⟩⟩
      | panic ch => exact hp.elim
      | outgrown => exact hp.elim
    · rintro e W2 ⟨⟨v, rfl⟩, hs2, (⟨U, hlt, ⟨U, rfl, hu, hsz, hi, hl, hk⟩, hE2⟩ | ⟨k, hkle, U, hlt, U, rfl, hu, hsz, c, hi, hl, hk⟩)⟩
      · have cz : ∀ o, Chg (LZ z) W2 (W2.putObj (z + 1) o) := fun o => (Chg.refl _ _).putObj (.inr rfl) _
        have hps : ∀ (o : Obj), (W2.putObj (z + 1) o).heap.size = W2.heap.size := fun o => by simp
        exact ⟨none, _, by have := run_endLoop (P := P) hl (by rw [hrec]; simp); rw [hrec] at this; exact this,
          hdone U _ (hI _ _ _ _ hi (by rw [hps]; exact hsz) (jZ hu (cz _))) (hE _ _ hE2 (cz _)) (fun j hj => ⟨by rw [hps]; exact (hlt j (ulU _ _ hj)).1, (hlt j (ulU _ _ hj)).2⟩) (by rw [hps]; exact hsz) ((World.putObj_heap_other (by omega)).trans hk)⟩
      · have cz : ∀ o, Chg (LZ z) W2 (W2.putObj (z + 1) o) := fun o => (Chg.refl _ _).putObj (.inr rfl) _
        have hps : ∀ (o : Obj), (W2.putObj (z + 1) o).heap.size = W2.heap.size := fun o => by simp
        exact ⟨some c, _, by have := run_endLoop (P := P) hl (by rw [hrec]; simp); rw [hrec] at this; exact this,
          hstop c k U _ hkle (hIx _ _ _ _ _ hi (jZ hu (cz _))) (fun j hj => ⟨by rw [hps]; exact (hlt j (ulU _ _ hj)).1, (hlt j (ulU _ _ hj)).2⟩) (by rw [hps]; exact hsz) ((World.putObj_heap_other (by omega)).trans hk)⟩

/-- The same where the assignment to the loop's left sides lays nothing. -/
theorem wpIn_range_itD1 {α : Type} {g : Operand} {ps : Array Tmp} {assign body : Code} {Q : Exit → Act → World → Prop} {a : Act} {w : World}
    (hro : F.round = none) (h1 : 1 ≤ n) {gf : Nat} {lb : Array Value} (hg : a.eval g = .func (.func gf) #[] lb) (hFg : F.fn gf) (eg : ∀ args w, (callFunc gf args).run P w = .ok (.enter gf args) w)
    {encs : α → Array Value} {xs : List α} {Rd : Nat → Prop} {W0 : (Nat → Prop) → World → Prop} {E : World → Prop} (hit : IterD F (n - 1) P gf lb encs xs Rd W0 E) (hRd : ∀ j, Rd j → j < w.heap.size)
    (U0 : Nat → Prop) (hU0 : ∀ j, U0 j → j < w.heap.size ∧ ¬ Rd j)
    (hW0 : ∀ W, Chg (fun _ => False) w W → W.heap.size = w.heap.size + 2 → W0 (fun j => U0 j ∨ LZ w.heap.size j) W) (hps : ∀ x, (encs x).size = ps.size)
    (I : Nat → (Nat → Prop) → World → Prop) (Ix : Code → Nat → (Nat → Prop) → World → Prop)
    (hI : ∀ k U A B, I k U A → w.heap.size + 2 ≤ B.heap.size → Chg (fun j => ¬ U j ∧ ¬ Rd j) A B → I k U B) (hIx : ∀ c k U A B, Ix c k U A → Chg (fun j => ¬ U j ∧ ¬ Rd j) A B → Ix c k U B)
    (hE : ∀ A B, E A → Chg (LZ w.heap.size) A B → E B) (h0 : I 0 U0 w) (a₁ : α → Act)
    (hassign : ∀ (l : Nat) (x : α) (A : World) (K : Act → World → Prop), K (a₁ x) A →
      assign.wpIn (F.inRound l) (n - 1 - 1) P (Exit.then K (fun _ _ _ => False)) { tmps := (ps.zip (encs x)).foldl (fun t (p, v) => t.setIfInBounds p v) a.tmps, defers := [] } A)
    (hbody : ∀ (k : Nat) (x : α) (U : Nat → Prop) (A : World), (∃ r, A.heap[w.heap.size + 1]? = some (.loop r)) → xs[k]? = some x → I k U A → (∀ j, U j → j < A.heap.size ∧ ¬ Rd j) → w.heap.size + 2 ≤ A.heap.size →
      body.wpIn (F.inRound (w.heap.size + 1)) (n - 1 - 1) P (itPostD I Ix U (k + 1) A) (a₁ x) A)
    (hdone : ∀ (U : Nat → Prop) (B : World), I xs.length U B → E B → (∀ j, U j → j < B.heap.size ∧ ¬ Rd j) → w.heap.size + 2 ≤ B.heap.size → B.heap[w.heap.size]? = some (.deferred (some [])) → Q .normal { a with defers := { target := .collected w.heap.size, args := #[] } :: a.defers } B)
    (hstop : ∀ (c : Code) (k : Nat) (U : Nat → Prop) (B : World), k ≤ xs.length → Ix c k U B → (∀ j, U j → j < B.heap.size ∧ ¬ Rd j) → w.heap.size + 2 ≤ B.heap.size → B.heap[w.heap.size]? = some (.deferred (some [])) → c.wpIn F n P Q { a with defers := { target := .collected w.heap.size, args := #[] } :: a.defers } B) :
    (Code.rangeFunc g ps assign body).wpIn F n P Q a w :=
  wpIn_range_itD hro h1 hg hFg eg hit hRd U0 hU0 hW0 hps I Ix hI hIx hE h0 (fun x a' _ => a' = a₁ x) (fun _ _ _ _ h _ => h)
    (fun l k x U A K _ hi hlt _ hK => hassign l x A K (hK _ _ _ (UStep.same (fun j hj => (hlt j hj).1) (Chg.refl _ _)) hi rfl)) (fun k x U a' A hr hx hi hlt hs ha => by subst ha; exact hbody k x U A hr hx hi hlt hs) hdone hstop
end Go.Proofs.YtbpcoieemkojjaaDoor
/- A third law for 'for x := range f { .. }' of this repo's own: an iterator that keeps no state in cells (its captured variables are only read): it turns no block that lay; the loop's side keeps what the iterator reads (W0), and the loop's own two blocks. -/
namespace Go.Proofs.YtbpcoieemkojjaaDoor
set_option linter.unusedSimpArgs false
set_option linter.unusedVariables false
open Go.RowKit

/-- The contract of an iterator without a state in cells that goes through xs; W0: what it reads. -/
def IterE {α : Type} (F : Fence) (n : Nat) (P : Program) (g : Nat) (lb : Array Value) (encs : α → Array Value) (xs : List α) (W0 : World → Prop) : Prop :=
  ∀ (l : Nat) (J Jx : Nat → World → Prop) (W : World), (∀ k A, J k A → W0 A) →
    (∀ k A B, J k A → Below A.heap.size A B → J k B) → (∀ k A B, Jx k A → Below A.heap.size A B → Jx k B) →
    (∀ k x A, xs[k]? = some x → J k A → YieldAt F (n - 1) P l (encs x) A fun e B =>
      (e = .returned (.bool true) ∧ J (k + 1) B) ∨ (e = .returned (.bool false) ∧ Jx (k + 1) B)) →
    J 0 W →
    CallsIn F n P g (#[.func (.yield l) #[] #[]] ++ lb) W fun e B => (∃ v, e = .returned v) ∧ (J xs.length B ∨ ∃ k, k ≤ xs.length ∧ Jx k B)

/-- The loop's own two blocks stand. -/
structure LK (z : Nat) (A B : World) : Prop where
  size : A.heap.size ≤ B.heap.size
  z0 : B.heap[z]? = A.heap[z]?
  z1 : B.heap[z + 1]? = A.heap[z + 1]?
theorem LK.refl (z : Nat) (A : World) : LK z A A := ⟨Nat.le_refl _, rfl, rfl⟩
theorem LK.trans {z : Nat} {A B C : World} (h : LK z A B) (k : LK z B C) : LK z A C := ⟨Nat.le_trans h.size k.size, k.z0.trans h.z0, k.z1.trans h.z1⟩
theorem LK.of_chg {z : Nat} {S : Nat → Prop} {A B : World} (h : Chg S A B) (hz : z + 2 ≤ A.heap.size) (hs : ∀ j, S j → ¬ LZ z j) : LK z A B :=
  ⟨h.size, h.block _ (by omega) (fun q => hs _ q (.inl rfl)), h.block _ (by omega) (fun q => hs _ q (.inr rfl))⟩
theorem LK.of_below {z : Nat} {A B : World} (h : Below A.heap.size A B) (hz : z + 2 ≤ A.heap.size) : LK z A B := LK.of_chg (S := fun _ => False) (Chg.of_below h) hz (fun _ h => h.elim)
/-- How a round's body may be left. -/
def itPostE (I : Nat → World → Prop) (Ix : Code → Nat → World → Prop) (z : Nat) (k : Nat) (A : World) : Exit → Act → World → Prop
  | .normal, _, B => LK z A B ∧ I k B
  | .ret, _, B => LK z A B ∧ Ix .ret k B
  | .exit id, _, B => LK z A B ∧ Ix (.exit id) k B
  | .goto t, _, B => LK z A B ∧ Ix (.goto t) k B
  | .panic _, _, _ => False
  | .outgrown, _, _ => False

variable {F : Fence} {n : Nat} {P : Program}

theorem wpIn_range_itE {α : Type} {g : Operand} {ps : Array Tmp} {assign body : Code} {Q : Exit → Act → World → Prop} {a : Act} {w : World}
    (hro : F.round = none) (h1 : 1 ≤ n) {gf : Nat} {lb : Array Value} (hg : a.eval g = .func (.func gf) #[] lb) (hFg : F.fn gf) (eg : ∀ args w, (callFunc gf args).run P w = .ok (.enter gf args) w)
    {encs : α → Array Value} {xs : List α} {W0 : World → Prop} (hit : IterE F (n - 1) P gf lb encs xs W0) (hps : ∀ x, (encs x).size = ps.size)
    (I : Nat → World → Prop) (Ix : Code → Nat → World → Prop) (hW0 : ∀ k A, I k A → W0 A)
    (hI : ∀ k A B, I k A → w.heap.size + 2 ≤ B.heap.size → Chg (LZ w.heap.size) A B → I k B) (hIx : ∀ c k A B, Ix c k A → Chg (LZ w.heap.size) A B → Ix c k B) (h0 : I 0 w)
    (Ax : α → Act → World → Prop) (hAx : ∀ x a' A B, Ax x a' A → Chg (LZ w.heap.size) A B → Ax x a' B)
    (hassign : ∀ (l k : Nat) (x : α) (A : World) (K : Act → World → Prop), xs[k]? = some x → I k A → w.heap.size + 2 ≤ A.heap.size →
      (∀ a' B, LK w.heap.size A B → I k B → Ax x a' B → K a' B) →
      assign.wpIn (F.inRound l) (n - 1 - 1) P (Exit.then K (fun _ _ _ => False)) { tmps := (ps.zip (encs x)).foldl (fun t (p, v) => t.setIfInBounds p v) a.tmps, defers := [] } A)
    (hbody : ∀ (k : Nat) (x : α) (a' : Act) (A : World), (∃ r, A.heap[w.heap.size + 1]? = some (.loop r)) → A.heap[w.heap.size]? = some (.deferred (some [])) → xs[k]? = some x → I k A → w.heap.size + 2 ≤ A.heap.size → Ax x a' A →
      body.wpIn (F.inRound (w.heap.size + 1)) (n - 1 - 1) P (itPostE I Ix w.heap.size (k + 1) A) a' A)
    (hdone : ∀ (B : World), I xs.length B → w.heap.size + 2 ≤ B.heap.size → B.heap[w.heap.size]? = some (.deferred (some [])) → Q .normal { a with defers := { target := .collected w.heap.size, args := #[] } :: a.defers } B)
    (hstop : ∀ (c : Code) (k : Nat) (B : World), k ≤ xs.length → Ix c k B → w.heap.size + 2 ≤ B.heap.size → B.heap[w.heap.size]? = some (.deferred (some [])) → c.wpIn F n P Q { a with defers := { target := .collected w.heap.size, args := #[] } :: a.defers } B) :
    (Code.rangeFunc g ps assign body).wpIn F n P Q a w := by
  refine wpIn_rangeFunc ?_
  intro fn hfn
  rw [hro]
  obtain ⟨rec, hrec⟩ : ∃ rec : LoopState → Option Code → Loop, rec = fun st pe => { state := st, pending := pe, fn, tmps := a.tmps, params := ps, assign, body, defers := w.heap.size } := ⟨_, rfl⟩
  obtain ⟨W1, hW1⟩ : ∃ W1, (w.alloc (.deferred (some []))).alloc (.loop (rec .ready none)) = W1 := ⟨_, rfl⟩
  have hs1 : W1.heap.size = w.heap.size + 2 := by rw [← hW1]; simp
  have hL1 : W1.heap[w.heap.size + 1]? = some (.loop (rec .ready none)) := by
    rw [← hW1]; have := World.alloc_heap_new (w.alloc (.deferred (some []))) (.loop (rec .ready none)); rwa [World.size_alloc] at this
  have hK1 : W1.heap[w.heap.size]? = some (.deferred (some [])) := by
    rw [← hW1]; exact (Below.heap_alloc _ _ _ (by simp)).trans (World.alloc_heap_new w _)
  have hC1 : ∀ S, Chg S w W1 := fun S => by rw [← hW1]; exact ((Chg.refl S w).alloc _).alloc _
  obtain ⟨z, hz⟩ : ∃ z, w.heap.size = z := ⟨_, rfl⟩
  have hI1 : I 0 W1 := hI _ _ _ h0 (by omega) (hC1 _)
  have hbl : ∀ {A B : World}, Below A.heap.size A B → Chg (LZ z) A B := fun h => Chg.of_below h
  refine ⟨w.heap.size + 1, [{ target := .collected w.heap.size, args := #[] }], W1, { target := .fn (.func gf) lb, args := #[.func (.yield (w.heap.size + 1)) #[] #[]] }, W1, gf,
    #[.func (.yield (w.heap.size + 1)) #[] #[]] ++ lb, W1, ?_, ?_, ?_, ?_, fun _ => h1, ?_⟩
  · rw [← hW1, hrec]; exact run_enterLoop_outer _ _ _ _ _
  · simp only [resolve, hg]
    simp [go_sem]
  · intro f' hf'; simp [Target.leads] at hf'; subst hf'; exact hFg
  · simp [invoke, go_sem, eg]
  · simp only [hz] at *
    refine (hit (z + 1)
      (fun k W => z + 2 ≤ W.heap.size ∧ I k W ∧ W.heap[z + 1]? = some (.loop (rec .ready none)) ∧ W.heap[z]? = some (.deferred (some [])))
      (fun k W => z + 2 ≤ W.heap.size ∧ ∃ c, Ix c k W ∧ W.heap[z + 1]? = some (.loop (rec .done (some c))) ∧ W.heap[z]? = some (.deferred (some [])))
      W1 (fun k A h => hW0 k A h.2.1)
      (fun k A B hs hc => by
        obtain ⟨hsz, hi, hl, hk⟩ := hs
        exact ⟨Nat.le_trans hsz hc.size, hI k A B hi (Nat.le_trans hsz hc.size) (hbl hc), (Chg.of_below (S := fun _ => False) hc).heap hl (fun h => h), (Chg.of_below (S := fun _ => False) hc).heap hk (fun h => h)⟩)
      (fun k A B hs hc => by
        obtain ⟨hsz, c, hx, hl, hk⟩ := hs
        exact ⟨Nat.le_trans hsz hc.size, c, hIx c k A B hx (hbl hc), (Chg.of_below (S := fun _ => False) hc).heap hl (fun h => h), (Chg.of_below (S := fun _ => False) hc).heap hk (fun h => h)⟩)
      ?_ ⟨by omega, hI1, hL1, hK1⟩).mono ?_
    · rintro k x W hx ⟨hsz, hi, hl, hk⟩
      have hy := run_yield (P := P) (args := encs x) hl (by rw [hrec]; exact hps x)
      rw [hrec] at hy
      refine ⟨fn, _, assign, body, hy, roundIn_of_wpIn hfn (hassign _ k x W _ hx hi hsz ?_)⟩
      clear hy
      intro a' Wa hca hia hax
      have hl' := hca.z1.trans hl
      have hk' := hca.z0.trans hk
      have hlt : z + 1 < Wa.heap.size := (Array.getElem?_eq_some_iff.1 hl').1
      refine ⟨_, run_beginRound hl' (by rw [hrec]), ?_⟩
      obtain ⟨W2, hW2⟩ : ∃ W2, Wa.putObj (z + 1) (.loop { rec .ready none with state := .busy }) = W2 := ⟨_, rfl⟩
      have hl2 : W2.heap[z + 1]? = some (.loop { rec .ready none with state := .busy }) := by rw [← hW2]; exact World.putObj_heap_same hlt
      have hk2 : W2.heap[z]? = some (.deferred (some [])) := by rw [← hW2]; exact (World.putObj_heap_other (by omega)).trans hk'
      have hc2 : Chg (LZ z) Wa W2 := by rw [← hW2]; exact (Chg.refl _ _).putObj (.inr rfl) _
      have hs2 : Wa.heap.size = W2.heap.size := by rw [← hW2]; simp
      have hsa := hca.size
      rw [hW2]
      refine wpIn_mono (hbody k x a' _ ⟨_, hl2⟩ hk2 hx (hI _ _ _ hia (by omega) hc2) (by omega) (hAx x a' _ _ hax hc2)) ?_
      have fin : ∀ (jump : Option Code) (W3 : World), LK z W2 W3 →
          (Instr.endRound (z + 1) jump).run P W3 = .ok (.bool jump.isNone) (W3.putObj (z + 1) (.loop (rec (if jump.isNone then .ready else .done) jump))) ∧
          (W3.putObj (z + 1) (.loop (rec (if jump.isNone then .ready else .done) jump))).heap[z + 1]? = some (.loop (rec (if jump.isNone then .ready else .done) jump)) ∧
          (W3.putObj (z + 1) (.loop (rec (if jump.isNone then .ready else .done) jump))).heap[z]? = some (.deferred (some [])) ∧
          Chg (LZ z) W3 (W3.putObj (z + 1) (.loop (rec (if jump.isNone then .ready else .done) jump))) ∧ z + 2 ≤ (W3.putObj (z + 1) (.loop (rec (if jump.isNone then .ready else .done) jump))).heap.size := fun jump W3 hk3 => by
        have hl3 := hk3.z1.trans hl2
        have := run_endRound (P := P) jump hl3
        rw [hrec] at this ⊢
        have hs3 := hk3.size
        have hps : ∀ (o : Obj), (W3.putObj (z + 1) o).heap.size = W3.heap.size := fun o => by simp
        have cz : ∀ (o : Obj), Chg (LZ z) W3 (W3.putObj (z + 1) o) := fun o => (Chg.refl _ _).putObj (.inr rfl) _
        exact ⟨this, World.putObj_heap_same (Array.getElem?_eq_some_iff.1 hl3).1, (World.putObj_heap_other (by omega)).trans (hk3.z0.trans hk2), cz _, by rw [hps]; omega⟩
      rintro e a3 W3 hp
      cases e with
      | normal =>
        obtain ⟨hk3, hi3⟩ := hp
        obtain ⟨hr, hl4, hk4, hc4, hs4⟩ := fin none W3 hk3
        exact ⟨_, _, hr, .inl ⟨rfl, hs4, hI _ _ _ hi3 hs4 hc4, hl4, hk4⟩⟩
      | ret =>
        obtain ⟨hk3, hi3⟩ := hp
        obtain ⟨hr, hl4, hk4, hc4, hs4⟩ := fin (some .ret) W3 hk3
        exact ⟨_, _, hr, .inr ⟨rfl, hs4, .ret, hIx _ _ _ _ hi3 hc4, hl4, hk4⟩⟩
      | exit id =>
        obtain ⟨hk3, hi3⟩ := hp
        obtain ⟨hr, hl4, hk4, hc4, hs4⟩ := fin (some (.exit id)) W3 hk3
        exact ⟨_, _, hr, .inr ⟨rfl, hs4, .exit id, hIx _ _ _ _ hi3 hc4, hl4, hk4⟩⟩
      | goto t =>
        obtain ⟨hk3, hi3⟩ := hp
        obtain ⟨hr, hl4, hk4, hc4, hs4⟩ := fin (some (.goto t)) W3 hk3
        exact ⟨_, _, hr, .inr ⟨rfl, hs4, .goto t, hIx _ _ _ _ hi3 hc4, hl4, hk4⟩⟩
      | panic ch => exact hp.elim
      | outgrown => exact hp.elim
    · rintro e W2 ⟨⟨v, rfl⟩, (⟨hsz, hi, hl, hk⟩ | ⟨k, hkle, hsz, c, hi, hl, hk⟩)⟩
      · have cz : ∀ o, Chg (LZ z) W2 (W2.putObj (z + 1) o) := fun o => (Chg.refl _ _).putObj (.inr rfl) _
        have hps : ∀ (o : Obj), (W2.putObj (z + 1) o).heap.size = W2.heap.size := fun o => by simp
        exact ⟨none, _, by have := run_endLoop (P := P) hl (by rw [hrec]; simp); rw [hrec] at this; exact this,
          hdone _ (hI _ _ _ hi (by rw [hps]; exact hsz) (cz _)) (by rw [hps]; exact hsz) ((World.putObj_heap_other (by omega)).trans hk)⟩
      · have cz : ∀ o, Chg (LZ z) W2 (W2.putObj (z + 1) o) := fun o => (Chg.refl _ _).putObj (.inr rfl) _
        have hps : ∀ (o : Obj), (W2.putObj (z + 1) o).heap.size = W2.heap.size := fun o => by simp
        exact ⟨some c, _, by have := run_endLoop (P := P) hl (by rw [hrec]; simp); rw [hrec] at this; exact this,
          hstop c k _ hkle (hIx _ _ _ _ hi (cz _)) (by rw [hps]; exact hsz) ((World.putObj_heap_other (by omega)).trans hk)⟩

/-- The same where the assignment to the loop's left sides lays nothing. -/
theorem wpIn_range_itE1 {α : Type} {g : Operand} {ps : Array Tmp} {assign body : Code} {Q : Exit → Act → World → Prop} {a : Act} {w : World}
    (hro : F.round = none) (h1 : 1 ≤ n) {gf : Nat} {lb : Array Value} (hg : a.eval g = .func (.func gf) #[] lb) (hFg : F.fn gf) (eg : ∀ args w, (callFunc gf args).run P w = .ok (.enter gf args) w)
    {encs : α → Array Value} {xs : List α} {W0 : World → Prop} (hit : IterE F (n - 1) P gf lb encs xs W0) (hps : ∀ x, (encs x).size = ps.size)
    (I : Nat → World → Prop) (Ix : Code → Nat → World → Prop) (hW0 : ∀ k A, I k A → W0 A)
    (hI : ∀ k A B, I k A → w.heap.size + 2 ≤ B.heap.size → Chg (LZ w.heap.size) A B → I k B) (hIx : ∀ c k A B, Ix c k A → Chg (LZ w.heap.size) A B → Ix c k B) (h0 : I 0 w) (a₁ : α → Act)
    (hassign : ∀ (l : Nat) (x : α) (A : World) (K : Act → World → Prop), K (a₁ x) A →
      assign.wpIn (F.inRound l) (n - 1 - 1) P (Exit.then K (fun _ _ _ => False)) { tmps := (ps.zip (encs x)).foldl (fun t (p, v) => t.setIfInBounds p v) a.tmps, defers := [] } A)
    (hbody : ∀ (k : Nat) (x : α) (A : World), (∃ r, A.heap[w.heap.size + 1]? = some (.loop r)) → A.heap[w.heap.size]? = some (.deferred (some [])) → xs[k]? = some x → I k A → w.heap.size + 2 ≤ A.heap.size →
      body.wpIn (F.inRound (w.heap.size + 1)) (n - 1 - 1) P (itPostE I Ix w.heap.size (k + 1) A) (a₁ x) A)
    (hdone : ∀ (B : World), I xs.length B → w.heap.size + 2 ≤ B.heap.size → B.heap[w.heap.size]? = some (.deferred (some [])) → Q .normal { a with defers := { target := .collected w.heap.size, args := #[] } :: a.defers } B)
    (hstop : ∀ (c : Code) (k : Nat) (B : World), k ≤ xs.length → Ix c k B → w.heap.size + 2 ≤ B.heap.size → B.heap[w.heap.size]? = some (.deferred (some [])) → c.wpIn F n P Q { a with defers := { target := .collected w.heap.size, args := #[] } :: a.defers } B) :
    (Code.rangeFunc g ps assign body).wpIn F n P Q a w :=
  wpIn_range_itE hro h1 hg hFg eg hit hps I Ix hW0 hI hIx h0 (fun x a' _ => a' = a₁ x) (fun _ _ _ _ h _ => h)
    (fun l k x A K _ hi _ hK => hassign l x A K (hK _ _ (LK.refl _ _) hi rfl)) (fun k x a' A hr hk hx hi hs ha => by subst ha; exact hbody k x A hr hk hx hi hs) hdone hstop
end Go.Proofs.YtbpcoieemkojjaaDoor
