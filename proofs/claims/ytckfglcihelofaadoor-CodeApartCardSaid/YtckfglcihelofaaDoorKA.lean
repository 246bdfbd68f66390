/- KA: several texts of this seat laid as one. -/
import Derived.Test.YtckfglcihelofaaDoorProg
import Derived.WalkKit
import Derived.WalkLawsBesides
import Derived.WalkSpells
import Derived.Laws.Rows
import Derived.Laws.Tables
import Derived.Below
import Derived.Lib.Hide
import Derived.Laws.BitsLemmas
import Derived.Laws.BitsAllLaws
import Derived.Lib.ConvBytes
import Derived.Test.YtckfglcihelofaaDoorWWords
import Derived.LaidEql
import Derived.Stop.Asserts
import Derived.RowKitTokens
import Derived.Lib.Strings
import Derived.RangeFuncNested
import Derived.RangeFuncBound
import Derived.RangeFuncCalls
import Derived.RangeFuncLeaves
import Derived.Shelf.Abstract
import Derived.Shelf.RegionOpen
import Derived.OwnWalkIn
import Derived.TacticsInMore
import Derived.LoopNIn
import Derived.LoopIn
import Derived.Maps.AppendAt
import Derived.RegionTactic
import Derived.LoopTactic
import Derived.Outline
import Derived.Test.YtckfglcihelofaaDoorShelf
import Derived.Shelf.Strings.BuilderK
import Derived.Lib.RuneBytes
import Derived.BigCall
import Derived.Shelf.Strings.MapGrows
import Derived.Lib.TrimByte
import Derived.Laws.Runes
import Derived.Lib.OthersKept
import Derived.Deep.RegionHeld3
import Derived.Lib.Bytealg
import Derived.Laws.RangeAny
/- Small lemmas on worlds that all walks of this seat use. -/
namespace Go.Proofs.YtckfglcihelofaaDoor
set_option linter.unusedSimpArgs false
set_option linter.unusedVariables false
open Go.RowKit
theorem bl_alloc {a w : World} (h : Below a.heap.size a w) (o : Obj) : Below a.heap.size a (w.alloc o) := h.alloc h.size o
theorem bl_trans {a w w' : World} (h : Below a.heap.size a w) (h' : Below w.heap.size w w') : Below a.heap.size a w' := h.trans (h'.mono h.size)
theorem lt_of_cell {w : World} {a : Addr} {v : Value} (h : w.cell? a = some v) : a.block < w.heap.size := by
  rcases Nat.lt_or_ge a.block w.heap.size with h' | h'
  · exact h'
  · simp [World.cell?, Array.getElem?_eq_none h'] at h
theorem setRow_below {g B : Nat} {a w : World} (h : Below B a w) (hp : B ≤ g) (cs : Array Value) : Below B a (w.setRow g cs) := by
  refine h.trans ⟨rfl, rfl, rfl, by simp [World.setRow], fun k hk => ?_⟩
  simp only [World.setRow, Array.getElem?_modify]
  rw [if_neg (by omega)]
theorem setRow_heap {g : Nat} {w : World} {cs old : Array Value} {t : TypeId} (h : w.heap[g]? = some (.cells old t (0, 0))) : (w.setRow g cs).heap[g]? = some (.cells cs t (0, 0)) := by
  simp only [World.setRow, Array.getElem?_modify, h]
  simp
open Go.Proofs.YtckfglcihelofaaDoorW.PrintWords in
/-- '[]byte(s)'. -/
theorem conv_sb {P : Program} (w : World) (src dst e : TypeId) (s : ByteArray) (hs : P.underlying src = some .string) (hd : P.underlying dst = some (.slice e)) (he : P.underlying e = some (.int .u8)) :
    ∃ W cap, (convert src dst (.string s)).run P w = .ok (.slice (some ⟨w.heap.size, 0, none⟩) s.size cap) W ∧ Below w.heap.size w W ∧ W.heap.size = w.heap.size + 1 ∧ s.size ≤ cap ∧
      ∀ j, j < s.size → W.cell? ⟨w.heap.size, j, none⟩ = some (.int .u8 (bt s j)) :=
  ⟨_, _, Lib.run_convert_string_bytes w src dst e s hs hd he,
    ⟨rfl, rfl, rfl, by rw [Lib.bytesWorld_size]; omega, fun k hk => Lib.bytesWorld_at_old w e s k hk⟩, Lib.bytesWorld_size w e s, grownCap_ge _ _ _ _, fun j hj => by
      rw [Lib.bytesWorld_cell w e s j hj, bt, dif_pos (by simpa using hj)]; simp [List.getD, hj]; rfl⟩
theorem or_byte (m b : Int) (h0 : 0 ≤ b) (h1 : b ≤ 255) (hm : -36028797018963968 ≤ m) (hm2 : m ≤ 36028797018963967) : bits .or .i64 (m * 256) b = m * 256 + b := by
  show IntKind.i64.wrap ((BitVec.ofInt 64 (m * 256) ||| BitVec.ofInt 64 b).toNat : Int) = _
  rw [BitVec.toNat_or, BitVec.toNat_ofInt, BitVec.toNat_ofInt]
  rw [show ((2 ^ 64 : Nat) : Int) = 18446744073709551616 from rfl]
  obtain ⟨q, hq⟩ : ∃ q : Nat, ((m * 256) % 18446744073709551616).toNat = 256 * q := ⟨((m * 256) % 18446744073709551616).toNat / 256, by omega⟩
  obtain ⟨c, hc⟩ : ∃ c : Nat, (b % 18446744073709551616).toNat = c := ⟨_, rfl⟩
  have hcb : (c : Int) = b := by omega
  have hj : 256 * q + c = 256 * q ||| c := Nat.two_pow_add_eq_or_of_lt (i := 8) (by omega) q
  rw [hq, hc, ← hj, IntKind.wrap_i64]
  omega
end Go.Proofs.YtckfglcihelofaaDoor
/- Go's own errors.As and errors.Is at this seat: closed facts on the entries of internal/reflectlite, and the contracts at nil. -/
namespace Go.Proofs.YtckfglcihelofaaDoor
set_option linter.unusedSimpArgs false
set_option linter.unusedVariables false
open Go.RowKit Go.Extern.Stop Go.Stop Go.Extern

/-- errors.As(nil, target). -/
theorem as_nil (t : Value) (w : World) :
    Calls Tryd.prog 63 #[.nilIface, t] w fun e w' => e = .returned (.bool false) ∧ w = w' := by
  go_enter Tryd.func63, Tryd.ntmps63
  go_wp2
  go_ret
  exact ⟨rfl, rfl⟩

/-- errors.Is(nil, x). -/
theorem is_nil (b : Addr) (w : World) :
    Calls Tryd.prog 62 #[.nilIface, .iface 156 (.pointer (some b))] w fun e w' => e = .returned (.bool false) ∧ w = w' := by
  have hn := run_eql_iface_nil_left (P := Tryd.prog) w 156 (.pointer (some b)) Tryd.underlying39
  go_enter Tryd.func62, Tryd.ntmps62
  go_wp2
  go_ret
  exact ⟨rfl, rfl⟩

theorem rlm (z : Sem Value) (f : TypeId → Addr → Nat → Nat → Sem Value) (v : Value) :
    ReflectliteValue.method z f #[v] = (do match ← ReflectliteValue.parts v with | none => z | some (t, a, fl) => f t a fl (fl % 32)) := rfl
theorem rls (v x : Value) : ReflectliteValue.set #[v, x] = (do
    let (some (dst, a, fl), some (src, b, _)) := (← ReflectliteValue.parts v, ← ReflectliteValue.parts x)
      | unsupported (.noEntry "extern/(internal/reflectlite.Value).Set.zeroValue")
    if fl / ReflectliteValue.flagAddr % 2 == 0 then unsupported (.noEntry "extern/(internal/reflectlite.Value).Set.unaddressable")
    let val ← loadVar src b
    if ← Rtype.directlyAssignable dst src then storeVar dst a val
    else if ← Rtype.implements dst src then
      if (← Rtype.kind src) == 20 then
        match val with
        | .nilIface => unsupported (.noEntry "extern/reflectlite: a nil value of one interface type handed on as a value of another")
        | _ => storeVar dst a val
      else storeVar dst a (.iface src val)
    else panicString ("reflectlite.Set: value of type " ++ (← Rtype.spelt src) ++ " is not assignable to type " ++ (← Rtype.spelt dst))
    pure (.tuple #[])) := rfl

theorem eMethodKind (h : Value) (w : World) : (Go.method 287 126 (.agg #[h]) "Kind").run Tryd.prog w = .ok (121, h) w := by kernel_rfl
theorem eMethodElem (h : Value) (w : World) : (Go.method 287 126 (.agg #[h]) "Elem").run Tryd.prog w = .ok (135, .agg #[h]) w := by kernel_rfl
theorem eMethodImplements (h : Value) (w : World) : (Go.method 287 126 (.agg #[h]) "Implements").run Tryd.prog w = .ok (136, .agg #[h]) w := by kernel_rfl
theorem eMethodAssignableTo (h : Value) (w : World) : (Go.method 287 126 (.agg #[h]) "AssignableTo").run Tryd.prog w = .ok (133, .agg #[h]) w := by kernel_rfl
theorem eMethodComparable (v : Value) (w : World) : (Go.method 287 126 v "Comparable").run Tryd.prog w = .ok (134, v) w := by kernel_rfl
theorem eTypeOfES (v : Value) (w : World) : (ReflectliteType.typeOf #[.iface 156 v]).run Tryd.prog w = .ok (.iface 126 (.agg #[.pointer (some ⟨7, 156, none⟩)])) w := by kernel_rfl
/-- the model's entry for (rtype).Comparable, under a name -/
def cmpE : Array Value → Sem Value := ReflectliteType.method fun t => do Rtype.noPackHeld "Comparable" t; pure (.bool (← typeInfo t).comparable)
theorem eComparableES (w : World) : (cmpE #[.agg #[.pointer (some ⟨7, 156, none⟩)]]).run Tryd.prog w = .ok (.bool true) w := by kernel_rfl
theorem eComp : (Tryd.prog.info? 156).map (·.comparable) = some true := by kernel_rfl
theorem eSize : (Tryd.prog.info? 176).map (·.size) = some 1 := by kernel_rfl
theorem eNoIs (v : Value) (xT : TypeId) (w : World) : (Instr.typeAssert (.iface 156 v) xT 128 true).run Tryd.prog w = .ok (.tuple #[.nilIface, .bool false]) w := run_typeAssert_lacksB Tryd.underlying128 (by kernel_rfl) (by kernel_rfl) v xT w
theorem eNoUnwrap (v : Value) (xT : TypeId) (w : World) : (Instr.typeAssert (.iface 156 v) xT 131 true).run Tryd.prog w = .ok (.tuple #[.nilIface, .bool false]) w := run_typeAssert_lacksB Tryd.underlying131 (by kernel_rfl) (by kernel_rfl) v xT w
theorem eNoUnwraps (v : Value) (xT : TypeId) (w : World) : (Instr.typeAssert (.iface 156 v) xT 132 true).run Tryd.prog w = .ok (.tuple #[.nilIface, .bool false]) w := run_typeAssert_lacksB Tryd.underlying132 (by kernel_rfl) (by kernel_rfl) v xT w
end Go.Proofs.YtckfglcihelofaaDoor
/- Texts as rows of bytes: small plain laws. No program in sight. -/
namespace Go.Proofs.YtckfglcihelofaaDoor.PureB
set_option linter.unusedSimpArgs false
set_option linter.unusedVariables false
open Go.RowKit Go.Proofs.YtckfglcihelofaaDoorW.PrintWords
theorem w64 {n : Int} (h : -9223372036854775808 ≤ n) (h2 : n ≤ 9223372036854775807) : wrap64 n = n := by unfold wrap64; omega
theorem son_size (xs : List Int) : (strOfNums xs).size = xs.length := by simp [strOfNums, ByteArray.size]
theorem bt_at' (s : ByteArray) (i : Int) (h : i.toNat < s.size) : bt s i = ((s[i.toNat]'h).toNat : Int) := dif_pos h
theorem bt_nat (s : ByteArray) (i : Nat) (h : i < s.size) : bt s (i : Int) = ((s[i]'h).toNat : Int) := dif_pos (by simpa using h)
theorem bt_out (s : ByteArray) (i : Nat) (h : ¬ i < s.size) : bt s (i : Int) = 0 := dif_neg (by simpa using h)
theorem of_nat (x : Int) (h : 0 ≤ x) (h2 : x < 256) : ((UInt8.ofNat x.toNat).toNat : Int) = x := by rw [UInt8.toNat_ofNat']; omega
theorem bt_son (xs : List Int) (j : Nat) (x : Int) (h : xs[j]? = some x) (h0 : 0 ≤ x) (h1 : x < 256) : bt (strOfNums xs) j = x := by
  obtain ⟨hj, rfl⟩ := List.getElem?_eq_some_iff.1 h
  have hl : j < (strOfNums xs).size := by rw [son_size]; omega
  rw [bt_nat _ _ hl]
  have : (strOfNums xs)[j]'hl = UInt8.ofNat (xs[j]).toNat := by simp [strOfNums, ByteArray.getElem_eq_getElem_data]
  rw [this, of_nat _ h0 h1]
theorem ba_ext {s t : ByteArray} (h : s.size = t.size) (hb : ∀ j : Nat, j < s.size → bt s j = bt t j) : s = t := by
  apply ByteArray.ext
  apply Array.ext
  · exact h
  · intro i h1 h2
    have := hb i h1
    rw [bt_nat s i h1, bt_nat t i h2] at this
    have h3 : s[i]'h1 = t[i]'h2 := UInt8.toNat_inj.1 (by omega)
    exact h3
theorem toList_inj {s t : ByteArray} : s.toList = t.toList ↔ s = t := by
  rw [Lib.toList_data, Lib.toList_data]
  constructor
  · intro h; apply ByteArray.ext; exact Array.toList_inj.1 h
  · rintro rfl; rfl
theorem toList_nil {s : ByteArray} : s.toList = ([] : List UInt8) ↔ s.size = 0 := by
  rw [Lib.toList_data, Array.toList_eq_nil_iff, ← Array.size_eq_zero_iff]
  exact Iff.rfl
theorem toList_len (s : ByteArray) : s.toList.length = s.size := by rw [Lib.toList_data, Array.length_toList]; rfl
theorem bt_app_l (p q : ByteArray) (j : Nat) (h : j < p.size) : bt (p ++ q) j = bt p j := by
  rw [bt_nat (p ++ q) j (by rw [ByteArray.size_append]; omega), bt_nat p j h, ByteArray.getElem_append_left h]
theorem bt_app_r (p q : ByteArray) (j : Nat) : bt (p ++ q) ((p.size : Int) + j) = bt q j := by
  have e : (p.size : Int) + j = ((p.size + j : Nat) : Int) := by omega
  rw [e]
  by_cases h : j < q.size
  · rw [bt_nat (p ++ q) _ (by rw [ByteArray.size_append]; omega), bt_nat q j h, ByteArray.getElem_append_right (by omega)]
    congr 2
    simp
  · rw [bt_out _ _ (by rw [ByteArray.size_append]; omega), bt_out _ _ h]
theorem bt_extract (s : ByteArray) (a b j : Nat) (hj : a + j < b) (hb : b ≤ s.size) : bt (s.extract a b) j = bt s ((a : Int) + j) := by
  have e : (a : Int) + j = ((a + j : Nat) : Int) := by omega
  have hs : (s.extract a b).size = b - a := by simp; omega
  rw [e, bt_nat _ j (by omega), bt_nat s _ (by omega), ByteArray.getElem_extract]
theorem extract_size (s : ByteArray) (a b : Nat) (hb : b ≤ s.size) : (s.extract a b).size = b - a := by simp; omega
theorem one_size (x : UInt8) : (⟨#[x]⟩ : ByteArray).size = 1 := rfl
theorem bt_one (x : UInt8) : bt (⟨#[x]⟩ : ByteArray) 0 = (x.toNat : Int) := rfl
end Go.Proofs.YtckfglcihelofaaDoor.PureB
/- A law for 'for x := range f { .. }' of this repo's own: the iterator may keep state of its own in blocks of a set SI that the loop's body leaves alone; the body's blocks are left alone by the iterator. -/
namespace Go.Proofs.YtckfglcihelofaaDoor
set_option linter.unusedSimpArgs false
set_option linter.unusedVariables false
open Go.RowKit

/-- From A to B blocks of S alone are turned, and new ones are laid. -/
structure Chg (S : Nat → Prop) (A B : World) : Prop where
  os : B.os = A.os
  tape : B.tape = A.tape
  output : B.output = A.output
  size : A.heap.size ≤ B.heap.size
  block : ∀ k, k < A.heap.size → ¬ S k → B.heap[k]? = A.heap[k]?
theorem Chg.refl (S : Nat → Prop) (A : World) : Chg S A A := ⟨rfl, rfl, rfl, Nat.le_refl _, fun _ _ _ => rfl⟩
theorem Chg.trans {S : Nat → Prop} {A B C : World} (h : Chg S A B) (k : Chg S B C) : Chg S A C :=
  ⟨k.os.trans h.os, k.tape.trans h.tape, k.output.trans h.output, Nat.le_trans h.size k.size, fun i hi hs => (k.block i (Nat.lt_of_lt_of_le hi h.size) hs).trans (h.block i hi hs)⟩
theorem Chg.mono {S T : Nat → Prop} {A B : World} (h : Chg S A B) (hst : ∀ k, S k → T k) : Chg T A B := ⟨h.os, h.tape, h.output, h.size, fun k hk hs => h.block k hk (fun hS => hs (hst k hS))⟩
theorem Chg.alloc {S : Nat → Prop} {A B : World} (h : Chg S A B) (o : Obj) : Chg S A (B.alloc o) :=
  h.trans ⟨rfl, rfl, rfl, by simp, fun k hk _ => Below.heap_alloc _ _ _ hk⟩
theorem Chg.drew {S : Nat → Prop} {A B : World} (h : Chg S A B) : Chg S A B.drew := ⟨h.os, h.tape, h.output, h.size, h.block⟩
theorem Chg.drewN {S : Nat → Prop} {A B : World} (h : Chg S A B) (n : Nat) : Chg S A (B.drewN n) := ⟨h.os, h.tape, h.output, h.size, h.block⟩
theorem Chg.setCell {S : Nat → Prop} {A B : World} (h : Chg S A B) {p : Addr} (hp : S p.block) (v : Value) : Chg S A (B.setCell p v) :=
  h.trans ⟨rfl, rfl, rfl, by simp [World.setCell], fun k _ hs => Below.heap_setCell _ _ _ _ (fun e => hs (e ▸ hp))⟩
/-- A store into a block that came behind A. -/
theorem Chg.setNew {S : Nat → Prop} {A B : World} (h : Chg S A B) {p : Addr} (hp : A.heap.size ≤ p.block) (v : Value) : Chg S A (B.setCell p v) :=
  ⟨h.os, h.tape, h.output, Nat.le_trans h.size (by simp [World.setCell]), fun k hk hs => (Below.heap_setCell _ _ _ _ (fun e => by omega)).trans (h.block k hk hs)⟩
theorem Chg.putObj {S : Nat → Prop} {A B : World} (h : Chg S A B) {l : Nat} (hl : S l) (o : Obj) : Chg S A (B.putObj l o) :=
  h.trans ⟨rfl, rfl, rfl, by simp, fun k _ hs => World.putObj_heap_other (fun e => hs (e ▸ hl))⟩
theorem Chg.below {S : Nat → Prop} {A B : World} (h : Chg S A B) {C : World} {n : Nat} (hb : Below n B C) (hn : ∀ k, k < A.heap.size → ¬ S k → k < n) : Chg S A C :=
  ⟨hb.os.trans h.os, hb.tape.trans h.tape, hb.output.trans h.output, Nat.le_trans h.size hb.size, fun k hk hs => (hb.block k (hn k hk hs)).trans (h.block k hk hs)⟩
/-- A call that leaves all that lay alone. -/
theorem Chg.call {S : Nat → Prop} {A B : World} (h : Chg S A B) {C : World} (hb : Below B.heap.size B C) : Chg S A C := h.below hb (fun _ hk _ => Nat.lt_of_lt_of_le hk h.size)
theorem Chg.grown {S : Nat → Prop} {A B : World} (h : Chg S A B) {C : World} {row : Option Nat} (hg : B.grownBy C row) (hr : ∀ r, row = some r → S r ∨ A.heap.size ≤ r) : Chg S A C :=
  ⟨hg.os.trans h.os, hg.tape.trans h.tape, hg.output.trans h.output, Nat.le_trans h.size hg.size, fun k hk hs => (hg.block k (Nat.lt_of_lt_of_le hk h.size) (fun e => by rcases hr k e.symm with h1 | h1; exact hs h1; omega)).trans (h.block k hk hs)⟩
theorem Below.chg {n : Nat} {a A B : World} (h : Below n a A) {S : Nat → Prop} (hc : Chg S A B) (hn : n ≤ A.heap.size) (hs : ∀ k, S k → n ≤ k) : Below n a B :=
  h.trans ⟨hc.os, hc.tape, hc.output, hc.size, fun k hk => hc.block k (by omega) (fun e => by have := hs k e; omega)⟩
theorem Chg.cell {S : Nat → Prop} {A B : World} (h : Chg S A B) {a : Addr} {v : Value} (hv : A.cell? a = some v) (hs : ¬ S a.block) : B.cell? a = some v :=
  (World.cell?_of_block (w := A) (h.block a.block (lt_of_cell hv) hs)).trans hv
theorem Chg.heap {S : Nat → Prop} {A B : World} (h : Chg S A B) {k : Nat} {o : Obj} (hv : A.heap[k]? = some o) (hs : ¬ S k) : B.heap[k]? = some o :=
  (h.block k (Array.getElem?_eq_some_iff.1 hv).1 hs).trans hv
theorem Chg.of_below {S : Nat → Prop} {A B : World} (h : Below A.heap.size A B) : Chg S A B := (Chg.refl S A).call h

/-- The contract of an iterator that goes through xs. -/
def Iter {α : Type} (F : Fence) (n : Nat) (P : Program) (g : Nat) (lb : Array Value) (encs : α → Array Value) (SI : Nat → Prop) (xs : List α) (W0 : World → Prop) : Prop :=
  ∀ (l : Nat) (J Jx : Nat → World → Prop) (W : World), W0 W → (∀ k A B, J k A → Chg SI A B → J k B) → (∀ k A B, Jx k A → Chg SI A B → Jx k B) →
    (∀ k x A, xs[k]? = some x → J k A → YieldAt F (n - 1) P l (encs x) A fun e B =>
      (e = .returned (.bool true) ∧ J (k + 1) B ∧ Chg (fun j => ¬ SI j) A B) ∨ (e = .returned (.bool false) ∧ Jx (k + 1) B)) →
    J 0 W →
    CallsIn F n P g (#[.func (.yield l) #[] #[]] ++ lb) W fun e B => (∃ v, e = .returned v) ∧ (J xs.length B ∨ ∃ k, k ≤ xs.length ∧ Jx k B)

/-- What the loop itself and its iterator turn. -/
def SJ (SI : Nat → Prop) (z : Nat) (k : Nat) : Prop := SI k ∨ k = z ∨ k = z + 1

/-- How a round's body may be left. -/
def itPost (T : Nat → Prop) (I : Nat → World → Prop) (Ix : Code → Nat → World → Prop) (k : Nat) (A : World) : Exit → Act → World → Prop
  | .normal, _, B => Chg (fun j => ¬ T j) A B ∧ I k B
  | .ret, _, B => Chg (fun j => ¬ T j) A B ∧ Ix .ret k B
  | .exit id, _, B => Chg (fun j => ¬ T j) A B ∧ Ix (.exit id) k B
  | .goto t, _, B => Chg (fun j => ¬ T j) A B ∧ Ix (.goto t) k B
  | .panic _, _, _ => False
  | .outgrown, _, _ => False

variable {F : Fence} {n : Nat} {P : Program}

theorem wpIn_range_it {α : Type} {g : Operand} {ps : Array Tmp} {assign body : Code} {Q : Exit → Act → World → Prop} {a : Act} {w : World}
    (hro : F.round = none) (h1 : 1 ≤ n) {gf : Nat} {lb : Array Value} (hg : a.eval g = .func (.func gf) #[] lb) (hFg : F.fn gf) (eg : ∀ args w, (callFunc gf args).run P w = .ok (.enter gf args) w)
    {encs : α → Array Value} {SI : Nat → Prop} {xs : List α} {W0 : World → Prop} (hit : Iter F (n - 1) P gf lb encs SI xs W0)
    (hW0 : ∀ W, Chg (fun _ => False) w W → W0 W) (hSI : ∀ k, SI k → k < w.heap.size ∨ w.heap.size + 2 ≤ k) (hps : ∀ x, (encs x).size = ps.size)
    (I : Nat → World → Prop) (Ix : Code → Nat → World → Prop) (hI : ∀ k A B, I k A → Chg (SJ SI w.heap.size) A B → I k B) (hIx : ∀ c k A B, Ix c k A → Chg (SJ SI w.heap.size) A B → Ix c k B) (h0 : I 0 w)
    (Ax : α → Act → World → Prop) (hAx : ∀ x a' A B, Ax x a' A → Chg (SJ SI w.heap.size) A B → Ax x a' B)
    (hassign : ∀ (l k : Nat) (x : α) (A : World) (K : Act → World → Prop), xs[k]? = some x → I k A → (∀ a' B, Chg (fun j => ¬ SJ SI w.heap.size j) A B → I k B → Ax x a' B → K a' B) →
      assign.wpIn (F.inRound l) (n - 1 - 1) P (Exit.then K (fun _ _ _ => False)) { tmps := (ps.zip (encs x)).foldl (fun t (p, v) => t.setIfInBounds p v) a.tmps, defers := [] } A)
    (hbody : ∀ (k : Nat) (x : α) (a' : Act) (A : World), (∃ r, A.heap[w.heap.size + 1]? = some (.loop r)) → xs[k]? = some x → I k A → Ax x a' A → body.wpIn (F.inRound (w.heap.size + 1)) (n - 1 - 1) P (itPost (SJ SI w.heap.size) I Ix (k + 1) A) a' A)
    (hdone : ∀ (B : World), I xs.length B → B.heap[w.heap.size]? = some (.deferred (some [])) → Q .normal { a with defers := { target := .collected w.heap.size, args := #[] } :: a.defers } B)
    (hstop : ∀ (c : Code) (k : Nat) (B : World), k ≤ xs.length → Ix c k B → B.heap[w.heap.size]? = some (.deferred (some [])) → c.wpIn F n P Q { a with defers := { target := .collected w.heap.size, args := #[] } :: a.defers } B) :
    (Code.rangeFunc g ps assign body).wpIn F n P Q a w := by
  refine wpIn_rangeFunc ?_
  intro fn hfn
  rw [hro]
  obtain ⟨rec, hrec⟩ : ∃ rec : LoopState → Option Code → Loop, rec = fun st pe => { state := st, pending := pe, fn, tmps := a.tmps, params := ps, assign, body, defers := w.heap.size } := ⟨_, rfl⟩
  obtain ⟨W1, hW1⟩ : ∃ W1, (w.alloc (.deferred (some []))).alloc (.loop (rec .ready none)) = W1 := ⟨_, rfl⟩
  have hL1 : W1.heap[w.heap.size + 1]? = some (.loop (rec .ready none)) := by
    rw [← hW1]; have := World.alloc_heap_new (w.alloc (.deferred (some []))) (.loop (rec .ready none)); rwa [World.size_alloc] at this
  have hK1 : W1.heap[w.heap.size]? = some (.deferred (some [])) := by
    rw [← hW1]; exact (Below.heap_alloc _ _ _ (by simp)).trans (World.alloc_heap_new w _)
  have hC1 : ∀ S, Chg S w W1 := fun S => by rw [← hW1]; exact ((Chg.refl S w).alloc _).alloc _
  have hI1 : I 0 W1 := hI _ _ _ h0 (hC1 _)
  have hnl : ¬ SI (w.heap.size + 1) := fun h => by have := hSI _ h; omega
  have hnd : ¬ SI w.heap.size := fun h => by have := hSI _ h; omega
  have jl : SJ SI w.heap.size (w.heap.size + 1) := .inr (.inr rfl)
  have jd : SJ SI w.heap.size w.heap.size := .inr (.inl rfl)
  have jm : ∀ k, SI k → SJ SI w.heap.size k := fun k h => .inl h
  have jn : ∀ {A B : World}, Chg (fun j => ¬ SJ SI w.heap.size j) A B → Chg (fun j => ¬ SI j) A B := fun h => h.mono (fun k hk hS => hk (jm k hS))
  refine ⟨w.heap.size + 1, [{ target := .collected w.heap.size, args := #[] }], W1, { target := .fn (.func gf) lb, args := #[.func (.yield (w.heap.size + 1)) #[] #[]] }, W1, gf,
    #[.func (.yield (w.heap.size + 1)) #[] #[]] ++ lb, W1, ?_, ?_, ?_, ?_, fun _ => h1, ?_⟩
  · rw [← hW1, hrec]; exact run_enterLoop_outer _ _ _ _ _
  · simp only [resolve, hg]
    simp [go_sem]
  · intro f' hf'; simp [Target.leads] at hf'; subst hf'; exact hFg
  · simp [invoke, go_sem, eg]
  · refine (hit (w.heap.size + 1)
      (fun k W => I k W ∧ W.heap[w.heap.size + 1]? = some (.loop (rec .ready none)) ∧ W.heap[w.heap.size]? = some (.deferred (some [])))
      (fun k W => ∃ c, Ix c k W ∧ W.heap[w.heap.size + 1]? = some (.loop (rec .done (some c))) ∧ W.heap[w.heap.size]? = some (.deferred (some [])))
      W1 (hW0 _ (hC1 _))
      (fun k A B hs hc => ⟨hI k A B hs.1 (hc.mono jm), hc.heap hs.2.1 hnl, hc.heap hs.2.2 hnd⟩)
      (fun k A B hs hc => by
        obtain ⟨c, hx, hl, hk⟩ := hs
        exact ⟨c, hIx c k A B hx (hc.mono jm), hc.heap hl hnl, hc.heap hk hnd⟩)
      ?_ ⟨hI1, hL1, hK1⟩).mono ?_
    · rintro k x W hx ⟨hi, hl, hk⟩
      have hy := run_yield (P := P) (args := encs x) hl (by rw [hrec]; exact hps x)
      rw [hrec] at hy
      refine ⟨fn, _, assign, body, hy, roundIn_of_wpIn hfn (hassign _ k x W _ hx hi ?_)⟩
      clear hy
      intro a' Wa hca hia hax
      have hl' := hca.heap hl (fun h => h jl)
      have hk' := hca.heap hk (fun h => h jd)
      have hlt : w.heap.size + 1 < Wa.heap.size := (Array.getElem?_eq_some_iff.1 hl').1
      refine ⟨_, run_beginRound hl' (by rw [hrec]), ?_⟩
      obtain ⟨W2, hW2⟩ : ∃ W2, Wa.putObj (w.heap.size + 1) (.loop { rec .ready none with state := .busy }) = W2 := ⟨_, rfl⟩
      have hl2 : W2.heap[w.heap.size + 1]? = some (.loop { rec .ready none with state := .busy }) := by rw [← hW2]; exact World.putObj_heap_same hlt
      have hk2 : W2.heap[w.heap.size]? = some (.deferred (some [])) := by rw [← hW2]; exact (World.putObj_heap_other (by omega)).trans hk'
      have hc2 : Chg (SJ SI w.heap.size) Wa W2 := by rw [← hW2]; exact (Chg.refl _ _).putObj jl _
      have hc2' : Chg (fun j => ¬ SI j) W W2 := by rw [← hW2]; exact (jn hca).putObj hnl _
      rw [hW2]
      refine wpIn_mono (hbody k x a' _ ⟨_, hl2⟩ hx (hI _ _ _ hia hc2) (hAx x a' _ _ hax hc2)) ?_
      have fin : ∀ (jump : Option Code) (W3 : World), Chg (fun j => ¬ SJ SI w.heap.size j) W2 W3 →
          (Instr.endRound (w.heap.size + 1) jump).run P W3 = .ok (.bool jump.isNone) (W3.putObj (w.heap.size + 1) (.loop (rec (if jump.isNone then .ready else .done) jump))) ∧
          (W3.putObj (w.heap.size + 1) (.loop (rec (if jump.isNone then .ready else .done) jump))).heap[w.heap.size + 1]? = some (.loop (rec (if jump.isNone then .ready else .done) jump)) ∧
          (W3.putObj (w.heap.size + 1) (.loop (rec (if jump.isNone then .ready else .done) jump))).heap[w.heap.size]? = some (.deferred (some [])) ∧
          Chg (SJ SI w.heap.size) W3 (W3.putObj (w.heap.size + 1) (.loop (rec (if jump.isNone then .ready else .done) jump))) := fun jump W3 hk3 => by
        have hl3 := hk3.heap hl2 (fun h => h jl)
        have := run_endRound (P := P) jump hl3
        rw [hrec] at this ⊢
        exact ⟨this, World.putObj_heap_same (Array.getElem?_eq_some_iff.1 hl3).1, (World.putObj_heap_other (by omega)).trans (hk3.heap hk2 (fun h => h jd)), (Chg.refl _ _).putObj jl _⟩
      rintro e a3 W3 hp
      cases e with
      | normal =>
        obtain ⟨hk3, hi3⟩ := hp
        obtain ⟨hr, hl4, hk4, hc4⟩ := fin none W3 hk3
        exact ⟨_, _, hr, .inl ⟨rfl, ⟨hI _ _ _ hi3 hc4, hl4, hk4⟩, (hc2'.trans (jn hk3)).putObj hnl _⟩⟩
      | ret =>
        obtain ⟨hk3, hi3⟩ := hp
        obtain ⟨hr, hl4, hk4, hc4⟩ := fin (some .ret) W3 hk3
        exact ⟨_, _, hr, .inr ⟨rfl, .ret, hIx _ _ _ _ hi3 hc4, hl4, hk4⟩⟩
      | exit id =>
        obtain ⟨hk3, hi3⟩ := hp
        obtain ⟨hr, hl4, hk4, hc4⟩ := fin (some (.exit id)) W3 hk3
        exact ⟨_, _, hr, .inr ⟨rfl, .exit id, hIx _ _ _ _ hi3 hc4, hl4, hk4⟩⟩
      | goto t =>
        obtain ⟨hk3, hi3⟩ := hp
        obtain ⟨hr, hl4, hk4, hc4⟩ := fin (some (.goto t)) W3 hk3
        exact ⟨_, _, hr, .inr ⟨rfl, .goto t, hIx _ _ _ _ hi3 hc4, hl4, hk4⟩⟩
      | panic ch => exact hp.elim
      | outgrown => exact hp.elim
    · rintro e W2 ⟨⟨v, rfl⟩, (⟨hi, hl, hk⟩ | ⟨k, hkle, c, hi, hl, hk⟩)⟩
      · exact ⟨none, _, by have := run_endLoop (P := P) hl (by rw [hrec]; simp); rw [hrec] at this; exact this, hdone _ (hI _ _ _ hi ((Chg.refl _ _).putObj jl _)) ((World.putObj_heap_other (by omega)).trans hk)⟩
      · exact ⟨some c, _, by have := run_endLoop (P := P) hl (by rw [hrec]; simp); rw [hrec] at this; exact this, hstop c k _ hkle (hIx _ _ _ _ hi ((Chg.refl _ _).putObj jl _)) ((World.putObj_heap_other (by omega)).trans hk)⟩

/-- The same where the assignment to the loop's left sides lays nothing. -/
theorem wpIn_range_it1 {α : Type} {g : Operand} {ps : Array Tmp} {assign body : Code} {Q : Exit → Act → World → Prop} {a : Act} {w : World}
    (hro : F.round = none) (h1 : 1 ≤ n) {gf : Nat} {lb : Array Value} (hg : a.eval g = .func (.func gf) #[] lb) (hFg : F.fn gf) (eg : ∀ args w, (callFunc gf args).run P w = .ok (.enter gf args) w)
    {encs : α → Array Value} {SI : Nat → Prop} {xs : List α} {W0 : World → Prop} (hit : Iter F (n - 1) P gf lb encs SI xs W0)
    (hW0 : ∀ W, Chg (fun _ => False) w W → W0 W) (hSI : ∀ k, SI k → k < w.heap.size ∨ w.heap.size + 2 ≤ k) (hps : ∀ x, (encs x).size = ps.size)
    (I : Nat → World → Prop) (Ix : Code → Nat → World → Prop) (hI : ∀ k A B, I k A → Chg (SJ SI w.heap.size) A B → I k B) (hIx : ∀ c k A B, Ix c k A → Chg (SJ SI w.heap.size) A B → Ix c k B) (h0 : I 0 w) (a₁ : α → Act)
    (hassign : ∀ (l : Nat) (x : α) (A : World) (K : Act → World → Prop), K (a₁ x) A →
      assign.wpIn (F.inRound l) (n - 1 - 1) P (Exit.then K (fun _ _ _ => False)) { tmps := (ps.zip (encs x)).foldl (fun t (p, v) => t.setIfInBounds p v) a.tmps, defers := [] } A)
    (hbody : ∀ (k : Nat) (x : α) (A : World), (∃ r, A.heap[w.heap.size + 1]? = some (.loop r)) → xs[k]? = some x → I k A → body.wpIn (F.inRound (w.heap.size + 1)) (n - 1 - 1) P (itPost (SJ SI w.heap.size) I Ix (k + 1) A) (a₁ x) A)
    (hdone : ∀ (B : World), I xs.length B → B.heap[w.heap.size]? = some (.deferred (some [])) → Q .normal { a with defers := { target := .collected w.heap.size, args := #[] } :: a.defers } B)
    (hstop : ∀ (c : Code) (k : Nat) (B : World), k ≤ xs.length → Ix c k B → B.heap[w.heap.size]? = some (.deferred (some [])) → c.wpIn F n P Q { a with defers := { target := .collected w.heap.size, args := #[] } :: a.defers } B) :
    (Code.rangeFunc g ps assign body).wpIn F n P Q a w :=
  wpIn_range_it hro h1 hg hFg eg hit hW0 hSI hps I Ix hI hIx h0 (fun x a' _ => a' = a₁ x) (fun _ _ _ _ h _ => h)
    (fun l k x A K _ hi hK => hassign l x A K (hK _ _ (Chg.refl _ _) hi rfl)) (fun k x a' A hr hx hi ha => by subst ha; exact hbody k x A hr hx hi) hdone hstop

theorem ownsRow_chg {W W' : World} {base : Nat} {e : TypeId} {size : Nat} {v : Value} {n : Nat} {xs : List Value} (h : W.ownsRow base e size v n xs) {S : Nat → Prop} (hc : Chg S W W') (hs : ∀ k, S k → k < base) : W'.ownsRow base e size v n xs := by
  obtain ⟨h1, h2⟩ := h
  refine ⟨h1, ?_⟩
  rcases h2 with h2 | ⟨g, cap, cur, hv, hg, hh, r⟩
  · exact .inl h2
  · exact .inr ⟨g, cap, cur, hv, hg, hc.heap hh (fun hS => by have := hs g hS; omega), r⟩
theorem Boxed_chg {W W' : World} {B : Nat} {t : TypeId} {v : Value} (h : Boxed W B t v) {S : Nat → Prop} (hc : Chg S W W') (hs : ¬ S B) : Boxed W' B t v := hc.heap h hs

/-- 'out = append(out, ..)', out in a box. -/
theorem box_appended {W w1 : World} {base B : Nat} {t e : TypeId} {size : Nat} {v v' : Value} {k m : Nat} {xs ys : List Value} {tmp : Obj}
    (hv : Boxed W B t v) (hte : t ≠ e) (hrow : W.ownsRow base e size v k xs) (hown' : w1.ownsRow base e size v' m ys) (hgrow : (W.alloc tmp).grownBy w1 v.ownBlock) :
    Boxed w1 B t v ∧ Boxed (w1.setCell ⟨B, 0, none⟩ v') B t v' ∧ (w1.setCell ⟨B, 0, none⟩ v').ownsRow base e size v' m ys ∧
      ∀ S : Nat → Prop, S B → (∀ k, base ≤ k → S k) → Chg S W (w1.setCell ⟨B, 0, none⟩ v') := by
  have hv1 : Boxed w1 B t v := (hv.alloc tmp).kept hgrow (hv.not_row hte hrow)
  refine ⟨hv1, hv1.set v', hown'.kept (grownBy_setCell' w1 B v') (.inr (hv1.not_row hte hown').symm), fun S hB hS => ?_⟩
  refine Chg.setCell (Chg.grown ((Chg.refl S W).alloc tmp) hgrow fun r er => .inl (hS r ?_)) hB v'
  rcases hrow.2 with ⟨rfl, _⟩ | ⟨g, cap, cur, rfl, hb, _, _⟩
  · simp [Value.ownBlock] at er
  · obtain rfl : g = r := by simpa [Value.ownBlock] using er
    exact hb
end Go.Proofs.YtckfglcihelofaaDoor
/- A second law for 'for x := range f { .. }' of this repo's own: the loop's side holds a set U of blocks that may grow from round to round; the iterator turns no block of U, the loop's body turns blocks of U alone, and new ones; neither turns a block of Rd. -/
namespace Go.Proofs.YtckfglcihelofaaDoor
set_option linter.unusedSimpArgs false
set_option linter.unusedVariables false
open Go.RowKit

/-- A second change whose blocks, as far as they lay at the begin, are S's. -/
theorem Chg.trans' {S T : Nat → Prop} {A B C : World} (h : Chg S A B) (k : Chg T B C) (hT : ∀ j, j < A.heap.size → T j → S j) : Chg S A C :=
  ⟨k.os.trans h.os, k.tape.trans h.tape, k.output.trans h.output, Nat.le_trans h.size k.size, fun i hi hs => (k.block i (Nat.lt_of_lt_of_le hi h.size) (fun e => hs (hT i hi e))).trans (h.block i hi hs)⟩

/-- From A to B the loop's side turned blocks of U alone; U' holds what it holds now. -/
structure UStep (U : Nat → Prop) (A : World) (U' : Nat → Prop) (B : World) : Prop where
  old : ∀ j, U' j → U j ∨ A.heap.size ≤ j
  lt : ∀ j, U' j → j < B.heap.size
  chg : Chg U A B
theorem UStep.same {U : Nat → Prop} {A B : World} (hU : ∀ j, U j → j < A.heap.size) (h : Chg U A B) : UStep U A U B := ⟨fun _ h => .inl h, fun j hj => Nat.lt_of_lt_of_le (hU j hj) h.size, h⟩
theorem UStep.trans {U U' U'' : Nat → Prop} {A B C : World} (h : UStep U A U' B) (k : UStep U' B U'' C) : UStep U A U'' C :=
  ⟨fun j hj => by
      rcases k.old j hj with h1 | h1
      · exact h.old j h1
      · exact .inr (Nat.le_trans h.chg.size h1),
    k.lt, ⟨k.chg.os.trans h.chg.os, k.chg.tape.trans h.chg.tape, k.chg.output.trans h.chg.output, Nat.le_trans h.chg.size k.chg.size, fun i hi hs => (k.chg.block i (Nat.lt_of_lt_of_le hi h.chg.size) (fun h' => by
      rcases h.old i h' with h2 | h2
      · exact hs h2
      · omega)).trans (h.chg.block i hi hs)⟩⟩

/-- The contract of an iterator that goes through xs; W0: what it asks at its begin of the loop's blocks and of the world; E: what holds behind it, if it came to its end. -/
def IterD {α : Type} (F : Fence) (n : Nat) (P : Program) (g : Nat) (lb : Array Value) (encs : α → Array Value) (xs : List α) (Rd : Nat → Prop) (W0 : (Nat → Prop) → World → Prop) (E : World → Prop) : Prop :=
  ∀ (l : Nat) (J Jx : Nat → (Nat → Prop) → World → Prop) (U0 : Nat → Prop) (W : World), W0 U0 W → (∀ j, U0 j → j < W.heap.size ∧ ¬ Rd j) → (∀ j, Rd j → j < W.heap.size) →
    (∀ k U A B, J k U A → Chg (fun j => ¬ U j ∧ ¬ Rd j) A B → J k U B) → (∀ k U A B, Jx k U A → Chg (fun j => ¬ U j ∧ ¬ Rd j) A B → Jx k U B) →
    (∀ k x U A, xs[k]? = some x → (∀ j, U j → j < A.heap.size ∧ ¬ Rd j) → J k U A → YieldAt F (n - 1) P l (encs x) A fun e B =>
      (e = .returned (.bool true) ∧ ∃ U', UStep U A U' B ∧ J (k + 1) U' B) ∨ (e = .returned (.bool false) ∧ ∃ U', UStep U A U' B ∧ Jx (k + 1) U' B)) →
    J 0 U0 W →
    CallsIn F n P g (#[.func (.yield l) #[] #[]] ++ lb) W fun e B => (∃ v, e = .returned v) ∧ W.heap.size ≤ B.heap.size ∧ ((∃ U, (∀ j, U j → j < B.heap.size ∧ ¬ Rd j) ∧ J xs.length U B ∧ E B) ∨ ∃ k, k ≤ xs.length ∧ ∃ U, (∀ j, U j → j < B.heap.size ∧ ¬ Rd j) ∧ Jx k U B)

/-- The loop's own two blocks. -/
def LZ (z : Nat) (k : Nat) : Prop := k = z ∨ k = z + 1
/-- How a round's body may be left. -/
def itPostD (I : Nat → (Nat → Prop) → World → Prop) (Ix : Code → Nat → (Nat → Prop) → World → Prop) (U : Nat → Prop) (k : Nat) (A : World) : Exit → Act → World → Prop
  | .normal, _, B => ∃ U', UStep U A U' B ∧ I k U' B
  | .ret, _, B => ∃ U', UStep U A U' B ∧ Ix .ret k U' B
  | .exit id, _, B => ∃ U', UStep U A U' B ∧ Ix (.exit id) k U' B
  | .goto t, _, B => ∃ U', UStep U A U' B ∧ Ix (.goto t) k U' B
  | .panic _, _, _ => False
  | .outgrown, _, _ => False

variable {F : Fence} {n : Nat} {P : Program}

theorem wpIn_range_itD {α : Type} {g : Operand} {ps : Array Tmp} {assign body : Code} {Q : Exit → Act → World → Prop} {a : Act} {w : World}
    (hro : F.round = none) (h1 : 1 ≤ n) {gf : Nat} {lb : Array Value} (hg : a.eval g = .func (.func gf) #[] lb) (hFg : F.fn gf) (eg : ∀ args w, (callFunc gf args).run P w = .ok (.enter gf args) w)
    {encs : α → Array Value} {xs : List α} {Rd : Nat → Prop} {W0 : (Nat → Prop) → World → Prop} {E : World → Prop} (hit : IterD F (n - 1) P gf lb encs xs Rd W0 E) (hRd : ∀ j, Rd j → j < w.heap.size)
    (U0 : Nat → Prop) (hU0 : ∀ j, U0 j → j < w.heap.size ∧ ¬ Rd j)
    (hW0 : ∀ W, Chg (fun _ => False) w W → W.heap.size = w.heap.size + 2 → W0 (fun j => U0 j ∨ LZ w.heap.size j) W) (hps : ∀ x, (encs x).size = ps.size)
    (I : Nat → (Nat → Prop) → World → Prop) (Ix : Code → Nat → (Nat → Prop) → World → Prop)
    (hI : ∀ k U A B, I k U A → w.heap.size + 2 ≤ B.heap.size → Chg (fun j => ¬ U j ∧ ¬ Rd j) A B → I k U B) (hIx : ∀ c k U A B, Ix c k U A → Chg (fun j => ¬ U j ∧ ¬ Rd j) A B → Ix c k U B)
    (hE : ∀ A B, E A → Chg (LZ w.heap.size) A B → E B) (h0 : I 0 U0 w)
    (Ax : α → Act → World → Prop) (hAx : ∀ x a' A B, Ax x a' A → Chg (LZ w.heap.size) A B → Ax x a' B)
    (hassign : ∀ (l k : Nat) (x : α) (U : Nat → Prop) (A : World) (K : Act → World → Prop), xs[k]? = some x → I k U A → (∀ j, U j → j < A.heap.size ∧ ¬ Rd j) → w.heap.size + 2 ≤ A.heap.size →
      (∀ a' U1 B, UStep U A U1 B → I k U1 B → Ax x a' B → K a' B) →
      assign.wpIn (F.inRound l) (n - 1 - 1) P (Exit.then K (fun _ _ _ => False)) { tmps := (ps.zip (encs x)).foldl (fun t (p, v) => t.setIfInBounds p v) a.tmps, defers := [] } A)
    (hbody : ∀ (k : Nat) (x : α) (U : Nat → Prop) (a' : Act) (A : World), (∃ r, A.heap[w.heap.size + 1]? = some (.loop r)) → xs[k]? = some x → I k U A → (∀ j, U j → j < A.heap.size ∧ ¬ Rd j) → w.heap.size + 2 ≤ A.heap.size → Ax x a' A →
      body.wpIn (F.inRound (w.heap.size + 1)) (n - 1 - 1) P (itPostD I Ix U (k + 1) A) a' A)
    (hdone : ∀ (U : Nat → Prop) (B : World), I xs.length U B → E B → (∀ j, U j → j < B.heap.size ∧ ¬ Rd j) → w.heap.size + 2 ≤ B.heap.size → B.heap[w.heap.size]? = some (.deferred (some [])) → Q .normal { a with defers := { target := .collected w.heap.size, args := #[] } :: a.defers } B)
    (hstop : ∀ (c : Code) (k : Nat) (U : Nat → Prop) (B : World), k ≤ xs.length → Ix c k U B → (∀ j, U j → j < B.heap.size ∧ ¬ Rd j) → w.heap.size + 2 ≤ B.heap.size → B.heap[w.heap.size]? = some (.deferred (some [])) → c.wpIn F n P Q { a with defers := { target := .collected w.heap.size, args := #[] } :: a.defers } B) :
    (Code.rangeFunc g ps assign body).wpIn F n P Q a w := by
  refine wpIn_rangeFunc ?_
  intro fn hfn
  rw [hro]
  obtain ⟨rec, hrec⟩ : ∃ rec : LoopState → Option Code → Loop, rec = fun st pe => { state := st, pending := pe, fn, tmps := a.tmps, params := ps, assign, body, defers := w.heap.size } := ⟨_, rfl⟩
  obtain ⟨W1, hW1⟩ : ∃ W1, (w.alloc (.deferred (some []))).alloc (.loop (rec .ready none)) = W1 := ⟨_, rfl⟩
  have hs1 : W1.heap.size = w.heap.size + 2 := by rw [← hW1]; simp
  have hL1 : W1.heap[w.heap.size + 1]? = some (.loop (rec .ready none)) := by
    rw [← hW1]; have := World.alloc_heap_new (w.alloc (.deferred (some []))) (.loop (rec .ready none)); rwa [World.size_alloc] at this
  have hK1 : W1.heap[w.heap.size]? = some (.deferred (some [])) := by
    rw [← hW1]; exact (Below.heap_alloc _ _ _ (by simp)).trans (World.alloc_heap_new w _)
  have hC1 : ∀ S, Chg S w W1 := fun S => by rw [← hW1]; exact ((Chg.refl S w).alloc _).alloc _
  obtain ⟨z, hz⟩ : ∃ z, w.heap.size = z := ⟨_, rfl⟩
  have hI1 : I 0 U0 W1 := hI _ _ _ _ h0 (by omega) (hC1 _)
  -- what the loop hands to the iterator: U and the loop's own blocks
  obtain ⟨UL, hUL⟩ : ∃ UL : (Nat → Prop) → Nat → Prop, UL = fun U j => U j ∨ LZ z j := ⟨_, rfl⟩
  have ulz : ∀ U, UL U z := fun U => by rw [hUL]; exact .inr (.inl rfl)
  have ulz1 : ∀ U, UL U (z + 1) := fun U => by rw [hUL]; exact .inr (.inr rfl)
  have ulU : ∀ U j, U j → UL U j := fun U j h => by rw [hUL]; exact .inl h
  -- a change of the iterator's leaves U alone, and the loop's blocks
  have jI : ∀ {U A B}, Chg (fun j => ¬ UL U j ∧ ¬ Rd j) A B → Chg (fun j => ¬ U j ∧ ¬ Rd j) A B := fun h => h.mono (fun k hk => ⟨fun hS => hk.1 (ulU _ _ hS), hk.2⟩)
  have jR : ∀ j, LZ z j → ¬ Rd j := fun j hj hr => by
    have := hRd j hr
    rcases hj with hj | hj <;> omega
  have jZ : ∀ {U : Nat → Prop} {A B : World}, (∀ j, U j → ¬ LZ z j) → Chg (LZ z) A B → Chg (fun j => ¬ U j ∧ ¬ Rd j) A B := fun hu h => h.mono (fun k hk => ⟨fun hS => hu k hS hk, jR k hk⟩)
  refine ⟨w.heap.size + 1, [{ target := .collected w.heap.size, args := #[] }], W1, { target := .fn (.func gf) lb, args := #[.func (.yield (w.heap.size + 1)) #[] #[]] }, W1, gf,
    #[.func (.yield (w.heap.size + 1)) #[] #[]] ++ lb, W1, ?_, ?_, ?_, ?_, fun _ => h1, ?_⟩
  · rw [← hW1, hrec]; exact run_enterLoop_outer _ _ _ _ _
  · simp only [resolve, hg]
    simp [go_sem]
  · intro f' hf'; simp [Target.leads] at hf'; subst hf'; exact hFg
  · simp [invoke, go_sem, eg]
  · simp only [hz] at *
    refine (hit (z + 1)
      (fun k U W => ∃ U', U = UL U' ∧ (∀ j, U' j → ¬ LZ z j) ∧ z + 2 ≤ W.heap.size ∧ I k U' W ∧ W.heap[z + 1]? = some (.loop (rec .ready none)) ∧ W.heap[z]? = some (.deferred (some [])))
      (fun k U W => ∃ U', U = UL U' ∧ (∀ j, U' j → ¬ LZ z j) ∧ z + 2 ≤ W.heap.size ∧ ∃ c, Ix c k U' W ∧ W.heap[z + 1]? = some (.loop (rec .done (some c))) ∧ W.heap[z]? = some (.deferred (some [])))
      (UL U0) W1 (by rw [hUL]; exact hW0 _ (hC1 _) hs1)
      (fun j hj => by
        rw [hUL] at hj
        rcases hj with hj | hj
        · have := hU0 j hj; exact ⟨by omega, this.2⟩
        · exact ⟨by rcases hj with hj | hj <;> omega, jR j hj⟩)
      (fun j hj => by have := hRd j hj; omega)
      (fun k U A B hs hc => by
        obtain ⟨U', rfl, hu, hsz, hi, hl, hk⟩ := hs
        exact ⟨U', rfl, hu, Nat.le_trans hsz hc.size, hI k U' A B hi (Nat.le_trans hsz hc.size) (jI hc), hc.heap hl (fun h => h.1 (ulz1 _)), hc.heap hk (fun h => h.1 (ulz _))⟩)
      (fun k U A B hs hc => by
        obtain ⟨U', rfl, hu, hsz, c, hx, hl, hk⟩ := hs
        exact ⟨U', rfl, hu, Nat.le_trans hsz hc.size, c, hIx c k U' A B hx (jI hc), hc.heap hl (fun h => h.1 (ulz1 _)), hc.heap hk (fun h => h.1 (ulz _))⟩)
      ?_ ⟨U0, rfl, fun j hj h => by
        have h1' := (hU0 j hj).1
        rcases h with h | h <;> omega, by omega, hI1, hL1, hK1⟩).mono ?_
    · rintro k x U W hx hUlt ⟨U, rfl, hu, hsz, hi, hl, hk⟩
      have hUl : ∀ j, U j → j < W.heap.size ∧ ¬ Rd j := fun j hj => hUlt j (ulU _ _ hj)
      have hy := run_yield (P := P) (args := encs x) hl (by rw [hrec]; exact hps x)
      rw [hrec] at hy
      refine ⟨fn, _, assign, body, hy, roundIn_of_wpIn hfn (hassign _ k x U W _ hx hi hUl hsz ?_)⟩
      clear hy
      intro a' U1 Wa hca hia hax
      have hnz : ¬ U z := fun h => hu _ h (.inl rfl)
      have hnz1 : ¬ U (z + 1) := fun h => hu _ h (.inr rfl)
      have hl' := hca.chg.heap hl hnz1
      have hk' := hca.chg.heap hk hnz
      have hlt : z + 1 < Wa.heap.size := (Array.getElem?_eq_some_iff.1 hl').1
      have hu1 : ∀ j, U1 j → ¬ LZ z j := fun j hj h => by
        rcases hca.old j hj with h2 | h2
        · exact hu j h2 h
        · rcases h with h | h <;> omega
      refine ⟨_, run_beginRound hl' (by rw [hrec]), ?_⟩
      obtain ⟨W2, hW2⟩ : ∃ W2, Wa.putObj (z + 1) (.loop { rec .ready none with state := .busy }) = W2 := ⟨_, rfl⟩
      have hl2 : W2.heap[z + 1]? = some (.loop { rec .ready none with state := .busy }) := by rw [← hW2]; exact World.putObj_heap_same hlt
      have hk2 : W2.heap[z]? = some (.deferred (some [])) := by rw [← hW2]; exact (World.putObj_heap_other (by omega)).trans hk'
      have hc2 : Chg (LZ z) Wa W2 := by rw [← hW2]; exact (Chg.refl _ _).putObj (.inr rfl) _
      have hs2 : Wa.heap.size = W2.heap.size := by rw [← hW2]; simp
      have hsa := hca.chg.size
      rw [hW2]
      have hlt1 : ∀ j, U1 j → j < W2.heap.size ∧ ¬ Rd j := fun j hj => ⟨by have := hca.lt j hj; omega, fun hr => by
        rcases hca.old j hj with h2 | h2
        · exact (hUl j h2).2 hr
        · have := hRd j hr; omega⟩
      refine wpIn_mono (hbody k x U1 a' _ ⟨_, hl2⟩ hx (hI _ _ _ _ hia (by omega) (jZ hu1 hc2)) hlt1 (by omega) (hAx x a' _ _ hax hc2)) ?_
      have fin : ∀ (jump : Option Code) (U3 : Nat → Prop) (W3 : World), UStep U1 W2 U3 W3 →
          (Instr.endRound (z + 1) jump).run P W3 = .ok (.bool jump.isNone) (W3.putObj (z + 1) (.loop (rec (if jump.isNone then .ready else .done) jump))) ∧
          (W3.putObj (z + 1) (.loop (rec (if jump.isNone then .ready else .done) jump))).heap[z + 1]? = some (.loop (rec (if jump.isNone then .ready else .done) jump)) ∧
          (W3.putObj (z + 1) (.loop (rec (if jump.isNone then .ready else .done) jump))).heap[z]? = some (.deferred (some [])) ∧
          Chg (LZ z) W3 (W3.putObj (z + 1) (.loop (rec (if jump.isNone then .ready else .done) jump))) ∧ (∀ j, U3 j → ¬ LZ z j) ∧
          UStep (UL U) W (UL U3) (W3.putObj (z + 1) (.loop (rec (if jump.isNone then .ready else .done) jump))) ∧ z + 2 ≤ (W3.putObj (z + 1) (.loop (rec (if jump.isNone then .ready else .done) jump))).heap.size := fun jump U3 W3 hk3 => by
        have hl3 := hk3.chg.heap hl2 (fun h => hu1 _ h (.inr rfl))
        have := run_endRound (P := P) jump hl3
        rw [hrec] at this ⊢
        have hs3 := hk3.chg.size
        have hps : ∀ (o : Obj), (W3.putObj (z + 1) o).heap.size = W3.heap.size := fun o => by simp
        have cz : ∀ (o : Obj), Chg (LZ z) W3 (W3.putObj (z + 1) o) := fun o => (Chg.refl _ _).putObj (.inr rfl) _
        have hu3 : ∀ j, U3 j → ¬ LZ z j := fun j hj h => by
          rcases hk3.old j hj with h2 | h2
          · exact hu1 j h2 h
          · rcases h with h | h <;> omega
        refine ⟨this, World.putObj_heap_same (Array.getElem?_eq_some_iff.1 hl3).1, (World.putObj_heap_other (by omega)).trans (hk3.chg.heap hk2 (fun h => hu1 _ h (.inl rfl))), cz _, hu3, ⟨fun j hj => ?_, fun j hj => ?_, ?_⟩, by rw [hps]; omega⟩
        · rw [hUL] at hj ⊢
          rcases hj with hj | hj
          · rcases hk3.old j hj with h2 | h2
            · rcases hca.old j h2 with h4 | h4
              · exact .inl (.inl h4)
              · exact .inr h4
            · right; omega
          · exact .inl (.inr hj)
        · rw [hps]
          rw [hUL] at hj
          rcases hj with hj | hj | hj
          · exact hk3.lt j hj
          · omega
          · omega
        · have c1 : Chg (UL U) W Wa := hca.chg.mono (ulU _)
          have c2 : Chg (UL U) Wa W2 := hc2.mono (fun j h => by rw [hUL]; exact .inr h)
          have c3 : Chg (UL U) W W3 := (c1.trans c2).trans' hk3.chg (fun j hj hU => by
            rcases hca.old j hU with h4 | h4
            · exact ulU _ _ h4
            · omega)
          exact c3.trans ((cz _).mono (fun j h => by rw [hUL]; exact .inr h))
      rintro e a3 W3 hp
      cases e with
      | normal =>
        obtain ⟨U3, hk3, hi3⟩ := hp
        obtain ⟨hr, hl4, hk4, hc4, hu3, hst, hs4⟩ := fin none U3 W3 hk3
        exact ⟨_, _, hr, .inl ⟨rfl, _, hst, U3, rfl, hu3, hs4, hI _ _ _ _ hi3 hs4 (jZ hu3 hc4), hl4, hk4⟩⟩
      | ret =>
        obtain ⟨U3, hk3, hi3⟩ := hp
        obtain ⟨hr, hl4, hk4, hc4, hu3, hst, hs4⟩ := fin (some .ret) U3 W3 hk3
        exact ⟨_, _, hr, .inr ⟨rfl, _, hst, U3, rfl, hu3, hs4, .ret, hIx _ _ _ _ _ hi3 (jZ hu3 hc4), hl4, hk4⟩⟩
      | exit id =>
        obtain ⟨U3, hk3, hi3⟩ := hp
        obtain ⟨hr, hl4, hk4, hc4, hu3, hst, hs4⟩ := fin (some (.exit id)) U3 W3 hk3
        exact ⟨_, _, hr, .inr ⟨rfl, _, hst, U3, rfl, hu3, hs4, .exit id, hIx _ _ _ _ _ hi3 (jZ hu3 hc4), hl4, hk4⟩⟩
      | goto t =>
        obtain ⟨U3, hk3, hi3⟩ := hp
        obtain ⟨hr, hl4, hk4, hc4, hu3, hst, hs4⟩ := fin (some (.goto t)) U3 W3 hk3
        exact ⟨_, _, hr, .inr ⟨rfl, _, hst, U3, rfl, hu3, hs4, .goto t, hIx _ _ _ _ _ hi3 (jZ hu3 hc4), hl4, hk4⟩⟩
      | panic ch => exact hp.elim
      | outgrown => exact hp.elim
    · rintro e W2 ⟨⟨v, rfl⟩, hs2, (⟨U, hlt, ⟨U, rfl, hu, hsz, hi, hl, hk⟩, hE2⟩ | ⟨k, hkle, U, hlt, U, rfl, hu, hsz, c, hi, hl, hk⟩)⟩
      · have cz : ∀ o, Chg (LZ z) W2 (W2.putObj (z + 1) o) := fun o => (Chg.refl _ _).putObj (.inr rfl) _
        have hps : ∀ (o : Obj), (W2.putObj (z + 1) o).heap.size = W2.heap.size := fun o => by simp
        exact ⟨none, _, by have := run_endLoop (P := P) hl (by rw [hrec]; simp); rw [hrec] at this; exact this,
          hdone U _ (hI _ _ _ _ hi (by rw [hps]; exact hsz) (jZ hu (cz _))) (hE _ _ hE2 (cz _)) (fun j hj => ⟨by rw [hps]; exact (hlt j (ulU _ _ hj)).1, (hlt j (ulU _ _ hj)).2⟩) (by rw [hps]; exact hsz) ((World.putObj_heap_other (by omega)).trans hk)⟩
      · have cz : ∀ o, Chg (LZ z) W2 (W2.putObj (z + 1) o) := fun o => (Chg.refl _ _).putObj (.inr rfl) _
        have hps : ∀ (o : Obj), (W2.putObj (z + 1) o).heap.size = W2.heap.size := fun o => by simp
        exact ⟨some c, _, by have := run_endLoop (P := P) hl (by rw [hrec]; simp); rw [hrec] at this; exact this,
          hstop c k U _ hkle (hIx _ _ _ _ _ hi (jZ hu (cz _))) (fun j hj => ⟨by rw [hps]; exact (hlt j (ulU _ _ hj)).1, (hlt j (ulU _ _ hj)).2⟩) (by rw [hps]; exact hsz) ((World.putObj_heap_other (by omega)).trans hk)⟩

/-- The same where the assignment to the loop's left sides lays nothing. -/
theorem wpIn_range_itD1 {α : Type} {g : Operand} {ps : Array Tmp} {assign body : Code} {Q : Exit → Act → World → Prop} {a : Act} {w : World}
    (hro : F.round = none) (h1 : 1 ≤ n) {gf : Nat} {lb : Array Value} (hg : a.eval g = .func (.func gf) #[] lb) (hFg : F.fn gf) (eg : ∀ args w, (callFunc gf args).run P w = .ok (.enter gf args) w)
    {encs : α → Array Value} {xs : List α} {Rd : Nat → Prop} {W0 : (Nat → Prop) → World → Prop} {E : World → Prop} (hit : IterD F (n - 1) P gf lb encs xs Rd W0 E) (hRd : ∀ j, Rd j → j < w.heap.size)
    (U0 : Nat → Prop) (hU0 : ∀ j, U0 j → j < w.heap.size ∧ ¬ Rd j)
    (hW0 : ∀ W, Chg (fun _ => False) w W → W.heap.size = w.heap.size + 2 → W0 (fun j => U0 j ∨ LZ w.heap.size j) W) (hps : ∀ x, (encs x).size = ps.size)
    (I : Nat → (Nat → Prop) → World → Prop) (Ix : Code → Nat → (Nat → Prop) → World → Prop)
    (hI : ∀ k U A B, I k U A → w.heap.size + 2 ≤ B.heap.size → Chg (fun j => ¬ U j ∧ ¬ Rd j) A B → I k U B) (hIx : ∀ c k U A B, Ix c k U A → Chg (fun j => ¬ U j ∧ ¬ Rd j) A B → Ix c k U B)
    (hE : ∀ A B, E A → Chg (LZ w.heap.size) A B → E B) (h0 : I 0 U0 w) (a₁ : α → Act)
    (hassign : ∀ (l : Nat) (x : α) (A : World) (K : Act → World → Prop), K (a₁ x) A →
      assign.wpIn (F.inRound l) (n - 1 - 1) P (Exit.then K (fun _ _ _ => False)) { tmps := (ps.zip (encs x)).foldl (fun t (p, v) => t.setIfInBounds p v) a.tmps, defers := [] } A)
    (hbody : ∀ (k : Nat) (x : α) (U : Nat → Prop) (A : World), (∃ r, A.heap[w.heap.size + 1]? = some (.loop r)) → xs[k]? = some x → I k U A → (∀ j, U j → j < A.heap.size ∧ ¬ Rd j) → w.heap.size + 2 ≤ A.heap.size →
      body.wpIn (F.inRound (w.heap.size + 1)) (n - 1 - 1) P (itPostD I Ix U (k + 1) A) (a₁ x) A)
    (hdone : ∀ (U : Nat → Prop) (B : World), I xs.length U B → E B → (∀ j, U j → j < B.heap.size ∧ ¬ Rd j) → w.heap.size + 2 ≤ B.heap.size → B.heap[w.heap.size]? = some (.deferred (some [])) → Q .normal { a with defers := { target := .collected w.heap.size, args := #[] } :: a.defers } B)
    (hstop : ∀ (c : Code) (k : Nat) (U : Nat → Prop) (B : World), k ≤ xs.length → Ix c k U B → (∀ j, U j → j < B.heap.size ∧ ¬ Rd j) → w.heap.size + 2 ≤ B.heap.size → B.heap[w.heap.size]? = some (.deferred (some [])) → c.wpIn F n P Q { a with defers := { target := .collected w.heap.size, args := #[] } :: a.defers } B) :
    (Code.rangeFunc g ps assign body).wpIn F n P Q a w :=
  wpIn_range_itD hro h1 hg hFg eg hit hRd U0 hU0 hW0 hps I Ix hI hIx hE h0 (fun x a' _ => a' = a₁ x) (fun _ _ _ _ h _ => h)
    (fun l k x U A K _ hi hlt _ hK => hassign l x A K (hK _ _ _ (UStep.same (fun j hj => (hlt j hj).1) (Chg.refl _ _)) hi rfl)) (fun k x U a' A hr hx hi hlt hs ha => by subst ha; exact hbody k x U A hr hx hi hlt hs) hdone hstop
end Go.Proofs.YtckfglcihelofaaDoor
/- base64 and digits, plainly, on lists of bytes' numbers. No program in sight. -/
namespace Go.Proofs.YtckfglcihelofaaDoor
set_option linter.unusedSimpArgs false
set_option linter.unusedVariables false
namespace Code
open Go.RowKit Go.Proofs.YtckfglcihelofaaDoorW.PrintWords Go.Proofs.YtckfglcihelofaaDoor.PureB
/-- a text's bytes -/
def bl (s : ByteArray) : List Int := s.data.toList.map fun b => (b.toNat : Int)
theorem bl_len (s : ByteArray) : (bl s).length = s.size := by unfold bl; rw [List.length_map, Array.length_toList]; rfl
theorem bl_byte (s : ByteArray) : ∀ x ∈ bl s, 0 ≤ x ∧ x < 256 := by
  intro x hx
  obtain ⟨b, _, rfl⟩ := List.mem_map.1 hx
  have := b.toNat_lt
  omega
theorem bl_get (s : ByteArray) (j : Nat) (h : j < s.size) : (bl s)[j]? = some (bt s j) := by
  unfold bl
  rw [List.getElem?_map, Array.getElem?_toList, Array.getElem?_eq_getElem h]
  simp only [Option.map_some]
  rw [bt_nat s j h]
  rfl
theorem son_bl (s : ByteArray) : strOfNums (bl s) = s := by
  refine ba_ext (by rw [son_size, bl_len]) (fun j hj => ?_)
  rw [son_size, bl_len] at hj
  have hb := bl_byte s _ (List.mem_of_getElem? (bl_get s j hj))
  exact bt_son _ _ _ (bl_get s j hj) hb.1 hb.2
theorem bl_son (l : List Int) (h : ∀ x ∈ l, 0 ≤ x ∧ x < 256) : bl (strOfNums l) = l := by
  apply List.ext_getElem?
  intro j
  by_cases hj : j < l.length
  · have hx : l[j]? = some (l[j]'hj) := List.getElem?_eq_getElem hj
    have hb := h _ (List.mem_of_getElem? hx)
    rw [bl_get _ _ (by rw [son_size]; exact hj), hx, bt_son _ _ _ hx hb.1 hb.2]
  · rw [List.getElem?_eq_none (by rw [bl_len, son_size]; omega), List.getElem?_eq_none (by omega)]
/-- the sign of a number below 64 -/
def b64 (i : Int) : Int := if i < 26 then 65 + i else if i < 52 then 71 + i else if i < 62 then i - 4 else if i = 62 then 43 else 47
/-- all signs -/
def alpha : List Int := (List.range 64).map fun (j : Nat) => b64 (j : Int)
/-- a text's base64 -/
def baseL : List Int → List Int
  | [] => []
  | [a] => [b64 (a / 4), b64 (a % 4 * 16), 61, 61]
  | [a, b] => [b64 (a / 4), b64 (a % 4 * 16 + b / 16), b64 (b % 16 * 4), 61]
  | a :: b :: c :: r => [b64 (a / 4), b64 (a % 4 * 16 + b / 16), b64 (b % 16 * 4 + c / 64), b64 (c % 64)] ++ baseL r
/-- what a sign is worth -/
def worthL (c : Int) : Option Int := if 65 ≤ c ∧ c ≤ 90 then some (c - 65) else if 97 ≤ c ∧ c ≤ 122 then some (c - 71) else if 48 ≤ c ∧ c ≤ 57 then some (c + 4) else if c = 43 then some 62 else if c = 47 then some 63 else none
theorem b64_byte (i : Int) (h0 : 0 ≤ i) (h1 : i < 64) : 43 ≤ b64 i ∧ b64 i ≤ 122 ∧ b64 i ≠ 61 := by
  unfold b64
  repeat' split
  all_goals omega
theorem worth_b64 (i : Int) (h0 : 0 ≤ i) (h1 : i < 64) : worthL (b64 i) = some i := by
  unfold b64 worthL
  repeat' split
  all_goals first | omega | (congr 1; omega)
theorem b64_worth (c v : Int) (h : worthL c = some v) : 0 ≤ v ∧ v < 64 ∧ b64 v = c := by
  unfold worthL at h
  repeat' split at h
  all_goals first | cases h | skip
  all_goals
    unfold b64
    repeat' split
    all_goals omega
/-- digits -/
def dg (i : Int) : Int := if i < 10 then 48 + i else 87 + i
def hexL (l : List Int) : List Int := l.flatMap fun b => [dg (b / 16), dg (b % 16)]
/-- what a digit is worth -/
def dv (c : Int) : Int := if 48 ≤ c ∧ c ≤ 57 then c - 48 else if 97 ≤ c ∧ c ≤ 102 then c - 87 else if 65 ≤ c ∧ c ≤ 70 then c - 55 else -1
def unhexL : List Int → Option (List Int)
  | [] => some []
  | [_] => none
  | a :: b :: r => if dv a < 0 ∨ dv b < 0 then none else (unhexL r).map fun l => (16 * dv a + dv b) :: l
end Code
end Go.Proofs.YtckfglcihelofaaDoor
/- strings.Builder's writers at this seat: the dump's copyCheck bears no panic (the loader refuses it), so the shelf's contracts do not lie at it; the walks are made anew, over the library's own words for a builder. -/
namespace Go.Proofs.YtckfglcihelofaaDoor
set_option linter.unusedSimpArgs false
set_option linter.unusedVariables false
namespace Bld
open Go.RowKit
theorem sizeB : (Tryd.prog.info? 52).map (·.size) = some 2 := by kernel_rfl
theorem liesB : liesAt Tryd.prog Tryd.prog.depth 52 (2 / Tryd.prog.cellsOf 52) 0 52 1 = true := by kernel_rfl
theorem infoByte : (Tryd.prog.info? 5).map (fun i => (i.zero, i.size, i.bytes)) = some (some (.int .u8 0), 1, 1) := by kernel_rfl
set_option maxHeartbeats 1000000 in
set_option maxRecDepth 100000 in
theorem copyCheck_used (b : Nat) (w : World) (h0 : w.cell? ⟨b, 0, none⟩ = some (.pointer (some ⟨b, 0, none⟩))) :
    Calls Tryd.prog 66 #[.pointer (some ⟨b, 0, none⟩)] w fun e w' => e = .returned (.tuple #[]) ∧ w' = w := by
  obtain ⟨j, hj, _⟩ := Option.map_eq_some_iff.1 sizeB
  go_enter Tryd.func66, Tryd.ntmps66
  go_wp2
  rw [Lib.run_neq_ptr_same w _ Tryd.underlying50 hj]
  go_wp2
  go_end0
  exact ⟨rfl, rfl⟩
set_option maxHeartbeats 1000000 in
set_option maxRecDepth 100000 in
theorem copyCheck_fresh (b : Nat) (w : World) (h0 : w.cell? ⟨b, 0, none⟩ = some (.pointer none)) (hsh : w.shape? b = some (52, 2)) (hfz : w.frozen? ⟨b, 0, none⟩ = false) :
    Calls Tryd.prog 66 #[.pointer (some ⟨b, 0, none⟩)] w fun e w' => e = .returned (.tuple #[]) ∧ w' = w.setCell ⟨b, 0, none⟩ (.pointer (some ⟨b, 0, none⟩)) := by
  obtain ⟨j, hj, hjs⟩ := Option.map_eq_some_iff.1 sizeB
  go_enter Tryd.func66, Tryd.ntmps66
  go_wp2
  rw [Lib.run_to_unsafe w ⟨b, 0, none⟩ Tryd.underlying50 Tryd.underlying96 hj (by rw [hjs]; decide) hsh (Nat.zero_lt_succ 1)]
  simp only [Result.andThen]
  rw [Oper.upon_value]
  go_wp2
  rw [run_callFunc_extern Tryd.func85 (by kernel_rfl) (by kernel_rfl) (by kernel_rfl) (e := Extern.AbiNoEscape.same) (by kernel_rfl)]
  rw [Lib.run_noEscape]
  simp only [Result.andThen]
  rw [Oper.upon_value]
  go_wp2
  rw [Lib.run_from_unsafe w ⟨b, 0, none⟩ Tryd.underlying96 Tryd.underlying50 hj hsh liesB]
  simp only [Result.andThen]
  rw [Oper.upon_value]
  go_wp2
  go_end0
  exact ⟨rfl, rfl⟩
theorem copyCheck_k (B b : Nat) (bs : List Value) (w : World) (h : Lib.IsBuilderF 52 5 B b bs w) :
    Calls Tryd.prog 66 #[.pointer (some ⟨b, 0, none⟩)] w fun e w' => e = .returned (.tuple #[]) ∧ (Lib.BuilderAtF 52 5 B b (.pointer (some ⟨b, 0, none⟩)) bs w' ∧ Below B w w' ∧ Lib.OthersKept 5 (some b) w w') := by
  rcases h with h | h
  · refine (copyCheck_fresh b w h.cell0 h.shape h.frozen0).mono ?_
    rintro e w' ⟨rfl, rfl⟩
    exact ⟨rfl, h.used _, (Below.refl B w).setCell (p := ⟨b, 0, none⟩) h.1 _, (Lib.OthersKept.refl _ _ w).setCell ⟨b, 0, none⟩ rfl _⟩
  · refine (copyCheck_used b w h.cell0).mono ?_
    rintro e w' ⟨rfl, rfl⟩
    exact ⟨rfl, h, Below.refl B _, Lib.OthersKept.refl _ _ _⟩
set_option maxHeartbeats 4000000 in
set_option maxRecDepth 100000 in
theorem WriteByte_k (B b : Nat) (bs : List Value) (c : Int) (w : World) (h : Lib.IsBuilderF 52 5 B b bs w) (hlen : bs.length + 1 ≤ 140737488355328) (hBw : B ≤ w.heap.size) :
    Calls Tryd.prog 60 #[.pointer (some ⟨b, 0, none⟩), .int .u8 c] w fun e w' => e = .returned .nilIface ∧ (Lib.BuilderAtF 52 5 B b (.pointer (some ⟨b, 0, none⟩)) (bs ++ [.int .u8 c]) w' ∧ Below B w w' ∧ Lib.OthersKept 5 (some b) w w') := by
  obtain ⟨i0, hi, hz0, hz1, hz2⟩ := info_parts infoByte
  go_enter Tryd.func60, Tryd.ntmps60
  go_wp2_with (go_at_call 66; refine (copyCheck_k B b bs _ h).mono ?_)
  rintro e w1 ⟨rfl, h1, hb1, hk1⟩
  obtain ⟨hB, v, hbk, hown, hne⟩ := h1
  have c0 : w1.cell? ⟨b, 0, none⟩ = some (.pointer (some ⟨b, 0, none⟩)) := by rw [Lib.cell_of_heap hbk]; rfl
  have c1 : w1.cell? ⟨b, 1, none⟩ = some v := by rw [Lib.cell_of_heap hbk]; rfl
  go_wp2_with (at_builtin; refine wpList_append_ownF _ rfl _ _ 29 rfl B 5 i0 (.int .u8 0) 1 1 Tryd.underlying29 hi hz0 hz1 hz2 rfl (by decide) _ _ _ rfl (hown.alloc _) ⟨w1.heap.size, 0, none⟩ 1 1 [.int .u8 c] rfl rfl (cell_one_new _ _ _) (by intro u hu; simp at hu; subst hu; rfl) (by unfold maxLen; omega) (by omega) (by have := hb1.size; simp; omega) ?_)
  intro v' w2 hown' hgrow _
  have hlt : b < w1.heap.size := (Array.getElem?_eq_some_iff.1 hbk).1
  have hb2 : w2.heap[b]? = some (.cells #[.pointer (some ⟨b, 0, none⟩), v] 52 (0, 0)) := by
    rw [hgrow.block b (by simp; omega) (fun e => hne e.symm), Lib.alloc_old w1 _ b hlt]
    exact hbk
  have d0 : w2.cell? ⟨b, 0, none⟩ = some (.pointer (some ⟨b, 0, none⟩)) := by rw [Lib.cell_of_heap hb2]; rfl
  have d1 : w2.cell? ⟨b, 1, none⟩ = some v := by rw [Lib.cell_of_heap hb2]; rfl
  have f1 : w2.frozen? ⟨b, 1, none⟩ = false := Lib.frozen_of_heap hb2 1
  obtain ⟨g, cap, rfl⟩ : ∃ g cap, v' = .slice (some ⟨g, 0, none⟩) (bs.length + 1) cap := by
    rcases hown'.2 with ⟨_, h0⟩ | ⟨g, cap, cur, fz, hv, _⟩
    · omega
    · exact ⟨g, cap, hv⟩
  go_wp2
  go_ret
  refine ⟨rfl, ?_, ?_, ((hk1.alloc _).grown hgrow (Lib.ownsRowF_kind (hown.alloc _))).setCell ⟨b, 1, none⟩ rfl _⟩
  · exact Lib.BuilderAtF.put (T := 52) (e := 5) hB hb2 (bs' := bs ++ [.int .u8 c]) (by simpa using hown') (by decide)
  · exact ((hb1.alloc (by have := hb1.size; omega) _).grown hgrow (by have := hb1.size; simp; omega) (fun k hk => (hown.lt k hk).1)).setCell (p := ⟨b, 1, none⟩) hB _
set_option maxHeartbeats 4000000 in
set_option maxRecDepth 100000 in
theorem WriteString_k (B b : Nat) (bs : List Value) (s : ByteArray) (w : World) (h : Lib.IsBuilderF 52 5 B b bs w) (hlen : bs.length + s.size ≤ 140737488355328) (hBw : B ≤ w.heap.size) :
    Calls Tryd.prog 52 #[.pointer (some ⟨b, 0, none⟩), .string s] w fun e w' => e = .returned (.tuple #[.int .i64 s.size, .nilIface]) ∧ (Lib.BuilderAtF 52 5 B b (.pointer (some ⟨b, 0, none⟩)) (bs ++ Lib.strCells s) w' ∧ Below B w w' ∧ Lib.OthersKept 5 (some b) w w') := by
  obtain ⟨i0, hi, hz0, hz1, hz2⟩ := info_parts infoByte
  go_enter Tryd.func52, Tryd.ntmps52
  go_wp2_with (go_at_call 66; refine (copyCheck_k B b bs _ h).mono ?_)
  rintro e w1 ⟨rfl, h1, hb1, hk1⟩
  obtain ⟨hB, v, hbk, hown, hne⟩ := h1
  have c0 : w1.cell? ⟨b, 0, none⟩ = some (.pointer (some ⟨b, 0, none⟩)) := by rw [Lib.cell_of_heap hbk]; rfl
  have c1 : w1.cell? ⟨b, 1, none⟩ = some v := by rw [Lib.cell_of_heap hbk]; rfl
  go_wp2_with (at_builtin; refine Lib.wpList_append_own_stringF _ rfl _ _ 29 9 rfl B 5 i0 Tryd.underlying29 Tryd.underlying9 hi hz0 hz1 hz2 _ _ _ rfl hown s rfl (by unfold maxLen; omega) (by omega) (by have := hb1.size; omega) ?_)
  intro v' w2 hown' hgrow _
  have hlt : b < w1.heap.size := (Array.getElem?_eq_some_iff.1 hbk).1
  have hb2 : w2.heap[b]? = some (.cells #[.pointer (some ⟨b, 0, none⟩), v] 52 (0, 0)) := by
    rw [hgrow.block b hlt (fun e => hne e.symm)]
    exact hbk
  have d0 : w2.cell? ⟨b, 0, none⟩ = some (.pointer (some ⟨b, 0, none⟩)) := by rw [Lib.cell_of_heap hb2]; rfl
  have d1 : w2.cell? ⟨b, 1, none⟩ = some v := by rw [Lib.cell_of_heap hb2]; rfl
  have f1 : w2.frozen? ⟨b, 1, none⟩ = false := Lib.frozen_of_heap hb2 1
  obtain ⟨ao, n', cap, rfl⟩ : ∃ ao n' cap, v' = .slice ao n' cap := by
    rcases hown'.2 with ⟨hv, _⟩ | ⟨g, cap, cur, fz, hv, _⟩
    · exact ⟨_, _, _, hv⟩
    · exact ⟨_, _, _, hv⟩
  go_wp2
  go_ret2
  refine ⟨rfl, ?_, ?_, (hk1.grown hgrow (Lib.ownsRowF_kind hown)).setCell ⟨b, 1, none⟩ rfl _⟩
  · exact Lib.BuilderAtF.put (T := 52) (e := 5) hB hb2 (bs' := bs ++ Lib.strCells s) (by simpa [Lib.strCells_length] using hown') (by decide)
  · exact (hb1.grown hgrow (by have := hb1.size; omega) (fun k hk => (hown.lt k hk).1)).setCell (p := ⟨b, 1, none⟩) hB _
end Bld
end Go.Proofs.YtckfglcihelofaaDoor
/- A third law for 'for x := range f { .. }' of this repo's own: an iterator that keeps no state in cells (its captured variables are only read): it turns no block that lay; the loop's side keeps what the iterator reads (W0), and the loop's own two blocks. -/
namespace Go.Proofs.YtckfglcihelofaaDoor
set_option linter.unusedSimpArgs false
set_option linter.unusedVariables false
open Go.RowKit

/-- The contract of an iterator without a state in cells that goes through xs; W0: what it reads. -/
def IterE {α : Type} (F : Fence) (n : Nat) (P : Program) (g : Nat) (lb : Array Value) (encs : α → Array Value) (xs : List α) (W0 : World → Prop) : Prop :=
  ∀ (l : Nat) (J Jx : Nat → World → Prop) (W : World), (∀ k A, J k A → W0 A) →
    (∀ k A B, J k A → Below A.heap.size A B → J k B) → (∀ k A B, Jx k A → Below A.heap.size A B → Jx k B) →
    (∀ k x A, xs[k]? = some x → J k A → YieldAt F (n - 1) P l (encs x) A fun e B =>
      (e = .returned (.bool true) ∧ J (k + 1) B) ∨ (e = .returned (.bool false) ∧ Jx (k + 1) B)) →
    J 0 W →
    CallsIn F n P g (#[.func (.yield l) #[] #[]] ++ lb) W fun e B => (∃ v, e = .returned v) ∧ (J xs.length B ∨ ∃ k, k ≤ xs.length ∧ Jx k B)

/-- The loop's own two blocks stand. -/
structure LK (z : Nat) (A B : World) : Prop where
  size : A.heap.size ≤ B.heap.size
  z0 : B.heap[z]? = A.heap[z]?
  z1 : B.heap[z + 1]? = A.heap[z + 1]?
theorem LK.refl (z : Nat) (A : World) : LK z A A := ⟨Nat.le_refl _, rfl, rfl⟩
theorem LK.trans {z : Nat} {A B C : World} (h : LK z A B) (k : LK z B C) : LK z A C := ⟨Nat.le_trans h.size k.size, k.z0.trans h.z0, k.z1.trans h.z1⟩
theorem LK.of_chg {z : Nat} {S : Nat → Prop} {A B : World} (h : Chg S A B) (hz : z + 2 ≤ A.heap.size) (hs : ∀ j, S j → ¬ LZ z j) : LK z A B :=
  ⟨h.size, h.block _ (by omega) (fun q => hs _ q (.inl rfl)), h.block _ (by omega) (fun q => hs _ q (.inr rfl))⟩
theorem LK.of_below {z : Nat} {A B : World} (h : Below A.heap.size A B) (hz : z + 2 ≤ A.heap.size) : LK z A B := LK.of_chg (S := fun _ => False) (Chg.of_below h) hz (fun _ h => h.elim)
/-- How a round's body may be left. -/
def itPostE (I : Nat → World → Prop) (Ix : Code → Nat → World → Prop) (z : Nat) (k : Nat) (A : World) : Exit → Act → World → Prop
  | .normal, _, B => LK z A B ∧ I k B
  | .ret, _, B => LK z A B ∧ Ix .ret k B
  | .exit id, _, B => LK z A B ∧ Ix (.exit id) k B
  | .goto t, _, B => LK z A B ∧ Ix (.goto t) k B
  | .panic _, _, _ => False
  | .outgrown, _, _ => False

variable {F : Fence} {n : Nat} {P : Program}

theorem wpIn_range_itE {α : Type} {g : Operand} {ps : Array Tmp} {assign body : Code} {Q : Exit → Act → World → Prop} {a : Act} {w : World}
    (hro : F.round = none) (h1 : 1 ≤ n) {gf : Nat} {lb : Array Value} (hg : a.eval g = .func (.func gf) #[] lb) (hFg : F.fn gf) (eg : ∀ args w, (callFunc gf args).run P w = .ok (.enter gf args) w)
    {encs : α → Array Value} {xs : List α} {W0 : World → Prop} (hit : IterE F (n - 1) P gf lb encs xs W0) (hps : ∀ x, (encs x).size = ps.size)
    (I : Nat → World → Prop) (Ix : Code → Nat → World → Prop) (hW0 : ∀ k A, I k A → W0 A)
    (hI : ∀ k A B, I k A → w.heap.size + 2 ≤ B.heap.size → Chg (LZ w.heap.size) A B → I k B) (hIx : ∀ c k A B, Ix c k A → Chg (LZ w.heap.size) A B → Ix c k B) (h0 : I 0 w)
    (Ax : α → Act → World → Prop) (hAx : ∀ x a' A B, Ax x a' A → Chg (LZ w.heap.size) A B → Ax x a' B)
    (hassign : ∀ (l k : Nat) (x : α) (A : World) (K : Act → World → Prop), xs[k]? = some x → I k A → w.heap.size + 2 ≤ A.heap.size →
      (∀ a' B, LK w.heap.size A B → I k B → Ax x a' B → K a' B) →
      assign.wpIn (F.inRound l) (n - 1 - 1) P (Exit.then K (fun _ _ _ => False)) { tmps := (ps.zip (encs x)).foldl (fun t (p, v) => t.setIfInBounds p v) a.tmps, defers := [] } A)
    (hbody : ∀ (k : Nat) (x : α) (a' : Act) (A : World), (∃ r, A.heap[w.heap.size + 1]? = some (.loop r)) → A.heap[w.heap.size]? = some (.deferred (some [])) → xs[k]? = some x → I k A → w.heap.size + 2 ≤ A.heap.size → Ax x a' A →
      body.wpIn (F.inRound (w.heap.size + 1)) (n - 1 - 1) P (itPostE I Ix w.heap.size (k + 1) A) a' A)
    (hdone : ∀ (B : World), I xs.length B → w.heap.size + 2 ≤ B.heap.size → B.heap[w.heap.size]? = some (.deferred (some [])) → Q .normal { a with defers := { target := .collected w.heap.size, args := #[] } :: a.defers } B)
    (hstop : ∀ (c : Code) (k : Nat) (B : World), k ≤ xs.length → Ix c k B → w.heap.size + 2 ≤ B.heap.size → B.heap[w.heap.size]? = some (.deferred (some [])) → c.wpIn F n P Q { a with defers := { target := .collected w.heap.size, args := #[] } :: a.defers } B) :
    (Code.rangeFunc g ps assign body).wpIn F n P Q a w := by
  refine wpIn_rangeFunc ?_
  intro fn hfn
  rw [hro]
  obtain ⟨rec, hrec⟩ : ∃ rec : LoopState → Option Code → Loop, rec = fun st pe => { state := st, pending := pe, fn, tmps := a.tmps, params := ps, assign, body, defers := w.heap.size } := ⟨_, rfl⟩
  obtain ⟨W1, hW1⟩ : ∃ W1, (w.alloc (.deferred (some []))).alloc (.loop (rec .ready none)) = W1 := ⟨_, rfl⟩
  have hs1 : W1.heap.size = w.heap.size + 2 := by rw [← hW1]; simp
  have hL1 : W1.heap[w.heap.size + 1]? = some (.loop (rec .ready none)) := by
    rw [← hW1]; have := World.alloc_heap_new (w.alloc (.deferred (some []))) (.loop (rec .ready none)); rwa [World.size_alloc] at this
  have hK1 : W1.heap[w.heap.size]? = some (.deferred (some [])) := by
    rw [← hW1]; exact (Below.heap_alloc _ _ _ (by simp)).trans (World.alloc_heap_new w _)
  have hC1 : ∀ S, Chg S w W1 := fun S => by rw [← hW1]; exact ((Chg.refl S w).alloc _).alloc _
  obtain ⟨z, hz⟩ : ∃ z, w.heap.size = z := ⟨_, rfl⟩
  have hI1 : I 0 W1 := hI _ _ _ h0 (by omega) (hC1 _)
  have hbl : ∀ {A B : World}, Below A.heap.size A B → Chg (LZ z) A B := fun h => Chg.of_below h
  refine ⟨w.heap.size + 1, [{ target := .collected w.heap.size, args := #[] }], W1, { target := .fn (.func gf) lb, args := #[.func (.yield (w.heap.size + 1)) #[] #[]] }, W1, gf,
    #[.func (.yield (w.heap.size + 1)) #[] #[]] ++ lb, W1, ?_, ?_, ?_, ?_, fun _ => h1, ?_⟩
  · rw [← hW1, hrec]; exact run_enterLoop_outer _ _ _ _ _
  · simp only [resolve, hg]
    simp [go_sem]
  · intro f' hf'; simp [Target.leads] at hf'; subst hf'; exact hFg
  · simp [invoke, go_sem, eg]
  · simp only [hz] at *
    refine (hit (z + 1)
      (fun k W => z + 2 ≤ W.heap.size ∧ I k W ∧ W.heap[z + 1]? = some (.loop (rec .ready none)) ∧ W.heap[z]? = some (.deferred (some [])))
      (fun k W => z + 2 ≤ W.heap.size ∧ ∃ c, Ix c k W ∧ W.heap[z + 1]? = some (.loop (rec .done (some c))) ∧ W.heap[z]? = some (.deferred (some [])))
      W1 (fun k A h => hW0 k A h.2.1)
      (fun k A B hs hc => by
        obtain ⟨hsz, hi, hl, hk⟩ := hs
        exact ⟨Nat.le_trans hsz hc.size, hI k A B hi (Nat.le_trans hsz hc.size) (hbl hc), (Chg.of_below (S := fun _ => False) hc).heap hl (fun h => h), (Chg.of_below (S := fun _ => False) hc).heap hk (fun h => h)⟩)
      (fun k A B hs hc => by
        obtain ⟨hsz, c, hx, hl, hk⟩ := hs
        exact ⟨Nat.le_trans hsz hc.size, c, hIx c k A B hx (hbl hc), (Chg.of_below (S := fun _ => False) hc).heap hl (fun h => h), (Chg.of_below (S := fun _ => False) hc).heap hk (fun h => h)⟩)
      ?_ ⟨by omega, hI1, hL1, hK1⟩).mono ?_
    · rintro k x W hx ⟨hsz, hi, hl, hk⟩
      have hy := run_yield (P := P) (args := encs x) hl (by rw [hrec]; exact hps x)
      rw [hrec] at hy
      refine ⟨fn, _, assign, body, hy, roundIn_of_wpIn hfn (hassign _ k x W _ hx hi hsz ?_)⟩
      clear hy
      intro a' Wa hca hia hax
      have hl' := hca.z1.trans hl
      have hk' := hca.z0.trans hk
      have hlt : z + 1 < Wa.heap.size := (Array.getElem?_eq_some_iff.1 hl').1
      refine ⟨_, run_beginRound hl' (by rw [hrec]), ?_⟩
      obtain ⟨W2, hW2⟩ : ∃ W2, Wa.putObj (z + 1) (.loop { rec .ready none with state := .busy }) = W2 := ⟨_, rfl⟩
      have hl2 : W2.heap[z + 1]? = some (.loop { rec .ready none with state := .busy }) := by rw [← hW2]; exact World.putObj_heap_same hlt
      have hk2 : W2.heap[z]? = some (.deferred (some [])) := by rw [← hW2]; exact (World.putObj_heap_other (by omega)).trans hk'
      have hc2 : Chg (LZ z) Wa W2 := by rw [← hW2]; exact (Chg.refl _ _).putObj (.inr rfl) _
      have hs2 : Wa.heap.size = W2.heap.size := by rw [← hW2]; simp
      have hsa := hca.size
      rw [hW2]
      refine wpIn_mono (hbody k x a' _ ⟨_, hl2⟩ hk2 hx (hI _ _ _ hia (by omega) hc2) (by omega) (hAx x a' _ _ hax hc2)) ?_
      have fin : ∀ (jump : Option Code) (W3 : World), LK z W2 W3 →
          (Instr.endRound (z + 1) jump).run P W3 = .ok (.bool jump.isNone) (W3.putObj (z + 1) (.loop (rec (if jump.isNone then .ready else .done) jump))) ∧
          (W3.putObj (z + 1) (.loop (rec (if jump.isNone then .ready else .done) jump))).heap[z + 1]? = some (.loop (rec (if jump.isNone then .ready else .done) jump)) ∧
          (W3.putObj (z + 1) (.loop (rec (if jump.isNone then .ready else .done) jump))).heap[z]? = some (.deferred (some [])) ∧
          Chg (LZ z) W3 (W3.putObj (z + 1) (.loop (rec (if jump.isNone then .ready else .done) jump))) ∧ z + 2 ≤ (W3.putObj (z + 1) (.loop (rec (if jump.isNone then .ready else .done) jump))).heap.size := fun jump W3 hk3 => by
        have hl3 := hk3.z1.trans hl2
        have := run_endRound (P := P) jump hl3
        rw [hrec] at this ⊢
        have hs3 := hk3.size
        have hps : ∀ (o : Obj), (W3.putObj (z + 1) o).heap.size = W3.heap.size := fun o => by simp
        have cz : ∀ (o : Obj), Chg (LZ z) W3 (W3.putObj (z + 1) o) := fun o => (Chg.refl _ _).putObj (.inr rfl) _
        exact ⟨this, World.putObj_heap_same (Array.getElem?_eq_some_iff.1 hl3).1, (World.putObj_heap_other (by omega)).trans (hk3.z0.trans hk2), cz _, by rw [hps]; omega⟩
      rintro e a3 W3 hp
      cases e with
      | normal =>
        obtain ⟨hk3, hi3⟩ := hp
        obtain ⟨hr, hl4, hk4, hc4, hs4⟩ := fin none W3 hk3
        exact ⟨_, _, hr, .inl ⟨rfl, hs4, hI _ _ _ hi3 hs4 hc4, hl4, hk4⟩⟩
      | ret =>
        obtain ⟨hk3, hi3⟩ := hp
        obtain ⟨hr, hl4, hk4, hc4, hs4⟩ := fin (some .ret) W3 hk3
        exact ⟨_, _, hr, .inr ⟨rfl, hs4, .ret, hIx _ _ _ _ hi3 hc4, hl4, hk4⟩⟩
      | exit id =>
        obtain ⟨hk3, hi3⟩ := hp
        obtain ⟨hr, hl4, hk4, hc4, hs4⟩ := fin (some (.exit id)) W3 hk3
        exact ⟨_, _, hr, .inr ⟨rfl, hs4, .exit id, hIx _ _ _ _ hi3 hc4, hl4, hk4⟩⟩
      | goto t =>
        obtain ⟨hk3, hi3⟩ := hp
        obtain ⟨hr, hl4, hk4, hc4, hs4⟩ := fin (some (.goto t)) W3 hk3
        exact ⟨_, _, hr, .inr ⟨rfl, hs4, .goto t, hIx _ _ _ _ hi3 hc4, hl4, hk4⟩⟩
      | panic ch => exact hp.elim
      | outgrown => exact hp.elim
    · rintro e W2 ⟨⟨v, rfl⟩, (⟨hsz, hi, hl, hk⟩ | ⟨k, hkle, hsz, c, hi, hl, hk⟩)⟩
      · have cz : ∀ o, Chg (LZ z) W2 (W2.putObj (z + 1) o) := fun o => (Chg.refl _ _).putObj (.inr rfl) _
        have hps : ∀ (o : Obj), (W2.putObj (z + 1) o).heap.size = W2.heap.size := fun o => by simp
        exact ⟨none, _, by have := run_endLoop (P := P) hl (by rw [hrec]; simp); rw [hrec] at this; exact this,
          hdone _ (hI _ _ _ hi (by rw [hps]; exact hsz) (cz _)) (by rw [hps]; exact hsz) ((World.putObj_heap_other (by omega)).trans hk)⟩
      · have cz : ∀ o, Chg (LZ z) W2 (W2.putObj (z + 1) o) := fun o => (Chg.refl _ _).putObj (.inr rfl) _
        have hps : ∀ (o : Obj), (W2.putObj (z + 1) o).heap.size = W2.heap.size := fun o => by simp
        exact ⟨some c, _, by have := run_endLoop (P := P) hl (by rw [hrec]; simp); rw [hrec] at this; exact this,
          hstop c k _ hkle (hIx _ _ _ _ hi (cz _)) (by rw [hps]; exact hsz) ((World.putObj_heap_other (by omega)).trans hk)⟩

/-- The same where the assignment to the loop's left sides lays nothing. -/
theorem wpIn_range_itE1 {α : Type} {g : Operand} {ps : Array Tmp} {assign body : Code} {Q : Exit → Act → World → Prop} {a : Act} {w : World}
    (hro : F.round = none) (h1 : 1 ≤ n) {gf : Nat} {lb : Array Value} (hg : a.eval g = .func (.func gf) #[] lb) (hFg : F.fn gf) (eg : ∀ args w, (callFunc gf args).run P w = .ok (.enter gf args) w)
    {encs : α → Array Value} {xs : List α} {W0 : World → Prop} (hit : IterE F (n - 1) P gf lb encs xs W0) (hps : ∀ x, (encs x).size = ps.size)
    (I : Nat → World → Prop) (Ix : Code → Nat → World → Prop) (hW0 : ∀ k A, I k A → W0 A)
    (hI : ∀ k A B, I k A → w.heap.size + 2 ≤ B.heap.size → Chg (LZ w.heap.size) A B → I k B) (hIx : ∀ c k A B, Ix c k A → Chg (LZ w.heap.size) A B → Ix c k B) (h0 : I 0 w) (a₁ : α → Act)
    (hassign : ∀ (l : Nat) (x : α) (A : World) (K : Act → World → Prop), K (a₁ x) A →
      assign.wpIn (F.inRound l) (n - 1 - 1) P (Exit.then K (fun _ _ _ => False)) { tmps := (ps.zip (encs x)).foldl (fun t (p, v) => t.setIfInBounds p v) a.tmps, defers := [] } A)
    (hbody : ∀ (k : Nat) (x : α) (A : World), (∃ r, A.heap[w.heap.size + 1]? = some (.loop r)) → A.heap[w.heap.size]? = some (.deferred (some [])) → xs[k]? = some x → I k A → w.heap.size + 2 ≤ A.heap.size →
      body.wpIn (F.inRound (w.heap.size + 1)) (n - 1 - 1) P (itPostE I Ix w.heap.size (k + 1) A) (a₁ x) A)
    (hdone : ∀ (B : World), I xs.length B → w.heap.size + 2 ≤ B.heap.size → B.heap[w.heap.size]? = some (.deferred (some [])) → Q .normal { a with defers := { target := .collected w.heap.size, args := #[] } :: a.defers } B)
    (hstop : ∀ (c : Code) (k : Nat) (B : World), k ≤ xs.length → Ix c k B → w.heap.size + 2 ≤ B.heap.size → B.heap[w.heap.size]? = some (.deferred (some [])) → c.wpIn F n P Q { a with defers := { target := .collected w.heap.size, args := #[] } :: a.defers } B) :
    (Code.rangeFunc g ps assign body).wpIn F n P Q a w :=
  wpIn_range_itE hro h1 hg hFg eg hit hps I Ix hW0 hI hIx h0 (fun x a' _ => a' = a₁ x) (fun _ _ _ _ h _ => h)
    (fun l k x A K _ hi _ hK => hassign l x A K (hK _ _ (LK.refl _ _) hi rfl)) (fun k x a' A hr hk hx hi hs ha => by subst ha; exact hbody k x A hr hk hx hi hs) hdone hstop
end Go.Proofs.YtckfglcihelofaaDoor
/- base64 plainly, second part: pieces. No program in sight. -/
namespace Go.Proofs.YtckfglcihelofaaDoor
set_option linter.unusedSimpArgs false
set_option linter.unusedVariables false
namespace Code
open Go.RowKit Go.Proofs.YtckfglcihelofaaDoorW.PrintWords Go.Proofs.YtckfglcihelofaaDoor.PureB
theorem bl_extract (s : ByteArray) (a b : Nat) : bl (s.extract a b) = ((bl s).take b).drop a := by
  unfold bl
  rw [← List.map_take, ← List.map_drop]
  congr 1
  rw [ByteArray.data_extract, Array.toList_extract, List.extract_eq_take_drop, List.drop_take]
theorem bl_append (s t : ByteArray) : bl (s ++ t) = bl s ++ bl t := by
  unfold bl
  rw [← List.map_append]
  congr 1
theorem baseL_append : ∀ (l m : List Int), l.length % 3 = 0 → baseL (l ++ m) = baseL l ++ baseL m
  | [], m, _ => rfl
  | [a], _, h => by simp at h
  | [a, b], _, h => by simp at h
  | a :: b :: c :: r, m, h => by
    simp only [List.cons_append, baseL]
    rw [baseL_append r m (by simp only [List.length_cons] at h; omega)]
    simp
theorem baseL_len : ∀ (l : List Int), (baseL l).length = 4 * ((l.length + 2) / 3)
  | [] => rfl
  | [a] => by simp [baseL]
  | [a, b] => by simp [baseL]
  | a :: b :: c :: r => by
    simp only [baseL, List.length_append, List.length_cons, List.length_nil, baseL_len r]
    omega
theorem baseL_byte : ∀ (l : List Int), (∀ x ∈ l, 0 ≤ x ∧ x < 256) → ∀ y ∈ baseL l, 0 ≤ y ∧ y < 256
  | [], _ => by intro y hy; simp [baseL] at hy
  | [a], h => by
    have ha := h a (by simp)
    have b1 := b64_byte (a / 4) (by omega) (by omega)
    have b2 := b64_byte (a % 4 * 16) (by omega) (by omega)
    intro y hy
    simp [baseL] at hy
    rcases hy with rfl | rfl | rfl <;> omega
  | [a, b], h => by
    have ha := h a (by simp)
    have hb := h b (by simp)
    have b1 := b64_byte (a / 4) (by omega) (by omega)
    have b2 := b64_byte (a % 4 * 16 + b / 16) (by omega) (by omega)
    have b3 := b64_byte (b % 16 * 4) (by omega) (by omega)
    intro y hy
    simp [baseL] at hy
    rcases hy with rfl | rfl | rfl | rfl <;> omega
  | a :: b :: c :: r, h => by
    have ha := h a (by simp)
    have hb := h b (by simp)
    have hc := h c (by simp)
    have b1 := b64_byte (a / 4) (by omega) (by omega)
    have b2 := b64_byte (a % 4 * 16 + b / 16) (by omega) (by omega)
    have b3 := b64_byte (b % 16 * 4 + c / 64) (by omega) (by omega)
    have b4 := b64_byte (c % 64) (by omega) (by omega)
    intro y hy
    simp only [baseL, List.mem_append, List.mem_cons, List.not_mem_nil, or_false] at hy
    rcases hy with (rfl | rfl | rfl | rfl) | hy
    all_goals first | omega | skip
    exact baseL_byte r (fun x hx => h x (by simp [hx])) y hy
theorem bl_piece (s : ByteArray) (n k : Nat) : bl (s.extract (k * n) (min (k * n + n) s.size)) = ((bl s).drop (k * n)).take n := by
  rw [bl_extract, List.drop_take]
  have : (bl s).length = s.size := bl_len s
  rw [List.take_eq_take_iff]
  simp only [List.length_drop, this]
  omega
theorem take_piece (l : List Int) (n k : Nat) : l.take ((k + 1) * n) = l.take (k * n) ++ (l.drop (k * n)).take n := by
  rw [show (k + 1) * n = k * n + n by rw [Nat.add_mul, Nat.one_mul], List.take_add]
theorem baseL_step (l : List Int) (k : Nat) (h : k * 3 < l.length) : baseL (l.take ((k + 1) * 3)) = baseL (l.take (k * 3)) ++ baseL ((l.drop (k * 3)).take 3) := by
  rw [take_piece, baseL_append _ _ (by rw [List.length_take]; omega)]
/-- a piece's size -/
theorem piece_size (s : ByteArray) (n k : Nat) : (s.extract (k * n) (min (k * n + n) s.size)).size = min n (s.size - k * n) := by
  rw [ByteArray.size_extract]; omega
end Code
end Go.Proofs.YtckfglcihelofaaDoor
/- A builder beside a loop over an iterator that keeps no state in cells. -/
namespace Go.Proofs.YtckfglcihelofaaDoor
set_option linter.unusedSimpArgs false
set_option linter.unusedVariables false
open Go.RowKit
theorem ag_old {w : World} {o x : Obj} {k : Nat} (h : w.heap[k]? = some x) : (w.alloc o).heap[k]? = some x := (Below.heap_alloc _ _ _ (Array.getElem?_eq_some_iff.1 h).1).trans h
theorem ag_new (w : World) (o : Obj) (k : Nat) (h : k = w.heap.size) : (w.alloc o).heap[k]? = some o := by subst h; exact World.alloc_heap_new w o
/-- Two results that lie in boxes. -/
theorem results_cell2 {P : Program} {fn : Func} {p q : Tmp} {tp tq : TypeId} (h : fn.results = #[.cell p tp, .cell q tq]) (tmps : Array Value) (w : World) {b c : Addr} {v u : Value}
    (hp : tmps.getD p undef = .pointer (some b)) (hq : tmps.getD q undef = .pointer (some c)) {dp dq : TypeDesc} (tp1 : P.underlying tp = some dp) (tq1 : P.underlying tq = some dq)
    (tp2 : (match dp with | .struct _ | .array _ _ => true | _ => false) = false) (tq2 : (match dq with | .struct _ | .array _ _ => true | _ => false) = false)
    (h1 : w.cell? b = some v) (h2 : w.cell? c = some u) : (results fn tmps).run P w = .ok (.tuple #[v, u]) w := by
  have hp' : tmps[p]?.getD undef = .pointer (some b) := by simpa using hp
  have hq' : tmps[q]?.getD undef = .pointer (some c) := by simpa using hq
  have a1 : (isAgg tp).run P w = .ok false w := by
    unfold isAgg
    rw [Sem.run_bind, run_underlying tp1 w]
    cases dp <;> simp_all
  have a2 : (isAgg tq).run P w = .ok false w := by
    unfold isAgg
    rw [Sem.run_bind, run_underlying tq1 w]
    cases dq <;> simp_all
  have l1 : (load b).run P w = .ok v w := by rw [run_load, h1]
  have l2 : (load c).run P w = .ok u w := by rw [run_load, h2]
  have m1 : (loadVar tp b).run P w = .ok v w := by simp [loadVar, Sem.run_bind, a1, h1]
  have m2 : (loadVar tq c).run P w = .ok u w := by simp [loadVar, Sem.run_bind, a2, h2]
  simp [results, h, hp', hq', asAddr, m1, m2]
namespace Bld
open Go.Proofs.YtckfglcihelofaaDoorW.PrintWords
theorem strCells_bl (s : ByteArray) : Lib.strCells s = nums .u8 (Code.bl s) := by
  unfold Lib.strCells nums Code.bl
  rw [List.map_map]
  rfl
theorem strCells_son (l : List Int) (h : ∀ x ∈ l, 0 ≤ x ∧ x < 256) : Lib.strCells (strOfNums l) = nums .u8 l := by rw [strCells_bl, Code.bl_son l h]
theorem byteCells_nums (xs : List Int) (h : ∀ x ∈ xs, 0 ≤ x ∧ x < 256) : Lib.byteCells (xs.map fun x => x.toNat.toUInt8) = nums .u8 xs := by
  unfold Lib.byteCells nums
  rw [List.map_map]
  apply List.map_congr_left
  intro x hx
  have := h x hx
  simp only [Function.comp, Value.int.injEq, true_and]
  have : x.toNat.toUInt8.toNat = x.toNat := by
    simp [Nat.toUInt8]; omega
  omega
theorem nums_app (k : IntKind) (a b : List Int) : nums k (a ++ b) = nums k a ++ nums k b := by simp [nums]
theorem nums_len (k : IntKind) (a : List Int) : (nums k a).length = a.length := by simp [nums]
/-- The builder's buffer is none of the loop's own blocks. -/
def BOff (b z : Nat) (A : World) : Prop := ∀ p v fz r, A.heap[b]? = some (.cells #[p, v] 52 fz) → v.ownBlock = some r → ¬ LZ z r
theorem BOff.keep {b z : Nat} {A B : World} (h : BOff b z A) (hb : B.heap[b]? = A.heap[b]?) : BOff b z B := fun p v fz r h1 h2 => h p v fz r (hb.symm.trans h1) h2
theorem BOff.fresh {b z : Nat} {A : World} {q : Value} {fz : Nat × Nat} (h : A.heap[b]? = some (.cells #[q, .slice none 0 0] 52 fz)) : BOff b z A := by
  intro p v fz' r h1 h2
  rw [h] at h1
  simp at h1
  obtain ⟨⟨_, rfl⟩, _⟩ := h1
  simp [Value.ownBlock] at h2
theorem BOff.of {B b z : Nat} {bs : List Value} {A : World} (h : Lib.IsBuilderF 52 5 B b bs A) (hz : A.heap[z]? = some (.deferred (some []))) (hl : ∃ r, A.heap[z + 1]? = some (.loop r)) : BOff b z A := by
  have key : ∀ q, Lib.BuilderAtF 52 5 B b q bs A → BOff b z A := by
    rintro q ⟨_, v0, hb, hown, _⟩ p v fz r h1 h2 h3
    rw [hb] at h1
    simp at h1
    obtain ⟨⟨_, rfl⟩, _⟩ := h1
    obtain ⟨c, fz, hc⟩ := Lib.ownsRowF_kind hown r h2
    rcases h3 with rfl | rfl
    · rw [hz] at hc; cases hc
    · obtain ⟨l, hl⟩ := hl
      rw [hl] at hc; cases hc
  exact h.elim (key _) (key _)
theorem ownF_move {w w' : World} {B : Nat} {e : TypeId} {v : Value} {n : Nat} {xs : List Value} (h : w.ownsRowF B e 1 v n xs) (hk : ∀ r, v.ownBlock = some r → w'.heap[r]? = w.heap[r]?) : w'.ownsRowF B e 1 v n xs := by
  refine ⟨h.1, ?_⟩
  rcases h.2 with hn | ⟨g, cap, cur, fz, hv, hbg, hg, rest⟩
  · exact .inl hn
  · exact .inr ⟨g, cap, cur, fz, hv, hbg, (hk g (by rw [hv]; rfl)).trans hg, rest⟩
theorem isB_chg {B b z : Nat} {bs : List Value} {A A' : World} (h : Lib.IsBuilderF 52 5 B b bs A) (ho : BOff b z A) (hb : ¬ LZ z b) (hc : Chg (LZ z) A A') : Lib.IsBuilderF 52 5 B b bs A' := by
  have key : ∀ q, Lib.BuilderAtF 52 5 B b q bs A → Lib.BuilderAtF 52 5 B b q bs A' := by
    rintro q ⟨hB, v, hv, hown, hne⟩
    refine ⟨hB, v, hc.heap hv hb, ownF_move hown (fun r hr => hc.block r ?_ (ho _ _ _ _ hv hr)), hne⟩
    obtain ⟨c, fz, hc⟩ := Lib.ownsRowF_kind hown r hr
    exact (Array.getElem?_eq_some_iff.1 hc).1
  exact h.elim (fun x => .inl (key _ x)) (fun x => .inr (key _ x))
theorem LK_kept {b z : Nat} {A B : World} (hs : A.heap.size ≤ B.heap.size) (hk : Lib.OthersKept 5 (some b) A B) (hb : ¬ LZ z b) (hz : A.heap[z]? = some (.deferred (some []))) (hl : ∃ r, A.heap[z + 1]? = some (.loop r)) : LK z A B := by
  obtain ⟨l, hl⟩ := hl
  refine ⟨hs, (hk z _ hz (fun e => hb (.inl (Option.some.inj e).symm)) (by intro c fz e; cases e)).trans hz.symm, (hk (z + 1) _ hl (fun e => hb (.inr (Option.some.inj e).symm)) (by intro c fz e; cases e)).trans hl.symm⟩
/-- A row of another type stands beside a builder's writer. -/
theorem kept_row {b k : Nat} {A B : World} (hk : Lib.OthersKept 5 (some b) A B) {cs : Array Value} {t : TypeId} {fz : Nat × Nat} (h : A.heap[k]? = some (.cells cs t fz)) (hb : k ≠ b) (ht : t ≠ 5) : B.heap[k]? = some (.cells cs t fz) :=
  hk k _ h (fun e => hb (Option.some.inj e)) (by intro c fz' e; injection e with _ e2; exact ht e2)
end Bld
end Go.Proofs.YtckfglcihelofaaDoor
/- base64 plainly, third part: rough reading. No program in sight. -/
namespace Go.Proofs.YtckfglcihelofaaDoor
set_option linter.unusedSimpArgs false
set_option linter.unusedVariables false
namespace Code
open Go.RowKit Go.Proofs.YtckfglcihelofaaDoorW.PrintWords Go.Proofs.YtckfglcihelofaaDoor.PureB
/-- a piece without the pads at its end -/
def strip (l : List Int) : List Int := (l.reverse.dropWhile (· == 61)).reverse
def vals : List Int → Option (List Int)
  | [] => some []
  | c :: r => match worthL c with
    | none => none
    | some v => (vals r).map (v :: ·)
def nsum (vs : List Int) : Int := vs.foldl (fun n v => n * 64 + v) 0
def bys (x : Int) (m : Nat) : List Int := (List.range m).map fun r => x / 256 ^ (m - 1 - r) % 256
def ungV (vs : List Int) : List Int := bys (nsum vs / 2 ^ (6 * vs.length % 8)) (6 * vs.length / 8)
/-- what a piece tells -/
def ungL (g : List Int) : Option (List Int) := (vals (strip g)).map ungV
theorem strip_bl (l : ByteArray) : bl ⟨(Lib.trimRightB l.data.toList 61).toArray⟩ = strip (bl l) := by
  unfold bl strip Lib.trimRightB
  simp only []
  have key : ∀ l : List UInt8, (l.dropWhile (· == 61)).map (fun b : UInt8 => (b.toNat : Int)) = (l.map (fun b : UInt8 => (b.toNat : Int))).dropWhile (· == 61) := by
    intro l
    induction l with
    | nil => rfl
    | cons a l ih =>
      simp only [List.map_cons, List.dropWhile_cons]
      by_cases h : a = 61
      · subst h; simpa using ih
      · have : ¬ ((a.toNat : Int) == 61) = true := by
          simp only [beq_iff_eq]
          intro e
          apply h
          apply UInt8.toNat_inj.1
          show a.toNat = 61
          omega
        rw [if_neg (by simpa using h), if_neg this]
        rfl
  rw [List.map_reverse, key, List.map_reverse]
theorem strip_len (l : List Int) : (strip l).length ≤ l.length := by
  unfold strip
  rw [List.length_reverse]
  have := (List.dropWhile_suffix (fun x : Int => x == 61) (l := l.reverse)).length_le
  simpa using this
theorem vals_some : ∀ (l vs : List Int), vals l = some vs → vs.length = l.length ∧ ∀ v ∈ vs, 0 ≤ v ∧ v < 64
  | [], vs, h => by
    simp [vals] at h; subst h; simp
  | c :: r, vs, h => by
    unfold vals at h
    cases hc : worthL c with
    | none => rw [hc] at h; cases h
    | some v =>
      rw [hc] at h
      simp only [Option.map_eq_some_iff] at h
      obtain ⟨us, hu, rfl⟩ := h
      obtain ⟨h1, h2⟩ := vals_some r us hu
      obtain ⟨b0, b1, _⟩ := b64_worth c v hc
      refine ⟨by simp [h1], ?_⟩
      intro x hx
      rcases List.mem_cons.1 hx with rfl | hx
      · exact ⟨b0, b1⟩
      · exact h2 x hx
theorem vals_append (l : List Int) (c v : Int) (vs : List Int) (h : vals l = some vs) (hc : worthL c = some v) : vals (l ++ [c]) = some (vs ++ [v]) := by
  induction l generalizing vs with
  | nil => simp [vals] at h ⊢; subst h; simp [hc]
  | cons a l ih =>
    simp only [List.cons_append]
    unfold vals at h ⊢
    cases ha : worthL a with
    | none => rw [ha] at h; cases h
    | some u =>
      rw [ha] at h
      simp only [Option.map_eq_some_iff] at h
      obtain ⟨us, hu, rfl⟩ := h
      simp [ih us hu]
theorem vals_none (l m : List Int) (c : Int) (hc : worthL c = none) : vals (l ++ c :: m) = none := by
  induction l with
  | nil => simp [vals, hc]
  | cons a l ih =>
    simp only [List.cons_append]
    unfold vals
    cases worthL a with
    | none => rfl
    | some u => simp [ih]
theorem nsum_append (vs : List Int) (v : Int) : nsum (vs ++ [v]) = nsum vs * 64 + v := by simp [nsum]
theorem nsum_bound (vs : List Int) (h : ∀ v ∈ vs, 0 ≤ v ∧ v < 64) : 0 ≤ nsum vs ∧ nsum vs < 64 ^ vs.length := by
  have key : ∀ (vs : List Int) (n : Int) (k : Nat), 0 ≤ n → n < 64 ^ k → (∀ v ∈ vs, 0 ≤ v ∧ v < 64) → 0 ≤ vs.foldl (fun n v => n * 64 + v) n ∧ vs.foldl (fun n v => n * 64 + v) n < 64 ^ (k + vs.length) := by
    intro vs
    induction vs with
    | nil => intro n k h0 h1 _; exact ⟨h0, h1⟩
    | cons v vs ih =>
      intro n k h0 h1 h
      have hv := h v (by simp)
      have := ih (n * 64 + v) (k + 1) (by omega) (by rw [Int.pow_succ]; omega) (fun x hx => h x (by simp [hx]))
      simp only [List.foldl_cons, List.length_cons]
      rw [show k + (vs.length + 1) = k + 1 + vs.length by omega]
      exact this
  have := key vs 0 0 (by omega) (by decide) h
  rw [Nat.zero_add] at this
  exact this
theorem bys_len (x : Int) (m : Nat) : (bys x m).length = m := by simp [bys]
theorem bys_byte (x : Int) (m : Nat) : ∀ y ∈ bys x m, 0 ≤ y ∧ y < 256 := by
  intro y hy
  simp only [bys, List.mem_map] at hy
  obtain ⟨r, _, rfl⟩ := hy
  omega
end Code
end Go.Proofs.YtckfglcihelofaaDoor
/- base64 plainly, fourth part: a text's rough reading. No program in sight. -/
namespace Go.Proofs.YtckfglcihelofaaDoor
set_option linter.unusedSimpArgs false
set_option linter.unusedVariables false
namespace Code
open Go.RowKit Go.Proofs.YtckfglcihelofaaDoorW.PrintWords Go.Proofs.YtckfglcihelofaaDoor.PureB
/-- a text's pieces of four, read one by one -/
def rough : List (List Int) → Option (List Int)
  | [] => some []
  | g :: r => match ungL g with
    | none => none
    | some l => (rough r).map (l ++ ·)
theorem rough_append (l : List (List Int)) (acc : List Int) (g x : List Int) (h : rough l = some acc) (hg : ungL g = some x) : rough (l ++ [g]) = some (acc ++ x) := by
  induction l generalizing acc with
  | nil => simp [rough] at h ⊢; subst h; simp [hg]
  | cons a l ih =>
    simp only [List.cons_append]
    unfold rough at h ⊢
    cases ha : ungL a with
    | none => rw [ha] at h; cases h
    | some u =>
      rw [ha] at h
      simp only [Option.map_eq_some_iff] at h
      obtain ⟨us, hu, rfl⟩ := h
      simp [ih us hu]
theorem rough_none (l m : List (List Int)) (g : List Int) (hg : ungL g = none) : rough (l ++ g :: m) = none := by
  induction l with
  | nil => simp [rough, hg]
  | cons a l ih =>
    simp only [List.cons_append]
    unfold rough
    cases ungL a with
    | none => rfl
    | some u => simp [ih]
theorem ungL_bound (g x : List Int) (h : ungL g = some x) (hl : g.length ≤ 4) : x.length ≤ 3 ∧ ∀ y ∈ x, 0 ≤ y ∧ y < 256 := by
  unfold ungL at h
  simp only [Option.map_eq_some_iff] at h
  obtain ⟨vs, hv, rfl⟩ := h
  obtain ⟨h1, _⟩ := vals_some _ _ hv
  have := strip_len g
  unfold ungV
  rw [bys_len]
  exact ⟨by omega, bys_byte _ _⟩
theorem rough_bound : ∀ (l : List (List Int)) (acc : List Int), rough l = some acc → (∀ g ∈ l, g.length ≤ 4) → acc.length ≤ 3 * l.length ∧ ∀ y ∈ acc, 0 ≤ y ∧ y < 256
  | [], acc, h, _ => by simp [rough] at h; subst h; simp
  | g :: r, acc, h, hl => by
    unfold rough at h
    cases hg : ungL g with
    | none => rw [hg] at h; cases h
    | some x =>
      rw [hg] at h
      simp only [Option.map_eq_some_iff] at h
      obtain ⟨us, hu, rfl⟩ := h
      obtain ⟨a1, a2⟩ := ungL_bound g x hg (hl g (by simp))
      obtain ⟨b1, b2⟩ := rough_bound r us hu (fun q hq => hl q (by simp [hq]))
      refine ⟨by simp; omega, ?_⟩
      intro y hy
      rcases List.mem_append.1 hy with h | h
      · exact a2 y h
      · exact b2 y h
/-- a list's pieces -/
def pieces (l : List Int) (n m : Nat) : List (List Int) := (List.range m).map fun j => (l.drop (j * n)).take n
theorem pieces_len (l : List Int) (n m : Nat) : (pieces l n m).length = m := by simp [pieces]
theorem pieces_succ (l : List Int) (n m : Nat) : pieces l n (m + 1) = pieces l n m ++ [(l.drop (m * n)).take n] := by simp [pieces, List.range_succ]
theorem pieces_split (l : List Int) (n : Nat) : ∀ (m k : Nat), k < m → ∃ r, pieces l n m = pieces l n k ++ (l.drop (k * n)).take n :: r := by
  intro m k h
  obtain ⟨d, rfl⟩ : ∃ d, m = k + 1 + d := ⟨m - (k + 1), by omega⟩
  induction d with
  | zero => exact ⟨[], pieces_succ l n k⟩
  | succ d ih =>
    obtain ⟨r, hr⟩ := ih (by omega)
    refine ⟨r ++ [(l.drop ((k + 1 + d) * n)).take n], ?_⟩
    rw [show k + 1 + (d + 1) = k + 1 + d + 1 by omega, pieces_succ, hr]
    simp
theorem pieces_le (l : List Int) (n m : Nat) : ∀ g ∈ pieces l n m, g.length ≤ n := by
  intro g hg
  simp only [pieces, List.mem_map] at hg
  obtain ⟨j, _, rfl⟩ := hg
  rw [List.length_take]
  omega
/-- the text of some base64 -/
def unbL (l : List Int) : Option (List Int) := match rough (pieces l 4 ((l.length + 3) / 4)) with
  | none => none
  | some t => if baseL t = l then some t else none
end Code
end Go.Proofs.YtckfglcihelofaaDoor
/- strings.IndexRune at a rune beyond ASCII, in a text of ASCII: there is none. -/
namespace Go.Proofs.YtckfglcihelofaaDoor
set_option linter.unusedSimpArgs false
set_option linter.unusedVariables false
namespace Idx
open Go.RowKit Go.Shelf Go.Proofs.YtckfglcihelofaaDoorW.PrintWords
attribute [local go_sem] Oper.semAt_some
theorem indexByte_none (l : List UInt8) (c : UInt8) (h : ∀ b ∈ l, b ≠ c) : Lib.indexByte l c = -1 := by
  induction l with
  | nil => rfl
  | cons b l ih =>
    unfold Lib.indexByte
    rw [if_neg (by simpa using h b (by simp)), ih (fun x hx => h x (by simp [hx]))]
    rfl
set_option maxHeartbeats 4000000 in
set_option maxRecDepth 1000000 in
theorem high_err (s : ByteArray) (hs : ∀ b ∈ s.data.toList, b.toNat < 128) (w : World) :
    Calls Tryd.prog 64 #[.string s, .int .i32 65533] w fun e w' => e = .returned (.int .i64 (-1)) ∧ Below w.heap.size w w' := by
  have HS := Lib.hid hs
  clear hs
  go_enter Tryd.func64, Tryd.ntmps64
  go_wp2_with fail
  go_loopw [] (fun wr => ∃ pos : Nat, pos ≤ s.size ∧ wr.heap[w.heap.size]? = some (.stringIter s pos) ∧ Below w.heap.size w wr) (fun wr => s.size - wr.iterPos w.heap.size)
  case atStart => exact ⟨0, Nat.zero_le _, World.iter_heap w s 0, (Below.refl _ _).alloc (Nat.le_refl _) _⟩
  case round =>
    obtain ⟨pos, hp, hit, hb⟩ := hrel
    have HIT := Lib.hid hit
    by_cases hlt : pos < s.size
    · have ha : (s[pos]'hlt).toNat < 128 := HS.out _ (Array.getElem_mem_toList (xs := s.data) hlt)
      have hd := decode_ascii s pos hlt ha
      have hnx0 : ∀ ty, (Instr.next (.pointer (some ⟨w.heap.size, 0, none⟩)) true ty).run Tryd.prog wr = _ := fun ty => Lib.run_next_any_at wr w.heap.size s pos ty hit hlt
      rw [hd] at hnx0
      obtain ⟨c, hc⟩ : ∃ c, (s[pos]'hlt).toNat = c := ⟨_, rfl⟩
      rw [hc] at hnx0 ha
      have hne : ¬ ((c : Int) = 65533) := by omega
      obtain ⟨W2, hW2⟩ : ∃ W2, wr.iterAt w.heap.size s (pos + 1) = W2 := ⟨_, rfl⟩
      have hnx : ∀ ty, (Instr.next (.pointer (some ⟨w.heap.size, 0, none⟩)) true ty).run Tryd.prog wr = .ok (.tuple #[.bool true, .int .i64 pos, .int .i32 c]) W2 := fun ty => by rw [hnx0]; simp only [hW2]
      have hit2 : W2.heap[w.heap.size]? = some (.stringIter s (pos + 1)) := by rw [← hW2]; exact Lib.iterAt_heap wr _ s pos _ hit
      have hb2 : Below w.heap.size w W2 := by
        rw [← hW2]
        exact hb.trans ⟨rfl, rfl, rfl, by rw [Lib.iterAt_size]; exact Nat.le_refl _, fun k hk => Lib.iterAt_other wr _ k s _ (by omega)⟩
      clear hW2 hnx0 hd hc hit
      go_wp2_with fail
      go_roundw
      case rel => exact ⟨pos + 1, by omega, hit2, hb2⟩
      case measure => simp only [World.iterPos, hit2, HIT.out]; omega
    · have hnx : ∀ ty, (Instr.next (.pointer (some ⟨w.heap.size, 0, none⟩)) true ty).run Tryd.prog wr = _ := fun ty => Lib.run_next_end_at wr w.heap.size s pos ty hit hlt
      clear hit
      go_wp2_with fail
      refine bodyPost_ret (v := .int .i64 (-1)) (by simp [results, Tryd.results64, go_sem]) rfl ⟨rfl, hb⟩
set_option maxHeartbeats 4000000 in
set_option maxRecDepth 1000000 in
theorem high_valid1 (s : ByteArray) (h0 : 4 ≤ s.size) (hs2 : s.size ≤ 1000) (hs : ∀ b ∈ s.data.toList, b.toNat < 128) (r : Int) (hr : 128 ≤ r) (hv : Lib.validRune r = true) (hne : r ≠ 65533)
    (g : ByteArray) (hg : Utf8.encode r = g) (hL : g.size = 2) (hl : 1 < g.size) (hb128 : 128 ≤ (g[1]'hl).toNat) (w : World) :
    Calls Tryd.prog 64 #[.string s, .int .i32 r] w fun e w' => e = .returned (.int .i64 (-1)) ∧ Below w.heap.size w w' := by
  have HV := Tryd.utf8_ValidRune r
  rw [hv] at HV
  have hcv : ∀ W, (convert 21 9 (.int .i32 r)).run Tryd.prog W = .ok (.string g) W := fun W => by
    rw [← hg]; exact run_convert_int_string W _ _ _ _ (by rw [Tryd.underlying21]; rfl) Tryd.underlying9
  have hls : 1 < s.size := by omega
  have ha0 : (s[1]'hls).toNat < 128 := hs _ (Array.getElem_mem_toList (xs := s.data) hls)
  obtain ⟨x, hx⟩ : ∃ x, (s[1]'hls).toNat = x := ⟨_, rfl⟩
  obtain ⟨y, hy⟩ : ∃ y, (g[1]'hl).toNat = y := ⟨_, rfl⟩
  have hy256 : y < 256 := by rw [← hy]; exact (g[1]'hl).toNat_lt
  rw [hy] at hb128
  rw [hx] at ha0
  have hxy : ¬ ((x : Int) = y) := by omega
  have hxy3 : ((x : Int) != y) = true := by simpa using hxy
  have HIB := Lib.hid (Tryd.strings_IndexByte (s.extract 2 s.size) y)
  have hib : Lib.indexByte (s.extract 2 s.size).data.toList (y : Int).toNat.toUInt8 = -1 := by
    apply indexByte_none
    intro b hb e
    have h1 := hs b (mem_extract hb)
    rw [e] at h1
    simp [Nat.toUInt8] at h1
    omega
  rw [hib] at HIB
  have HVV := Lib.hid HV
  have hw2 : IntKind.i64.wrap 2 = 2 := by decide
  have q2 : (2 : Int) ≤ s.size := by omega
  have q3 : 2 ≤ s.size := by omega
  have q5 : (1 : Int) < s.size := by omega
  clear hv hg hib hs HV h0 hs2
  go_enter Tryd.func64, Tryd.ntmps64
  go_wp2_with (go_at_call 82; refine (HVV.out _).mono ?_; rintro e w' ⟨rfl, hw⟩; rw [hw]; clear hw)
  refine wp_scope_straight ?_
  go_wp2_with fail
  refine wp_loop_rounds 1 ?_
  rw [rounds_succ]
  go_wp2_with fail
  refine wp_scope_straight ?_
  go_wp2_with fail
  go_region
  go_wp2_with fail
  go_region_held3 (fun w' => Below w.heap.size w w') (first | assumption | (repeat (first | assumption | exact Below.refl _ _ | refine Below.drew ?_))) (first
    | (go_at_call 81; refine (HIB.out _).mono ?_; rintro e w' ⟨rfl, rfl⟩))
  go_wp2_with fail
  simp only [Exit.noGoto, Exit.inBlock, Exit.then]
  go_ret
  exact ⟨rfl, by first | assumption | (repeat (first | assumption | exact Below.refl _ _ | refine Below.drew ?_))⟩
set_option maxHeartbeats 4000000 in
set_option maxRecDepth 1000000 in
theorem high_valid2 (s : ByteArray) (h0 : 4 ≤ s.size) (hs2 : s.size ≤ 1000) (hs : ∀ b ∈ s.data.toList, b.toNat < 128) (r : Int) (hr : 128 ≤ r) (hv : Lib.validRune r = true) (hne : r ≠ 65533)
    (g : ByteArray) (hg : Utf8.encode r = g) (hL : g.size = 3) (hl : 2 < g.size) (hb128 : 128 ≤ (g[2]'hl).toNat) (w : World) :
    Calls Tryd.prog 64 #[.string s, .int .i32 r] w fun e w' => e = .returned (.int .i64 (-1)) ∧ Below w.heap.size w w' := by
  have HV := Tryd.utf8_ValidRune r
  rw [hv] at HV
  have hcv : ∀ W, (convert 21 9 (.int .i32 r)).run Tryd.prog W = .ok (.string g) W := fun W => by
    rw [← hg]; exact run_convert_int_string W _ _ _ _ (by rw [Tryd.underlying21]; rfl) Tryd.underlying9
  have hls : 2 < s.size := by omega
  have ha0 : (s[2]'hls).toNat < 128 := hs _ (Array.getElem_mem_toList (xs := s.data) hls)
  obtain ⟨x, hx⟩ : ∃ x, (s[2]'hls).toNat = x := ⟨_, rfl⟩
  obtain ⟨y, hy⟩ : ∃ y, (g[2]'hl).toNat = y := ⟨_, rfl⟩
  have hy256 : y < 256 := by rw [← hy]; exact (g[2]'hl).toNat_lt
  rw [hy] at hb128
  rw [hx] at ha0
  have hxy : ¬ ((x : Int) = y) := by omega
  have hxy3 : ((x : Int) != y) = true := by simpa using hxy
  have HIB := Lib.hid (Tryd.strings_IndexByte (s.extract 3 s.size) y)
  have hib : Lib.indexByte (s.extract 3 s.size).data.toList (y : Int).toNat.toUInt8 = -1 := by
    apply indexByte_none
    intro b hb e
    have h1 := hs b (mem_extract hb)
    rw [e] at h1
    simp [Nat.toUInt8] at h1
    omega
  rw [hib] at HIB
  have HVV := Lib.hid HV
  have hw2 : IntKind.i64.wrap 3 = 3 := by decide
  have q2 : (3 : Int) ≤ s.size := by omega
  have q3 : 3 ≤ s.size := by omega
  have q5 : (2 : Int) < s.size := by omega
  clear hv hg hib hs HV h0 hs2
  go_enter Tryd.func64, Tryd.ntmps64
  go_wp2_with (go_at_call 82; refine (HVV.out _).mono ?_; rintro e w' ⟨rfl, hw⟩; rw [hw]; clear hw)
  refine wp_scope_straight ?_
  go_wp2_with fail
  refine wp_loop_rounds 1 ?_
  rw [rounds_succ]
  go_wp2_with fail
  refine wp_scope_straight ?_
  go_wp2_with fail
  go_region
  go_wp2_with fail
  go_region_held3 (fun w' => Below w.heap.size w w') (first | assumption | (repeat (first | assumption | exact Below.refl _ _ | refine Below.drew ?_))) (first
    | (go_at_call 81; refine (HIB.out _).mono ?_; rintro e w' ⟨rfl, rfl⟩))
  go_wp2_with fail
  simp only [Exit.noGoto, Exit.inBlock, Exit.then]
  go_ret
  exact ⟨rfl, by first | assumption | (repeat (first | assumption | exact Below.refl _ _ | refine Below.drew ?_))⟩
set_option maxHeartbeats 4000000 in
set_option maxRecDepth 1000000 in
theorem high_valid3 (s : ByteArray) (h0 : 4 ≤ s.size) (hs2 : s.size ≤ 1000) (hs : ∀ b ∈ s.data.toList, b.toNat < 128) (r : Int) (hr : 128 ≤ r) (hv : Lib.validRune r = true) (hne : r ≠ 65533)
    (g : ByteArray) (hg : Utf8.encode r = g) (hL : g.size = 4) (hl : 3 < g.size) (hb128 : 128 ≤ (g[3]'hl).toNat) (w : World) :
    Calls Tryd.prog 64 #[.string s, .int .i32 r] w fun e w' => e = .returned (.int .i64 (-1)) ∧ Below w.heap.size w w' := by
  have HV := Tryd.utf8_ValidRune r
  rw [hv] at HV
  have hcv : ∀ W, (convert 21 9 (.int .i32 r)).run Tryd.prog W = .ok (.string g) W := fun W => by
    rw [← hg]; exact run_convert_int_string W _ _ _ _ (by rw [Tryd.underlying21]; rfl) Tryd.underlying9
  have hls : 3 < s.size := by omega
  have ha0 : (s[3]'hls).toNat < 128 := hs _ (Array.getElem_mem_toList (xs := s.data) hls)
  obtain ⟨x, hx⟩ : ∃ x, (s[3]'hls).toNat = x := ⟨_, rfl⟩
  obtain ⟨y, hy⟩ : ∃ y, (g[3]'hl).toNat = y := ⟨_, rfl⟩
  have hy256 : y < 256 := by rw [← hy]; exact (g[3]'hl).toNat_lt
  rw [hy] at hb128
  rw [hx] at ha0
  have hxy : ¬ ((x : Int) = y) := by omega
  have hxy3 : ((x : Int) != y) = true := by simpa using hxy
  have HIB := Lib.hid (Tryd.strings_IndexByte (s.extract 4 s.size) y)
  have hib : Lib.indexByte (s.extract 4 s.size).data.toList (y : Int).toNat.toUInt8 = -1 := by
    apply indexByte_none
    intro b hb e
    have h1 := hs b (mem_extract hb)
    rw [e] at h1
    simp [Nat.toUInt8] at h1
    omega
  rw [hib] at HIB
  have HVV := Lib.hid HV
  have hw2 : IntKind.i64.wrap 4 = 4 := by decide
  have q2 : (4 : Int) ≤ s.size := by omega
  have q3 : 4 ≤ s.size := by omega
  have q5 : (3 : Int) < s.size := by omega
  clear hv hg hib hs HV h0 hs2
  go_enter Tryd.func64, Tryd.ntmps64
  go_wp2_with (go_at_call 82; refine (HVV.out _).mono ?_; rintro e w' ⟨rfl, hw⟩; rw [hw]; clear hw)
  refine wp_scope_straight ?_
  go_wp2_with fail
  refine wp_loop_rounds 1 ?_
  rw [rounds_succ]
  go_wp2_with fail
  refine wp_scope_straight ?_
  go_wp2_with fail
  go_region
  go_wp2_with fail
  go_region_held3 (fun w' => Below w.heap.size w w') (first | assumption | (repeat (first | assumption | exact Below.refl _ _ | refine Below.drew ?_))) (first
    | (go_at_call 81; refine (HIB.out _).mono ?_; rintro e w' ⟨rfl, rfl⟩))
  go_wp2_with fail
  simp only [Exit.noGoto, Exit.inBlock, Exit.then]
  go_ret
  exact ⟨rfl, by first | assumption | (repeat (first | assumption | exact Below.refl _ _ | refine Below.drew ?_))⟩
/-- strings.IndexRune at whatever rune beyond ASCII that a decoder hands out. -/
theorem high (s : ByteArray) (h0 : 4 ≤ s.size) (hs2 : s.size ≤ 1000) (hs : ∀ b ∈ s.data.toList, b.toNat < 128) (r : Int) (hr : 128 ≤ r) (hv : Lib.validRune r = true) (w : World) :
    Calls Tryd.prog 64 #[.string s, .int .i32 r] w fun e w' => e = .returned (.int .i64 (-1)) ∧ Below w.heap.size w w' := by
  by_cases hne : r = 65533
  · subst hne
    exact high_err s hs w
  · have hv2 : Utf8.valid r = true := by rw [validRune_eq]; exact hv
    obtain ⟨e2, e4, e128⟩ := encode_facts r hv2 hr
    have key : ∀ L, (Utf8.encode r).size = L + 1 → ∀ hl : L < (Utf8.encode r).size, 128 ≤ ((Utf8.encode r)[L]'hl).toNat := fun L hL hl => by
      have : ∀ q, q = L → ∀ h : q < (Utf8.encode r).size, 128 ≤ ((Utf8.encode r)[q]'h).toNat → 128 ≤ ((Utf8.encode r)[L]'hl).toNat := by rintro q rfl h x; exact x
      exact this ((Utf8.encode r).size - 1) (by omega) (by omega) (e128 (by omega))
    rcases (show (Utf8.encode r).size = 2 ∨ (Utf8.encode r).size = 3 ∨ (Utf8.encode r).size = 4 by omega) with e | e | e
    · exact high_valid1 s h0 hs2 hs r hr hv hne _ rfl e (by omega) (key 1 e (by omega)) w
    · exact high_valid2 s h0 hs2 hs r hr hv hne _ rfl e (by omega) (key 2 e (by omega)) w
    · exact high_valid3 s h0 hs2 hs r hr hv hne _ rfl e (by omega) (key 3 e (by omega)) w
end Idx
end Go.Proofs.YtckfglcihelofaaDoor
/- digits plainly: reading sign by sign. No program in sight. -/
namespace Go.Proofs.YtckfglcihelofaaDoor
set_option linter.unusedSimpArgs false
set_option linter.unusedVariables false
namespace Code
open Go.RowKit Go.Proofs.YtckfglcihelofaaDoorW.PrintWords Go.Proofs.YtckfglcihelofaaDoor.PureB
/-- reading digits one by one -/
def hx : List Int → List Int → Int → Option (List Int × Int)
  | [], acc, h => some (acc, h)
  | c :: r, acc, h => if dv c < 0 then none else if h < 0 then hx r acc (dv c) else hx r (acc ++ [h * 16 + dv c]) (-1)
def unhR (l : List Int) : Option (List Int) := match hx l [] (-1) with
  | none => none
  | some (acc, h) => if 0 ≤ h then none else some acc
theorem dv_lt (c : Int) : dv c < 16 := by
  unfold dv
  repeat' split
  all_goals omega
theorem hx_append (l : List Int) (c : Int) : ∀ (acc : List Int) (h : Int) (acc' : List Int) (h' : Int), hx l acc h = some (acc', h') → hx (l ++ [c]) acc h = hx [c] acc' h' := by
  induction l with
  | nil => intro acc h acc' h' e; simp [hx] at e; obtain ⟨rfl, rfl⟩ := e; rfl
  | cons a l ih =>
    intro acc h acc' h' e
    simp only [List.cons_append, hx] at e ⊢
    split at e
    · cases e
    · rename_i ha
      rw [if_neg ha]
      split at e
      · rename_i hh; rw [if_pos hh]; exact ih _ _ _ _ e
      · rename_i hh; rw [if_neg hh]; exact ih _ _ _ _ e
theorem hx_none (l m : List Int) (c : Int) (hc : dv c < 0) : ∀ (acc : List Int) (h : Int), hx (l ++ c :: m) acc h = none := by
  induction l with
  | nil => intro acc h; simp [hx, hc]
  | cons a l ih =>
    intro acc h
    simp only [List.cons_append, hx]
    split
    · rfl
    · split
      · exact ih _ _
      · exact ih _ _
theorem hx_bound (l : List Int) : ∀ (acc : List Int) (h : Int) (acc' : List Int) (h' : Int), hx l acc h = some (acc', h') → (∀ x ∈ acc, 0 ≤ x ∧ x < 256) → -1 ≤ h ∧ h < 16 →
    (-1 ≤ h' ∧ h' < 16) ∧ (∀ x ∈ acc', 0 ≤ x ∧ x < 256) ∧ acc'.length ≤ acc.length + l.length := by
  induction l with
  | nil => intro acc h acc' h' e ha hb; simp [hx] at e; obtain ⟨rfl, rfl⟩ := e; exact ⟨hb, ha, by simp⟩
  | cons a l ih =>
    intro acc h acc' h' e ha hb
    have hd := dv_lt a
    simp only [hx] at e
    split at e
    · cases e
    · rename_i hn
      split at e
      · obtain ⟨h1, h2, h3⟩ := ih _ _ _ _ e ha (by omega)
        exact ⟨h1, h2, by simp only [List.length_cons]; omega⟩
      · obtain ⟨h1, h2, h3⟩ := ih _ _ _ _ e (by
          intro x hx
          rcases List.mem_append.1 hx with q | q
          · exact ha x q
          · simp at q; omega) (by omega)
        exact ⟨h1, h2, by simp only [List.length_cons, List.length_append, List.length_nil] at h3 ⊢; omega⟩
theorem hx_pairs : ∀ (l acc : List Int), hx l acc (-1) = (if l.length % 2 = 0 then (unhexL l).map (fun r => (acc ++ r, -1)) else hx l acc (-1))
  | [], acc => by simp [hx, unhexL]
  | [c], acc => by simp
  | a :: b :: r, acc => by
    have ih := hx_pairs r (acc ++ [dv a * 16 + dv b])
    by_cases he : (a :: b :: r).length % 2 = 0
    · rw [if_pos he]
      rw [if_pos (by simp only [List.length_cons] at he; omega)] at ih
      simp only [hx, unhexL]
      by_cases ha : dv a < 0
      · simp [ha]
      · by_cases hb : dv b < 0
        · simp [ha, hb]
        · rw [if_neg ha, if_pos (by omega), if_neg hb, if_neg ha, ih, if_neg (by omega)]
          cases unhexL r with
          | none => rfl
          | some x => simp; omega
    · rw [if_neg he]
theorem unhexL_odd : ∀ l : List Int, l.length % 2 = 1 → unhexL l = none
  | [], h => by simp at h
  | [c], _ => rfl
  | a :: b :: r, h => by
    unfold unhexL
    rw [unhexL_odd r (by simp only [List.length_cons] at h; omega)]
    split <;> rfl
theorem hx_odd : ∀ (l acc acc' : List Int) (h' : Int), l.length % 2 = 1 → hx l acc (-1) = some (acc', h') → 0 ≤ h'
  | [], _, _, _, h, _ => by simp at h
  | [c], acc, acc', h', _, e => by
    simp only [hx] at e
    split at e
    · cases e
    · rw [if_pos (by omega)] at e
      simp at e
      omega
  | a :: b :: r, acc, acc', h', h, e => by
    simp only [hx] at e
    split at e
    · cases e
    · rw [if_pos (by omega)] at e
      split at e
      · cases e
      · exact hx_odd r _ acc' h' (by simp only [List.length_cons] at h; omega) e
theorem unhR_eq (l : List Int) : unhR l = unhexL l := by
  unfold unhR
  by_cases h : l.length % 2 = 0
  · rw [hx_pairs l [], if_pos h]
    cases unhexL l with
    | none => rfl
    | some x => simp
  · rw [unhexL_odd l (by omega)]
    cases e : hx l [] (-1) with
    | none => rfl
    | some p =>
      obtain ⟨acc, q⟩ := p
      have := hx_odd l [] acc q (by omega) e
      simp [this]
/-- where a digit stands among the small ones -/
def dl (b : Nat) : Int := if 48 ≤ b ∧ b ≤ 57 then (b : Int) - 48 else if 97 ≤ b ∧ b ≤ 102 then (b : Int) - 87 else -1
def DG : ByteArray := ⟨#[48, 49, 50, 51, 52, 53, 54, 55, 56, 57, 97, 98, 99, 100, 101, 102]⟩
set_option maxRecDepth 100000 in
theorem ib_val : ∀ b : Nat, b < 128 → Lib.indexByte DG.data.toList b.toUInt8 = dl b := by decide
theorem DG_ascii : ∀ b ∈ DG.data.toList, b.toNat < 128 := by decide
theorem decode_ok (s : ByteArray) (i : Nat) : Lib.validRune ((Utf8.decode s i).1 : Int) = true := by
  have hb : ∀ k, (s.get! (i + k)).toNat < 256 := fun k => (s.get! (i + k)).toNat_lt
  have h0 := hb 0; have h1 := hb 1; have h2 := hb 2; have h3 := hb 3
  have hv : ∀ c : Nat, Utf8.valid (c : Int) = true → Lib.validRune (c : Int) = true := fun c h => by rw [validRune_eq] at h; exact h
  simp only [Utf8.decode]
  repeat' split
  all_goals first
    | (apply hv; simp_all; done)
    | (simp [Lib.validRune, Utf8.runeError]; done)
    | (simp only [Lib.validRune, Utf8.runeError, decide_eq_true_eq]; omega)
end Code
end Go.Proofs.YtckfglcihelofaaDoor
/- base64 and digits plainly, sixth part: what is written is read. No program in sight. -/
namespace Go.Proofs.YtckfglcihelofaaDoor
set_option linter.unusedSimpArgs false
set_option linter.unusedVariables false
namespace Code
open Go.RowKit Go.Proofs.YtckfglcihelofaaDoorW.PrintWords Go.Proofs.YtckfglcihelofaaDoor.PureB
def Byt (l : List Int) : Prop := ∀ x ∈ l, 0 ≤ x ∧ x < 256
theorem strip_of {l : List Int} {c : Int} (h : c ≠ 61) : strip (l ++ [c]) = l ++ [c] := by
  unfold strip
  rw [List.reverse_append]
  simp [h]
theorem strip_pad (l : List Int) : strip (l ++ [61]) = strip l := by
  unfold strip
  rw [List.reverse_append]
  simp
theorem vals_of : ∀ vs : List Int, (∀ v ∈ vs, 0 ≤ v ∧ v < 64) → vals (vs.map b64) = some vs
  | [], _ => rfl
  | v :: vs, h => by
    have hv := h v (by simp)
    simp only [List.map_cons, vals, worth_b64 v hv.1 hv.2, vals_of vs (fun x hx => h x (by simp [hx])), Option.map_some]
theorem ung3 (a b c : Int) (ha : 0 ≤ a ∧ a < 256) (hb : 0 ≤ b ∧ b < 256) (hc : 0 ≤ c ∧ c < 256) :
    ungL [b64 (a / 4), b64 (a % 4 * 16 + b / 16), b64 (b % 16 * 4 + c / 64), b64 (c % 64)] = some [a, b, c] := by
  have e : [b64 (a / 4), b64 (a % 4 * 16 + b / 16), b64 (b % 16 * 4 + c / 64), b64 (c % 64)] = [b64 (a / 4), b64 (a % 4 * 16 + b / 16), b64 (b % 16 * 4 + c / 64)] ++ [b64 (c % 64)] := rfl
  unfold ungL
  rw [e, strip_of (b64_byte _ (by omega) (by omega)).2.2]
  have v := vals_of [a / 4, a % 4 * 16 + b / 16, b % 16 * 4 + c / 64, c % 64] (by intro x hx; simp at hx; rcases hx with rfl | rfl | rfl | rfl <;> omega)
  simp only [List.map_cons, List.map_nil] at v
  simp only [List.cons_append, List.nil_append, v, Option.map_some]
  simp [ungV, nsum, bys, List.range_succ]
  omega
theorem ung2 (a b : Int) (ha : 0 ≤ a ∧ a < 256) (hb : 0 ≤ b ∧ b < 256) :
    ungL [b64 (a / 4), b64 (a % 4 * 16 + b / 16), b64 (b % 16 * 4), 61] = some [a, b] := by
  have e : [b64 (a / 4), b64 (a % 4 * 16 + b / 16), b64 (b % 16 * 4), 61] = ([b64 (a / 4), b64 (a % 4 * 16 + b / 16)] ++ [b64 (b % 16 * 4)]) ++ [61] := rfl
  unfold ungL
  rw [e, strip_pad, strip_of (b64_byte _ (by omega) (by omega)).2.2]
  have v := vals_of [a / 4, a % 4 * 16 + b / 16, b % 16 * 4] (by intro x hx; simp at hx; rcases hx with rfl | rfl | rfl <;> omega)
  simp only [List.map_cons, List.map_nil] at v
  simp only [List.cons_append, List.nil_append, v, Option.map_some]
  simp [ungV, nsum, bys, List.range_succ]
  omega
theorem ung1 (a : Int) (ha : 0 ≤ a ∧ a < 256) :
    ungL [b64 (a / 4), b64 (a % 4 * 16), 61, 61] = some [a] := by
  have e : [b64 (a / 4), b64 (a % 4 * 16), 61, 61] = (([b64 (a / 4)] ++ [b64 (a % 4 * 16)]) ++ [61]) ++ [61] := rfl
  unfold ungL
  rw [e, strip_pad, strip_pad, strip_of (b64_byte _ (by omega) (by omega)).2.2]
  have v := vals_of [a / 4, a % 4 * 16] (by intro x hx; simp at hx; rcases hx with rfl | rfl <;> omega)
  simp only [List.map_cons, List.map_nil] at v
  simp only [List.cons_append, List.nil_append, v, Option.map_some]
  simp [ungV, nsum, bys, List.range_succ]
  omega
theorem pieces_cons (p r : List Int) (n m : Nat) (h : p.length = n) : pieces (p ++ r) n (m + 1) = p :: pieces r n m := by
  unfold pieces
  rw [List.range_succ_eq_map, List.map_cons, List.map_map]
  congr 1
  · rw [Nat.zero_mul, List.drop_zero, ← h, List.take_left]
  · apply List.map_congr_left
    intro j _
    simp only [Function.comp]
    rw [show (Nat.succ j) * n = n + j * n by rw [Nat.succ_mul]; omega, ← List.drop_drop, ← h, List.drop_left]
theorem rough_base : ∀ l : List Int, Byt l → rough (pieces (baseL l) 4 ((l.length + 2) / 3)) = some l
  | [], _ => rfl
  | [a], h => by
    have ha := h a (by simp)
    have := pieces_cons [b64 (a / 4), b64 (a % 4 * 16), 61, 61] [] 4 0 rfl
    simp only [List.append_nil] at this
    rw [show ([a].length + 2) / 3 = 1 by simp]
    simp only [baseL, this, rough, ung1 a ha]
    rfl
  | [a, b], h => by
    have ha := h a (by simp)
    have hb := h b (by simp)
    have := pieces_cons [b64 (a / 4), b64 (a % 4 * 16 + b / 16), b64 (b % 16 * 4), 61] [] 4 0 rfl
    simp only [List.append_nil] at this
    rw [show ([a, b].length + 2) / 3 = 1 by simp]
    simp only [baseL, this, rough, ung2 a b ha hb]
    rfl
  | a :: b :: c :: r, h => by
    have ha := h a (by simp)
    have hb := h b (by simp)
    have hc := h c (by simp)
    have hm : ((a :: b :: c :: r).length + 2) / 3 = (r.length + 2) / 3 + 1 := by simp only [List.length_cons]; omega
    rw [hm]
    simp only [baseL]
    rw [pieces_cons _ _ 4 _ rfl]
    simp only [rough, ung3 a b c ha hb hc, rough_base r (fun x hx => h x (by simp [hx])), Option.map_some]
    rfl
theorem unb_base (l : List Int) (h : Byt l) : unbL (baseL l) = some l := by
  unfold unbL
  rw [baseL_len, show (4 * ((l.length + 2) / 3) + 3) / 4 = (l.length + 2) / 3 by omega, rough_base l h]
  simp
theorem unb_some (l t : List Int) (h : unbL l = some t) : baseL t = l ∧ Byt t := by
  unfold unbL at h
  split at h
  · cases h
  · rename_i x hx
    split at h
    · obtain rfl := Option.some.inj h
      rename_i e
      exact ⟨e, (rough_bound _ _ hx (pieces_le _ _ _)).2⟩
    · cases h
theorem base_inj (l m : List Int) (hl : Byt l) (hm : Byt m) (h : baseL l = baseL m) : l = m := by
  have h1 := unb_base l hl
  rw [h, unb_base m hm] at h1
  exact (Option.some.inj h1).symm
theorem dv_dg (i : Int) (h0 : 0 ≤ i) (h1 : i < 16) : dv (dg i) = i := by
  unfold dg dv
  repeat' split
  all_goals omega
theorem unhex_hex : ∀ l : List Int, Byt l → unhexL (hexL l) = some l
  | [], _ => rfl
  | a :: r, h => by
    have ha := h a (by simp)
    have e : hexL (a :: r) = dg (a / 16) :: dg (a % 16) :: hexL r := rfl
    rw [e]
    unfold unhexL
    rw [dv_dg (a / 16) (by omega) (by omega), dv_dg (a % 16) (by omega) (by omega), if_neg (by omega), unhex_hex r (fun x hx => h x (by simp [hx]))]
    simp
    omega
theorem unhex_len : ∀ (l t : List Int), unhexL l = some t → 2 * t.length = l.length ∧ Byt t
  | [], t, h => by simp [unhexL] at h; subst h; exact ⟨rfl, by intro x hx; simp at hx⟩
  | [a], t, h => by simp [unhexL] at h
  | a :: b :: r, t, h => by
    unfold unhexL at h
    split at h
    · cases h
    · rename_i hn
      simp only [Option.map_eq_some_iff] at h
      obtain ⟨u, hu, rfl⟩ := h
      obtain ⟨h1, h2⟩ := unhex_len r u hu
      have d1 := dv_lt a
      have d2 := dv_lt b
      refine ⟨by simp only [List.length_cons]; omega, ?_⟩
      intro x hx
      rcases List.mem_cons.1 hx with rfl | hx
      · omega
      · exact h2 x hx
theorem hex_inj (l m : List Int) (hl : Byt l) (hm : Byt m) (h : hexL l = hexL m) : l = m := by
  have h1 := unhex_hex l hl
  rw [h, unhex_hex m hm] at h1
  exact (Option.some.inj h1).symm
theorem hex_append (l m : List Int) : hexL (l ++ m) = hexL l ++ hexL m := by simp [hexL]
theorem hex_byte (l : List Int) (h : Byt l) : Byt (hexL l) := by
  intro x hx
  simp only [hexL, List.mem_flatMap] at hx
  obtain ⟨b, hb, hx⟩ := hx
  have := h b hb
  simp at hx
  rcases hx with rfl | rfl <;> (unfold dg; split <;> omega)
/-- great letters -/
def upc (c : Int) : Int := if 97 ≤ c ∧ c ≤ 102 then c - 32 else c
theorem dv_up (i : Int) (h0 : 0 ≤ i) (h1 : i < 16) : dv (upc (dg i)) = i := by
  unfold upc dg dv
  repeat' split
  all_goals omega
theorem unhex_up : ∀ l : List Int, Byt l → unhexL ((hexL l).map upc) = some l
  | [], _ => rfl
  | a :: r, h => by
    have ha := h a (by simp)
    have e : (hexL (a :: r)).map upc = upc (dg (a / 16)) :: upc (dg (a % 16)) :: (hexL r).map upc := rfl
    rw [e]
    unfold unhexL
    rw [dv_up (a / 16) (by omega) (by omega), dv_up (a % 16) (by omega) (by omega), if_neg (by omega), unhex_up r (fun x hx => h x (by simp [hx]))]
    simp
    omega
end Code
end Go.Proofs.YtckfglcihelofaaDoor
