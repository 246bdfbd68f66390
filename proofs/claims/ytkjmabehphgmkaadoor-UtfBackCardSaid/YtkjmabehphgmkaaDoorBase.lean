/- Small lemmas on worlds that all walks of this seat use. -/
import Derived.Test.YtkjmabehphgmkaaDoorProg
import Derived.WalkKit
import Derived.WalkLawsBesides
import Derived.WalkSpells
import Derived.Laws.Rows
import Derived.Laws.Tables
import Derived.Below
import Derived.Lib.Hide
import Derived.Laws.BitsLemmas
import Derived.Laws.BitsAllLaws
import Derived.Lib.ConvBytes
import Derived.Test.YtkjmabehphgmkaaDoorWWords
namespace Go.Proofs.YtkjmabehphgmkaaDoor
set_option linter.unusedSimpArgs false
set_option linter.unusedVariables false
open Go.RowKit
theorem bl_alloc {a w : World} (h : Below a.heap.size a w) (o : Obj) : Below a.heap.size a (w.alloc o) := h.alloc h.size o
theorem bl_trans {a w w' : World} (h : Below a.heap.size a w) (h' : Below w.heap.size w w') : Below a.heap.size a w' := h.trans (h'.mono h.size)
theorem lt_of_cell {w : World} {a : Addr} {v : Value} (h : w.cell? a = some v) : a.block < w.heap.size := by
  rcases Nat.lt_or_ge a.block w.heap.size with h' | h'
  · exact h'
  · simp [World.cell?, Array.getElem?_eq_none h'] at h
theorem setRow_below {g B : Nat} {a w : World} (h : Below B a w) (hp : B ≤ g) (cs : Array Value) : Below B a (w.setRow g cs) := by
  refine h.trans ⟨rfl, rfl, rfl, by simp [World.setRow], fun k hk => ?_⟩
  simp only [World.setRow, Array.getElem?_modify]
  rw [if_neg (by omega)]
theorem setRow_heap {g : Nat} {w : World} {cs old : Array Value} {t : TypeId} (h : w.heap[g]? = some (.cells old t (0, 0))) : (w.setRow g cs).heap[g]? = some (.cells cs t (0, 0)) := by
  simp only [World.setRow, Array.getElem?_modify, h]
  simp
open Go.Proofs.YtkjmabehphgmkaaDoorW.PrintWords in
/-- '[]byte(s)'. -/
theorem conv_sb {P : Program} (w : World) (src dst e : TypeId) (s : ByteArray) (hs : P.underlying src = some .string) (hd : P.underlying dst = some (.slice e)) (he : P.underlying e = some (.int .u8)) :
    ∃ W cap, (convert src dst (.string s)).run P w = .ok (.slice (some ⟨w.heap.size, 0, none⟩) s.size cap) W ∧ Below w.heap.size w W ∧ W.heap.size = w.heap.size + 1 ∧ s.size ≤ cap ∧
      ∀ j, j < s.size → W.cell? ⟨w.heap.size, j, none⟩ = some (.int .u8 (bt s j)) :=
  ⟨_, _, Lib.run_convert_string_bytes w src dst e s hs hd he,
    ⟨rfl, rfl, rfl, by rw [Lib.bytesWorld_size]; omega, fun k hk => Lib.bytesWorld_at_old w e s k hk⟩, Lib.bytesWorld_size w e s, grownCap_ge _ _ _ _, fun j hj => by
      rw [Lib.bytesWorld_cell w e s j hj, bt, dif_pos (by simpa using hj)]; simp [List.getD, hj]; rfl⟩
theorem or_byte (m b : Int) (h0 : 0 ≤ b) (h1 : b ≤ 255) (hm : -36028797018963968 ≤ m) (hm2 : m ≤ 36028797018963967) : bits .or .i64 (m * 256) b = m * 256 + b := by
  show IntKind.i64.wrap ((BitVec.ofInt 64 (m * 256) ||| BitVec.ofInt 64 b).toNat : Int) = _
  rw [BitVec.toNat_or, BitVec.toNat_ofInt, BitVec.toNat_ofInt]
  rw [show ((2 ^ 64 : Nat) : Int) = 18446744073709551616 from rfl]
  obtain ⟨q, hq⟩ : ∃ q : Nat, ((m * 256) % 18446744073709551616).toNat = 256 * q := ⟨((m * 256) % 18446744073709551616).toNat / 256, by omega⟩
  obtain ⟨c, hc⟩ : ∃ c : Nat, (b % 18446744073709551616).toNat = c := ⟨_, rfl⟩
  have hcb : (c : Int) = b := by omega
  have hj : 256 * q + c = 256 * q ||| c := Nat.two_pow_add_eq_or_of_lt (i := 8) (by omega) q
  rw [hq, hc, ← hj, IntKind.wrap_i64]
  omega
end Go.Proofs.YtkjmabehphgmkaaDoor
