/- Texts as rows of bytes: small plain laws. No program in sight. -/
import Derived.Test.YtkjmabehphgmkaaDoorWWords
import Derived.Lib.Strings
namespace Go.Proofs.YtkjmabehphgmkaaDoor.PureB
set_option linter.unusedSimpArgs false
set_option linter.unusedVariables false
open Go.RowKit Go.Proofs.YtkjmabehphgmkaaDoorW.PrintWords
theorem w64 {n : Int} (h : -9223372036854775808 ≤ n) (h2 : n ≤ 9223372036854775807) : wrap64 n = n := by unfold wrap64; omega
theorem son_size (xs : List Int) : (strOfNums xs).size = xs.length := by simp [strOfNums, ByteArray.size]
theorem bt_at' (s : ByteArray) (i : Int) (h : i.toNat < s.size) : bt s i = ((s[i.toNat]'h).toNat : Int) := dif_pos h
theorem bt_nat (s : ByteArray) (i : Nat) (h : i < s.size) : bt s (i : Int) = ((s[i]'h).toNat : Int) := dif_pos (by simpa using h)
theorem bt_out (s : ByteArray) (i : Nat) (h : ¬ i < s.size) : bt s (i : Int) = 0 := dif_neg (by simpa using h)
theorem of_nat (x : Int) (h : 0 ≤ x) (h2 : x < 256) : ((UInt8.ofNat x.toNat).toNat : Int) = x := by rw [UInt8.toNat_ofNat']; omega
theorem bt_son (xs : List Int) (j : Nat) (x : Int) (h : xs[j]? = some x) (h0 : 0 ≤ x) (h1 : x < 256) : bt (strOfNums xs) j = x := by
  obtain ⟨hj, rfl⟩ := List.getElem?_eq_some_iff.1 h
  have hl : j < (strOfNums xs).size := by rw [son_size]; omega
  rw [bt_nat _ _ hl]
  have : (strOfNums xs)[j]'hl = UInt8.ofNat (xs[j]).toNat := by simp [strOfNums, ByteArray.getElem_eq_getElem_data]
  rw [this, of_nat _ h0 h1]
theorem ba_ext {s t : ByteArray} (h : s.size = t.size) (hb : ∀ j : Nat, j < s.size → bt s j = bt t j) : s = t := by
  apply ByteArray.ext
  apply Array.ext
  · exact h
  · intro i h1 h2
    have := hb i h1
    rw [bt_nat s i h1, bt_nat t i h2] at this
    have h3 : s[i]'h1 = t[i]'h2 := UInt8.toNat_inj.1 (by omega)
    exact h3
theorem toList_inj {s t : ByteArray} : s.toList = t.toList ↔ s = t := by
  rw [Lib.toList_data, Lib.toList_data]
  constructor
  · intro h; apply ByteArray.ext; exact Array.toList_inj.1 h
  · rintro rfl; rfl
theorem toList_nil {s : ByteArray} : s.toList = ([] : List UInt8) ↔ s.size = 0 := by
  rw [Lib.toList_data, Array.toList_eq_nil_iff, ← Array.size_eq_zero_iff]
  exact Iff.rfl
theorem toList_len (s : ByteArray) : s.toList.length = s.size := by rw [Lib.toList_data, Array.length_toList]; rfl
theorem bt_app_l (p q : ByteArray) (j : Nat) (h : j < p.size) : bt (p ++ q) j = bt p j := by
  rw [bt_nat (p ++ q) j (by rw [ByteArray.size_append]; omega), bt_nat p j h, ByteArray.getElem_append_left h]
theorem bt_app_r (p q : ByteArray) (j : Nat) : bt (p ++ q) ((p.size : Int) + j) = bt q j := by
  have e : (p.size : Int) + j = ((p.size + j : Nat) : Int) := by omega
  rw [e]
  by_cases h : j < q.size
  · rw [bt_nat (p ++ q) _ (by rw [ByteArray.size_append]; omega), bt_nat q j h, ByteArray.getElem_append_right (by omega)]
    congr 2
    simp
  · rw [bt_out _ _ (by rw [ByteArray.size_append]; omega), bt_out _ _ h]
theorem bt_extract (s : ByteArray) (a b j : Nat) (hj : a + j < b) (hb : b ≤ s.size) : bt (s.extract a b) j = bt s ((a : Int) + j) := by
  have e : (a : Int) + j = ((a + j : Nat) : Int) := by omega
  have hs : (s.extract a b).size = b - a := by simp; omega
  rw [e, bt_nat _ j (by omega), bt_nat s _ (by omega), ByteArray.getElem_extract]
theorem extract_size (s : ByteArray) (a b : Nat) (hb : b ≤ s.size) : (s.extract a b).size = b - a := by simp; omega
theorem one_size (x : UInt8) : (⟨#[x]⟩ : ByteArray).size = 1 := rfl
theorem bt_one (x : UInt8) : bt (⟨#[x]⟩ : ByteArray) 0 = (x.toNat : Int) := rfl
end Go.Proofs.YtkjmabehphgmkaaDoor.PureB
