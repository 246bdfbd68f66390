import Derived.Test.YtmfnenlinhljkaaDoorLPrimx1
import Derived.Lib.Strings
namespace Go.Proofs.YtmfnenlinhljkaaDoor.Pure
set_option linter.unusedSimpArgs false
set_option linter.unusedVariables false
open Go.RowKit Go.Proofs.YtmfnenlinhljkaaDoor.LPrim Go.Proofs.YtmfnenlinhljkaaDoor.ExtPrim Go.Proofs.YtmfnenlinhljkaaDoor.Prim Go.Proofs.YtmfnenlinhljkaaDoorW.PrintWords Go.Proofs.YtmfnenlinhljkaaDoorW.PrintLast
theorem w64' {n : Int} (h : -9223372036854775808 ≤ n) (h2 : n ≤ 9223372036854775807) : wrap64 n = n := by unfold wrap64; omega
theorem son_app (xs ys : List Int) : strOfNums (xs ++ ys) = strOfNums xs ++ strOfNums ys := by
  apply ByteArray.ext
  simp [strOfNums]
theorem son_size (xs : List Int) : (strOfNums xs).size = xs.length := by simp [strOfNums, ByteArray.size]
theorem son_list (xs : List Int) : (strOfNums xs).toList = xs.map fun n => UInt8.ofNat n.toNat := by
  rw [Lib.toList_data]; simp [strOfNums]
def digs (d : Nat) (m : Int) : List Int := (List.range d).map fun j => m / 256 ^ (d - 1 - j) % 256
theorem digs_succ (d : Nat) (m : Int) : digs (d + 1) m = digs d (m / 256) ++ [m % 256] := by
  unfold digs
  rw [List.range_succ, List.map_append]
  congr 1
  · apply List.map_congr_left
    intro j hj
    have hj := List.mem_range.1 hj
    rw [Int.ediv_ediv_of_nonneg (by decide)]
    congr 2
    rw [show d + 1 - 1 - j = (d - 1 - j) + 1 by omega, Int.pow_succ, Int.mul_comm]
  · simp
theorem l1_run (x4 : Int) (hx : x4 ≤ 100) : ∀ (d k : Nat) (acc : ByteArray) (m x8 : Int), 0 ≤ m → m < 1099511627776 → x8 + d = x4 → 0 ≤ x8 → d < k → acc.size + d ≤ 100 →
    latinerref03_Int.l1 k x4 acc m x8 = some (strOfNums (digs d m) ++ acc, 0) := by
  intro d
  induction d with
  | zero =>
    intro k acc m x8 h0 h1 h2 h3 h5 h6
    obtain ⟨k, rfl⟩ : ∃ q, k = q + 1 := ⟨k - 1, by omega⟩
    simp only [latinerref03_Int.l1]
    rw [if_neg (by omega)]
    congr 1
  | succ d ih =>
    intro k acc m x8 h0 h1 h2 h3 h5 h6
    obtain ⟨k, rfl⟩ : ∃ q, k = q + 1 := ⟨k - 1, by omega⟩
    simp only [latinerref03_Int.l1]
    rw [if_pos (by omega)]
    simp only [Option.bind_some]
    have ht : Int.tmod m 256 = m % 256 := by rw [Int.tmod_eq_emod_of_nonneg h0]
    have hd : Int.tdiv m 256 = m / 256 := by rw [Int.tdiv_eq_ediv_of_nonneg h0]
    rw [if_pos (by rw [son_size]; simp; omega), ht, hd, w64' (by omega) (by omega), w64' (by omega) (by omega)]
    rw [ih k _ (m / 256) (x8 + 1) (by omega) (by omega) (by omega) (by omega) (by omega) (by rw [ByteArray.size_append, son_size]; simp; omega)]
    rw [digs_succ, son_app, Int.emod_emod_of_dvd _ (by decide)]
    congr 2
    apply ByteArray.ext
    simp
theorem byts1 (n : Int) : byts 1 n = [n % 256] := by simp [byts, List.range_succ]
theorem byts2 (n : Int) : byts 2 n = [n / 256 % 256, n % 256] := by simp [byts, List.range_succ]
theorem byts3 (n : Int) : byts 3 n = [n / 65536 % 256, n / 256 % 256, n % 256] := by simp [byts, List.range_succ]
theorem byts4 (n : Int) : byts 4 n = [n / 16777216 % 256, n / 65536 % 256, n / 256 % 256, n % 256] := by simp [byts, List.range_succ]
theorem digs1 (n : Int) : digs 1 n = [n % 256] := by simp [digs, List.range_succ]
theorem digs2 (n : Int) : digs 2 n = [n / 256 % 256, n % 256] := by simp [digs, List.range_succ]
theorem digs3 (n : Int) : digs 3 n = [n / 65536 % 256, n / 256 % 256, n % 256] := by simp [digs, List.range_succ]
theorem digs4 (n : Int) : digs 4 n = [n / 16777216 % 256, n / 65536 % 256, n / 256 % 256, n % 256] := by simp [digs, List.range_succ]
theorem byts_mod1 (n : Int) : byts 1 n = digs 1 (n + 256) := by rw [byts1, digs1]; congr 1 <;> omega
theorem byts_mod2 (n : Int) : byts 2 n = digs 2 (n + 65536) := by rw [byts2, digs2]; congr 1; omega; congr 1; omega
theorem byts_mod3 (n : Int) : byts 3 n = digs 3 (n + 16777216) := by rw [byts3, digs3]; congr 1; omega; congr 1; omega; congr 1; omega
theorem byts_mod4 (n : Int) : byts 4 n = digs 4 (n + 4294967296) := by rw [byts4, digs4]; congr 1; omega; congr 1; omega; congr 1; omega; congr 1; omega
theorem byts_digs1 (n : Int) : byts 1 n = digs 1 n := by rw [byts1, digs1]
theorem byts_digs2 (n : Int) : byts 2 n = digs 2 n := by rw [byts2, digs2]
theorem byts_digs3 (n : Int) : byts 3 n = digs 3 n := by rw [byts3, digs3]
theorem byts_digs4 (n : Int) : byts 4 n = digs 4 n := by rw [byts4, digs4]
theorem son_nil (x : ByteArray) : x ++ (⟨#[]⟩ : ByteArray) = x := by apply ByteArray.ext; simp
theorem l0_up {k : Nat} {n x4 x5 : Int} (h : n < -x5 ∨ x5 ≤ n) (h0 : 0 < x5) (h1 : x5 < 1099511627776) (h4 : 0 ≤ x4) (h5 : x4 < 100) : latinerref03_Int.l0 (k + 1) n x4 x5 = latinerref03_Int.l0 k n (x4 + 1) (256 * x5) := by
  simp only [latinerref03_Int.l0]
  rw [w64' (n := -x5) (by omega) (by omega), w64' (n := x4 + 1) (by omega) (by omega), w64' (n := 256 * x5) (by omega) (by omega)]
  by_cases hn : n < -x5
  · rw [if_pos hn]
  · rw [if_neg hn, if_pos (by omega)]
theorem l0_stop {k d : Nat} {n x4 x5 : Int} (h : -x5 ≤ n) (h' : n < x5) (h1 : x5 < 274877906944) (h5 : x4 = d) (hd : d < 10) (hk : 20 ≤ k) :
    latinerref03_Int.l0 (k + 1) n x4 x5 = some (strOfNums (digs d (if n < 0 then n + 2 * x5 else n)), 0) := by
  obtain ⟨k, rfl⟩ : ∃ q, k = q + 1 := ⟨k - 1, by omega⟩
  simp only [latinerref03_Int.l0, latinerref03_Int.j2]
  rw [w64' (n := -x5) (by omega) (by omega), w64' (n := 2 * x5) (by omega) (by omega), w64' (n := n + 2 * x5) (by omega) (by omega)]
  rw [if_neg (by omega), if_neg (by omega)]
  by_cases hn : n < 0
  · rw [if_pos hn, if_pos hn, l1_run x4 (by omega) d k _ _ 0 (by omega) (by omega) (by omega) (by omega) (by omega) (by simp [ByteArray.size]; omega), son_nil]
  · rw [if_neg hn, if_neg hn, l1_run x4 (by omega) d k _ _ 0 (by omega) (by omega) (by omega) (by omega) (by omega) (by simp [ByteArray.size]; omega), son_nil]
/-- The reference's Int is the program's. -/
theorem ref_Int (n : Int) (k : Nat) (hk : 40 ≤ k) : latinerref03_Int.f k n = prim_Int.f n := by
  obtain ⟨k, rfl⟩ : ∃ q, k = q + 6 := ⟨k - 6, by omega⟩
  unfold latinerref03_Int.f prim_Int.f
  by_cases h0 : wid n = 0
  · rw [if_pos h0]
    have := wid_zero h0
    by_cases hn : n < -2147483648
    · rw [if_pos hn]; simp [latinerref03_Int.j0]
    · rw [if_neg hn]; simp only [latinerref03_Int.j0]; rw [if_pos (by simp; omega)]
  · rw [if_neg h0]
    have hr := wid_range h0
    rw [if_neg (by omega)]
    simp only [latinerref03_Int.j0]
    rw [if_neg (by simp; omega)]
    by_cases c1 : -128 ≤ n ∧ n < 128
    · have : wid n = 1 := by simp [wid, c1]
      rw [this, l0_stop (d := 1) (by omega) (by omega) (by omega) (by omega) (by omega) (by omega)]
      split
      · rw [byts_mod1]; rfl
      · rw [byts_digs1]
    by_cases c2 : -32768 ≤ n ∧ n < 32768
    · have : wid n = 2 := by unfold wid; rw [if_neg c1, if_pos c2]
      rw [this, l0_up (by omega) (by decide) (by decide) (by decide) (by decide), l0_stop (d := 2) (by omega) (by omega) (by omega) (by omega) (by omega) (by omega)]
      split
      · rw [byts_mod2]; rfl
      · rw [byts_digs2]
    by_cases c3 : -8388608 ≤ n ∧ n < 8388608
    · have : wid n = 3 := by unfold wid; rw [if_neg c1, if_neg c2, if_pos c3]
      rw [this, l0_up (by omega) (by decide) (by decide) (by decide) (by decide), l0_up (by omega) (by decide) (by decide) (by decide) (by decide), l0_stop (d := 3) (by omega) (by omega) (by omega) (by omega) (by omega) (by omega)]
      split
      · rw [byts_mod3]; rfl
      · rw [byts_digs3]
    · have : wid n = 4 := by unfold wid; rw [if_neg c1, if_neg c2, if_neg c3, if_pos (by omega)]
      rw [this, l0_up (by omega) (by decide) (by decide) (by decide) (by decide), l0_up (by omega) (by decide) (by decide) (by decide) (by decide), l0_up (by omega) (by decide) (by decide) (by decide) (by decide), l0_stop (d := 4) (by omega) (by omega) (by omega) (by omega) (by omega) (by omega)]
      split
      · rw [byts_mod4]; rfl
      · rw [byts_digs4]
end Go.Proofs.YtmfnenlinhljkaaDoor.Pure
