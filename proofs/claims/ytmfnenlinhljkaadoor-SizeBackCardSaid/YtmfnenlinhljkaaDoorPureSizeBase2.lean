import Derived.Test.YtmfnenlinhljkaaDoorPureSizeBase
namespace Go.Proofs.YtmfnenlinhljkaaDoor.Pure
set_option linter.unusedSimpArgs false
set_option linter.unusedVariables false
open Go.RowKit Go.Proofs.YtmfnenlinhljkaaDoor.LSize Go.Proofs.YtmfnenlinhljkaaDoor.ExtSize Go.Proofs.YtmfnenlinhljkaaDoor.Size Go.Proofs.YtmfnenlinhljkaaDoorW.PrintWords Go.Proofs.YtmfnenlinhljkaaDoorW.PrintLast
/-- What a reading answers: an error, one byte, or some. -/
theorem dec_cases (s : ByteArray) (i : Int) :
    (decS s i = (0, 0, 10) ∧ ¬ (0 ≤ i ∧ i < s.size)) ∨
    (0 ≤ i ∧ i < s.size ∧ bt s i < 128 ∧ decS s i = (bt s i, i + 1, 0)) ∨
    (0 ≤ i ∧ i < s.size ∧ (bt s i = 128 ∨ 132 < bt s i) ∧ decS s i = (0, 0, 11)) ∨
    (0 ≤ i ∧ i < s.size ∧ 128 < bt s i ∧ bt s i ≤ 132 ∧ (s.size : Int) < i + 1 + (bt s i - 128) ∧ decS s i = (0, 0, 10)) ∨
    (∃ k : Nat, 1 ≤ k ∧ k ≤ 4 ∧ bt s i = 128 + k ∧ 0 ≤ i ∧ i + 1 + k ≤ s.size ∧ 16777215 < vl s (i + 1) k ∧ decS s i = (0, 0, 12)) ∨
    (∃ k : Nat, 1 ≤ k ∧ k ≤ 4 ∧ bt s i = 128 + k ∧ 0 ≤ i ∧ i + 1 + k ≤ s.size ∧ vl s (i + 1) k ≤ 16777215 ∧ decS s i = (vl s (i + 1) k, i + 1 + k, 0)) := by
  by_cases h0 : 0 ≤ i ∧ i < s.size
  · by_cases h1 : bt s i < 128
    · right; left; refine ⟨h0.1, h0.2, h1, ?_⟩; unfold decS; rw [if_pos h0, if_pos h1]
    by_cases h2 : bt s i = 128 ∨ 132 < bt s i
    · right; right; left; refine ⟨h0.1, h0.2, h2, ?_⟩; unfold decS; rw [if_pos h0, if_neg h1, if_pos h2]
    by_cases h3 : (s.size : Int) < i + 1 + (bt s i - 128)
    · right; right; right; left; refine ⟨h0.1, h0.2, by omega, by omega, h3, ?_⟩; unfold decS; rw [if_pos h0, if_neg h1, if_neg h2, if_pos h3]
    obtain ⟨k, hk⟩ : ∃ k : Nat, bt s i = 128 + k := ⟨(bt s i - 128).toNat, by omega⟩
    have hkk : bt s i - 128 = k := by omega
    have hkn : (bt s i - 128).toNat = k := by omega
    by_cases h4 : 16777215 < vl s (i + 1) k
    · right; right; right; right; left
      refine ⟨k, by omega, by omega, hk, h0.1, by omega, h4, ?_⟩
      unfold decS; rw [if_pos h0, if_neg h1, if_neg h2, if_neg h3, hkn, if_pos h4]
    · right; right; right; right; right
      refine ⟨k, by omega, by omega, hk, h0.1, by omega, by omega, ?_⟩
      unfold decS; rw [if_pos h0, if_neg h1, if_neg h2, if_neg h3, hkn, if_neg h4, hkk]
  · left; refine ⟨?_, h0⟩; unfold decS; rw [if_neg h0]
theorem vl_bd (s : ByteArray) (i : Int) (k : Nat) : 0 ≤ vl s i k ∧ vl s i k < 256 ^ k := by
  induction k with
  | zero => simp [vl]
  | succ k ih =>
    have := bt_bd s (i + k)
    rw [vl_succ, Int.pow_succ]
    omega
theorem dec_ok (s : ByteArray) (i : Int) (h : (decS s i).2.2 = 0) : ¬ ((decS s i).1 < 0 ∨ 16777215 < (decS s i).1) ∧ 0 ≤ i ∧ i < s.size ∧ (decS s i).2.1 ≤ s.size ∧ i + ((encS (decS s i).1).size : Nat) ≤ (decS s i).2.1 ∧ (decS s i).2.1 ≤ i + 5 := by
  have hb := bt_bd s i
  rcases dec_cases s i with ⟨e, _⟩ | ⟨h0, h1, h2, e⟩ | ⟨_, _, _, e⟩ | ⟨_, _, _, _, _, e⟩ | ⟨_, _, _, _, _, _, _, e⟩ | ⟨k, k1, k4, hk, h0, h1, h2, e⟩
  · rw [e] at h; exact absurd h (by decide)
  · rw [e]
    have hn : ¬ (bt s i < 0 ∨ 16777215 < bt s i) := by omega
    have := enc_size _ hn
    rw [if_pos h2] at this
    exact ⟨hn, h0, h1, by show i + 1 ≤ _; omega, by show i + ((encS (bt s i)).size : Nat) ≤ i + 1; omega, by show i + 1 ≤ _; omega⟩
  · rw [e] at h; exact absurd h (by decide)
  · rw [e] at h; exact absurd h (by decide)
  · rw [e] at h; exact absurd h (by decide)
  · rw [e]
    have hv := vl_bd s (i + 1) k
    have hn : ¬ (vl s (i + 1) k < 0 ∨ 16777215 < vl s (i + 1) k) := by omega
    have hz := enc_size _ hn
    have hle : (encS (vl s (i + 1) k)).size ≤ 1 + k := by
      rw [hz]
      rcases (show k = 1 ∨ k = 2 ∨ k = 3 ∨ k = 4 by omega) with rfl | rfl | rfl | rfl
      · have : vl s (i + 1) 1 < 256 := hv.2
        split <;> (try split) <;> (try split) <;> omega
      · have : vl s (i + 1) 2 < 65536 := hv.2
        split <;> (try split) <;> (try split) <;> omega
      · split <;> (try split) <;> (try split) <;> omega
      · split <;> (try split) <;> (try split) <;> omega
    exact ⟨hn, h0, by omega, by show i + 1 + k ≤ _; omega, by show i + ((encS (vl s (i + 1) k)).size : Nat) ≤ i + 1 + k; omega, by show i + 1 + k ≤ _; omega⟩
theorem dec_no (s : ByteArray) (i : Int) (h : ¬ (decS s i).2.2 = 0) : (decS s i).1 = 0 ∧ (decS s i).2.1 = 0 := by
  rcases dec_cases s i with ⟨e, _⟩ | ⟨h0, h1, h2, e⟩ | ⟨_, _, _, e⟩ | ⟨_, _, _, _, _, e⟩ | ⟨_, _, _, _, _, _, _, e⟩ | ⟨k, k1, k4, hk, h0, h1, h2, e⟩
  all_goals rw [e] at h ⊢
  · exact ⟨rfl, rfl⟩
  · exact absurd rfl h
  · exact ⟨rfl, rfl⟩
  · exact ⟨rfl, rfl⟩
  · exact ⟨rfl, rfl⟩
  · exact absurd rfl h
/-- IsLeast, of a reading. -/
theorem least_f (s : ByteArray) (i : Int) (hs : s.size ≤ 1000) : size_IsLeast.f s i = some (if (decS s i).2.2 = 0 then ((decS s i).2.1 - i == ((encS (decS s i).1).size : Int)) else false) := by
  unfold size_IsLeast.f size_Decode.f size_Size.f
  rw [if_pos hs]
  simp only [Option.bind_some]
  by_cases h : (decS s i).2.2 = 0
  · obtain ⟨hn, h0, h1, h2, h3, h4⟩ := dec_ok s i h
    rw [if_pos h, if_pos h, encE_ok hn, if_pos rfl, w64' (by omega) (by omega)]
  · rw [if_neg h, if_neg h]
theorem dec_f (s : ByteArray) (i : Int) (hs : s.size ≤ 1000) : size_Decode.f s i = some (decS s i) := by unfold size_Decode.f; rw [if_pos hs]
theorem nil_list : (⟨#[]⟩ : ByteArray).toList = [] := by rw [Lib.toList_data]
end Go.Proofs.YtmfnenlinhljkaaDoor.Pure
