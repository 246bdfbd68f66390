import Derived.Test.YtkjmabehphgmkaaDoorLUtfx2
import Derived.Test.YtkjmabehphgmkaaDoorPureB
namespace Go.Proofs.YtkjmabehphgmkaaDoor.Pure
set_option linter.unusedSimpArgs false
set_option linter.unusedVariables false
open Go.RowKit Go.Proofs.YtkjmabehphgmkaaDoor.LUtf Go.Proofs.YtkjmabehphgmkaaDoor.ExtUtf Go.Proofs.YtkjmabehphgmkaaDoor.Utf Go.Proofs.YtkjmabehphgmkaaDoorW.PrintWords Go.Proofs.YtkjmabehphgmkaaDoorW.PrintLast Go.Proofs.YtkjmabehphgmkaaDoor.PureB
set_option maxRecDepth 100000 in
theorem shown_3 : latinerlaw04_shown.f 3 = some true := by decide +kernel
theorem shown_true (n : Nat) : latinerlaw04_shown.f (n + 3) = some true := by
  induction n with
  | zero => exact shown_3
  | succ n ih => exact latinerlaw04_shown.mono (n + 3) _ ih
theorem cut_100 (s : ByteArray) : ∃ t, latinerlaw04_cut.f s = some t ∧ t.size ≤ 100 := by
  unfold latinerlaw04_cut.f
  have h : 0 ≤ mn (s.size : Int) 100 ∧ mn (s.size : Int) 100 ≤ s.size ∧ mn (s.size : Int) 100 ≤ 100 := by unfold mn; split <;> omega
  rw [if_pos h.1, if_pos h.2.1]
  exact ⟨_, rfl, by simp; omega⟩
theorem few_40 (l : List Int) : ∃ t, latinerlaw04_few.f l = some t ∧ t.length ≤ 40 := by
  unfold latinerlaw04_few.f
  have h : 0 ≤ mn (l.length : Int) 40 ∧ mn (l.length : Int) 40 ≤ l.length ∧ mn (l.length : Int) 40 ≤ 40 := by unfold mn; split <;> omega
  rw [if_pos h.1, if_pos h.2.1]
  exact ⟨_, rfl, by simp; omega⟩
/-- Two lists that are the same. -/
theorem ints_l0 (l : List Int) (hl : l.length ≤ 1000000) (d : Nat) : ∀ (k : Nat) (i : Int), 0 ≤ i → (l.length : Int) ≤ i + d → d < k → latinerref04_Ints.l0 k l l i = some true := by
  induction d with
  | zero =>
    intro k i h0 h1 hk
    obtain ⟨k, rfl⟩ : ∃ m, k = m + 1 := ⟨k - 1, by omega⟩
    simp only [latinerref04_Ints.l0]
    rw [if_neg (by omega)]
  | succ d ih =>
    intro k i h0 h1 hk
    obtain ⟨k, rfl⟩ : ∃ m, k = m + 1 := ⟨k - 1, by omega⟩
    simp only [latinerref04_Ints.l0]
    by_cases hlt : i < (l.length : Int)
    · rw [if_pos hlt, if_pos h0, if_pos hlt, w64 (by omega) (by omega)]
      simp only [if_true]
      exact ih k (i + 1) (by omega) (by omega) (by omega)
    · rw [if_neg hlt]
theorem ints_same (l : List Int) (hl : l.length ≤ 1000000) (k : Nat) (hk : l.length < k) : latinerref04_Ints.f k l l = some true := by
  unfold latinerref04_Ints.f
  rw [if_pos rfl]
  exact ints_l0 l hl l.length k 0 (by omega) (by omega) hk
theorem sign_f (c : Int) : latinerref04_sign.f c = some (vr c) := by
  unfold latinerref04_sign.f vr
  repeat' split
  all_goals congr 1
  all_goals first | (symm; apply decide_eq_true; omega) | (symm; apply decide_eq_false; omega) | (rw [decide_eq_decide]; omega)
theorem bytes_f (c : Int) (h : vr c = true) : latinerref04_Bytes.f c = some (strOfNums (eb c)) := by
  simp only [vr, decide_eq_true_eq] at h
  have t : ∀ k : Int, 0 < k → Int.tdiv c k = c / k := fun k hk => Int.tdiv_eq_ediv_of_nonneg (by omega)
  have m : ∀ (a k : Int), 0 ≤ a → 0 < k → Int.tmod a k = a % k := fun a k ha hk => Int.tmod_eq_emod_of_nonneg ha
  unfold latinerref04_Bytes.f eb
  have q1 := t 64 (by decide)
  have q2 := t 4096 (by decide)
  have q3 := t 262144 (by decide)
  have d1 : 0 ≤ c / 64 ∧ c / 64 ≤ 1114111 := by omega
  have d2 : 0 ≤ c / 4096 ∧ c / 4096 ≤ 1114111 := by omega
  have d3 : 0 ≤ c / 262144 ∧ c / 262144 ≤ 4 := by omega
  rw [q1, q2, q3, w64 (n := c / 64) (by omega) (by omega), w64 (n := c / 4096) (by omega) (by omega), w64 (n := c / 262144) (by omega) (by omega), m c 64 (by omega) (by decide), m (c / 64) 64 (by omega) (by decide), m (c / 4096) 64 (by omega) (by decide)]
  rw [w64 (n := 192 + c / 64) (by omega) (by omega), w64 (n := 128 + c % 64) (by omega) (by omega), w64 (n := 224 + c / 4096) (by omega) (by omega), w64 (n := 128 + c / 64 % 64) (by omega) (by omega), w64 (n := 240 + c / 262144) (by omega) (by omega), w64 (n := 128 + c / 4096 % 64) (by omega) (by omega)]
  by_cases h1 : c < 128
  · rw [if_pos h1, if_pos h1, show c % 256 = c by omega]
  rw [if_neg h1, if_neg h1]
  by_cases h2 : c < 2048
  · rw [if_pos h2, if_pos h2, show (192 + c / 64) % 256 = 192 + c / 64 by omega, show (128 + c % 64) % 256 = 128 + c % 64 by omega]
  rw [if_neg h2, if_neg h2]
  by_cases h3 : c < 65536
  · rw [if_pos h3, if_pos h3, show (224 + c / 4096) % 256 = 224 + c / 4096 by omega, show (128 + c / 64 % 64) % 256 = 128 + c / 64 % 64 by omega, show (128 + c % 64) % 256 = 128 + c % 64 by omega]
  rw [if_neg h3, if_neg h3, show (240 + c / 262144) % 256 = 240 + c / 262144 by omega, show (128 + c / 4096 % 64) % 256 = 128 + c / 4096 % 64 by omega, show (128 + c / 64 % 64) % 256 = 128 + c / 64 % 64 by omega, show (128 + c % 64) % 256 = 128 + c % 64 by omega]
/-- The bytes of a sign stand at a place. -/
theorem pre_iff (s : ByteArray) (i m : Nat) (c : Int) (h : vr c = true) (hm : i + m ≤ s.size) : (strOfNums (eb c)).toList = (s.extract i (i + m)).toList ↔ (eb c).length = m ∧ Pre s i (eb c) := by
  have hb := eb_byte c h
  rw [toList_inj]
  have hes : (s.extract i (i + m)).size = m := by rw [extract_size _ _ _ hm]; omega
  constructor
  · intro e
    have hl : (eb c).length = m := by have := congrArg ByteArray.size e; rw [son_size, hes] at this; exact this
    refine ⟨hl, by omega, fun j hj => ?_⟩
    have := congrArg (fun z => bt z j) e
    have hj2 : (eb c)[j]? = some ((eb c)[j]) := List.getElem?_eq_getElem hj
    have hbj := hb _ (List.getElem_mem hj)
    rw [bt_son _ _ _ hj2 hbj.1 hbj.2, bt_extract _ _ _ _ (by omega) hm] at this
    rw [← this]
    simp [List.getD_eq_getElem?_getD, hj2]
  · rintro ⟨hl, _, hp⟩
    refine ba_ext (by rw [son_size, hes, hl]) (fun j hj => ?_)
    rw [son_size] at hj
    have hj2 : (eb c)[j]? = some ((eb c)[j]) := List.getElem?_eq_getElem hj
    have hbj := hb _ (List.getElem_mem hj)
    rw [bt_son _ _ _ hj2 hbj.1 hbj.2, bt_extract _ _ _ _ (by omega) hm, hp j hj]
    simp [List.getD_eq_getElem?_getD, hj2]
end Go.Proofs.YtkjmabehphgmkaaDoor.Pure
