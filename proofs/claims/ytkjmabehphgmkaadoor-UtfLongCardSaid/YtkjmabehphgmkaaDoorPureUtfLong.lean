import Derived.Test.YtkjmabehphgmkaaDoorPureUtfMore
import Derived.Test.YtkjmabehphgmkaaDoorLUtfx6
namespace Go.Proofs.YtkjmabehphgmkaaDoor.Pure
set_option linter.unusedSimpArgs false
set_option linter.unusedVariables false
open Go.RowKit Go.Proofs.YtkjmabehphgmkaaDoor.LUtf Go.Proofs.YtkjmabehphgmkaaDoor.ExtUtf Go.Proofs.YtkjmabehphgmkaaDoor.Utf Go.Proofs.YtkjmabehphgmkaaDoorW.PrintWords Go.Proofs.YtkjmabehphgmkaaDoorW.PrintLast Go.Proofs.YtkjmabehphgmkaaDoor.PureB
open Classical in
/-- Some bytes that begin with one that asks for all of them: right just if they are a sign's. -/
theorem right_row (xs : List Int) (hx : ∀ x ∈ xs, 0 ≤ x ∧ x < 256) (K : Nat) (hK : xs.length = K) (h0 : 2 ≤ K) (hl : lead (xs.getD 0 0) = K) (h1 : K ≤ 4) :
    utf_Right.f (strOfNums xs) = some (decide (∃ c, vr c = true ∧ eb c = xs)) := by
  have hz : (strOfNums xs).size = K := by rw [son_size]; exact hK
  have e : utf_Right.f (strOfNums xs) = some (decide (bad (strOfNums xs) < 0)) := if_pos (by omega)
  rw [e]
  congr 1
  rw [decide_eq_decide]
  have b0 : bt (strOfNums xs) ((0 : Nat) : Int) = xs.getD 0 0 := by
    rcases xs with _ | ⟨x, r⟩
    · simp at hK; omega
    · exact bt_son _ 0 x rfl (hx x (by simp)).1 (hx x (by simp)).2
  constructor
  · intro hb
    obtain ⟨hr, _⟩ := right_runs hb
    generalize hg : sgn (strOfNums xs) = l at hr
    generalize hjz : (strOfNums xs).size = j0 at hr
    cases hr with
    | nil => omega
    | cons _ c l' _ hc hp h' =>
      refine ⟨c, hc, ?_⟩
      obtain ⟨q1, _⟩ := vu_pre hc hp
      rw [b0, hl] at q1
      apply List.ext_getElem?
      intro j
      by_cases hj : j < K
      · have h2 := hp.2 j (by omega)
        have hxj : xs[j]? = some (xs[j]'(by omega)) := List.getElem?_eq_getElem (by omega)
        have hbb := hx _ (List.mem_of_getElem? hxj)
        have h3 := bt_son xs j _ hxj hbb.1 hbb.2
        rw [show ((0 : Nat) : Int) + (j : Int) = j by omega, h3] at h2
        rw [hxj]
        have h4 : (eb c)[j]? = some ((eb c)[j]'(by omega)) := List.getElem?_eq_getElem (by omega)
        rw [h4]
        simp [List.getD_eq_getElem?_getD, h4] at h2
        rw [h2]
      · rw [List.getElem?_eq_none (by omega), List.getElem?_eq_none (by omega)]
  · rintro ⟨c, hc, rfl⟩
    obtain ⟨_, r⟩ := text_right [c] (by simpa using hc)
    rw [show ebs [c] = eb c by simp [ebs]] at r
    omega
open Classical in
theorem UtfLong : latinerlaw04_UtfLong.Pure := by
  intro n hwf
  refine ⟨197 + 3, ?_⟩
  have e0 := shown_true 197
  have e1 : utf_Text.f [n] = some (txS [n], txE [n]) := if_pos (by simp)
  generalize (197 + 3 : Nat) = k at *
  unfold latinerlaw04_UtfLong.f
  simp only [e0, e1, Option.bind_some, if_true]
  by_cases hv : vr n = true
  · have g1 : txE [n] = 0 := if_pos (by simpa using hv)
    have hv2 := hv
    simp only [vr, decide_eq_true_eq] at hv2
    rw [if_pos g1]
    have t : ∀ k : Int, 0 < k → Int.tdiv n k = n / k := fun k hk => Int.tdiv_eq_ediv_of_nonneg (by omega)
    have m : ∀ (a k : Int), 0 ≤ a → Int.tmod a k = a % k := fun a k ha => Int.tmod_eq_emod_of_nonneg ha
    have d1 : 0 ≤ n / 64 ∧ n / 64 ≤ 1114111 := by omega
    have d2 : 0 ≤ n / 4096 ∧ n / 4096 ≤ 1114111 := by omega
    have d3 : 0 ≤ n / 262144 ∧ n / 262144 ≤ 4 := by omega
    rw [t 64 (by decide), t 4096 (by decide), t 262144 (by decide), w64 (n := n / 64) (by omega) (by omega), w64 (n := n / 4096) (by omega) (by omega), w64 (n := n / 262144) (by omega) (by omega)]
    rw [m n 64 (by omega), m (n / 64) 64 (by omega), m (n / 64) 32 (by omega), m (n / 4096) 16 (by omega), m (n / 4096) 64 (by omega), m (n / 262144) 8 (by omega)]
    rw [w64 (n := 224 + n / 4096 % 16) (by omega) (by omega), w64 (n := 128 + n / 64 % 64) (by omega) (by omega), w64 (n := 128 + n % 64) (by omega) (by omega), w64 (n := 240 + n / 262144 % 8) (by omega) (by omega), w64 (n := 128 + n / 4096 % 64) (by omega) (by omega), w64 (n := 192 + n / 64 % 32) (by omega) (by omega)]
    rw [show (224 + n / 4096 % 16) % 256 = 224 + n / 4096 % 16 by omega, show (128 + n / 64 % 64) % 256 = 128 + n / 64 % 64 by omega, show (128 + n % 64) % 256 = 128 + n % 64 by omega, show (240 + n / 262144 % 8) % 256 = 240 + n / 262144 % 8 by omega, show (128 + n / 4096 % 64) % 256 = 128 + n / 4096 % 64 by omega, show (192 + n / 64 % 32) % 256 = 192 + n / 64 % 32 by omega]
    -- the three rows
    have r3 := right_row [224 + n / 4096 % 16, 128 + n / 64 % 64, 128 + n % 64] (by intro x hx; simp at hx; omega) 3 rfl (by omega) (by show lead (224 + n / 4096 % 16) = 3; unfold lead; rw [if_neg (by omega), if_pos (by omega)]) (by omega)
    have r4 := right_row [240 + n / 262144 % 8, 128 + n / 4096 % 64, 128 + n / 64 % 64, 128 + n % 64] (by intro x hx; simp at hx; omega) 4 rfl (by omega) (by show lead (240 + n / 262144 % 8) = 4; unfold lead; rw [if_pos (by omega)]) (by omega)
    have r2 := right_row [192 + n / 64 % 32, 128 + n % 64] (by intro x hx; simp at hx; omega) 2 rfl (by omega) (by show lead (192 + n / 64 % 32) = 2; unfold lead; rw [if_neg (by omega), if_neg (by omega), if_pos (by omega)]) (by omega)
    have x3 : (∃ c, vr c = true ∧ eb c = [224 + n / 4096 % 16, 128 + n / 64 % 64, 128 + n % 64]) ↔ 2048 ≤ n % 65536 ∧ ¬ (55296 ≤ n % 65536 ∧ n % 65536 ≤ 57343) := by
      constructor
      · rintro ⟨c, hc, he⟩
        simp only [vr, decide_eq_true_eq] at hc
        unfold eb at he
        repeat' split at he
        all_goals simp at he
        omega
      · intro h
        refine ⟨n % 65536, by unfold vr; apply decide_eq_true; omega, ?_⟩
        unfold eb
        rw [if_neg (by omega), if_neg (by omega), if_pos (by omega)]
        simp only [List.cons.injEq, and_true]
        omega
    have x4 : (∃ c, vr c = true ∧ eb c = [240 + n / 262144 % 8, 128 + n / 4096 % 64, 128 + n / 64 % 64, 128 + n % 64]) ↔ 65536 ≤ n := by
      constructor
      · rintro ⟨c, hc, he⟩
        simp only [vr, decide_eq_true_eq] at hc
        unfold eb at he
        repeat' split at he
        all_goals simp at he
        omega
      · intro h
        refine ⟨n, hv, ?_⟩
        unfold eb
        rw [if_neg (by omega), if_neg (by omega), if_neg (by omega)]
        simp only [List.cons.injEq, and_true]
        omega
    have x2 : n < 2048 → ((∃ c, vr c = true ∧ eb c = [192 + n / 64 % 32, 128 + n % 64]) ↔ n ≥ 128) := by
      intro hn
      constructor
      · rintro ⟨c, hc, he⟩
        simp only [vr, decide_eq_true_eq] at hc
        unfold eb at he
        repeat' split at he
        all_goals simp at he
        omega
      · intro h
        refine ⟨n, hv, ?_⟩
        unfold eb
        rw [if_neg (by omega), if_pos (by omega)]
        simp only [List.cons.injEq, and_true]
        omega
    by_cases c1 : n < 2048
    · rw [if_pos c1, r2, r3, r4]
      simp only [Option.bind_some]
      have q2 : decide (∃ c, vr c = true ∧ eb c = [192 + n / 64 % 32, 128 + n % 64]) = decide (n ≥ 128) := decide_eq_decide.2 (x2 c1)
      rw [q2, if_pos (by simp)]
      have q3 : decide (∃ c, vr c = true ∧ eb c = [224 + n / 4096 % 16, 128 + n / 64 % 64, 128 + n % 64]) = false := decide_eq_false (fun h => by have := x3.1 h; omega)
      have q4 : decide (∃ c, vr c = true ∧ eb c = [240 + n / 262144 % 8, 128 + n / 4096 % 64, 128 + n / 64 % 64, 128 + n % 64]) = false := decide_eq_false (fun h => by have := x4.1 h; omega)
      rw [q3, q4]
      rfl
    · rw [if_neg c1, r3, r4]
      simp only [Option.bind_some]
      by_cases c2 : n < 65536
      · have q3 : decide (∃ c, vr c = true ∧ eb c = [224 + n / 4096 % 16, 128 + n / 64 % 64, 128 + n % 64]) = true := decide_eq_true (x3.2 (by omega))
        rw [q3, if_pos (by simp [c2])]
      · have q4 : decide (∃ c, vr c = true ∧ eb c = [240 + n / 262144 % 8, 128 + n / 4096 % 64, 128 + n / 64 % 64, 128 + n % 64]) = true := decide_eq_true (x4.2 (by omega))
        rw [q4]
        split
        · rfl
        · rw [if_pos (by omega)]
  · have hn : ¬ ∀ c ∈ [n], vr c = true := fun q => hv (q n (by simp))
    have g1 : txE [n] = 40 := if_neg hn
    rw [if_neg (by omega)]
end Go.Proofs.YtkjmabehphgmkaaDoor.Pure
