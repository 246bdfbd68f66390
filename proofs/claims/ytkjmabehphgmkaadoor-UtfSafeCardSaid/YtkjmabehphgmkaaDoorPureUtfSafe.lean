import Derived.Test.YtkjmabehphgmkaaDoorPureUtfMore
import Derived.Test.YtkjmabehphgmkaaDoorLUtfx5
namespace Go.Proofs.YtkjmabehphgmkaaDoor.Pure
set_option linter.unusedSimpArgs false
set_option linter.unusedVariables false
open Go.RowKit Go.Proofs.YtkjmabehphgmkaaDoor.LUtf Go.Proofs.YtkjmabehphgmkaaDoor.ExtUtf Go.Proofs.YtkjmabehphgmkaaDoor.Utf Go.Proofs.YtkjmabehphgmkaaDoorW.PrintWords Go.Proofs.YtkjmabehphgmkaaDoorW.PrintLast Go.Proofs.YtkjmabehphgmkaaDoor.PureB
/-- Bytes below 128 are signs, one by one. -/
theorem ascii_runs (s : ByteArray) (h : ∀ j : Nat, j < s.size → bt s j < 128) : ∀ (d i : Nat), s.size = i + d → ∃ l, Runs s i l s.size ∧ l.length = d
  | 0, i, hd => ⟨[], by have : i = s.size := by omega
                        subst this; exact Runs.nil _, rfl⟩
  | d + 1, i, hd => by
    obtain ⟨l, hr, hl⟩ := ascii_runs s h d (i + 1) (by omega)
    have hb := h i (by omega)
    have h0 := (bt_range s (i : Int)).1
    have he : eb (bt s i) = [bt s i] := by unfold eb; rw [if_pos hb]
    refine ⟨bt s i :: l, Runs.cons i _ l _ (by unfold vr; apply decide_eq_true; omega) ⟨by rw [he]; simp; omega, fun j hj => ?_⟩ (by rw [he]; exact hr), by simp [hl]⟩
    rw [he] at hj ⊢
    obtain rfl : j = 0 := by simpa using hj
    simp
theorem safe_right {s : ByteArray} (h : Safe s) : bad s = -1 ∧ (sgn s).length = s.size := by
  obtain ⟨l, hr, hl⟩ := ascii_runs s (fun j hj => by have := h.1 j hj; unfold okB at this; omega) s.size 0 (by omega)
  obtain ⟨h1, h2⟩ := bad_of_runs hr
  exact ⟨h2, by rw [h1, hl]⟩
theorem bt_app_l0 (p q : ByteArray) (h : 0 < p.size) : bt (p ++ q) 0 = bt p 0 := bt_app_l p q 0 h
theorem bt_last (p : ByteArray) (x : UInt8) : bt (p ++ ⟨#[x]⟩) (((p ++ ⟨#[x]⟩).size : Int) - 1) = (x.toNat : Int) := by
  have e : (((p ++ ⟨#[x]⟩).size : Int) - 1) = (p.size : Int) + ((0 : Nat) : Int) := by rw [ByteArray.size_append, one_size]; omega
  rw [e, bt_app_r]
  rfl
theorem UtfSafe : latinerlaw04_UtfSafe.Pure := by
  intro a0 _
  obtain ⟨s, hs, hsz⟩ := cut_100 a0
  refine ⟨297 + 3, ?_⟩
  have e0 := shown_true 297
  have e1 : utf_Signs.f s = some (sgV s, sgE s) := if_pos (by omega)
  have e2 : utf_IsSafe.f s = some (sfV s) := if_pos (by omega)
  have z1 : ∀ (x : UInt8) (t : ByteArray), ((⟨#[x]⟩ : ByteArray) ++ t).size = 1 + t.size := fun x t => by rw [ByteArray.size_append, one_size]
  have z2 : ∀ (t : ByteArray) (x : UInt8), (t ++ (⟨#[x]⟩ : ByteArray)).size = t.size + 1 := fun t x => by rw [ByteArray.size_append, one_size]
  have e3 : utf_IsSafe.f ((⟨#[32]⟩ : ByteArray) ++ s) = some (sfV ((⟨#[32]⟩ : ByteArray) ++ s)) := if_pos (by rw [z1]; omega)
  have e4 : utf_IsSafe.f (s ++ (⟨#[32]⟩ : ByteArray)) = some (sfV (s ++ (⟨#[32]⟩ : ByteArray))) := if_pos (by rw [z2]; omega)
  have e5 : utf_IsSafe.f (s ++ (⟨#[10]⟩ : ByteArray)) = some (sfV (s ++ (⟨#[10]⟩ : ByteArray))) := if_pos (by rw [z2]; omega)
  have e6 : utf_IsSafe.f (((⟨#[97]⟩ : ByteArray) ++ s) ++ (⟨#[97]⟩ : ByteArray)) = some (sfV (((⟨#[97]⟩ : ByteArray) ++ s) ++ (⟨#[97]⟩ : ByteArray))) := if_pos (by rw [z2, z1]; omega)
  generalize (297 + 3 : Nat) = k at *
  unfold latinerlaw04_UtfSafe.f
  simp only [e0, hs, e1, e2, e3, e4, e5, e6, Option.bind_some, if_true]
  by_cases hS : sfV s = true
  · have hF := (sfV_iff s).1 hS
    obtain ⟨r1, r2⟩ := safe_right hF
    have g1 : sgE s = 0 := if_pos (by omega)
    have g2 : sgV s = sgn s := if_pos (by omega)
    have n1 : ¬ sfV ((⟨#[32]⟩ : ByteArray) ++ s) = true := fun q => by
      have h1 := ((sfV_iff _).1 q).2 (by rw [z1]; omega)
      rw [bt_app_l0 _ _ (by decide)] at h1
      exact h1.1 rfl
    have n2 : ¬ sfV (s ++ (⟨#[32]⟩ : ByteArray)) = true := fun q => by
      have h1 := ((sfV_iff _).1 q).2 (by rw [z2]; omega)
      rw [bt_last] at h1
      exact h1.2.2.2 rfl
    have n3 : ¬ sfV (s ++ (⟨#[10]⟩ : ByteArray)) = true := fun q => by
      have h1 := ((sfV_iff _).1 q).1 s.size (by rw [z2]; omega)
      have h2 := bt_app_r s (⟨#[10]⟩ : ByteArray) 0
      rw [show (s.size : Int) + ((0 : Nat) : Int) = s.size by omega] at h2
      rw [h2] at h1
      exact h1.2.2.1 rfl
    have y4 : sfV (((⟨#[97]⟩ : ByteArray) ++ s) ++ (⟨#[97]⟩ : ByteArray)) = true := by
      refine (sfV_iff _).2 ⟨fun j hj => ?_, fun _ => ?_⟩
      · rw [z2, z1] at hj
        rcases Nat.lt_or_ge j (1 + s.size) with h1 | h1
        · rw [bt_app_l _ _ j (by rw [z1]; omega)]
          rcases Nat.eq_zero_or_pos j with h2 | h2
          · subst h2
            rw [bt_app_l _ _ 0 (by decide)]
            unfold okB
            decide
          · have e := bt_app_r (⟨#[97]⟩ : ByteArray) s (j - 1)
            rw [one_size, show ((1 : Nat) : Int) + ((j - 1 : Nat) : Int) = (j : Int) by omega] at e
            rw [e]
            exact hF.1 (j - 1) (by omega)
        · have e := bt_app_r ((⟨#[97]⟩ : ByteArray) ++ s) (⟨#[97]⟩ : ByteArray) 0
          rw [z1, show ((1 + s.size : Nat) : Int) + ((0 : Nat) : Int) = (j : Int) by omega] at e
          rw [e]
          unfold okB
          decide
      · have e : bt (((⟨#[97]⟩ : ByteArray) ++ s) ++ (⟨#[97]⟩ : ByteArray)) 0 = 97 := by
          rw [bt_app_l0 _ _ (by rw [z1]; omega), bt_app_l0 _ _ (by decide)]
          rfl
        rw [e, bt_last]
        decide
    rw [if_pos hS, if_pos g1, if_pos (by rw [g2, r2]), if_pos (by omega), if_neg n1, if_pos (by omega), if_neg n2, if_neg n3, if_pos (by rw [z1]; omega), y4]
  · rw [if_neg hS]
    congr 1
    rw [bne_iff_ne]
    intro q
    have hz := toList_nil.1 q
    exact hS ((sfV_iff s).2 ⟨fun j hj => by omega, fun h => by omega⟩)
end Go.Proofs.YtkjmabehphgmkaaDoor.Pure
