import Derived.Test.YtkjmabehphgmkaaDoorPureUtfMore
import Derived.Test.YtkjmabehphgmkaaDoorLUtfx4b
namespace Go.Proofs.YtkjmabehphgmkaaDoor.Pure
set_option linter.unusedSimpArgs false
set_option linter.unusedVariables false
open Go.RowKit Go.Proofs.YtkjmabehphgmkaaDoor.LUtf Go.Proofs.YtkjmabehphgmkaaDoor.ExtUtf Go.Proofs.YtkjmabehphgmkaaDoor.Utf Go.Proofs.YtkjmabehphgmkaaDoorW.PrintWords Go.Proofs.YtkjmabehphgmkaaDoorW.PrintLast Go.Proofs.YtkjmabehphgmkaaDoor.PureB
theorem UtfBad : latinerlaw04_UtfBad.Pure := by
  intro a0 a1 _ _
  obtain ⟨s, hs, hsz⟩ := cut_100 a0
  obtain ⟨t, ht, htz⟩ := cut_100 a1
  refine ⟨197 + 3, ?_⟩
  have e0 := shown_true 197
  have e1 : utf_Bad.f s = some (bad s) := if_pos (by omega)
  have e2 : utf_Bad.f t = some (bad t) := if_pos (by omega)
  have e3 : utf_Bad.f (s ++ t) = some (bad (s ++ t)) := if_pos (by rw [ByteArray.size_append]; omega)
  have e4 : utf_Right.f s = some (decide (bad s < 0)) := if_pos (by omega)
  generalize (197 + 3 : Nat) = k at *
  unfold latinerlaw04_UtfBad.f
  simp only [e0, hs, ht, e1, e2, e3, e4, Option.bind_some, if_true]
  have hge := bad_ge s
  by_cases hb : bad s < 0
  · have ha := (bad_append (t := t) hb).2
    rw [if_pos hb, if_pos (by omega), if_pos (by omega), if_pos (by simpa using hb)]
    by_cases hc : bad t < 0
    · rw [if_pos hc] at ha
      rw [if_pos hc, if_pos ha]
    · rw [if_neg hc] at ha
      have hlt := bad_lt t
      rw [if_neg hc, if_pos (by omega), ha, w64 (by omega) (by omega), beq_self_eq_true]
  · obtain ⟨n, hn⟩ : ∃ n : Nat, bad s = n := ⟨(bad s).toNat, by omega⟩
    obtain ⟨h1, h2, h3⟩ := bad_cut hn
    have e5 : utf_Right.f (s.extract 0 n) = some (decide (bad (s.extract 0 n) < 0)) := if_pos (by rw [extract_size _ _ _ (by omega)]; omega)
    have e6 : utf_Right.f (s.extract 0 (n + 1)) = some (decide (bad (s.extract 0 (n + 1)) < 0)) := if_pos (by rw [extract_size _ _ _ (by omega)]; omega)
    have t1 : ((n : Int)).toNat = n := by omega
    have t2 : ((n : Int) + 1).toNat = n + 1 := by omega
    rw [hn, if_neg (by omega), if_pos (by omega), if_neg (by simp), if_pos (by omega), if_pos (by omega), w64 (by omega) (by omega), t1, t2, e5, e6]
    simp only [Option.bind_some]
    rw [if_pos (by rw [h2]; rfl), if_pos (by omega), if_pos (by omega)]
    have : ¬ bad (s.extract 0 (n + 1)) < 0 := by omega
    simp [this]
end Go.Proofs.YtkjmabehphgmkaaDoor.Pure
