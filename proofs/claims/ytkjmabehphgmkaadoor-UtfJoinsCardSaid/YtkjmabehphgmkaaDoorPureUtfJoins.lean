import Derived.Test.YtkjmabehphgmkaaDoorPureUtfMore
import Derived.Test.YtkjmabehphgmkaaDoorLUtfx5
namespace Go.Proofs.YtkjmabehphgmkaaDoor.Pure
set_option linter.unusedSimpArgs false
set_option linter.unusedVariables false
open Go.RowKit Go.Proofs.YtkjmabehphgmkaaDoor.LUtf Go.Proofs.YtkjmabehphgmkaaDoor.ExtUtf Go.Proofs.YtkjmabehphgmkaaDoor.Utf Go.Proofs.YtkjmabehphgmkaaDoorW.PrintWords Go.Proofs.YtkjmabehphgmkaaDoorW.PrintLast Go.Proofs.YtkjmabehphgmkaaDoor.PureB
theorem UtfJoins : latinerlaw04_UtfJoins.Pure := by
  intro a0 a1 _ _
  obtain ⟨s, hs, hsz⟩ := cut_100 a0
  obtain ⟨t, ht, htz⟩ := cut_100 a1
  refine ⟨297 + 3, ?_⟩
  have e0 := shown_true 297
  have l1 := sgV_len s
  have l2 := sgV_len t
  have e1 : utf_Signs.f s = some (sgV s, sgE s) := if_pos (by omega)
  have e2 : utf_Signs.f t = some (sgV t, sgE t) := if_pos (by omega)
  have e3 : utf_Signs.f (s ++ t) = some (sgV (s ++ t), sgE (s ++ t)) := if_pos (by rw [ByteArray.size_append]; omega)
  have e4 := ints_same (sgV s ++ sgV t) (by simp; omega) (297 + 3) (by simp; omega)
  generalize (297 + 3 : Nat) = k at *
  unfold latinerlaw04_UtfJoins.f
  simp only [e0, hs, ht, e1, e2, e3, Option.bind_some, if_true, List.nil_append, List.length_nil]
  rw [if_pos (by omega)]
  by_cases hb : bad s < 0
  · have g1 : sgE s = 0 := if_pos hb
    rw [if_pos g1]
    by_cases hc : bad t < 0
    · have g2 : sgE t = 0 := if_pos hc
      obtain ⟨q1, q2⟩ := bad_append (t := t) hb
      rw [if_pos hc] at q2
      have g3 : sgE (s ++ t) = 0 := if_pos (by omega)
      have g4 : sgV (s ++ t) = sgV s ++ sgV t := by
        have a1 : sgV (s ++ t) = sgn (s ++ t) := if_pos (by omega)
        have a2 : sgV s = sgn s := if_pos hb
        have a3 : sgV t = sgn t := if_pos hc
        rw [a1, a2, a3, q1]
      rw [if_pos g2, if_pos (by omega), if_pos (by omega), if_pos g3, g4, e4]
      rfl
    · have g2 : sgE t = 40 := if_neg hc
      rw [if_neg (by omega)]
  · have g1 : sgE s = 40 := if_neg hb
    have g2 : sgV s = [] := if_neg hb
    rw [if_neg (by omega), g2]
    rfl
end Go.Proofs.YtkjmabehphgmkaaDoor.Pure
