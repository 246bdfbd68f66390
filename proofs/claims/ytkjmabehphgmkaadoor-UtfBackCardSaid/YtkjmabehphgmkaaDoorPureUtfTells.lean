import Derived.Test.YtkjmabehphgmkaaDoorPureUtfBase3
namespace Go.Proofs.YtkjmabehphgmkaaDoor.Pure
set_option linter.unusedSimpArgs false
set_option linter.unusedVariables false
open Go.RowKit Go.Proofs.YtkjmabehphgmkaaDoor.LUtf Go.Proofs.YtkjmabehphgmkaaDoor.ExtUtf Go.Proofs.YtkjmabehphgmkaaDoor.Utf Go.Proofs.YtkjmabehphgmkaaDoorW.PrintWords Go.Proofs.YtkjmabehphgmkaaDoorW.PrintLast Go.Proofs.YtkjmabehphgmkaaDoor.PureB
theorem sgV_len (s : ByteArray) : (sgV s).length ≤ s.size := by
  unfold sgV
  split
  · obtain ⟨j, hr, _⟩ := bad_runs s
    have h1 := hr.len
    have h2 := hr.le (Nat.zero_le _)
    omega
  · simp
theorem UtfTells : latinerlaw04_UtfTells.Pure := by
  intro a0 l1 _ _ _ _
  obtain ⟨s, hs, hsz⟩ := cut_100 a0
  obtain ⟨l, hl, hlz⟩ := few_40 l1
  refine ⟨197 + 3, ?_⟩
  have e0 := shown_true 197
  have e1 : utf_Signs.f s = some (sgV s, sgE s) := if_pos (by omega)
  have e2 : utf_Text.f l = some (txS l, txE l) := if_pos (by omega)
  have e3 : utf_Right.f s = some (decide (bad s < 0)) := if_pos (by omega)
  have e4 : utf_Bad.f s = some (bad s) := if_pos (by omega)
  have e5 : utf_IsSafe.f s = some (sfV s) := if_pos (by omega)
  have e6 := ref_signs s (by omega) (197 + 3) (by omega)
  have e7 := ref_text l (by omega) (197 + 3) (by omega)
  have e8 := ref_right s (by omega) (197 + 3) (by omega)
  have e9 := ref_bad s (by omega) (197 + 3) (by omega)
  have e10 := ref_safe s (by omega) (197 + 3) (by omega)
  have hl := sgV_len s
  have e11 := ints_same (sgV s) (by omega) (197 + 3) (by omega)
  generalize (197 + 3 : Nat) = k at *
  unfold latinerlaw04_UtfTells.f
  simp only [e0, hs, *, Option.bind_some, beq_self_eq_true, if_true]
end Go.Proofs.YtkjmabehphgmkaaDoor.Pure
