import Derived.Test.YtkjmabehphgmkaaDoorPureUtfMore
import Derived.Test.YtkjmabehphgmkaaDoorLUtfx4
namespace Go.Proofs.YtkjmabehphgmkaaDoor.Pure
set_option linter.unusedSimpArgs false
set_option linter.unusedVariables false
open Go.RowKit Go.Proofs.YtkjmabehphgmkaaDoor.LUtf Go.Proofs.YtkjmabehphgmkaaDoor.ExtUtf Go.Proofs.YtkjmabehphgmkaaDoor.Utf Go.Proofs.YtkjmabehphgmkaaDoorW.PrintWords Go.Proofs.YtkjmabehphgmkaaDoorW.PrintLast Go.Proofs.YtkjmabehphgmkaaDoor.PureB
theorem UtfBack : latinerlaw04_UtfBack.Pure := by
  intro a0 l1 _ _ _ _
  obtain ⟨s, hs, hsz⟩ := cut_100 a0
  obtain ⟨l, hl, hlz⟩ := few_40 l1
  refine ⟨197 + 3, ?_⟩
  have e0 := shown_true 197
  have hsg := sgV_len s
  have e1 : utf_Signs.f s = some (sgV s, sgE s) := if_pos (by omega)
  have e2 : utf_Text.f l = some (txS l, txE l) := if_pos (by omega)
  have e3 : utf_Right.f s = some (decide (bad s < 0)) := if_pos (by omega)
  have e4 : utf_Text.f (sgV s) = some (txS (sgV s), txE (sgV s)) := if_pos (by omega)
  have htz : (txS l).size ≤ 160 := by
    unfold txS
    split
    · rw [son_size]; have := ebs_le l; omega
    · simp [ByteArray.size]
  have e5 : utf_Signs.f (txS l) = some (sgV (txS l), sgE (txS l)) := if_pos (by omega)
  have e6 := ints_same l (by omega) (197 + 3) (by omega)
  -- the numbers' part
  have part : (if txE l = 0 then (if sgE (txS l) = 0 then ((latinerref04_Ints.f (197 + 3) (sgV (txS l)) l).bind fun t204 => (some t204)) else (some false)) else (if (txS l).toList = ([] : List UInt8) then (some true) else (some false))) = some true := by
    by_cases hv : ∀ c ∈ l, vr c = true
    · have q1 : txS l = strOfNums (ebs l) := if_pos hv
      have q2 : txE l = 0 := if_pos hv
      obtain ⟨t1, t2⟩ := text_right l hv
      have q3 : sgE (txS l) = 0 := by rw [q1]; exact if_pos (by omega)
      have q4 : sgV (txS l) = l := by rw [q1]; unfold sgV; rw [if_pos (by omega)]; exact t1
      rw [if_pos q2, if_pos q3, q4, e6]
      rfl
    · have q1 : txS l = ⟨#[]⟩ := if_neg hv
      have q2 : txE l = 40 := if_neg hv
      rw [if_neg (by omega), if_pos (by rw [q1]; exact toList_nil.2 rfl)]
  generalize (197 + 3 : Nat) = k at *
  unfold latinerlaw04_UtfBack.f
  simp only [e0, hs, hl, e1, e2, e3, e4, e5, Option.bind_some, if_true]
  by_cases hb : bad s < 0
  · have g1 : sgE s = 0 := if_pos hb
    have g2 : sgV s = sgn s := if_pos hb
    obtain ⟨r1, r2⟩ := right_text hb
    have g3 : txE (sgV s) = 0 := by rw [g2]; exact if_pos r2
    have g4 : txS (sgV s) = s := by rw [g2]; unfold txS; rw [if_pos r2]; exact r1
    rw [if_pos (by rw [g1]; simp [hb]), if_pos g1, if_pos g3, if_pos (by rw [g4])]
    exact part
  · have g1 : sgE s = 40 := if_neg hb
    have g2 : sgV s = [] := if_neg hb
    rw [if_pos (by rw [g1]; simp [hb]), if_neg (by omega), if_pos (by rw [g2]; rfl)]
    exact part
end Go.Proofs.YtkjmabehphgmkaaDoor.Pure
