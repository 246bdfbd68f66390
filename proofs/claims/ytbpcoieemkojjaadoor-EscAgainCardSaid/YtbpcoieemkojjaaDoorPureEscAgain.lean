import Derived.Test.YtbpcoieemkojjaaDoorLEscx7
import Derived.Test.YtbpcoieemkojjaaDoorPureEscBase
namespace Go.Proofs.YtbpcoieemkojjaaDoor.Pure
set_option linter.unusedSimpArgs false
set_option linter.unusedVariables false
open Go.RowKit Go.Proofs.YtbpcoieemkojjaaDoor.LEsc Go.Proofs.YtbpcoieemkojjaaDoor.ExtEsc Go.Proofs.YtbpcoieemkojjaaDoor.Esc Go.Proofs.YtbpcoieemkojjaaDoorW.PrintWords Go.Proofs.YtbpcoieemkojjaaDoorW.PrintLast Go.Proofs.YtbpcoieemkojjaaDoor.PureB
open Go.Proofs.YtbpcoieemkojjaaDoor.Code (bl bl_len bl_get bl_byte Byt bl_son son_bl hexL hex_byte bl_append)
theorem EscAgain : latinerlaw06_EscAgain.Pure := by
  intro a0 _
  obtain ⟨s, hc, hsz⟩ := cut_100 a0
  have z1 := rdS_size false s
  have z2 := rdS_size true s
  have h1 := fS_size (rdS (readT false s))
  have h2 := nS_size (rdS (readT true s))
  unfold latinerlaw06_EscAgain.f
  rw [shown_true, Option.bind_some, hc, Option.bind_some, rf_f s (by omega), Option.bind_some]
  simp only
  rw [filter_f _ (by omega), Option.bind_some, rf_f (fS _) (by omega), Option.bind_some, rn_f s (by omega), Option.bind_some]
  simp only
  rw [name_f _ (by omega), Option.bind_some, rn_f (nS _) (by omega), Option.bind_some, read_fS, read_nS]
  simp only [rdS_bl, rdN_some, if_true]
  have e0 : ∀ nm : Bool, ¬ rdN (readT nm s) = 0 → (rdS (readT nm s)).toList = ([] : List UInt8) := by
    intro nm h
    cases hr : readT nm s with
    | some l => rw [hr] at h; exact absurd rfl h
    | none => rw [toList_nil]; rfl
  by_cases q1 : rdN (readT false s) = 0
  · by_cases q2 : rdN (readT true s) = 0
    · rw [if_pos q1, if_pos q2, if_pos (by omega), decide_eq_true (by omega)]
    · rw [if_pos q1, if_neg q2, if_pos (e0 _ q2), if_pos (by omega), decide_eq_true (by omega)]
  · by_cases q2 : rdN (readT true s) = 0
    · rw [if_neg q1, if_pos (e0 _ q1), if_pos q2, if_pos (by omega), decide_eq_true (by omega)]
    · rw [if_neg q1, if_pos (e0 _ q1), if_neg q2, if_pos (e0 _ q2), if_pos (by omega), decide_eq_true (by omega)]
end Go.Proofs.YtbpcoieemkojjaaDoor.Pure
