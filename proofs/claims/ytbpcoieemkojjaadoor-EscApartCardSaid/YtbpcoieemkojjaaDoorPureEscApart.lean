import Derived.Test.YtbpcoieemkojjaaDoorLEscx7
import Derived.Test.YtbpcoieemkojjaaDoorPureEscBase
namespace Go.Proofs.YtbpcoieemkojjaaDoor.Pure
set_option linter.unusedSimpArgs false
set_option linter.unusedVariables false
open Go.RowKit Go.Proofs.YtbpcoieemkojjaaDoor.LEsc Go.Proofs.YtbpcoieemkojjaaDoor.ExtEsc Go.Proofs.YtbpcoieemkojjaaDoor.Esc Go.Proofs.YtbpcoieemkojjaaDoorW.PrintWords Go.Proofs.YtbpcoieemkojjaaDoorW.PrintLast Go.Proofs.YtbpcoieemkojjaaDoor.PureB
theorem EscApart : latinerlaw06_EscApart.Pure := by
  intro a0 a1 _ _
  obtain ⟨s, hc, hsz⟩ := cut_100 a0
  obtain ⟨t, hd, htz⟩ := cut_100 a1
  have e1 : (fS s = fS t) ↔ (s = t) := ⟨fS_inj, fun h => by rw [h]⟩
  have e2 : (nS s = nS t) ↔ (s = t) := ⟨nS_inj, fun h => by rw [h]⟩
  unfold latinerlaw06_EscApart.f
  rw [shown_true, Option.bind_some, hc, Option.bind_some, hd, Option.bind_some, if_pos rfl, filter_f s (by omega), Option.bind_some, filter_f t (by omega), Option.bind_some, name_f s (by omega), name_f t (by omega), Option.bind_some, Option.bind_some]
  have d1 : ((fS s).toList == (fS t).toList) = (s.toList == t.toList) := by rw [Bool.eq_iff_iff, beq_iff_eq, beq_iff_eq, toList_inj, toList_inj]; exact e1
  have d2 : ((nS s).toList == (nS t).toList) = (s.toList == t.toList) := by rw [Bool.eq_iff_iff, beq_iff_eq, beq_iff_eq, toList_inj, toList_inj]; exact e2
  rw [d1, d2]
  simp
end Go.Proofs.YtbpcoieemkojjaaDoor.Pure
