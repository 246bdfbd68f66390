import Derived.Test.YtckfglcihelofaaDoorPureCodeBase
import Derived.Test.YtckfglcihelofaaDoorLCodex4
namespace Go.Proofs.YtckfglcihelofaaDoor.Pure
set_option linter.unusedSimpArgs false
set_option linter.unusedVariables false
open Go.RowKit Go.Proofs.YtckfglcihelofaaDoor.LCode Go.Proofs.YtckfglcihelofaaDoor.ExtCode Go.Proofs.YtckfglcihelofaaDoor.Code Go.Proofs.YtckfglcihelofaaDoorW.PrintWords Go.Proofs.YtckfglcihelofaaDoorW.PrintLast Go.Proofs.YtckfglcihelofaaDoor.PureB
theorem CodeApart : latinerlaw05_CodeApart.Pure := by
  intro a0 a1 _ _
  obtain ⟨s, hs, hsz⟩ := cut_200 a0
  obtain ⟨t, ht, htz⟩ := cut_200 a1
  unfold latinerlaw05_CodeApart.f
  simp only [shown_true, hs, ht, base_f s (by omega), hex_f s (by omega), base_f t (by omega), hex_f t (by omega), Option.bind_some, if_true]
  have e1 : ((strOfNums (baseL (bl s))).toList == (strOfNums (baseL (bl t))).toList) = (s.toList == t.toList) := by
    rw [Bool.eq_iff_iff, beq_iff_eq, beq_iff_eq, tl_eq, tl_eq]; exact base_eq s t
  have e2 : ((strOfNums (hexL (bl s))).toList == (strOfNums (hexL (bl t))).toList) = (s.toList == t.toList) := by
    rw [Bool.eq_iff_iff, beq_iff_eq, beq_iff_eq, tl_eq, tl_eq]; exact hex_eq s t
  rw [e1, e2]
  simp
end Go.Proofs.YtckfglcihelofaaDoor.Pure
