import Derived.Test.YtckfglcihelofaaDoorPureCodeBase
import Derived.Test.YtckfglcihelofaaDoorLCodex4
namespace Go.Proofs.YtckfglcihelofaaDoor.Pure
set_option linter.unusedSimpArgs false
set_option linter.unusedVariables false
open Go.RowKit Go.Proofs.YtckfglcihelofaaDoor.LCode Go.Proofs.YtckfglcihelofaaDoor.ExtCode Go.Proofs.YtckfglcihelofaaDoor.Code Go.Proofs.YtckfglcihelofaaDoorW.PrintWords Go.Proofs.YtckfglcihelofaaDoorW.PrintLast Go.Proofs.YtckfglcihelofaaDoor.PureB
theorem CodeJoins : latinerlaw05_CodeJoins.Pure := by
  intro a0 a1 _ _
  obtain ⟨s, hs, hsz⟩ := cut_200 a0
  obtain ⟨t, ht, htz⟩ := cut_200 a1
  have hst : (s ++ t).size = s.size + t.size := ByteArray.size_append
  have b1 := base_size s
  have b2 := base_size t
  have h1 := hex_size s
  have h2 := hex_size t
  unfold latinerlaw05_CodeJoins.f
  simp only [shown_true, hs, ht, base_f s (by omega), hex_f s (by omega), base_f t (by omega), hex_f t (by omega), base_f (s ++ t) (by omega), hex_f (s ++ t) (by omega), Option.bind_some, if_true]
  rw [if_pos (by omega), if_pos (by omega)]
  have eh : strOfNums (hexL (bl (s ++ t))) = strOfNums (hexL (bl s)) ++ strOfNums (hexL (bl t)) := by rw [bl_append, hex_append, son_app]
  by_cases h3 : (s.size : Int) % 3 = 0
  · rw [if_pos h3, if_pos (by rw [eh]), if_pos (by omega)]
    have eb : strOfNums (baseL (bl (s ++ t))) = strOfNums (baseL (bl s)) ++ strOfNums (baseL (bl t)) := by rw [bl_append, baseL_append _ _ (by rw [bl_len]; omega), son_app]
    rw [eb]; simp
  · rw [if_neg h3, if_pos (by rw [eh])]
    congr 1
    rw [beq_iff_eq]
    omega
end Go.Proofs.YtckfglcihelofaaDoor.Pure
