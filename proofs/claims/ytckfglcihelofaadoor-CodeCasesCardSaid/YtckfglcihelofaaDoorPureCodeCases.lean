import Derived.Test.YtckfglcihelofaaDoorPureCodeBase
import Derived.Test.YtckfglcihelofaaDoorLCodex4
namespace Go.Proofs.YtckfglcihelofaaDoor.Pure
set_option linter.unusedSimpArgs false
set_option linter.unusedVariables false
open Go.RowKit Go.Proofs.YtckfglcihelofaaDoor.LCode Go.Proofs.YtckfglcihelofaaDoor.ExtCode Go.Proofs.YtckfglcihelofaaDoor.Code Go.Proofs.YtckfglcihelofaaDoorW.PrintWords Go.Proofs.YtckfglcihelofaaDoorW.PrintLast Go.Proofs.YtckfglcihelofaaDoor.PureB
theorem cases_l0 (s t : ByteArray) (ht : t.size ≤ 1000) (hu : code_Unhex.f (strOfNums ((bl t).map upc)) = some (s, 0)) : ∀ (d k j : Nat), t.size = j + d → d < k →
    latinerlaw05_CodeCases.l0 k s true t (((bl t).map upc).take j) (j : Int) = some true := by
  intro d
  induction d with
  | zero =>
    intro k j hj hk
    obtain ⟨k, rfl⟩ : ∃ m, k = m + 1 := ⟨k - 1, by omega⟩
    unfold latinerlaw05_CodeCases.l0
    rw [if_neg (by omega), List.take_of_length_le (by rw [List.length_map, bl_len]; omega), hu]
    simp
  | succ d ih =>
    intro k j hj hk
    obtain ⟨k, rfl⟩ : ∃ m, k = m + 1 := ⟨k - 1, by omega⟩
    have hlt : j < t.size := by omega
    have hx := bl_get t j hlt
    have hbr := bt_range t j
    have hst : ((bl t).map upc).take (j + 1) = ((bl t).map upc).take j ++ [upc (bt t j)] := by
      rw [List.take_add_one, List.getElem?_map, hx]; rfl
    have hl : (((bl t).map upc).take j).length < 140737488355328 := by rw [List.length_take, List.length_map, bl_len]; omega
    have hw : wrap64 ((j : Int) + 1) = ((j + 1 : Nat) : Int) := by rw [w64 (by omega) (by omega)]; rfl
    have hi := ih k (j + 1) (by omega) (by omega)
    rw [hst] at hi
    unfold latinerlaw05_CodeCases.l0
    rw [if_pos (by omega), if_pos (by omega), hw]
    by_cases h97 : bt t j ≥ 97
    · rw [if_pos h97]
      by_cases h102 : bt t j ≤ 102
      · rw [if_pos h102, if_pos hl]
        have : ((bt t j - 97) % 256 + 65) % 256 = upc (bt t j) := by unfold upc; rw [if_pos ⟨by omega, h102⟩]; omega
        rw [this]; exact hi
      · rw [if_neg h102, if_pos hl]
        have : bt t j = upc (bt t j) := by unfold upc; rw [if_neg (by omega)]
        rw [← this] at hi; exact hi
    · rw [if_neg h97, if_pos hl]
      have : bt t j = upc (bt t j) := by unfold upc; rw [if_neg (by omega)]
      rw [← this] at hi; exact hi
theorem CodeCases : latinerlaw05_CodeCases.Pure := by
  intro a0 _
  obtain ⟨s, hs, hsz⟩ := cut_200 a0
  have hh := hex_size s
  have e2 := hex_f s (by omega)
  have hu : code_Unhex.f (strOfNums ((bl (strOfNums (hexL (bl s)))).map upc)) = some (s, 0) := by
    have hb : Byt ((hexL (bl s)).map upc) := by
      intro x hx
      obtain ⟨y, hy, rfl⟩ := List.mem_map.1 hx
      have := hex_byte _ (byt s) y hy
      unfold upc
      split <;> omega
    rw [bl_hex, unhex_f _ (by rw [son_size, List.length_map, hexL_len, bl_len]; omega), bl_son _ hb, unhex_up _ (byt s)]
    simp only [ubT, ubN, son_bl]
  refine ⟨1001, ?_⟩
  unfold latinerlaw05_CodeCases.f
  simp only [shown_true, hs, e2, Option.bind_some]
  exact cases_l0 s _ (by omega) hu (strOfNums (hexL (bl s))).size 1001 0 (by omega) (by omega)
end Go.Proofs.YtckfglcihelofaaDoor.Pure
