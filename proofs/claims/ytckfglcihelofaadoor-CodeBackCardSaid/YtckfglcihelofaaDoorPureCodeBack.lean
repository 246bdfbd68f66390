import Derived.Test.YtckfglcihelofaaDoorPureCodeBase
import Derived.Test.YtckfglcihelofaaDoorLCodex3
namespace Go.Proofs.YtckfglcihelofaaDoor.Pure
set_option linter.unusedSimpArgs false
set_option linter.unusedVariables false
open Go.RowKit Go.Proofs.YtckfglcihelofaaDoor.LCode Go.Proofs.YtckfglcihelofaaDoor.ExtCode Go.Proofs.YtckfglcihelofaaDoor.Code Go.Proofs.YtckfglcihelofaaDoorW.PrintWords Go.Proofs.YtckfglcihelofaaDoorW.PrintLast Go.Proofs.YtckfglcihelofaaDoor.PureB
theorem CodeBack : latinerlaw05_CodeBack.Pure := by
  intro a0 _
  obtain ⟨s, hs, hsz⟩ := cut_200 a0
  have hb := base_size s
  have hh := hex_size s
  have e1 := base_f s (by omega)
  have e2 := hex_f s (by omega)
  have e3 : code_Unbase.f (strOfNums (baseL (bl s))) = some (s, 0) := by
    rw [unbase_f _ (by omega), bl_base, unb_base _ (byt s)]
    simp only [ubT, ubN, son_bl]
  have e4 : code_Unhex.f (strOfNums (hexL (bl s))) = some (s, 0) := by
    rw [unhex_f _ (by omega), bl_hex, unhex_hex _ (byt s)]
    simp only [ubT, ubN, son_bl]
  -- the digits' part
  have part : (if ubN (unhexL (bl s)) = 0 then ((code_Hex.f (ubT (unhexL (bl s)))).bind fun t160 => (some ((t160.size : Int) == (s.size : Int)))) else (if (ubT (unhexL (bl s))).toList = ([] : List UInt8) then (some true) else (some false))) = some true := by
    cases e : unhexL (bl s) with
    | none =>
      rw [if_neg (by simp [ubN]), if_pos]
      exact (tl_nil _).2 rfl
    | some l =>
      obtain ⟨h1, h2⟩ := unhex_len _ _ e
      rw [bl_len] at h1
      rw [if_pos (by rfl)]
      have hl : (strOfNums l).size = l.length := son_size l
      have q : code_Hex.f (strOfNums l) = some (strOfNums (hexL (bl (strOfNums l)))) := hex_f _ (by omega)
      have z : (strOfNums (hexL (bl (strOfNums l)))).size = s.size := by rw [hex_size]; omega
      show ((code_Hex.f (strOfNums l)).bind _) = _
      rw [q]
      simp [z]
  unfold latinerlaw05_CodeBack.f
  simp only [shown_true, hs, e1, e2, e3, e4, unbase_f s (by omega), unhex_f s (by omega), Option.bind_some, if_true]
  cases e : unbL (bl s) with
  | none =>
    rw [if_neg (by simp [ubN]), if_pos (show (ubT none).toList = [] from (tl_nil _).2 rfl)]
    exact part
  | some l =>
    obtain ⟨h1, h2⟩ := unb_some _ _ e
    have hbt : bl (strOfNums l) = l := bl_son _ h2
    have hlen : l.length ≤ 1000 := by
      have := congrArg List.length h1
      rw [baseL_len, bl_len] at this
      omega
    have hl : (strOfNums l).size = l.length := son_size l
    have q : code_Base.f (strOfNums l) = some s := by
      rw [base_f _ (by omega), hbt, h1, son_bl]
    rw [if_pos (by rfl)]
    show ((code_Base.f (strOfNums l)).bind _) = _
    rw [q]
    simp only [Option.bind_some, if_true]
    exact part
end Go.Proofs.YtckfglcihelofaaDoor.Pure
