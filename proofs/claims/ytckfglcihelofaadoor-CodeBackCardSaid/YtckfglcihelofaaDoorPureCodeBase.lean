import Derived.Test.YtckfglcihelofaaDoorLCodex1
import Derived.Test.YtckfglcihelofaaDoorKA
namespace Go.Proofs.YtckfglcihelofaaDoor.Pure
set_option linter.unusedSimpArgs false
set_option linter.unusedVariables false
open Go.RowKit Go.Proofs.YtckfglcihelofaaDoor.LCode Go.Proofs.YtckfglcihelofaaDoor.ExtCode Go.Proofs.YtckfglcihelofaaDoor.Code Go.Proofs.YtckfglcihelofaaDoorW.PrintWords Go.Proofs.YtckfglcihelofaaDoorW.PrintLast Go.Proofs.YtckfglcihelofaaDoor.PureB
set_option maxRecDepth 100000 in
theorem shown_true : latinerlaw05_shown.f = some true := by decide +kernel
theorem cut_200 (s : ByteArray) : ∃ t, latinerlaw05_cut.f s = some t ∧ t.size ≤ 200 := by
  unfold latinerlaw05_cut.f
  have h : 0 ≤ mn (s.size : Int) 200 ∧ mn (s.size : Int) 200 ≤ s.size ∧ mn (s.size : Int) 200 ≤ 200 := by unfold mn; split <;> omega
  rw [if_pos h.1, if_pos h.2.1]
  exact ⟨_, rfl, by simp; omega⟩
theorem byt (s : ByteArray) : Byt (bl s) := bl_byte s
theorem base_f (s : ByteArray) (h : s.size ≤ 1000000) : code_Base.f s = some (strOfNums (baseL (bl s))) := if_pos h
theorem hex_f (s : ByteArray) (h : s.size ≤ 1000000) : code_Hex.f s = some (strOfNums (hexL (bl s))) := if_pos h
theorem unbase_f (s : ByteArray) (h : s.size ≤ 1000000) : code_Unbase.f s = some (ubT (unbL (bl s)), ubN (unbL (bl s))) := if_pos h
theorem unhex_f (s : ByteArray) (h : s.size ≤ 1000000) : code_Unhex.f s = some (ubT (unhexL (bl s)), ubN (unhexL (bl s))) := if_pos h
theorem base_size (s : ByteArray) : (strOfNums (baseL (bl s))).size = 4 * ((s.size + 2) / 3) := by rw [son_size, baseL_len, bl_len]
theorem hex_size (s : ByteArray) : (strOfNums (hexL (bl s))).size = 2 * s.size := by rw [son_size, hexL_len, bl_len]
theorem bl_base (s : ByteArray) : bl (strOfNums (baseL (bl s))) = baseL (bl s) := bl_son _ (baseL_byte _ (bl_byte s))
theorem bl_hex (s : ByteArray) : bl (strOfNums (hexL (bl s))) = hexL (bl s) := bl_son _ (hex_byte _ (bl_byte s))
theorem bl_inj (s t : ByteArray) (h : bl s = bl t) : s = t := by rw [← son_bl s, ← son_bl t, h]
theorem base_eq (s t : ByteArray) : strOfNums (baseL (bl s)) = strOfNums (baseL (bl t)) ↔ s = t := by
  constructor
  · intro h
    have := congrArg bl h
    rw [bl_base, bl_base] at this
    exact bl_inj _ _ (base_inj _ _ (byt s) (byt t) this)
  · rintro rfl; rfl
theorem hex_eq (s t : ByteArray) : strOfNums (hexL (bl s)) = strOfNums (hexL (bl t)) ↔ s = t := by
  constructor
  · intro h
    have := congrArg bl h
    rw [bl_hex, bl_hex] at this
    exact bl_inj _ _ (hex_inj _ _ (byt s) (byt t) this)
  · rintro rfl; rfl
theorem tl_eq (s t : ByteArray) : s.toList = t.toList ↔ s = t := by
  rw [ByteArray.toList_eq, ByteArray.toList_eq]
  constructor
  · intro h; exact ByteArray.ext (Array.toList_inj.1 h)
  · rintro rfl; rfl
theorem tl_nil (s : ByteArray) : s.toList = [] ↔ s = ⟨#[]⟩ := by
  rw [ByteArray.toList_eq]
  constructor
  · intro h; exact ByteArray.ext (Array.toList_inj.1 h)
  · rintro rfl; rfl
end Go.Proofs.YtckfglcihelofaaDoor.Pure
