import Derived.Test.YtkjmabehphgmkaaDoorPureUtfMore
import Derived.Test.YtkjmabehphgmkaaDoorLUtfx5
namespace Go.Proofs.YtkjmabehphgmkaaDoor.Pure
set_option linter.unusedSimpArgs false
set_option linter.unusedVariables false
open Go.RowKit Go.Proofs.YtkjmabehphgmkaaDoor.LUtf Go.Proofs.YtkjmabehphgmkaaDoor.ExtUtf Go.Proofs.YtkjmabehphgmkaaDoor.Utf Go.Proofs.YtkjmabehphgmkaaDoorW.PrintWords Go.Proofs.YtkjmabehphgmkaaDoorW.PrintLast Go.Proofs.YtkjmabehphgmkaaDoor.PureB
theorem sz_j0 (k : Nat) (x0 : Int) (x3 : Bool) (x4 : ByteArray) (x6 : Int) : latinerlaw04_UtfSizes.j0 (k + 1) x0 x3 x4 x6 = if x0 ≥ 2048 then (latinerlaw04_UtfSizes.j1 k x0 x3 x4 (wrap64 (x6 + 1))) else (latinerlaw04_UtfSizes.j1 k x0 x3 x4 x6) := by
  conv => lhs; unfold latinerlaw04_UtfSizes.j0
/-- What is left behind the counting. -/
def szEnd (x4 : ByteArray) (m : Int) : Option Bool := if (x4.size : Int) = m then ((utf_Right.f x4).bind fun t255 => (if t255 = true then (if 0 ≤ (wrap64 (m - 1)) then (if (wrap64 (m - 1)) ≤ (x4.size : Int) then (if (x4.extract 0 ((wrap64 (m - 1)) : Int).toNat).size + 1 ≤ 9223372036854775807 then ((utf_Right.f ((x4.extract 0 ((wrap64 (m - 1)) : Int).toNat) ++ (⟨#[255]⟩ : ByteArray))).bind fun t256 => (some (!t256))) else (none)) else (none)) else (none)) else (some false))) else (some false)
theorem sz_j1 (k : Nat) (x0 : Int) (x4 : ByteArray) (x6 : Int) : latinerlaw04_UtfSizes.j1 (k + 1) x0 true x4 x6 = if x0 ≥ 65536 then szEnd x4 (wrap64 (x6 + 1)) else szEnd x4 x6 := by
  conv => lhs; unfold latinerlaw04_UtfSizes.j1
  simp only [if_true]
  rfl
/-- A byte that begins no sign and goes on none. -/
theorem bad_ff {s : ByteArray} (h : s.size ≤ 10) : 0 ≤ bad (s ++ (⟨#[255]⟩ : ByteArray)) := by
  by_cases hb : bad (s ++ (⟨#[255]⟩ : ByteArray)) < 0
  · exfalso
    obtain ⟨h1, h2⟩ := right_text hb
    have hz : (s ++ (⟨#[255]⟩ : ByteArray)).size = s.size + 1 := by rw [ByteArray.size_append, one_size]
    have hl : (ebs (sgn (s ++ (⟨#[255]⟩ : ByteArray)))).length = s.size + 1 := by rw [← hz, ← congrArg ByteArray.size h1, son_size]
    have e := bt_app_r s (⟨#[255]⟩ : ByteArray) 0
    rw [show (s.size : Int) + ((0 : Nat) : Int) = s.size by omega] at e
    have e2 : bt (⟨#[255]⟩ : ByteArray) ((0 : Nat) : Int) = 255 := rfl
    rw [e2] at e
    have hx : (ebs (sgn (s ++ (⟨#[255]⟩ : ByteArray))))[s.size]? = some ((ebs (sgn (s ++ (⟨#[255]⟩ : ByteArray))))[s.size]'(by omega)) := List.getElem?_eq_getElem (by omega)
    have hm := List.mem_of_getElem? hx
    have hb2 := ebs_byte _ h2 _ hm
    have := bt_son _ _ _ hx hb2.1 hb2.2
    rw [h1, e] at this
    rw [← this] at hm
    simp only [ebs, List.mem_flatMap] at hm
    obtain ⟨c, hc, hm⟩ := hm
    have hv := h2 c hc
    simp only [vr, decide_eq_true_eq] at hv
    unfold eb at hm
    repeat' split at hm
    all_goals simp at hm
    all_goals omega
  · omega
theorem szEnd_true (c : Int) (h : vr c = true) : szEnd (strOfNums (eb c)) ((eb c).length : Int) = some true := by
  have hz : (strOfNums (eb c)).size = (eb c).length := son_size _
  have h4 := eb_le4 c
  have hp := eb_pos c
  have e1 : ebs [c] = eb c := by simp [ebs]
  obtain ⟨_, r⟩ := text_right [c] (by simpa using h)
  rw [e1] at r
  have f1 : utf_Right.f (strOfNums (eb c)) = some (decide (bad (strOfNums (eb c)) < 0)) := if_pos (by omega)
  have hx := extract_size (strOfNums (eb c)) 0 ((eb c).length - 1) (by omega)
  have hq := bad_ff (s := (strOfNums (eb c)).extract 0 ((eb c).length - 1)) (by omega)
  have f2 : utf_Right.f ((strOfNums (eb c)).extract 0 ((eb c).length - 1) ++ (⟨#[255]⟩ : ByteArray)) = some (decide (bad ((strOfNums (eb c)).extract 0 ((eb c).length - 1) ++ (⟨#[255]⟩ : ByteArray)) < 0)) := if_pos (by rw [ByteArray.size_append, one_size]; omega)
  unfold szEnd
  have ht : (((eb c).length : Int) - 1).toNat = (eb c).length - 1 := by omega
  rw [if_pos (by omega), f1, w64 (by omega) (by omega), ht, f2]
  simp only [Option.bind_some]
  rw [if_pos (by rw [r]; rfl), if_pos (by omega), if_pos (by omega), if_pos (by omega)]
  have : ¬ bad ((strOfNums (eb c)).extract 0 ((eb c).length - 1) ++ (⟨#[255]⟩ : ByteArray)) < 0 := by omega
  simp [this]
theorem UtfSizes : latinerlaw04_UtfSizes.Pure := by
  intro n _
  refine ⟨197 + 3, ?_⟩
  have e0 := shown_true 197
  have e1 : utf_Text.f [n] = some (txS [n], txE [n]) := if_pos (by simp)
  have j0 := sz_j0 199 n true
  have j1 := sz_j1 198 n
  rw [show (199 + 1 : Nat) = 197 + 3 from rfl] at j0
  rw [show (198 + 1 : Nat) = 199 from rfl] at j1
  generalize (197 + 3 : Nat) = k at *
  unfold latinerlaw04_UtfSizes.f
  simp only [e0, e1, Option.bind_some, if_true]
  by_cases hv : vr n = true
  · have g1 : txE [n] = 0 := if_pos (by simpa using hv)
    have g2 : txS [n] = strOfNums (eb n) := by unfold txS; rw [if_pos (by simpa using hv)]; simp [ebs]
    have hend := szEnd_true n hv
    have hl := eb_len n
    have hv2 := hv
    simp only [vr, decide_eq_true_eq] at hv2
    rw [if_pos g1, g2]
    by_cases c1 : n < 128
    · rw [if_pos c1] at hl
      rw [if_neg (by omega), j0, if_neg (by omega), j1, if_neg (by omega)]
      rw [hl] at hend
      exact hend
    rw [if_neg c1] at hl
    by_cases c2 : n < 2048
    · rw [if_pos c2] at hl
      rw [if_pos (by omega), j0, if_neg (by omega), j1, if_neg (by omega)]
      rw [hl] at hend
      exact hend
    rw [if_neg c2] at hl
    by_cases c3 : n < 65536
    · rw [if_pos c3] at hl
      rw [if_pos (by omega), j0, if_pos (by omega), j1, if_neg (by omega), w64 (by omega) (by omega)]
      rw [hl] at hend
      exact hend
    · rw [if_neg c3] at hl
      rw [if_pos (by omega), j0, if_pos (by omega), j1, if_pos (by omega), w64 (n := (1 : Int) + 1 + 1) (by omega) (by omega), w64 (by omega) (by omega)]
      rw [hl] at hend
      exact hend
  · have hn : ¬ ∀ c ∈ [n], vr c = true := fun q => hv (q n (by simp))
    have g1 : txE [n] = 40 := if_neg hn
    have g2 : txS [n] = ⟨#[]⟩ := if_neg hn
    simp only [vr, decide_eq_true_eq] at hv
    rw [if_neg (by omega), g2, if_pos (toList_nil.2 rfl)]
    by_cases c1 : n < 0
    · rw [if_pos c1]
    rw [if_neg c1]
    by_cases c2 : n > 1114111
    · rw [if_pos c2]
    rw [if_neg c2, if_pos (by omega)]
    congr 1
    apply decide_eq_true
    omega
end Go.Proofs.YtkjmabehphgmkaaDoor.Pure
