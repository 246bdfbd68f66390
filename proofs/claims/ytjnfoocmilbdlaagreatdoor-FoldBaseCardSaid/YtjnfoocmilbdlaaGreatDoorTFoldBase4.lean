/- A value's base64 is read as the value. The card of the statement, out of the walk and the plain law. Conditions: none beyond the card's own (the listed package variables as the program's text lays them).
-/
import Derived.Test.YtjnfoocmilbdlaaGreatDoorTFoldBase3
-- Written by this repo's own program over the kit's printer: YtjnfoocmilbdlaaGreatDoor.LFold
namespace Go.Proofs.YtjnfoocmilbdlaaGreatDoor.LFold
open Go.Proofs.YtjnfoocmilbdlaaGreatDoor.ExtFold
open Go.RowKit Go.Proofs.YtjnfoocmilbdlaaGreatDoorW.PrintWords Go.Proofs.YtjnfoocmilbdlaaGreatDoorW.PrintLast Go.Proofs.YtjnfoocmilbdlaaGreatDoorW2
attribute [local go_sem] own_max2 own_min2 own_maxs own_mins
set_option linter.unusedVariables false
set_option linter.unusedSimpArgs false

/-! ### latinerlaw15_FoldBase: function 10 -/
def latinerlaw15_FoldBase.f (k : Nat) (a0 : ByteArray) (a1 : ByteArray) (a2 : Int) : Option (Bool) := (latinerlaw15_shown.f k).bind fun t310 => ((latinerlaw15_short.f a0).bind fun t311 => ((latinerlaw15_short.f a1).bind fun t312 => ((fold_Item.f t311 (⟨#[120]⟩ : ByteArray)).bind fun bt313 => (if t311.size + 2 ≤ 9223372036854775807 then (if 0 ≤ (lesser (greater a2 0) 9) then (if (lesser (greater a2 0) 9) ≤ 9 then (if (t311 ++ (⟨#[58, 58]⟩ : ByteArray)).size + ((⟨#[32, 32, 32, 32, 32, 32, 32, 32, 32]⟩ : ByteArray).extract 0 ((lesser (greater a2 0) 9) : Int).toNat).size ≤ 9223372036854775807 then ((code_Base.f t312).bind fun t315 => (if ((t311 ++ (⟨#[58, 58]⟩ : ByteArray)) ++ ((⟨#[32, 32, 32, 32, 32, 32, 32, 32, 32]⟩ : ByteArray).extract 0 ((lesser (greater a2 0) 9) : Int).toNat)).size + t315.size ≤ 9223372036854775807 then ((fold_ReadItem.f (((t311 ++ (⟨#[58, 58]⟩ : ByteArray)) ++ ((⟨#[32, 32, 32, 32, 32, 32, 32, 32, 32]⟩ : ByteArray).extract 0 ((lesser (greater a2 0) 9) : Int).toNat)) ++ t315)).bind fun bt316 => (if bt313.2 = 0 then (if t310 = true then (if bt316.2.2 = 0 then (if bt316.1.toList = t311.toList then (some (bt316.2.1.toList == t312.toList)) else (some false)) else (some false)) else (some false)) else (if t310 = true then (if bt316.2.2 = 0 then (some true) else (if bt316.1.toList = ([] : List UInt8) then (some (bt316.2.1.toList == ([] : List UInt8))) else (some false))) else (some false)))) else (none))) else (none)) else (none)) else (none)) else (none)))))
def latinerlaw15_FoldBase.T5 : Bool × List (List Nat × List Nat) := (true, [([], []), ([0], [0]), ([], []), ([2], [2]), ([3], [3]), ([4], [4]), ([1, 5], [1, 5]), ([], []), ([7], [7]), ([6, 8], [6, 8]), ([9, 8], [9]), ([10], [10]), ([11], [11]), ([11], [11]), ([11], [11]), ([12, 10, 0, 1, 2, 3, 4, 5, 6, 7, 8, 9, 10, 11, 12], [12]), ([13, 15, 0, 1, 2, 3, 4, 5, 6, 7, 8, 9, 10, 11, 12, 13, 15], [13]), ([14, 16, 0, 1, 2, 3, 4, 5, 6, 7, 8, 9, 10, 11, 12, 13, 14, 15, 16], [14])])
def latinerlaw15_FoldBase.B5 : List Nat := [0, 1, 0, 4, 12, 28, 63, 0, 128, 511, 1023, 2047, 4095, 4095, 4095, 8191, 49151, 131071]
theorem latinerlaw15_FoldBase.tab5 : rtab .any (opsOf Tryz.f10 5) = latinerlaw15_FoldBase.T5 := by kernel_rfl
theorem latinerlaw15_FoldBase.bits5 : waitsOk latinerlaw15_FoldBase.T5.2 latinerlaw15_FoldBase.B5 = true := by kernel_rfl
set_option maxHeartbeats 8000000 in
set_option maxRecDepth 100000 in
theorem latinerlaw15_FoldBase.calls (k : Nat) (a0 : ByteArray) (a1 : ByteArray) (a2 : Int) (r : Bool) (w : World) (hG : GW w) (h : latinerlaw15_FoldBase.f k a0 a1 a2 = some r) :
    Calls Tryz.prog 10 #[.string a0, .string a1, .int .i64 a2] w fun e w' => e = .returned (.bool r) ∧ Below w.heap.size w w' := by
  have HB := Aside0.mk (Below.refl w.heap.size w)
  have H : ((latinerlaw15_shown.f k).bind fun t310 => ((latinerlaw15_short.f a0).bind fun t311 => ((latinerlaw15_short.f a1).bind fun t312 => ((fold_Item.f t311 (⟨#[120]⟩ : ByteArray)).bind fun bt313 => (if t311.size + 2 ≤ 9223372036854775807 then (if 0 ≤ (lesser (greater a2 0) 9) then (if (lesser (greater a2 0) 9) ≤ 9 then (if (t311 ++ (⟨#[58, 58]⟩ : ByteArray)).size + ((⟨#[32, 32, 32, 32, 32, 32, 32, 32, 32]⟩ : ByteArray).extract 0 ((lesser (greater a2 0) 9) : Int).toNat).size ≤ 9223372036854775807 then ((code_Base.f t312).bind fun t315 => (if ((t311 ++ (⟨#[58, 58]⟩ : ByteArray)) ++ ((⟨#[32, 32, 32, 32, 32, 32, 32, 32, 32]⟩ : ByteArray).extract 0 ((lesser (greater a2 0) 9) : Int).toNat)).size + t315.size ≤ 9223372036854775807 then ((fold_ReadItem.f (((t311 ++ (⟨#[58, 58]⟩ : ByteArray)) ++ ((⟨#[32, 32, 32, 32, 32, 32, 32, 32, 32]⟩ : ByteArray).extract 0 ((lesser (greater a2 0) 9) : Int).toNat)) ++ t315)).bind fun bt316 => (if bt313.2 = 0 then (if t310 = true then (if bt316.2.2 = 0 then (if bt316.1.toList = t311.toList then (some (bt316.2.1.toList == t312.toList)) else (some false)) else (some false)) else (some false)) else (if t310 = true then (if bt316.2.2 = 0 then (some true) else (if bt316.1.toList = ([] : List UInt8) then (some (bt316.2.1.toList == ([] : List UInt8))) else (some false))) else (some false)))) else (none))) else (none)) else (none)) else (none)) else (none)))))) = some r := h
  clear h
  replace H := Option.bind_eq_some_iff.mp H
  obtain ⟨t310, A40, H⟩ := H
  replace H : ((latinerlaw15_short.f a0).bind fun t311 => ((latinerlaw15_short.f a1).bind fun t312 => ((fold_Item.f t311 (⟨#[120]⟩ : ByteArray)).bind fun bt313 => (if t311.size + 2 ≤ 9223372036854775807 then (if 0 ≤ (lesser (greater a2 0) 9) then (if (lesser (greater a2 0) 9) ≤ 9 then (if (t311 ++ (⟨#[58, 58]⟩ : ByteArray)).size + ((⟨#[32, 32, 32, 32, 32, 32, 32, 32, 32]⟩ : ByteArray).extract 0 ((lesser (greater a2 0) 9) : Int).toNat).size ≤ 9223372036854775807 then ((code_Base.f t312).bind fun t315 => (if ((t311 ++ (⟨#[58, 58]⟩ : ByteArray)) ++ ((⟨#[32, 32, 32, 32, 32, 32, 32, 32, 32]⟩ : ByteArray).extract 0 ((lesser (greater a2 0) 9) : Int).toNat)).size + t315.size ≤ 9223372036854775807 then ((fold_ReadItem.f (((t311 ++ (⟨#[58, 58]⟩ : ByteArray)) ++ ((⟨#[32, 32, 32, 32, 32, 32, 32, 32, 32]⟩ : ByteArray).extract 0 ((lesser (greater a2 0) 9) : Int).toNat)) ++ t315)).bind fun bt316 => (if bt313.2 = 0 then (if t310 = true then (if bt316.2.2 = 0 then (if bt316.1.toList = t311.toList then (some (bt316.2.1.toList == t312.toList)) else (some false)) else (some false)) else (some false)) else (if t310 = true then (if bt316.2.2 = 0 then (some true) else (if bt316.1.toList = ([] : List UInt8) then (some (bt316.2.1.toList == ([] : List UInt8))) else (some false))) else (some false)))) else (none))) else (none)) else (none)) else (none)) else (none))))) = some r := H
  have A4 := Aside0.mk A40
  clear A40
  replace H := Option.bind_eq_some_iff.mp H
  obtain ⟨t311, A50, H⟩ := H
  replace H : ((latinerlaw15_short.f a1).bind fun t312 => ((fold_Item.f t311 (⟨#[120]⟩ : ByteArray)).bind fun bt313 => (if t311.size + 2 ≤ 9223372036854775807 then (if 0 ≤ (lesser (greater a2 0) 9) then (if (lesser (greater a2 0) 9) ≤ 9 then (if (t311 ++ (⟨#[58, 58]⟩ : ByteArray)).size + ((⟨#[32, 32, 32, 32, 32, 32, 32, 32, 32]⟩ : ByteArray).extract 0 ((lesser (greater a2 0) 9) : Int).toNat).size ≤ 9223372036854775807 then ((code_Base.f t312).bind fun t315 => (if ((t311 ++ (⟨#[58, 58]⟩ : ByteArray)) ++ ((⟨#[32, 32, 32, 32, 32, 32, 32, 32, 32]⟩ : ByteArray).extract 0 ((lesser (greater a2 0) 9) : Int).toNat)).size + t315.size ≤ 9223372036854775807 then ((fold_ReadItem.f (((t311 ++ (⟨#[58, 58]⟩ : ByteArray)) ++ ((⟨#[32, 32, 32, 32, 32, 32, 32, 32, 32]⟩ : ByteArray).extract 0 ((lesser (greater a2 0) 9) : Int).toNat)) ++ t315)).bind fun bt316 => (if bt313.2 = 0 then (if t310 = true then (if bt316.2.2 = 0 then (if bt316.1.toList = t311.toList then (some (bt316.2.1.toList == t312.toList)) else (some false)) else (some false)) else (some false)) else (if t310 = true then (if bt316.2.2 = 0 then (some true) else (if bt316.1.toList = ([] : List UInt8) then (some (bt316.2.1.toList == ([] : List UInt8))) else (some false))) else (some false)))) else (none))) else (none)) else (none)) else (none)) else (none)))) = some r := H
  have A5 := Aside0.mk A50
  clear A50
  replace H := Option.bind_eq_some_iff.mp H
  obtain ⟨t312, A60, H⟩ := H
  replace H : ((fold_Item.f t311 (⟨#[120]⟩ : ByteArray)).bind fun bt313 => (if t311.size + 2 ≤ 9223372036854775807 then (if 0 ≤ (lesser (greater a2 0) 9) then (if (lesser (greater a2 0) 9) ≤ 9 then (if (t311 ++ (⟨#[58, 58]⟩ : ByteArray)).size + ((⟨#[32, 32, 32, 32, 32, 32, 32, 32, 32]⟩ : ByteArray).extract 0 ((lesser (greater a2 0) 9) : Int).toNat).size ≤ 9223372036854775807 then ((code_Base.f t312).bind fun t315 => (if ((t311 ++ (⟨#[58, 58]⟩ : ByteArray)) ++ ((⟨#[32, 32, 32, 32, 32, 32, 32, 32, 32]⟩ : ByteArray).extract 0 ((lesser (greater a2 0) 9) : Int).toNat)).size + t315.size ≤ 9223372036854775807 then ((fold_ReadItem.f (((t311 ++ (⟨#[58, 58]⟩ : ByteArray)) ++ ((⟨#[32, 32, 32, 32, 32, 32, 32, 32, 32]⟩ : ByteArray).extract 0 ((lesser (greater a2 0) 9) : Int).toNat)) ++ t315)).bind fun bt316 => (if bt313.2 = 0 then (if t310 = true then (if bt316.2.2 = 0 then (if bt316.1.toList = t311.toList then (some (bt316.2.1.toList == t312.toList)) else (some false)) else (some false)) else (some false)) else (if t310 = true then (if bt316.2.2 = 0 then (some true) else (if bt316.1.toList = ([] : List UInt8) then (some (bt316.2.1.toList == ([] : List UInt8))) else (some false))) else (some false)))) else (none))) else (none)) else (none)) else (none)) else (none))) = some r := H
  have A6 := Aside0.mk A60
  clear A60
  replace H := Option.bind_eq_some_iff.mp H
  obtain ⟨⟨t313, t314⟩, A70, H⟩ := H
  replace H : (if t311.size + 2 ≤ 9223372036854775807 then (if 0 ≤ (lesser (greater a2 0) 9) then (if (lesser (greater a2 0) 9) ≤ 9 then (if (t311 ++ (⟨#[58, 58]⟩ : ByteArray)).size + ((⟨#[32, 32, 32, 32, 32, 32, 32, 32, 32]⟩ : ByteArray).extract 0 ((lesser (greater a2 0) 9) : Int).toNat).size ≤ 9223372036854775807 then ((code_Base.f t312).bind fun t315 => (if ((t311 ++ (⟨#[58, 58]⟩ : ByteArray)) ++ ((⟨#[32, 32, 32, 32, 32, 32, 32, 32, 32]⟩ : ByteArray).extract 0 ((lesser (greater a2 0) 9) : Int).toNat)).size + t315.size ≤ 9223372036854775807 then ((fold_ReadItem.f (((t311 ++ (⟨#[58, 58]⟩ : ByteArray)) ++ ((⟨#[32, 32, 32, 32, 32, 32, 32, 32, 32]⟩ : ByteArray).extract 0 ((lesser (greater a2 0) 9) : Int).toNat)) ++ t315)).bind fun bt316 => (if t314 = 0 then (if t310 = true then (if bt316.2.2 = 0 then (if bt316.1.toList = t311.toList then (some (bt316.2.1.toList == t312.toList)) else (some false)) else (some false)) else (some false)) else (if t310 = true then (if bt316.2.2 = 0 then (some true) else (if bt316.1.toList = ([] : List UInt8) then (some (bt316.2.1.toList == ([] : List UInt8))) else (some false))) else (some false)))) else (none))) else (none)) else (none)) else (none)) else (none)) = some r := H
  have A7 := Aside0.mk A70
  clear A70
  by_cases c8 : t311.size + 2 ≤ 9223372036854775807
  · rw [if_pos c8] at H
    have c8b0 := eq_true c8
    have c8b1 : decide (t311.size + 2 ≤ 9223372036854775807) = true := decide_eq_true c8
    try have c8b2 : (9223372036854775807 < t311.size + 2) = False := eq_false (Nat.not_lt.2 c8)
    obtain ⟨ji9, hji9⟩ : ∃ j_ : Int, (greater a2 0) = j_ := ⟨_, rfl⟩
    replace H : (if 0 ≤ (lesser (ji9) 9) then (if (lesser (ji9) 9) ≤ 9 then (if (t311 ++ (⟨#[58, 58]⟩ : ByteArray)).size + ((⟨#[32, 32, 32, 32, 32, 32, 32, 32, 32]⟩ : ByteArray).extract 0 ((lesser (ji9) 9) : Int).toNat).size ≤ 9223372036854775807 then ((code_Base.f t312).bind fun t315 => (if ((t311 ++ (⟨#[58, 58]⟩ : ByteArray)) ++ ((⟨#[32, 32, 32, 32, 32, 32, 32, 32, 32]⟩ : ByteArray).extract 0 ((lesser (ji9) 9) : Int).toNat)).size + t315.size ≤ 9223372036854775807 then ((fold_ReadItem.f (((t311 ++ (⟨#[58, 58]⟩ : ByteArray)) ++ ((⟨#[32, 32, 32, 32, 32, 32, 32, 32, 32]⟩ : ByteArray).extract 0 ((lesser (ji9) 9) : Int).toNat)) ++ t315)).bind fun bt316 => (if t314 = 0 then (if t310 = true then (if bt316.2.2 = 0 then (if bt316.1.toList = t311.toList then (some (bt316.2.1.toList == t312.toList)) else (some false)) else (some false)) else (some false)) else (if t310 = true then (if bt316.2.2 = 0 then (some true) else (if bt316.1.toList = ([] : List UInt8) then (some (bt316.2.1.toList == ([] : List UInt8))) else (some false))) else (some false)))) else (none))) else (none)) else (none)) else (none)) = some r := by first | (rw [hji9] at H; exact H) | (simp only [hji9] at H ⊢; exact H)
    (try rw [hji9] at A4)
    (try rw [hji9] at A5)
    (try rw [hji9] at A6)
    (try rw [hji9] at A7)
    (try (have hji9l : 0 ≤ ji9 := by (rw [← hji9]; unfold greater; (repeat' split) <;> omega)))
    (try (have hji9m : 0 ≤ ji9 := by omega))
    have hji9_ : (if a2 < 0 then 0 else a2) = ji9 := hji9
    obtain ⟨ji10, hji10⟩ : ∃ j_ : Int, (lesser (ji9) 9) = j_ := ⟨_, rfl⟩
    replace H : (if 0 ≤ (ji10) then (if (ji10) ≤ 9 then (if (t311 ++ (⟨#[58, 58]⟩ : ByteArray)).size + ((⟨#[32, 32, 32, 32, 32, 32, 32, 32, 32]⟩ : ByteArray).extract 0 ((ji10) : Int).toNat).size ≤ 9223372036854775807 then ((code_Base.f t312).bind fun t315 => (if ((t311 ++ (⟨#[58, 58]⟩ : ByteArray)) ++ ((⟨#[32, 32, 32, 32, 32, 32, 32, 32, 32]⟩ : ByteArray).extract 0 ((ji10) : Int).toNat)).size + t315.size ≤ 9223372036854775807 then ((fold_ReadItem.f (((t311 ++ (⟨#[58, 58]⟩ : ByteArray)) ++ ((⟨#[32, 32, 32, 32, 32, 32, 32, 32, 32]⟩ : ByteArray).extract 0 ((ji10) : Int).toNat)) ++ t315)).bind fun bt316 => (if t314 = 0 then (if t310 = true then (if bt316.2.2 = 0 then (if bt316.1.toList = t311.toList then (some (bt316.2.1.toList == t312.toList)) else (some false)) else (some false)) else (some false)) else (if t310 = true then (if bt316.2.2 = 0 then (some true) else (if bt316.1.toList = ([] : List UInt8) then (some (bt316.2.1.toList == ([] : List UInt8))) else (some false))) else (some false)))) else (none))) else (none)) else (none)) else (none)) = some r := by first | (rw [hji10] at H; exact H) | (simp only [hji10] at H ⊢; exact H)
    obtain ⟨sx10_0, hsx10_0⟩ : ∃ z_ : ByteArray, ((⟨#[32, 32, 32, 32, 32, 32, 32, 32, 32]⟩ : ByteArray).extract 0 ((ji10) : Int).toNat) = z_ := ⟨_, rfl⟩
    rw [hsx10_0] at H
    (try rw [hji10] at A4)
    (try rw [hji10] at A5)
    (try rw [hji10] at A6)
    (try rw [hji10] at A7)
    have hji10_ : (if 9 < (ji9) then 9 else (ji9)) = ji10 := hji10
    by_cases c11 : 0 ≤ (ji10)
    · rw [if_pos c11] at H
      have c11b0 := eq_true c11
      have c11b1 : decide (0 ≤ (ji10)) = true := decide_eq_true c11
      clear c11
      by_cases c12 : (ji10) ≤ 9
      · rw [if_pos c12] at H
        have c12b0 := eq_true c12
        have c12b1 : decide ((ji10) ≤ 9) = true := decide_eq_true c12
        clear c12
        by_cases c13 : (t311 ++ (⟨#[58, 58]⟩ : ByteArray)).size + sx10_0.size ≤ 9223372036854775807
        · rw [if_pos c13] at H
          have c13b0 := eq_true c13
          have c13b1 : decide ((t311 ++ (⟨#[58, 58]⟩ : ByteArray)).size + sx10_0.size ≤ 9223372036854775807) = true := decide_eq_true c13
          try have c13b2 : (9223372036854775807 < (t311 ++ (⟨#[58, 58]⟩ : ByteArray)).size + sx10_0.size) = False := eq_false (Nat.not_lt.2 c13)
          replace H := Option.bind_eq_some_iff.mp H
          obtain ⟨t315, A140, H⟩ := H
          replace H : (if ((t311 ++ (⟨#[58, 58]⟩ : ByteArray)) ++ sx10_0).size + t315.size ≤ 9223372036854775807 then ((fold_ReadItem.f (((t311 ++ (⟨#[58, 58]⟩ : ByteArray)) ++ sx10_0) ++ t315)).bind fun bt316 => (if t314 = 0 then (if t310 = true then (if bt316.2.2 = 0 then (if bt316.1.toList = t311.toList then (some (bt316.2.1.toList == t312.toList)) else (some false)) else (some false)) else (some false)) else (if t310 = true then (if bt316.2.2 = 0 then (some true) else (if bt316.1.toList = ([] : List UInt8) then (some (bt316.2.1.toList == ([] : List UInt8))) else (some false))) else (some false)))) else (none)) = some r := H
          have A14 := Aside0.mk A140
          clear A140
          by_cases c15 : ((t311 ++ (⟨#[58, 58]⟩ : ByteArray)) ++ sx10_0).size + t315.size ≤ 9223372036854775807
          · rw [if_pos c15] at H
            have c15b0 := eq_true c15
            have c15b1 : decide (((t311 ++ (⟨#[58, 58]⟩ : ByteArray)) ++ sx10_0).size + t315.size ≤ 9223372036854775807) = true := decide_eq_true c15
            try have c15b2 : (9223372036854775807 < ((t311 ++ (⟨#[58, 58]⟩ : ByteArray)) ++ sx10_0).size + t315.size) = False := eq_false (Nat.not_lt.2 c15)
            replace H := Option.bind_eq_some_iff.mp H
            obtain ⟨⟨t316, t317, t318⟩, A160, H⟩ := H
            replace H : (if t314 = 0 then (if t310 = true then (if t318 = 0 then (if t316.toList = t311.toList then (some (t317.toList == t312.toList)) else (some false)) else (some false)) else (some false)) else (if t310 = true then (if t318 = 0 then (some true) else (if t316.toList = ([] : List UInt8) then (some (t317.toList == ([] : List UInt8))) else (some false))) else (some false))) = some r := H
            have A16 := Aside0.mk A160
            clear A160
            by_cases c17 : t314 = 0
            · rw [if_pos c17] at H
              have c17b0 : (t314 == 0) = true := beq_iff_eq.mpr c17
              have c17b1 : (t314 != 0) = false := bne_eq_false_iff_eq.mpr c17
              clear c17
              by_cases c18 : t310 = true
              · subst c18
                have H1 : (if t318 = 0 then (if t316.toList = t311.toList then (some (t317.toList == t312.toList)) else (some false)) else (some false)) = some r := by rw [if_pos rfl] at H; exact H
                clear H
                have H := H1
                clear H1
                by_cases c19 : t318 = 0
                · rw [if_pos c19] at H
                  have c19b0 : (t318 == 0) = true := beq_iff_eq.mpr c19
                  have c19b1 : (t318 != 0) = false := bne_eq_false_iff_eq.mpr c19
                  clear c19
                  by_cases c20 : t316.toList = t311.toList
                  · rw [if_pos c20] at H
                    have c20b0 : (t316.toList == t311.toList) = true := beq_iff_eq.mpr c20
                    have c20b1 : (t316.toList != t311.toList) = false := bne_eq_false_iff_eq.mpr c20
                    clear c20
                    obtain rfl := Option.some.inj H
                    go_enter Tryz.func10, Tryz.ntmps10
                    try go_wp2_with (first | ((with_reducible refine own_gate (f := 11) rfl ?_); refine goesL_ (some 13) rfl rfl Tryz.func11 (by kernel_rfl) rfl #[] rfl (by (try simp only [List.map_toArray, List.map_cons, List.map_nil]); first | done | rfl | (simp only [List.length_drop, List.length_take]; rfl)) ?_; (with_reducible refine (latinerlaw15_shown.calls k  true _ ?side1 A4.out).mono ?_); (case side1 => exact GW.below hG (by repeat (first | (with_reducible first | exact HB.out | apply below_alloc | apply pw_below_drewN | apply below_drew1) | exact HB.out))); rintro e w21 ⟨rfl, hb⟩; refine ⟨_, rfl, ?_⟩; have n0_ := Aside0.mk (below_step (by repeat (first | (with_reducible first | exact HB.out | apply below_alloc | apply pw_below_drewN | apply below_drew1) | exact HB.out)) hb); clear HB; have HB := n0_; clear n0_; (try clear hb); (try clear hb2); (try clear hk); (try clear hi)) | ((with_reducible refine own_gate (f := 18) rfl ?_); refine goesL_ (some 15) rfl rfl Tryz.func18 (by kernel_rfl) rfl #[.string a0] rfl (by (try simp only [List.map_toArray, List.map_cons, List.map_nil]); first | done | rfl | (simp only [List.length_drop, List.length_take]; rfl)) ?_; (with_reducible refine (latinerlaw15_short.calls a0 t311 _ A5.out).mono ?_); rintro e w22 ⟨rfl, hb⟩; refine ⟨_, rfl, ?_⟩; have n0_ := Aside0.mk (below_step (by repeat (first | (with_reducible first | exact HB.out | apply below_alloc | apply pw_below_drewN | apply below_drew1) | exact HB.out)) hb); clear HB; have HB := n0_; clear n0_; (try clear hb); (try clear hb2); (try clear hk); (try clear hi)) | ((with_reducible refine own_gate (f := 18) rfl ?_); refine goesL_ (some 17) rfl rfl Tryz.func18 (by kernel_rfl) rfl #[.string a1] rfl (by (try simp only [List.map_toArray, List.map_cons, List.map_nil]); first | done | rfl | (simp only [List.length_drop, List.length_take]; rfl)) ?_; (with_reducible refine (latinerlaw15_short.calls a1 t312 _ A6.out).mono ?_); rintro e w23 ⟨rfl, hb⟩; refine ⟨_, rfl, ?_⟩; have n0_ := Aside0.mk (below_step (by repeat (first | (with_reducible first | exact HB.out | apply below_alloc | apply pw_below_drewN | apply below_drew1) | exact HB.out)) hb); clear HB; have HB := n0_; clear n0_; (try clear hb); (try clear hb2); (try clear hk); (try clear hi)) | ((with_reducible refine own_gate (f := 19) rfl ?_); refine goesL_ (some 20) rfl rfl Tryz.func19 (by kernel_rfl) rfl #[.string t311, .string (⟨#[120]⟩ : ByteArray)] rfl (by (try simp only [List.map_toArray, List.map_cons, List.map_nil]); first | done | rfl | (simp only [List.length_drop, List.length_take]; rfl)) ?_; (with_reducible refine (fold_Item.calls t311 (⟨#[120]⟩ : ByteArray) t313 t314 _ ?side1 A7.out).mono ?_); (case side1 => exact GW.below hG (by repeat (first | (with_reducible first | exact HB.out | apply below_alloc | apply pw_below_drewN | apply below_drew1) | exact HB.out))); rintro e w24 ⟨rfl, hb⟩; refine ⟨_, rfl, ?_⟩; have n0_ := Aside0.mk (below_step (by repeat (first | (with_reducible first | exact HB.out | apply below_alloc | apply pw_below_drewN | apply below_drew1) | exact HB.out)) hb); clear HB; have HB := n0_; clear n0_; (try clear hb); (try clear hb2); (try clear hk); (try clear hi)))
                    have n0_ := Aside0.mk (below_drew1 HB.out)
                    clear HB
                    have HB := n0_
                    clear n0_
                    refine start_ (n := 18) (S := fun w' => True) (ds := []) #[false, false, false, false, false, false, false, false, false, false, false, false, false, false, false, false, false, false] (by kernel_rfl) rfl rfl trivial (fun hHeld => ?_); refine with_tabW latinerlaw15_FoldBase.tab5 latinerlaw15_FoldBase.bits5 (fun HT_ HW_ => ?_)
                    generalize w24.drew = w25 at HB hHeld ⊢
                    refine pure_ (i := 0) (N := some 24) (v := ?_) (a' := ?_) #[true, false, false, false, false, false, false, false, false, false, false, false, false, false, false, false, false, false] rfl rfl (any_of HT_.out (by kernel_rfl)) (fun _ _ _ h => h) (Or.inl ⟨by rfl, ?_⟩) ?_ ?_
                    rotate_left
                    · intro w'
                      go_simp
                      first | with_reducible rfl | (rw [if_neg (by have q_ := c15; have e0_ : (⟨#[58, 58]⟩ : ByteArray).size = 2 := rfl; simp at q_; omega)]; done) | (rw [if_neg (by have q_ := c15; have e0_ : (⟨#[58, 58]⟩ : ByteArray).size = 2 := rfl; simp at q_; omega)]; rfl) | (rw [if_neg (by have q_ := c13; have e0_ : (⟨#[58, 58]⟩ : ByteArray).size = 2 := rfl; simp at q_; omega)]; done) | (rw [if_neg (by have q_ := c13; have e0_ : (⟨#[58, 58]⟩ : ByteArray).size = 2 := rfl; simp at q_; omega)]; rfl) | (rw [if_neg (by have q_ := c8; simp at q_; omega)]; done) | (rw [if_neg (by have q_ := c8; simp at q_; omega)]; rfl)
                    rotate_left
                    · simp only [Act.put, List.setIfInBounds_toArray, List.set_cons_zero, List.set_cons_succ, i64_w, i32_w]
                      rfl
                    refine pure_ (i := 1) (N := some 25) (v := ?_) (a' := ?_) #[true, true, false, false, false, false, false, false, false, false, false, false, false, false, false, false, false, false] rfl rfl (any_of HT_.out (by kernel_rfl)) (fun _ _ _ h => h) (Or.inl ⟨by rfl, ?_⟩) ?_ ?_
                    rotate_left
                    · intro w'
                      go_simp
                      first | with_reducible rfl | (rw [if_neg (by have q_ := c15; have e0_ : (⟨#[58, 58]⟩ : ByteArray).size = 2 := rfl; simp at q_; omega)]; done) | (rw [if_neg (by have q_ := c15; have e0_ : (⟨#[58, 58]⟩ : ByteArray).size = 2 := rfl; simp at q_; omega)]; rfl) | (rw [if_neg (by have q_ := c13; have e0_ : (⟨#[58, 58]⟩ : ByteArray).size = 2 := rfl; simp at q_; omega)]; done) | (rw [if_neg (by have q_ := c13; have e0_ : (⟨#[58, 58]⟩ : ByteArray).size = 2 := rfl; simp at q_; omega)]; rfl) | (rw [if_neg (by have q_ := c8; simp at q_; omega)]; done) | (rw [if_neg (by have q_ := c8; simp at q_; omega)]; rfl)
                    rotate_left
                    · simp only [Act.put, List.setIfInBounds_toArray, List.set_cons_zero, List.set_cons_succ, i64_w, i32_w]
                      rfl
                    refine pure_ (i := 2) (N := some 26) (v := ?_) (a' := ?_) #[true, true, true, false, false, false, false, false, false, false, false, false, false, false, false, false, false, false] rfl rfl (any_of HT_.out (by kernel_rfl)) (fun _ _ _ h => h) (Or.inl ⟨by rfl, ?_⟩) ?_ ?_
                    rotate_left
                    · intro w'
                      go_simp
                      first | with_reducible rfl | (rw [if_neg (by have q_ := c15; have e0_ : (⟨#[58, 58]⟩ : ByteArray).size = 2 := rfl; simp at q_; omega)]; done) | (rw [if_neg (by have q_ := c15; have e0_ : (⟨#[58, 58]⟩ : ByteArray).size = 2 := rfl; simp at q_; omega)]; rfl) | (rw [if_neg (by have q_ := c13; have e0_ : (⟨#[58, 58]⟩ : ByteArray).size = 2 := rfl; simp at q_; omega)]; done) | (rw [if_neg (by have q_ := c13; have e0_ : (⟨#[58, 58]⟩ : ByteArray).size = 2 := rfl; simp at q_; omega)]; rfl) | (rw [if_neg (by have q_ := c8; simp at q_; omega)]; done) | (rw [if_neg (by have q_ := c8; simp at q_; omega)]; rfl)
                    rotate_left
                    · simp only [Act.put, List.setIfInBounds_toArray, List.set_cons_zero, List.set_cons_succ, i64_w, i32_w]
                      rfl
                    refine pure_ (i := 3) (N := some 27) (v := ?_) (a' := ?_) #[true, true, true, true, false, false, false, false, false, false, false, false, false, false, false, false, false, false] rfl rfl (any_of HT_.out (by kernel_rfl)) (fun _ _ _ h => h) (Or.inl ⟨by rfl, ?_⟩) ?_ ?_
                    rotate_left
                    · intro w'
                      go_simp
                      first | with_reducible rfl | (rw [if_neg (by have q_ := c15; have e0_ : (⟨#[58, 58]⟩ : ByteArray).size = 2 := rfl; simp at q_; omega)]; done) | (rw [if_neg (by have q_ := c15; have e0_ : (⟨#[58, 58]⟩ : ByteArray).size = 2 := rfl; simp at q_; omega)]; rfl) | (rw [if_neg (by have q_ := c13; have e0_ : (⟨#[58, 58]⟩ : ByteArray).size = 2 := rfl; simp at q_; omega)]; done) | (rw [if_neg (by have q_ := c13; have e0_ : (⟨#[58, 58]⟩ : ByteArray).size = 2 := rfl; simp at q_; omega)]; rfl) | (rw [if_neg (by have q_ := c8; simp at q_; omega)]; done) | (rw [if_neg (by have q_ := c8; simp at q_; omega)]; rfl)
                    rotate_left
                    · simp only [Act.put, List.setIfInBounds_toArray, List.set_cons_zero, List.set_cons_succ, i64_w, i32_w]
                      rfl
                    refine pure_ (i := 4) (N := some 28) (v := ?_) (a' := ?_) #[true, true, true, true, true, false, false, false, false, false, false, false, false, false, false, false, false, false] rfl rfl (any_of HT_.out (by kernel_rfl)) (fun _ _ _ h => h) (Or.inl ⟨by rfl, ?_⟩) ?_ ?_
                    rotate_left
                    · intro w'
                      go_simp
                      first | with_reducible rfl | (rw [if_neg (by have q_ := c15; have e0_ : (⟨#[58, 58]⟩ : ByteArray).size = 2 := rfl; simp at q_; omega)]; done) | (rw [if_neg (by have q_ := c15; have e0_ : (⟨#[58, 58]⟩ : ByteArray).size = 2 := rfl; simp at q_; omega)]; rfl) | (rw [if_neg (by have q_ := c13; have e0_ : (⟨#[58, 58]⟩ : ByteArray).size = 2 := rfl; simp at q_; omega)]; done) | (rw [if_neg (by have q_ := c13; have e0_ : (⟨#[58, 58]⟩ : ByteArray).size = 2 := rfl; simp at q_; omega)]; rfl) | (rw [if_neg (by have q_ := c8; simp at q_; omega)]; done) | (rw [if_neg (by have q_ := c8; simp at q_; omega)]; rfl)
                    rotate_left
                    · simp only [Act.put, List.setIfInBounds_toArray, List.set_cons_zero, List.set_cons_succ, i64_w, i32_w]
                      rfl
                    refine pure_ (i := 5) (N := some 29) (v := ?_) (a' := ?_) #[true, true, true, true, true, true, false, false, false, false, false, false, false, false, false, false, false, false] rfl rfl (any_of HT_.out (by kernel_rfl)) (fun _ _ _ h => h) (Or.inl ⟨by rfl, ?_⟩) ?_ ?_
                    rotate_left
                    · intro w'
                      go_simp
                      first | with_reducible rfl | (rw [if_neg (by have q_ := c15; have e0_ : (⟨#[58, 58]⟩ : ByteArray).size = 2 := rfl; simp at q_; omega)]; done) | (rw [if_neg (by have q_ := c15; have e0_ : (⟨#[58, 58]⟩ : ByteArray).size = 2 := rfl; simp at q_; omega)]; rfl) | (rw [if_neg (by have q_ := c13; have e0_ : (⟨#[58, 58]⟩ : ByteArray).size = 2 := rfl; simp at q_; omega)]; done) | (rw [if_neg (by have q_ := c13; have e0_ : (⟨#[58, 58]⟩ : ByteArray).size = 2 := rfl; simp at q_; omega)]; rfl) | (rw [if_neg (by have q_ := c8; simp at q_; omega)]; done) | (rw [if_neg (by have q_ := c8; simp at q_; omega)]; rfl)
                    rotate_left
                    · simp only [Act.put, List.setIfInBounds_toArray, List.set_cons_zero, List.set_cons_succ, i64_w, i32_w]
                      rfl
                    refine pure_ (i := 6) (N := some 30) (v := ?_) (a' := ?_) #[true, true, true, true, true, true, true, false, false, false, false, false, false, false, false, false, false, false] rfl rfl (any_of HT_.out (by kernel_rfl)) (fun _ _ _ h => h) (Or.inl ⟨by rfl, ?_⟩) ?_ ?_
                    rotate_left
                    · intro w'
                      go_simp
                      first | with_reducible rfl | (rw [if_neg (by have q_ := c15; have e0_ : (⟨#[58, 58]⟩ : ByteArray).size = 2 := rfl; simp at q_; omega)]; done) | (rw [if_neg (by have q_ := c15; have e0_ : (⟨#[58, 58]⟩ : ByteArray).size = 2 := rfl; simp at q_; omega)]; rfl) | (rw [if_neg (by have q_ := c13; have e0_ : (⟨#[58, 58]⟩ : ByteArray).size = 2 := rfl; simp at q_; omega)]; done) | (rw [if_neg (by have q_ := c13; have e0_ : (⟨#[58, 58]⟩ : ByteArray).size = 2 := rfl; simp at q_; omega)]; rfl) | (rw [if_neg (by have q_ := c8; simp at q_; omega)]; done) | (rw [if_neg (by have q_ := c8; simp at q_; omega)]; rfl)
                    rotate_left
                    · simp only [Act.put, List.setIfInBounds_toArray, List.set_cons_zero, List.set_cons_succ, i64_w, i32_w]
                      rfl
                    refine pure_ (i := 7) (N := some 31) (v := ?_) (a' := ?_) #[true, true, true, true, true, true, true, true, false, false, false, false, false, false, false, false, false, false] rfl rfl (any_of HT_.out (by kernel_rfl)) (fun _ _ _ h => h) (Or.inl ⟨by rfl, ?_⟩) ?_ ?_
                    rotate_left
                    · intro w'
                      go_simp
                      first | with_reducible rfl | (rw [if_neg (by have q_ := c15; have e0_ : (⟨#[58, 58]⟩ : ByteArray).size = 2 := rfl; simp at q_; omega)]; done) | (rw [if_neg (by have q_ := c15; have e0_ : (⟨#[58, 58]⟩ : ByteArray).size = 2 := rfl; simp at q_; omega)]; rfl) | (rw [if_neg (by have q_ := c13; have e0_ : (⟨#[58, 58]⟩ : ByteArray).size = 2 := rfl; simp at q_; omega)]; done) | (rw [if_neg (by have q_ := c13; have e0_ : (⟨#[58, 58]⟩ : ByteArray).size = 2 := rfl; simp at q_; omega)]; rfl) | (rw [if_neg (by have q_ := c8; simp at q_; omega)]; done) | (rw [if_neg (by have q_ := c8; simp at q_; omega)]; rfl)
                    rotate_left
                    · simp only [Act.put, List.setIfInBounds_toArray, List.set_cons_zero, List.set_cons_succ, i64_w, i32_w]
                      rfl
                    refine one_ (i := 8) (N := some 32) #[true, true, true, true, true, true, true, true, true, false, false, false, false, false, false, false, false, false] rfl rfl (one_of HT_.out (by kernel_rfl)) (by decide) (fun K hK => ?_)
                    refine goes_ Tryz.func23 (by kernel_rfl) rfl #[.string t312] (by rfl) rfl rfl (by (try simp only [List.map_toArray, List.map_cons, List.map_nil]); first | done | rfl | (simp only [List.length_drop, List.length_take]; rfl)) ?_
                    with_reducible refine (code_Base.calls t312 t315 _ ?side1 A14.out).mono ?_
                    (case side1 => exact GW.below hG (by repeat (first | (with_reducible first | exact HB.out | apply below_alloc | apply pw_below_drewN | apply below_drew1) | exact HB.out)))
                    rintro e w26 ⟨rfl, hb⟩
                    refine ⟨_, rfl, ?_⟩
                    have n0_ := Aside0.mk (below_step (by repeat (first | (with_reducible first | exact HB.out | apply below_alloc | apply pw_below_drewN | apply below_drew1) | exact HB.out)) hb)
                    clear HB
                    have HB := n0_
                    clear n0_
                    (try clear hb)
                    (try clear hb2)
                    (try clear hk)
                    (try clear hi)
                    refine hK.out _ _ trivial (fun hHeld => ?_)
                    clear hK K
                    refine norm_ (a' := ?_) ?_ ?_
                    rotate_left
                    · show Act.put _ (some 32) _ = _
                      simp only [Act.put, List.setIfInBounds_toArray, List.set_cons_zero, List.set_cons_succ, i64_w, i32_w]
                      rfl
                    refine pure_ (i := 9) (N := some 33) (v := ?_) (a' := ?_) #[true, true, true, true, true, true, true, true, true, true, false, false, false, false, false, false, false, false] rfl rfl (any_of HT_.out (by kernel_rfl)) (fun _ _ _ h => h) (Or.inl ⟨by rfl, ?_⟩) ?_ ?_
                    rotate_left
                    · intro w'
                      go_simp
                      first | with_reducible rfl | (rw [if_neg (by have q_ := c15; have e0_ : (⟨#[58, 58]⟩ : ByteArray).size = 2 := rfl; simp at q_; omega)]; done) | (rw [if_neg (by have q_ := c15; have e0_ : (⟨#[58, 58]⟩ : ByteArray).size = 2 := rfl; simp at q_; omega)]; rfl) | (rw [if_neg (by have q_ := c13; have e0_ : (⟨#[58, 58]⟩ : ByteArray).size = 2 := rfl; simp at q_; omega)]; done) | (rw [if_neg (by have q_ := c13; have e0_ : (⟨#[58, 58]⟩ : ByteArray).size = 2 := rfl; simp at q_; omega)]; rfl) | (rw [if_neg (by have q_ := c8; simp at q_; omega)]; done) | (rw [if_neg (by have q_ := c8; simp at q_; omega)]; rfl)
                    rotate_left
                    · simp only [Act.put, List.setIfInBounds_toArray, List.set_cons_zero, List.set_cons_succ, i64_w, i32_w]
                      rfl
                    refine one_ (i := 10) (N := some 34) #[true, true, true, true, true, true, true, true, true, true, true, false, false, false, false, false, false, false] rfl rfl (one_of HT_.out (by kernel_rfl)) (by decide) (fun K hK => ?_)
                    refine goes_ Tryz.func21 (by kernel_rfl) rfl #[.string (((t311 ++ (⟨#[58, 58]⟩ : ByteArray)) ++ sx10_0) ++ t315)] (by rfl) rfl rfl (by (try simp only [List.map_toArray, List.map_cons, List.map_nil]); first | done | (simp only [hji10]; rfl) | rfl | (simp only [List.length_drop, List.length_take]; rfl)) ?_
                    with_reducible refine (fold_ReadItem.calls (((t311 ++ (⟨#[58, 58]⟩ : ByteArray)) ++ sx10_0) ++ t315) t316 t317 t318 _ ?side1 A16.out).mono ?_
                    (case side1 => exact GW.below hG (by repeat (first | (with_reducible first | exact HB.out | apply below_alloc | apply pw_below_drewN | apply below_drew1) | exact HB.out)))
                    rintro e w27 ⟨rfl, hb⟩
                    refine ⟨_, rfl, ?_⟩
                    have n0_ := Aside0.mk (below_step (by repeat (first | (with_reducible first | exact HB.out | apply below_alloc | apply pw_below_drewN | apply below_drew1) | exact HB.out)) hb)
                    clear HB
                    have HB := n0_
                    clear n0_
                    (try clear hb)
                    (try clear hb2)
                    (try clear hk)
                    (try clear hi)
                    refine hK.out _ _ trivial (fun hHeld => ?_)
                    clear hK K
                    refine norm_ (a' := ?_) ?_ ?_
                    rotate_left
                    · show Act.put _ (some 34) _ = _
                      simp only [Act.put, List.setIfInBounds_toArray, List.set_cons_zero, List.set_cons_succ, i64_w, i32_w]
                      rfl
                    refine pure_ (i := 11) (N := some 23) (v := ?_) (a' := ?_) #[true, true, true, true, true, true, true, true, true, true, true, true, false, false, false, false, false, false] rfl rfl (any_of HT_.out (by kernel_rfl)) (fun _ _ _ h => h) (Or.inl ⟨by rfl, ?_⟩) ?_ ?_
                    rotate_left
                    · intro w'
                      go_simp
                      first | with_reducible rfl | (rw [if_neg (by have q_ := c15; have e0_ : (⟨#[58, 58]⟩ : ByteArray).size = 2 := rfl; simp at q_; omega)]; done) | (rw [if_neg (by have q_ := c15; have e0_ : (⟨#[58, 58]⟩ : ByteArray).size = 2 := rfl; simp at q_; omega)]; rfl) | (rw [if_neg (by have q_ := c13; have e0_ : (⟨#[58, 58]⟩ : ByteArray).size = 2 := rfl; simp at q_; omega)]; done) | (rw [if_neg (by have q_ := c13; have e0_ : (⟨#[58, 58]⟩ : ByteArray).size = 2 := rfl; simp at q_; omega)]; rfl) | (rw [if_neg (by have q_ := c8; simp at q_; omega)]; done) | (rw [if_neg (by have q_ := c8; simp at q_; omega)]; rfl)
                    rotate_left
                    · simp only [Act.put, List.setIfInBounds_toArray, List.set_cons_zero, List.set_cons_succ, i64_w, i32_w]
                      rfl
                    refine pure_ (i := 12) (N := some 35) (v := ?_) (a' := ?_) #[true, true, true, true, true, true, true, true, true, true, true, true, true, false, false, false, false, false] rfl rfl (any_of HT_.out (by kernel_rfl)) (fun _ _ _ h => h) (Or.inl ⟨by rfl, ?_⟩) ?_ ?_
                    rotate_left
                    · intro w'
                      go_simp
                      first | with_reducible rfl | (rw [if_neg (by have q_ := c15; have e0_ : (⟨#[58, 58]⟩ : ByteArray).size = 2 := rfl; simp at q_; omega)]; done) | (rw [if_neg (by have q_ := c15; have e0_ : (⟨#[58, 58]⟩ : ByteArray).size = 2 := rfl; simp at q_; omega)]; rfl) | (rw [if_neg (by have q_ := c13; have e0_ : (⟨#[58, 58]⟩ : ByteArray).size = 2 := rfl; simp at q_; omega)]; done) | (rw [if_neg (by have q_ := c13; have e0_ : (⟨#[58, 58]⟩ : ByteArray).size = 2 := rfl; simp at q_; omega)]; rfl) | (rw [if_neg (by have q_ := c8; simp at q_; omega)]; done) | (rw [if_neg (by have q_ := c8; simp at q_; omega)]; rfl)
                    rotate_left
                    · simp only [Act.put, List.setIfInBounds_toArray, List.set_cons_zero, List.set_cons_succ, i64_w, i32_w]
                      rfl
                    refine pure_ (i := 13) (N := some 36) (v := ?_) (a' := ?_) #[true, true, true, true, true, true, true, true, true, true, true, true, true, true, false, false, false, false] rfl rfl (any_of HT_.out (by kernel_rfl)) (fun _ _ _ h => h) (Or.inl ⟨by rfl, ?_⟩) ?_ ?_
                    rotate_left
                    · intro w'
                      go_simp
                      first | with_reducible rfl | (rw [if_neg (by have q_ := c15; have e0_ : (⟨#[58, 58]⟩ : ByteArray).size = 2 := rfl; simp at q_; omega)]; done) | (rw [if_neg (by have q_ := c15; have e0_ : (⟨#[58, 58]⟩ : ByteArray).size = 2 := rfl; simp at q_; omega)]; rfl) | (rw [if_neg (by have q_ := c13; have e0_ : (⟨#[58, 58]⟩ : ByteArray).size = 2 := rfl; simp at q_; omega)]; done) | (rw [if_neg (by have q_ := c13; have e0_ : (⟨#[58, 58]⟩ : ByteArray).size = 2 := rfl; simp at q_; omega)]; rfl) | (rw [if_neg (by have q_ := c8; simp at q_; omega)]; done) | (rw [if_neg (by have q_ := c8; simp at q_; omega)]; rfl)
                    rotate_left
                    · simp only [Act.put, List.setIfInBounds_toArray, List.set_cons_zero, List.set_cons_succ, i64_w, i32_w]
                      rfl
                    refine pure_ (i := 14) (N := some 37) (v := ?_) (a' := ?_) #[true, true, true, true, true, true, true, true, true, true, true, true, true, true, true, false, false, false] rfl rfl (any_of HT_.out (by kernel_rfl)) (fun _ _ _ h => h) (Or.inl ⟨by rfl, ?_⟩) ?_ ?_
                    rotate_left
                    · intro w'
                      go_simp
                      first | with_reducible rfl | (rw [if_neg (by have q_ := c15; have e0_ : (⟨#[58, 58]⟩ : ByteArray).size = 2 := rfl; simp at q_; omega)]; done) | (rw [if_neg (by have q_ := c15; have e0_ : (⟨#[58, 58]⟩ : ByteArray).size = 2 := rfl; simp at q_; omega)]; rfl) | (rw [if_neg (by have q_ := c13; have e0_ : (⟨#[58, 58]⟩ : ByteArray).size = 2 := rfl; simp at q_; omega)]; done) | (rw [if_neg (by have q_ := c13; have e0_ : (⟨#[58, 58]⟩ : ByteArray).size = 2 := rfl; simp at q_; omega)]; rfl) | (rw [if_neg (by have q_ := c8; simp at q_; omega)]; done) | (rw [if_neg (by have q_ := c8; simp at q_; omega)]; rfl)
                    rotate_left
                    · simp only [Act.put, List.setIfInBounds_toArray, List.set_cons_zero, List.set_cons_succ, i64_w, i32_w]
                      rfl
                    refine pure_ (i := 15) (N := some 10) (v := ?_) (a' := ?_) #[true, true, true, true, true, true, true, true, true, true, true, true, true, true, true, true, false, false] rfl rfl (any_of HT_.out (by kernel_rfl)) (fun _ _ _ h => h) (Or.inl ⟨by rfl, ?_⟩) ?_ ?_
                    rotate_left
                    · intro w'
                      go_simp
                      first | with_reducible rfl | (rw [if_neg (by have q_ := c15; have e0_ : (⟨#[58, 58]⟩ : ByteArray).size = 2 := rfl; simp at q_; omega)]; done) | (rw [if_neg (by have q_ := c15; have e0_ : (⟨#[58, 58]⟩ : ByteArray).size = 2 := rfl; simp at q_; omega)]; rfl) | (rw [if_neg (by have q_ := c13; have e0_ : (⟨#[58, 58]⟩ : ByteArray).size = 2 := rfl; simp at q_; omega)]; done) | (rw [if_neg (by have q_ := c13; have e0_ : (⟨#[58, 58]⟩ : ByteArray).size = 2 := rfl; simp at q_; omega)]; rfl) | (rw [if_neg (by have q_ := c8; simp at q_; omega)]; done) | (rw [if_neg (by have q_ := c8; simp at q_; omega)]; rfl)
                    rotate_left
                    · simp only [Act.put, List.setIfInBounds_toArray, List.set_cons_zero, List.set_cons_succ, i64_w, i32_w]
                      rfl
                    refine pure_ (i := 16) (N := some 11) (v := ?_) (a' := ?_) #[true, true, true, true, true, true, true, true, true, true, true, true, true, true, true, true, true, false] rfl rfl (any_of HT_.out (by kernel_rfl)) (fun _ _ _ h => h) (Or.inl ⟨by rfl, ?_⟩) ?_ ?_
                    rotate_left
                    · intro w'
                      go_simp
                      first | with_reducible rfl | (rw [if_neg (by have q_ := c15; have e0_ : (⟨#[58, 58]⟩ : ByteArray).size = 2 := rfl; simp at q_; omega)]; done) | (rw [if_neg (by have q_ := c15; have e0_ : (⟨#[58, 58]⟩ : ByteArray).size = 2 := rfl; simp at q_; omega)]; rfl) | (rw [if_neg (by have q_ := c13; have e0_ : (⟨#[58, 58]⟩ : ByteArray).size = 2 := rfl; simp at q_; omega)]; done) | (rw [if_neg (by have q_ := c13; have e0_ : (⟨#[58, 58]⟩ : ByteArray).size = 2 := rfl; simp at q_; omega)]; rfl) | (rw [if_neg (by have q_ := c8; simp at q_; omega)]; done) | (rw [if_neg (by have q_ := c8; simp at q_; omega)]; rfl)
                    rotate_left
                    · simp only [Act.put, List.setIfInBounds_toArray, List.set_cons_zero, List.set_cons_succ, i64_w, i32_w]
                      rfl
                    refine pure_ (i := 17) (N := some 12) (v := ?_) (a' := ?_) #[true, true, true, true, true, true, true, true, true, true, true, true, true, true, true, true, true, true] rfl rfl (any_of HT_.out (by kernel_rfl)) (fun _ _ _ h => h) (Or.inl ⟨by rfl, ?_⟩) ?_ ?_
                    rotate_left
                    · intro w'
                      go_simp
                      first | with_reducible rfl | (rw [if_neg (by have q_ := c15; have e0_ : (⟨#[58, 58]⟩ : ByteArray).size = 2 := rfl; simp at q_; omega)]; done) | (rw [if_neg (by have q_ := c15; have e0_ : (⟨#[58, 58]⟩ : ByteArray).size = 2 := rfl; simp at q_; omega)]; rfl) | (rw [if_neg (by have q_ := c13; have e0_ : (⟨#[58, 58]⟩ : ByteArray).size = 2 := rfl; simp at q_; omega)]; done) | (rw [if_neg (by have q_ := c13; have e0_ : (⟨#[58, 58]⟩ : ByteArray).size = 2 := rfl; simp at q_; omega)]; rfl) | (rw [if_neg (by have q_ := c8; simp at q_; omega)]; done) | (rw [if_neg (by have q_ := c8; simp at q_; omega)]; rfl)
                    rotate_left
                    · simp only [Act.put, List.setIfInBounds_toArray, List.set_cons_zero, List.set_cons_succ, i64_w, i32_w]
                      rfl
                    refine done_ (done_of HT_.out (by kernel_rfl)) ?_
                    try go_wp2
                    go_ret
                    exact ⟨by first | rfl | (simp [errW_none, errW_some] <;> rfl) | (simp only [← hji9, ← hji10]; first | rfl | (simp [errW_none, errW_some] <;> rfl)) | (simp [*, errW_none, errW_some] <;> rfl), by repeat (first | (with_reducible first | exact HB.out | apply below_alloc | apply pw_below_drewN | apply below_drew1) | exact HB.out)⟩
                  · rw [if_neg c20] at H
                    have c20b0 : (t316.toList == t311.toList) = false := beq_eq_false_iff_ne.mpr c20
                    have c20b1 : (t316.toList != t311.toList) = true := bne_iff_ne.mpr c20
                    obtain rfl := Option.some.inj H
                    go_enter Tryz.func10, Tryz.ntmps10
                    try go_wp2_with (first | ((with_reducible refine own_gate (f := 11) rfl ?_); refine goesL_ (some 13) rfl rfl Tryz.func11 (by kernel_rfl) rfl #[] rfl (by (try simp only [List.map_toArray, List.map_cons, List.map_nil]); first | done | rfl | (simp only [List.length_drop, List.length_take]; rfl)) ?_; (with_reducible refine (latinerlaw15_shown.calls k  true _ ?side1 A4.out).mono ?_); (case side1 => exact GW.below hG (by repeat (first | (with_reducible first | exact HB.out | apply below_alloc | apply pw_below_drewN | apply below_drew1) | exact HB.out))); rintro e w28 ⟨rfl, hb⟩; refine ⟨_, rfl, ?_⟩; have n0_ := Aside0.mk (below_step (by repeat (first | (with_reducible first | exact HB.out | apply below_alloc | apply pw_below_drewN | apply below_drew1) | exact HB.out)) hb); clear HB; have HB := n0_; clear n0_; (try clear hb); (try clear hb2); (try clear hk); (try clear hi)) | ((with_reducible refine own_gate (f := 18) rfl ?_); refine goesL_ (some 15) rfl rfl Tryz.func18 (by kernel_rfl) rfl #[.string a0] rfl (by (try simp only [List.map_toArray, List.map_cons, List.map_nil]); first | done | rfl | (simp only [List.length_drop, List.length_take]; rfl)) ?_; (with_reducible refine (latinerlaw15_short.calls a0 t311 _ A5.out).mono ?_); rintro e w29 ⟨rfl, hb⟩; refine ⟨_, rfl, ?_⟩; have n0_ := Aside0.mk (below_step (by repeat (first | (with_reducible first | exact HB.out | apply below_alloc | apply pw_below_drewN | apply below_drew1) | exact HB.out)) hb); clear HB; have HB := n0_; clear n0_; (try clear hb); (try clear hb2); (try clear hk); (try clear hi)) | ((with_reducible refine own_gate (f := 18) rfl ?_); refine goesL_ (some 17) rfl rfl Tryz.func18 (by kernel_rfl) rfl #[.string a1] rfl (by (try simp only [List.map_toArray, List.map_cons, List.map_nil]); first | done | rfl | (simp only [List.length_drop, List.length_take]; rfl)) ?_; (with_reducible refine (latinerlaw15_short.calls a1 t312 _ A6.out).mono ?_); rintro e w30 ⟨rfl, hb⟩; refine ⟨_, rfl, ?_⟩; have n0_ := Aside0.mk (below_step (by repeat (first | (with_reducible first | exact HB.out | apply below_alloc | apply pw_below_drewN | apply below_drew1) | exact HB.out)) hb); clear HB; have HB := n0_; clear n0_; (try clear hb); (try clear hb2); (try clear hk); (try clear hi)) | ((with_reducible refine own_gate (f := 19) rfl ?_); refine goesL_ (some 20) rfl rfl Tryz.func19 (by kernel_rfl) rfl #[.string t311, .string (⟨#[120]⟩ : ByteArray)] rfl (by (try simp only [List.map_toArray, List.map_cons, List.map_nil]); first | done | rfl | (simp only [List.length_drop, List.length_take]; rfl)) ?_; (with_reducible refine (fold_Item.calls t311 (⟨#[120]⟩ : ByteArray) t313 t314 _ ?side1 A7.out).mono ?_); (case side1 => exact GW.below hG (by repeat (first | (with_reducible first | exact HB.out | apply below_alloc | apply pw_below_drewN | apply below_drew1) | exact HB.out))); rintro e w31 ⟨rfl, hb⟩; refine ⟨_, rfl, ?_⟩; have n0_ := Aside0.mk (below_step (by repeat (first | (with_reducible first | exact HB.out | apply below_alloc | apply pw_below_drewN | apply below_drew1) | exact HB.out)) hb); clear HB; have HB := n0_; clear n0_; (try clear hb); (try clear hb2); (try clear hk); (try clear hi)))
                    have n0_ := Aside0.mk (below_drew1 HB.out)
                    clear HB
                    have HB := n0_
                    clear n0_
                    refine start_ (n := 18) (S := fun w' => True) (ds := []) #[false, false, false, false, false, false, false, false, false, false, false, false, false, false, false, false, false, false] (by kernel_rfl) rfl rfl trivial (fun hHeld => ?_); refine with_tabW latinerlaw15_FoldBase.tab5 latinerlaw15_FoldBase.bits5 (fun HT_ HW_ => ?_)
                    generalize w31.drew = w32 at HB hHeld ⊢
                    refine pure_ (i := 0) (N := some 24) (v := ?_) (a' := ?_) #[true, false, false, false, false, false, false, false, false, false, false, false, false, false, false, false, false, false] rfl rfl (any_of HT_.out (by kernel_rfl)) (fun _ _ _ h => h) (Or.inl ⟨by rfl, ?_⟩) ?_ ?_
                    rotate_left
                    · intro w'
                      go_simp
                      first | with_reducible rfl | (rw [if_neg (by have q_ := c15; have e0_ : (⟨#[58, 58]⟩ : ByteArray).size = 2 := rfl; simp at q_; omega)]; done) | (rw [if_neg (by have q_ := c15; have e0_ : (⟨#[58, 58]⟩ : ByteArray).size = 2 := rfl; simp at q_; omega)]; rfl) | (rw [if_neg (by have q_ := c13; have e0_ : (⟨#[58, 58]⟩ : ByteArray).size = 2 := rfl; simp at q_; omega)]; done) | (rw [if_neg (by have q_ := c13; have e0_ : (⟨#[58, 58]⟩ : ByteArray).size = 2 := rfl; simp at q_; omega)]; rfl) | (rw [if_neg (by have q_ := c8; simp at q_; omega)]; done) | (rw [if_neg (by have q_ := c8; simp at q_; omega)]; rfl)
                    rotate_left
                    · simp only [Act.put, List.setIfInBounds_toArray, List.set_cons_zero, List.set_cons_succ, i64_w, i32_w]
                      rfl
                    refine pure_ (i := 1) (N := some 25) (v := ?_) (a' := ?_) #[true, true, false, false, false, false, false, false, false, false, false, false, false, false, false, false, false, false] rfl rfl (any_of HT_.out (by kernel_rfl)) (fun _ _ _ h => h) (Or.inl ⟨by rfl, ?_⟩) ?_ ?_
                    rotate_left
                    · intro w'
                      go_simp
                      first | with_reducible rfl | (rw [if_neg (by have q_ := c15; have e0_ : (⟨#[58, 58]⟩ : ByteArray).size = 2 := rfl; simp at q_; omega)]; done) | (rw [if_neg (by have q_ := c15; have e0_ : (⟨#[58, 58]⟩ : ByteArray).size = 2 := rfl; simp at q_; omega)]; rfl) | (rw [if_neg (by have q_ := c13; have e0_ : (⟨#[58, 58]⟩ : ByteArray).size = 2 := rfl; simp at q_; omega)]; done) | (rw [if_neg (by have q_ := c13; have e0_ : (⟨#[58, 58]⟩ : ByteArray).size = 2 := rfl; simp at q_; omega)]; rfl) | (rw [if_neg (by have q_ := c8; simp at q_; omega)]; done) | (rw [if_neg (by have q_ := c8; simp at q_; omega)]; rfl)
                    rotate_left
                    · simp only [Act.put, List.setIfInBounds_toArray, List.set_cons_zero, List.set_cons_succ, i64_w, i32_w]
                      rfl
                    refine pure_ (i := 2) (N := some 26) (v := ?_) (a' := ?_) #[true, true, true, false, false, false, false, false, false, false, false, false, false, false, false, false, false, false] rfl rfl (any_of HT_.out (by kernel_rfl)) (fun _ _ _ h => h) (Or.inl ⟨by rfl, ?_⟩) ?_ ?_
                    rotate_left
                    · intro w'
                      go_simp
                      first | with_reducible rfl | (rw [if_neg (by have q_ := c15; have e0_ : (⟨#[58, 58]⟩ : ByteArray).size = 2 := rfl; simp at q_; omega)]; done) | (rw [if_neg (by have q_ := c15; have e0_ : (⟨#[58, 58]⟩ : ByteArray).size = 2 := rfl; simp at q_; omega)]; rfl) | (rw [if_neg (by have q_ := c13; have e0_ : (⟨#[58, 58]⟩ : ByteArray).size = 2 := rfl; simp at q_; omega)]; done) | (rw [if_neg (by have q_ := c13; have e0_ : (⟨#[58, 58]⟩ : ByteArray).size = 2 := rfl; simp at q_; omega)]; rfl) | (rw [if_neg (by have q_ := c8; simp at q_; omega)]; done) | (rw [if_neg (by have q_ := c8; simp at q_; omega)]; rfl)
                    rotate_left
                    · simp only [Act.put, List.setIfInBounds_toArray, List.set_cons_zero, List.set_cons_succ, i64_w, i32_w]
                      rfl
                    refine pure_ (i := 3) (N := some 27) (v := ?_) (a' := ?_) #[true, true, true, true, false, false, false, false, false, false, false, false, false, false, false, false, false, false] rfl rfl (any_of HT_.out (by kernel_rfl)) (fun _ _ _ h => h) (Or.inl ⟨by rfl, ?_⟩) ?_ ?_
                    rotate_left
                    · intro w'
                      go_simp
                      first | with_reducible rfl | (rw [if_neg (by have q_ := c15; have e0_ : (⟨#[58, 58]⟩ : ByteArray).size = 2 := rfl; simp at q_; omega)]; done) | (rw [if_neg (by have q_ := c15; have e0_ : (⟨#[58, 58]⟩ : ByteArray).size = 2 := rfl; simp at q_; omega)]; rfl) | (rw [if_neg (by have q_ := c13; have e0_ : (⟨#[58, 58]⟩ : ByteArray).size = 2 := rfl; simp at q_; omega)]; done) | (rw [if_neg (by have q_ := c13; have e0_ : (⟨#[58, 58]⟩ : ByteArray).size = 2 := rfl; simp at q_; omega)]; rfl) | (rw [if_neg (by have q_ := c8; simp at q_; omega)]; done) | (rw [if_neg (by have q_ := c8; simp at q_; omega)]; rfl)
                    rotate_left
                    · simp only [Act.put, List.setIfInBounds_toArray, List.set_cons_zero, List.set_cons_succ, i64_w, i32_w]
                      rfl
                    refine pure_ (i := 4) (N := some 28) (v := ?_) (a' := ?_) #[true, true, true, true, true, false, false, false, false, false, false, false, false, false, false, false, false, false] rfl rfl (any_of HT_.out (by kernel_rfl)) (fun _ _ _ h => h) (Or.inl ⟨by rfl, ?_⟩) ?_ ?_
                    rotate_left
                    · intro w'
                      go_simp
                      first | with_reducible rfl | (rw [if_neg (by have q_ := c15; have e0_ : (⟨#[58, 58]⟩ : ByteArray).size = 2 := rfl; simp at q_; omega)]; done) | (rw [if_neg (by have q_ := c15; have e0_ : (⟨#[58, 58]⟩ : ByteArray).size = 2 := rfl; simp at q_; omega)]; rfl) | (rw [if_neg (by have q_ := c13; have e0_ : (⟨#[58, 58]⟩ : ByteArray).size = 2 := rfl; simp at q_; omega)]; done) | (rw [if_neg (by have q_ := c13; have e0_ : (⟨#[58, 58]⟩ : ByteArray).size = 2 := rfl; simp at q_; omega)]; rfl) | (rw [if_neg (by have q_ := c8; simp at q_; omega)]; done) | (rw [if_neg (by have q_ := c8; simp at q_; omega)]; rfl)
                    rotate_left
                    · simp only [Act.put, List.setIfInBounds_toArray, List.set_cons_zero, List.set_cons_succ, i64_w, i32_w]
                      rfl
                    refine pure_ (i := 5) (N := some 29) (v := ?_) (a' := ?_) #[true, true, true, true, true, true, false, false, false, false, false, false, false, false, false, false, false, false] rfl rfl (any_of HT_.out (by kernel_rfl)) (fun _ _ _ h => h) (Or.inl ⟨by rfl, ?_⟩) ?_ ?_
                    rotate_left
                    · intro w'
                      go_simp
                      first | with_reducible rfl | (rw [if_neg (by have q_ := c15; have e0_ : (⟨#[58, 58]⟩ : ByteArray).size = 2 := rfl; simp at q_; omega)]; done) | (rw [if_neg (by have q_ := c15; have e0_ : (⟨#[58, 58]⟩ : ByteArray).size = 2 := rfl; simp at q_; omega)]; rfl) | (rw [if_neg (by have q_ := c13; have e0_ : (⟨#[58, 58]⟩ : ByteArray).size = 2 := rfl; simp at q_; omega)]; done) | (rw [if_neg (by have q_ := c13; have e0_ : (⟨#[58, 58]⟩ : ByteArray).size = 2 := rfl; simp at q_; omega)]; rfl) | (rw [if_neg (by have q_ := c8; simp at q_; omega)]; done) | (rw [if_neg (by have q_ := c8; simp at q_; omega)]; rfl)
                    rotate_left
                    · simp only [Act.put, List.setIfInBounds_toArray, List.set_cons_zero, List.set_cons_succ, i64_w, i32_w]
                      rfl
                    refine pure_ (i := 6) (N := some 30) (v := ?_) (a' := ?_) #[true, true, true, true, true, true, true, false, false, false, false, false, false, false, false, false, false, false] rfl rfl (any_of HT_.out (by kernel_rfl)) (fun _ _ _ h => h) (Or.inl ⟨by rfl, ?_⟩) ?_ ?_
                    rotate_left
                    · intro w'
                      go_simp
                      first | with_reducible rfl | (rw [if_neg (by have q_ := c15; have e0_ : (⟨#[58, 58]⟩ : ByteArray).size = 2 := rfl; simp at q_; omega)]; done) | (rw [if_neg (by have q_ := c15; have e0_ : (⟨#[58, 58]⟩ : ByteArray).size = 2 := rfl; simp at q_; omega)]; rfl) | (rw [if_neg (by have q_ := c13; have e0_ : (⟨#[58, 58]⟩ : ByteArray).size = 2 := rfl; simp at q_; omega)]; done) | (rw [if_neg (by have q_ := c13; have e0_ : (⟨#[58, 58]⟩ : ByteArray).size = 2 := rfl; simp at q_; omega)]; rfl) | (rw [if_neg (by have q_ := c8; simp at q_; omega)]; done) | (rw [if_neg (by have q_ := c8; simp at q_; omega)]; rfl)
                    rotate_left
                    · simp only [Act.put, List.setIfInBounds_toArray, List.set_cons_zero, List.set_cons_succ, i64_w, i32_w]
                      rfl
                    refine pure_ (i := 7) (N := some 31) (v := ?_) (a' := ?_) #[true, true, true, true, true, true, true, true, false, false, false, false, false, false, false, false, false, false] rfl rfl (any_of HT_.out (by kernel_rfl)) (fun _ _ _ h => h) (Or.inl ⟨by rfl, ?_⟩) ?_ ?_
                    rotate_left
                    · intro w'
                      go_simp
                      first | with_reducible rfl | (rw [if_neg (by have q_ := c15; have e0_ : (⟨#[58, 58]⟩ : ByteArray).size = 2 := rfl; simp at q_; omega)]; done) | (rw [if_neg (by have q_ := c15; have e0_ : (⟨#[58, 58]⟩ : ByteArray).size = 2 := rfl; simp at q_; omega)]; rfl) | (rw [if_neg (by have q_ := c13; have e0_ : (⟨#[58, 58]⟩ : ByteArray).size = 2 := rfl; simp at q_; omega)]; done) | (rw [if_neg (by have q_ := c13; have e0_ : (⟨#[58, 58]⟩ : ByteArray).size = 2 := rfl; simp at q_; omega)]; rfl) | (rw [if_neg (by have q_ := c8; simp at q_; omega)]; done) | (rw [if_neg (by have q_ := c8; simp at q_; omega)]; rfl)
                    rotate_left
                    · simp only [Act.put, List.setIfInBounds_toArray, List.set_cons_zero, List.set_cons_succ, i64_w, i32_w]
                      rfl
                    refine one_ (i := 8) (N := some 32) #[true, true, true, true, true, true, true, true, true, false, false, false, false, false, false, false, false, false] rfl rfl (one_of HT_.out (by kernel_rfl)) (by decide) (fun K hK => ?_)
                    refine goes_ Tryz.func23 (by kernel_rfl) rfl #[.string t312] (by rfl) rfl rfl (by (try simp only [List.map_toArray, List.map_cons, List.map_nil]); first | done | rfl | (simp only [List.length_drop, List.length_take]; rfl)) ?_
                    with_reducible refine (code_Base.calls t312 t315 _ ?side1 A14.out).mono ?_
                    (case side1 => exact GW.below hG (by repeat (first | (with_reducible first | exact HB.out | apply below_alloc | apply pw_below_drewN | apply below_drew1) | exact HB.out)))
                    rintro e w33 ⟨rfl, hb⟩
                    refine ⟨_, rfl, ?_⟩
                    have n0_ := Aside0.mk (below_step (by repeat (first | (with_reducible first | exact HB.out | apply below_alloc | apply pw_below_drewN | apply below_drew1) | exact HB.out)) hb)
                    clear HB
                    have HB := n0_
                    clear n0_
                    (try clear hb)
                    (try clear hb2)
                    (try clear hk)
                    (try clear hi)
                    refine hK.out _ _ trivial (fun hHeld => ?_)
                    clear hK K
                    refine norm_ (a' := ?_) ?_ ?_
                    rotate_left
                    · show Act.put _ (some 32) _ = _
                      simp only [Act.put, List.setIfInBounds_toArray, List.set_cons_zero, List.set_cons_succ, i64_w, i32_w]
                      rfl
                    refine pure_ (i := 9) (N := some 33) (v := ?_) (a' := ?_) #[true, true, true, true, true, true, true, true, true, true, false, false, false, false, false, false, false, false] rfl rfl (any_of HT_.out (by kernel_rfl)) (fun _ _ _ h => h) (Or.inl ⟨by rfl, ?_⟩) ?_ ?_
                    rotate_left
                    · intro w'
                      go_simp
                      first | with_reducible rfl | (rw [if_neg (by have q_ := c15; have e0_ : (⟨#[58, 58]⟩ : ByteArray).size = 2 := rfl; simp at q_; omega)]; done) | (rw [if_neg (by have q_ := c15; have e0_ : (⟨#[58, 58]⟩ : ByteArray).size = 2 := rfl; simp at q_; omega)]; rfl) | (rw [if_neg (by have q_ := c13; have e0_ : (⟨#[58, 58]⟩ : ByteArray).size = 2 := rfl; simp at q_; omega)]; done) | (rw [if_neg (by have q_ := c13; have e0_ : (⟨#[58, 58]⟩ : ByteArray).size = 2 := rfl; simp at q_; omega)]; rfl) | (rw [if_neg (by have q_ := c8; simp at q_; omega)]; done) | (rw [if_neg (by have q_ := c8; simp at q_; omega)]; rfl)
                    rotate_left
                    · simp only [Act.put, List.setIfInBounds_toArray, List.set_cons_zero, List.set_cons_succ, i64_w, i32_w]
                      rfl
                    refine one_ (i := 10) (N := some 34) #[true, true, true, true, true, true, true, true, true, true, true, false, false, false, false, false, false, false] rfl rfl (one_of HT_.out (by kernel_rfl)) (by decide) (fun K hK => ?_)
                    refine goes_ Tryz.func21 (by kernel_rfl) rfl #[.string (((t311 ++ (⟨#[58, 58]⟩ : ByteArray)) ++ sx10_0) ++ t315)] (by rfl) rfl rfl (by (try simp only [List.map_toArray, List.map_cons, List.map_nil]); first | done | (simp only [hji10]; rfl) | rfl | (simp only [List.length_drop, List.length_take]; rfl)) ?_
                    with_reducible refine (fold_ReadItem.calls (((t311 ++ (⟨#[58, 58]⟩ : ByteArray)) ++ sx10_0) ++ t315) t316 t317 t318 _ ?side1 A16.out).mono ?_
                    (case side1 => exact GW.below hG (by repeat (first | (with_reducible first | exact HB.out | apply below_alloc | apply pw_below_drewN | apply below_drew1) | exact HB.out)))
                    rintro e w34 ⟨rfl, hb⟩
                    refine ⟨_, rfl, ?_⟩
                    have n0_ := Aside0.mk (below_step (by repeat (first | (with_reducible first | exact HB.out | apply below_alloc | apply pw_below_drewN | apply below_drew1) | exact HB.out)) hb)
                    clear HB
                    have HB := n0_
                    clear n0_
                    (try clear hb)
                    (try clear hb2)
                    (try clear hk)
                    (try clear hi)
                    refine hK.out _ _ trivial (fun hHeld => ?_)
                    clear hK K
                    refine norm_ (a' := ?_) ?_ ?_
                    rotate_left
                    · show Act.put _ (some 34) _ = _
                      simp only [Act.put, List.setIfInBounds_toArray, List.set_cons_zero, List.set_cons_succ, i64_w, i32_w]
                      rfl
                    refine pure_ (i := 11) (N := some 23) (v := ?_) (a' := ?_) #[true, true, true, true, true, true, true, true, true, true, true, true, false, false, false, false, false, false] rfl rfl (any_of HT_.out (by kernel_rfl)) (fun _ _ _ h => h) (Or.inl ⟨by rfl, ?_⟩) ?_ ?_
                    rotate_left
                    · intro w'
                      go_simp
                      first | with_reducible rfl | (rw [if_neg (by have q_ := c15; have e0_ : (⟨#[58, 58]⟩ : ByteArray).size = 2 := rfl; simp at q_; omega)]; done) | (rw [if_neg (by have q_ := c15; have e0_ : (⟨#[58, 58]⟩ : ByteArray).size = 2 := rfl; simp at q_; omega)]; rfl) | (rw [if_neg (by have q_ := c13; have e0_ : (⟨#[58, 58]⟩ : ByteArray).size = 2 := rfl; simp at q_; omega)]; done) | (rw [if_neg (by have q_ := c13; have e0_ : (⟨#[58, 58]⟩ : ByteArray).size = 2 := rfl; simp at q_; omega)]; rfl) | (rw [if_neg (by have q_ := c8; simp at q_; omega)]; done) | (rw [if_neg (by have q_ := c8; simp at q_; omega)]; rfl)
                    rotate_left
                    · simp only [Act.put, List.setIfInBounds_toArray, List.set_cons_zero, List.set_cons_succ, i64_w, i32_w]
                      rfl
                    refine pure_ (i := 12) (N := some 35) (v := ?_) (a' := ?_) #[true, true, true, true, true, true, true, true, true, true, true, true, true, false, false, false, false, false] rfl rfl (any_of HT_.out (by kernel_rfl)) (fun _ _ _ h => h) (Or.inl ⟨by rfl, ?_⟩) ?_ ?_
                    rotate_left
                    · intro w'
                      go_simp
                      first | with_reducible rfl | (rw [if_neg (by have q_ := c15; have e0_ : (⟨#[58, 58]⟩ : ByteArray).size = 2 := rfl; simp at q_; omega)]; done) | (rw [if_neg (by have q_ := c15; have e0_ : (⟨#[58, 58]⟩ : ByteArray).size = 2 := rfl; simp at q_; omega)]; rfl) | (rw [if_neg (by have q_ := c13; have e0_ : (⟨#[58, 58]⟩ : ByteArray).size = 2 := rfl; simp at q_; omega)]; done) | (rw [if_neg (by have q_ := c13; have e0_ : (⟨#[58, 58]⟩ : ByteArray).size = 2 := rfl; simp at q_; omega)]; rfl) | (rw [if_neg (by have q_ := c8; simp at q_; omega)]; done) | (rw [if_neg (by have q_ := c8; simp at q_; omega)]; rfl)
                    rotate_left
                    · simp only [Act.put, List.setIfInBounds_toArray, List.set_cons_zero, List.set_cons_succ, i64_w, i32_w]
                      rfl
                    refine pure_ (i := 13) (N := some 36) (v := ?_) (a' := ?_) #[true, true, true, true, true, true, true, true, true, true, true, true, true, true, false, false, false, false] rfl rfl (any_of HT_.out (by kernel_rfl)) (fun _ _ _ h => h) (Or.inl ⟨by rfl, ?_⟩) ?_ ?_
                    rotate_left
                    · intro w'
                      go_simp
                      first | with_reducible rfl | (rw [if_neg (by have q_ := c15; have e0_ : (⟨#[58, 58]⟩ : ByteArray).size = 2 := rfl; simp at q_; omega)]; done) | (rw [if_neg (by have q_ := c15; have e0_ : (⟨#[58, 58]⟩ : ByteArray).size = 2 := rfl; simp at q_; omega)]; rfl) | (rw [if_neg (by have q_ := c13; have e0_ : (⟨#[58, 58]⟩ : ByteArray).size = 2 := rfl; simp at q_; omega)]; done) | (rw [if_neg (by have q_ := c13; have e0_ : (⟨#[58, 58]⟩ : ByteArray).size = 2 := rfl; simp at q_; omega)]; rfl) | (rw [if_neg (by have q_ := c8; simp at q_; omega)]; done) | (rw [if_neg (by have q_ := c8; simp at q_; omega)]; rfl)
                    rotate_left
                    · simp only [Act.put, List.setIfInBounds_toArray, List.set_cons_zero, List.set_cons_succ, i64_w, i32_w]
                      rfl
                    refine pure_ (i := 14) (N := some 37) (v := ?_) (a' := ?_) #[true, true, true, true, true, true, true, true, true, true, true, true, true, true, true, false, false, false] rfl rfl (any_of HT_.out (by kernel_rfl)) (fun _ _ _ h => h) (Or.inl ⟨by rfl, ?_⟩) ?_ ?_
                    rotate_left
                    · intro w'
                      go_simp
                      first | with_reducible rfl | (rw [if_neg (by have q_ := c15; have e0_ : (⟨#[58, 58]⟩ : ByteArray).size = 2 := rfl; simp at q_; omega)]; done) | (rw [if_neg (by have q_ := c15; have e0_ : (⟨#[58, 58]⟩ : ByteArray).size = 2 := rfl; simp at q_; omega)]; rfl) | (rw [if_neg (by have q_ := c13; have e0_ : (⟨#[58, 58]⟩ : ByteArray).size = 2 := rfl; simp at q_; omega)]; done) | (rw [if_neg (by have q_ := c13; have e0_ : (⟨#[58, 58]⟩ : ByteArray).size = 2 := rfl; simp at q_; omega)]; rfl) | (rw [if_neg (by have q_ := c8; simp at q_; omega)]; done) | (rw [if_neg (by have q_ := c8; simp at q_; omega)]; rfl)
                    rotate_left
                    · simp only [Act.put, List.setIfInBounds_toArray, List.set_cons_zero, List.set_cons_succ, i64_w, i32_w]
                      rfl
                    refine pure_ (i := 15) (N := some 10) (v := ?_) (a' := ?_) #[true, true, true, true, true, true, true, true, true, true, true, true, true, true, true, true, false, false] rfl rfl (any_of HT_.out (by kernel_rfl)) (fun _ _ _ h => h) (Or.inl ⟨by rfl, ?_⟩) ?_ ?_
                    rotate_left
                    · intro w'
                      go_simp
                      first | with_reducible rfl | (rw [if_neg (by have q_ := c15; have e0_ : (⟨#[58, 58]⟩ : ByteArray).size = 2 := rfl; simp at q_; omega)]; done) | (rw [if_neg (by have q_ := c15; have e0_ : (⟨#[58, 58]⟩ : ByteArray).size = 2 := rfl; simp at q_; omega)]; rfl) | (rw [if_neg (by have q_ := c13; have e0_ : (⟨#[58, 58]⟩ : ByteArray).size = 2 := rfl; simp at q_; omega)]; done) | (rw [if_neg (by have q_ := c13; have e0_ : (⟨#[58, 58]⟩ : ByteArray).size = 2 := rfl; simp at q_; omega)]; rfl) | (rw [if_neg (by have q_ := c8; simp at q_; omega)]; done) | (rw [if_neg (by have q_ := c8; simp at q_; omega)]; rfl)
                    rotate_left
                    · simp only [Act.put, List.setIfInBounds_toArray, List.set_cons_zero, List.set_cons_succ, i64_w, i32_w]
                      rfl
                    refine pure_ (i := 16) (N := some 11) (v := ?_) (a' := ?_) #[true, true, true, true, true, true, true, true, true, true, true, true, true, true, true, true, true, false] rfl rfl (any_of HT_.out (by kernel_rfl)) (fun _ _ _ h => h) (Or.inl ⟨by rfl, ?_⟩) ?_ ?_
                    rotate_left
                    · intro w'
                      go_simp
                      first | with_reducible rfl | (rw [if_neg (by have q_ := c15; have e0_ : (⟨#[58, 58]⟩ : ByteArray).size = 2 := rfl; simp at q_; omega)]; done) | (rw [if_neg (by have q_ := c15; have e0_ : (⟨#[58, 58]⟩ : ByteArray).size = 2 := rfl; simp at q_; omega)]; rfl) | (rw [if_neg (by have q_ := c13; have e0_ : (⟨#[58, 58]⟩ : ByteArray).size = 2 := rfl; simp at q_; omega)]; done) | (rw [if_neg (by have q_ := c13; have e0_ : (⟨#[58, 58]⟩ : ByteArray).size = 2 := rfl; simp at q_; omega)]; rfl) | (rw [if_neg (by have q_ := c8; simp at q_; omega)]; done) | (rw [if_neg (by have q_ := c8; simp at q_; omega)]; rfl)
                    rotate_left
                    · simp only [Act.put, List.setIfInBounds_toArray, List.set_cons_zero, List.set_cons_succ, i64_w, i32_w]
                      rfl
                    refine pure_ (i := 17) (N := some 12) (v := ?_) (a' := ?_) #[true, true, true, true, true, true, true, true, true, true, true, true, true, true, true, true, true, true] rfl rfl (any_of HT_.out (by kernel_rfl)) (fun _ _ _ h => h) (Or.inl ⟨by rfl, ?_⟩) ?_ ?_
                    rotate_left
                    · intro w'
                      go_simp
                      first | with_reducible rfl | (rw [if_neg (by have q_ := c15; have e0_ : (⟨#[58, 58]⟩ : ByteArray).size = 2 := rfl; simp at q_; omega)]; done) | (rw [if_neg (by have q_ := c15; have e0_ : (⟨#[58, 58]⟩ : ByteArray).size = 2 := rfl; simp at q_; omega)]; rfl) | (rw [if_neg (by have q_ := c13; have e0_ : (⟨#[58, 58]⟩ : ByteArray).size = 2 := rfl; simp at q_; omega)]; done) | (rw [if_neg (by have q_ := c13; have e0_ : (⟨#[58, 58]⟩ : ByteArray).size = 2 := rfl; simp at q_; omega)]; rfl) | (rw [if_neg (by have q_ := c8; simp at q_; omega)]; done) | (rw [if_neg (by have q_ := c8; simp at q_; omega)]; rfl)
                    rotate_left
                    · simp only [Act.put, List.setIfInBounds_toArray, List.set_cons_zero, List.set_cons_succ, i64_w, i32_w]
                      rfl
                    refine done_ (done_of HT_.out (by kernel_rfl)) ?_
                    try go_wp2
                    go_ret
                    exact ⟨by first | rfl | (simp [errW_none, errW_some] <;> rfl) | (simp only [← hji9, ← hji10]; first | rfl | (simp [errW_none, errW_some] <;> rfl)) | (simp [*, errW_none, errW_some] <;> rfl), by repeat (first | (with_reducible first | exact HB.out | apply below_alloc | apply pw_below_drewN | apply below_drew1) | exact HB.out)⟩
                · rw [if_neg c19] at H
                  have c19b0 : (t318 == 0) = false := beq_eq_false_iff_ne.mpr c19
                  have c19b1 : (t318 != 0) = true := bne_iff_ne.mpr c19
                  obtain rfl := Option.some.inj H
                  go_enter Tryz.func10, Tryz.ntmps10
                  try go_wp2_with (first | ((with_reducible refine own_gate (f := 11) rfl ?_); refine goesL_ (some 13) rfl rfl Tryz.func11 (by kernel_rfl) rfl #[] rfl (by (try simp only [List.map_toArray, List.map_cons, List.map_nil]); first | done | rfl | (simp only [List.length_drop, List.length_take]; rfl)) ?_; (with_reducible refine (latinerlaw15_shown.calls k  true _ ?side1 A4.out).mono ?_); (case side1 => exact GW.below hG (by repeat (first | (with_reducible first | exact HB.out | apply below_alloc | apply pw_below_drewN | apply below_drew1) | exact HB.out))); rintro e w35 ⟨rfl, hb⟩; refine ⟨_, rfl, ?_⟩; have n0_ := Aside0.mk (below_step (by repeat (first | (with_reducible first | exact HB.out | apply below_alloc | apply pw_below_drewN | apply below_drew1) | exact HB.out)) hb); clear HB; have HB := n0_; clear n0_; (try clear hb); (try clear hb2); (try clear hk); (try clear hi)) | ((with_reducible refine own_gate (f := 18) rfl ?_); refine goesL_ (some 15) rfl rfl Tryz.func18 (by kernel_rfl) rfl #[.string a0] rfl (by (try simp only [List.map_toArray, List.map_cons, List.map_nil]); first | done | rfl | (simp only [List.length_drop, List.length_take]; rfl)) ?_; (with_reducible refine (latinerlaw15_short.calls a0 t311 _ A5.out).mono ?_); rintro e w36 ⟨rfl, hb⟩; refine ⟨_, rfl, ?_⟩; have n0_ := Aside0.mk (below_step (by repeat (first | (with_reducible first | exact HB.out | apply below_alloc | apply pw_below_drewN | apply below_drew1) | exact HB.out)) hb); clear HB; have HB := n0_; clear n0_; (try clear hb); (try clear hb2); (try clear hk); (try clear hi)) | ((with_reducible refine own_gate (f := 18) rfl ?_); refine goesL_ (some 17) rfl rfl Tryz.func18 (by kernel_rfl) rfl #[.string a1] rfl (by (try simp only [List.map_toArray, List.map_cons, List.map_nil]); first | done | rfl | (simp only [List.length_drop, List.length_take]; rfl)) ?_; (with_reducible refine (latinerlaw15_short.calls a1 t312 _ A6.out).mono ?_); rintro e w37 ⟨rfl, hb⟩; refine ⟨_, rfl, ?_⟩; have n0_ := Aside0.mk (below_step (by repeat (first | (with_reducible first | exact HB.out | apply below_alloc | apply pw_below_drewN | apply below_drew1) | exact HB.out)) hb); clear HB; have HB := n0_; clear n0_; (try clear hb); (try clear hb2); (try clear hk); (try clear hi)) | ((with_reducible refine own_gate (f := 19) rfl ?_); refine goesL_ (some 20) rfl rfl Tryz.func19 (by kernel_rfl) rfl #[.string t311, .string (⟨#[120]⟩ : ByteArray)] rfl (by (try simp only [List.map_toArray, List.map_cons, List.map_nil]); first | done | rfl | (simp only [List.length_drop, List.length_take]; rfl)) ?_; (with_reducible refine (fold_Item.calls t311 (⟨#[120]⟩ : ByteArray) t313 t314 _ ?side1 A7.out).mono ?_); (case side1 => exact GW.below hG (by repeat (first | (with_reducible first | exact HB.out | apply below_alloc | apply pw_below_drewN | apply below_drew1) | exact HB.out))); rintro e w38 ⟨rfl, hb⟩; refine ⟨_, rfl, ?_⟩; have n0_ := Aside0.mk (below_step (by repeat (first | (with_reducible first | exact HB.out | apply below_alloc | apply pw_below_drewN | apply below_drew1) | exact HB.out)) hb); clear HB; have HB := n0_; clear n0_; (try clear hb); (try clear hb2); (try clear hk); (try clear hi)))
                  have n0_ := Aside0.mk (below_drew1 HB.out)
                  clear HB
                  have HB := n0_
                  clear n0_
                  refine start_ (n := 18) (S := fun w' => True) (ds := []) #[false, false, false, false, false, false, false, false, false, false, false, false, false, false, false, false, false, false] (by kernel_rfl) rfl rfl trivial (fun hHeld => ?_); refine with_tabW latinerlaw15_FoldBase.tab5 latinerlaw15_FoldBase.bits5 (fun HT_ HW_ => ?_)
                  generalize w38.drew = w39 at HB hHeld ⊢
                  refine pure_ (i := 0) (N := some 24) (v := ?_) (a' := ?_) #[true, false, false, false, false, false, false, false, false, false, false, false, false, false, false, false, false, false] rfl rfl (any_of HT_.out (by kernel_rfl)) (fun _ _ _ h => h) (Or.inl ⟨by rfl, ?_⟩) ?_ ?_
                  rotate_left
                  · intro w'
                    go_simp
                    first | with_reducible rfl | (rw [if_neg (by have q_ := c15; have e0_ : (⟨#[58, 58]⟩ : ByteArray).size = 2 := rfl; simp at q_; omega)]; done) | (rw [if_neg (by have q_ := c15; have e0_ : (⟨#[58, 58]⟩ : ByteArray).size = 2 := rfl; simp at q_; omega)]; rfl) | (rw [if_neg (by have q_ := c13; have e0_ : (⟨#[58, 58]⟩ : ByteArray).size = 2 := rfl; simp at q_; omega)]; done) | (rw [if_neg (by have q_ := c13; have e0_ : (⟨#[58, 58]⟩ : ByteArray).size = 2 := rfl; simp at q_; omega)]; rfl) | (rw [if_neg (by have q_ := c8; simp at q_; omega)]; done) | (rw [if_neg (by have q_ := c8; simp at q_; omega)]; rfl)
                  rotate_left
                  · simp only [Act.put, List.setIfInBounds_toArray, List.set_cons_zero, List.set_cons_succ, i64_w, i32_w]
                    rfl
                  refine pure_ (i := 1) (N := some 25) (v := ?_) (a' := ?_) #[true, true, false, false, false, false, false, false, false, false, false, false, false, false, false, false, false, false] rfl rfl (any_of HT_.out (by kernel_rfl)) (fun _ _ _ h => h) (Or.inl ⟨by rfl, ?_⟩) ?_ ?_
                  rotate_left
                  · intro w'
                    go_simp
                    first | with_reducible rfl | (rw [if_neg (by have q_ := c15; have e0_ : (⟨#[58, 58]⟩ : ByteArray).size = 2 := rfl; simp at q_; omega)]; done) | (rw [if_neg (by have q_ := c15; have e0_ : (⟨#[58, 58]⟩ : ByteArray).size = 2 := rfl; simp at q_; omega)]; rfl) | (rw [if_neg (by have q_ := c13; have e0_ : (⟨#[58, 58]⟩ : ByteArray).size = 2 := rfl; simp at q_; omega)]; done) | (rw [if_neg (by have q_ := c13; have e0_ : (⟨#[58, 58]⟩ : ByteArray).size = 2 := rfl; simp at q_; omega)]; rfl) | (rw [if_neg (by have q_ := c8; simp at q_; omega)]; done) | (rw [if_neg (by have q_ := c8; simp at q_; omega)]; rfl)
                  rotate_left
                  · simp only [Act.put, List.setIfInBounds_toArray, List.set_cons_zero, List.set_cons_succ, i64_w, i32_w]
                    rfl
                  refine pure_ (i := 2) (N := some 26) (v := ?_) (a' := ?_) #[true, true, true, false, false, false, false, false, false, false, false, false, false, false, false, false, false, false] rfl rfl (any_of HT_.out (by kernel_rfl)) (fun _ _ _ h => h) (Or.inl ⟨by rfl, ?_⟩) ?_ ?_
                  rotate_left
                  · intro w'
                    go_simp
                    first | with_reducible rfl | (rw [if_neg (by have q_ := c15; have e0_ : (⟨#[58, 58]⟩ : ByteArray).size = 2 := rfl; simp at q_; omega)]; done) | (rw [if_neg (by have q_ := c15; have e0_ : (⟨#[58, 58]⟩ : ByteArray).size = 2 := rfl; simp at q_; omega)]; rfl) | (rw [if_neg (by have q_ := c13; have e0_ : (⟨#[58, 58]⟩ : ByteArray).size = 2 := rfl; simp at q_; omega)]; done) | (rw [if_neg (by have q_ := c13; have e0_ : (⟨#[58, 58]⟩ : ByteArray).size = 2 := rfl; simp at q_; omega)]; rfl) | (rw [if_neg (by have q_ := c8; simp at q_; omega)]; done) | (rw [if_neg (by have q_ := c8; simp at q_; omega)]; rfl)
                  rotate_left
                  · simp only [Act.put, List.setIfInBounds_toArray, List.set_cons_zero, List.set_cons_succ, i64_w, i32_w]
                    rfl
                  refine pure_ (i := 3) (N := some 27) (v := ?_) (a' := ?_) #[true, true, true, true, false, false, false, false, false, false, false, false, false, false, false, false, false, false] rfl rfl (any_of HT_.out (by kernel_rfl)) (fun _ _ _ h => h) (Or.inl ⟨by rfl, ?_⟩) ?_ ?_
                  rotate_left
                  · intro w'
                    go_simp
                    first | with_reducible rfl | (rw [if_neg (by have q_ := c15; have e0_ : (⟨#[58, 58]⟩ : ByteArray).size = 2 := rfl; simp at q_; omega)]; done) | (rw [if_neg (by have q_ := c15; have e0_ : (⟨#[58, 58]⟩ : ByteArray).size = 2 := rfl; simp at q_; omega)]; rfl) | (rw [if_neg (by have q_ := c13; have e0_ : (⟨#[58, 58]⟩ : ByteArray).size = 2 := rfl; simp at q_; omega)]; done) | (rw [if_neg (by have q_ := c13; have e0_ : (⟨#[58, 58]⟩ : ByteArray).size = 2 := rfl; simp at q_; omega)]; rfl) | (rw [if_neg (by have q_ := c8; simp at q_; omega)]; done) | (rw [if_neg (by have q_ := c8; simp at q_; omega)]; rfl)
                  rotate_left
                  · simp only [Act.put, List.setIfInBounds_toArray, List.set_cons_zero, List.set_cons_succ, i64_w, i32_w]
                    rfl
                  refine pure_ (i := 4) (N := some 28) (v := ?_) (a' := ?_) #[true, true, true, true, true, false, false, false, false, false, false, false, false, false, false, false, false, false] rfl rfl (any_of HT_.out (by kernel_rfl)) (fun _ _ _ h => h) (Or.inl ⟨by rfl, ?_⟩) ?_ ?_
                  rotate_left
                  · intro w'
                    go_simp
                    first | with_reducible rfl | (rw [if_neg (by have q_ := c15; have e0_ : (⟨#[58, 58]⟩ : ByteArray).size = 2 := rfl; simp at q_; omega)]; done) | (rw [if_neg (by have q_ := c15; have e0_ : (⟨#[58, 58]⟩ : ByteArray).size = 2 := rfl; simp at q_; omega)]; rfl) | (rw [if_neg (by have q_ := c13; have e0_ : (⟨#[58, 58]⟩ : ByteArray).size = 2 := rfl; simp at q_; omega)]; done) | (rw [if_neg (by have q_ := c13; have e0_ : (⟨#[58, 58]⟩ : ByteArray).size = 2 := rfl; simp at q_; omega)]; rfl) | (rw [if_neg (by have q_ := c8; simp at q_; omega)]; done) | (rw [if_neg (by have q_ := c8; simp at q_; omega)]; rfl)
                  rotate_left
                  · simp only [Act.put, List.setIfInBounds_toArray, List.set_cons_zero, List.set_cons_succ, i64_w, i32_w]
                    rfl
                  refine pure_ (i := 5) (N := some 29) (v := ?_) (a' := ?_) #[true, true, true, true, true, true, false, false, false, false, false, false, false, false, false, false, false, false] rfl rfl (any_of HT_.out (by kernel_rfl)) (fun _ _ _ h => h) (Or.inl ⟨by rfl, ?_⟩) ?_ ?_
                  rotate_left
                  · intro w'
                    go_simp
                    first | with_reducible rfl | (rw [if_neg (by have q_ := c15; have e0_ : (⟨#[58, 58]⟩ : ByteArray).size = 2 := rfl; simp at q_; omega)]; done) | (rw [if_neg (by have q_ := c15; have e0_ : (⟨#[58, 58]⟩ : ByteArray).size = 2 := rfl; simp at q_; omega)]; rfl) | (rw [if_neg (by have q_ := c13; have e0_ : (⟨#[58, 58]⟩ : ByteArray).size = 2 := rfl; simp at q_; omega)]; done) | (rw [if_neg (by have q_ := c13; have e0_ : (⟨#[58, 58]⟩ : ByteArray).size = 2 := rfl; simp at q_; omega)]; rfl) | (rw [if_neg (by have q_ := c8; simp at q_; omega)]; done) | (rw [if_neg (by have q_ := c8; simp at q_; omega)]; rfl)
                  rotate_left
                  · simp only [Act.put, List.setIfInBounds_toArray, List.set_cons_zero, List.set_cons_succ, i64_w, i32_w]
                    rfl
                  refine pure_ (i := 6) (N := some 30) (v := ?_) (a' := ?_) #[true, true, true, true, true, true, true, false, false, false, false, false, false, false, false, false, false, false] rfl rfl (any_of HT_.out (by kernel_rfl)) (fun _ _ _ h => h) (Or.inl ⟨by rfl, ?_⟩) ?_ ?_
                  rotate_left
                  · intro w'
                    go_simp
                    first | with_reducible rfl | (rw [if_neg (by have q_ := c15; have e0_ : (⟨#[58, 58]⟩ : ByteArray).size = 2 := rfl; simp at q_; omega)]; done) | (rw [if_neg (by have q_ := c15; have e0_ : (⟨#[58, 58]⟩ : ByteArray).size = 2 := rfl; simp at q_; omega)]; rfl) | (rw [if_neg (by have q_ := c13; have e0_ : (⟨#[58, 58]⟩ : ByteArray).size = 2 := rfl; simp at q_; omega)]; done) | (rw [if_neg (by have q_ := c13; have e0_ : (⟨#[58, 58]⟩ : ByteArray).size = 2 := rfl; simp at q_; omega)]; rfl) | (rw [if_neg (by have q_ := c8; simp at q_; omega)]; done) | (rw [if_neg (by have q_ := c8; simp at q_; omega)]; rfl)
                  rotate_left
                  · simp only [Act.put, List.setIfInBounds_toArray, List.set_cons_zero, List.set_cons_succ, i64_w, i32_w]
                    rfl
                  refine pure_ (i := 7) (N := some 31) (v := ?_) (a' := ?_) #[true, true, true, true, true, true, true, true, false, false, false, false, false, false, false, false, false, false] rfl rfl (any_of HT_.out (by kernel_rfl)) (fun _ _ _ h => h) (Or.inl ⟨by rfl, ?_⟩) ?_ ?_
                  rotate_left
                  · intro w'
                    go_simp
                    first | with_reducible rfl | (rw [if_neg (by have q_ := c15; have e0_ : (⟨#[58, 58]⟩ : ByteArray).size = 2 := rfl; simp at q_; omega)]; done) | (rw [if_neg (by have q_ := c15; have e0_ : (⟨#[58, 58]⟩ : ByteArray).size = 2 := rfl; simp at q_; omega)]; rfl) | (rw [if_neg (by have q_ := c13; have e0_ : (⟨#[58, 58]⟩ : ByteArray).size = 2 := rfl; simp at q_; omega)]; done) | (rw [if_neg (by have q_ := c13; have e0_ : (⟨#[58, 58]⟩ : ByteArray).size = 2 := rfl; simp at q_; omega)]; rfl) | (rw [if_neg (by have q_ := c8; simp at q_; omega)]; done) | (rw [if_neg (by have q_ := c8; simp at q_; omega)]; rfl)
                  rotate_left
                  · simp only [Act.put, List.setIfInBounds_toArray, List.set_cons_zero, List.set_cons_succ, i64_w, i32_w]
                    rfl
                  refine one_ (i := 8) (N := some 32) #[true, true, true, true, true, true, true, true, true, false, false, false, false, false, false, false, false, false] rfl rfl (one_of HT_.out (by kernel_rfl)) (by decide) (fun K hK => ?_)
                  refine goes_ Tryz.func23 (by kernel_rfl) rfl #[.string t312] (by rfl) rfl rfl (by (try simp only [List.map_toArray, List.map_cons, List.map_nil]); first | done | rfl | (simp only [List.length_drop, List.length_take]; rfl)) ?_
                  with_reducible refine (code_Base.calls t312 t315 _ ?side1 A14.out).mono ?_
                  (case side1 => exact GW.below hG (by repeat (first | (with_reducible first | exact HB.out | apply below_alloc | apply pw_below_drewN | apply below_drew1) | exact HB.out)))
                  rintro e w40 ⟨rfl, hb⟩
                  refine ⟨_, rfl, ?_⟩
                  have n0_ := Aside0.mk (below_step (by repeat (first | (with_reducible first | exact HB.out | apply below_alloc | apply pw_below_drewN | apply below_drew1) | exact HB.out)) hb)
                  clear HB
                  have HB := n0_
                  clear n0_
                  (try clear hb)
                  (try clear hb2)
                  (try clear hk)
                  (try clear hi)
                  refine hK.out _ _ trivial (fun hHeld => ?_)
                  clear hK K
                  refine norm_ (a' := ?_) ?_ ?_
                  rotate_left
                  · show Act.put _ (some 32) _ = _
                    simp only [Act.put, List.setIfInBounds_toArray, List.set_cons_zero, List.set_cons_succ, i64_w, i32_w]
                    rfl
                  refine pure_ (i := 9) (N := some 33) (v := ?_) (a' := ?_) #[true, true, true, true, true, true, true, true, true, true, false, false, false, false, false, false, false, false] rfl rfl (any_of HT_.out (by kernel_rfl)) (fun _ _ _ h => h) (Or.inl ⟨by rfl, ?_⟩) ?_ ?_
                  rotate_left
                  · intro w'
                    go_simp
                    first | with_reducible rfl | (rw [if_neg (by have q_ := c15; have e0_ : (⟨#[58, 58]⟩ : ByteArray).size = 2 := rfl; simp at q_; omega)]; done) | (rw [if_neg (by have q_ := c15; have e0_ : (⟨#[58, 58]⟩ : ByteArray).size = 2 := rfl; simp at q_; omega)]; rfl) | (rw [if_neg (by have q_ := c13; have e0_ : (⟨#[58, 58]⟩ : ByteArray).size = 2 := rfl; simp at q_; omega)]; done) | (rw [if_neg (by have q_ := c13; have e0_ : (⟨#[58, 58]⟩ : ByteArray).size = 2 := rfl; simp at q_; omega)]; rfl) | (rw [if_neg (by have q_ := c8; simp at q_; omega)]; done) | (rw [if_neg (by have q_ := c8; simp at q_; omega)]; rfl)
                  rotate_left
                  · simp only [Act.put, List.setIfInBounds_toArray, List.set_cons_zero, List.set_cons_succ, i64_w, i32_w]
                    rfl
                  refine one_ (i := 10) (N := some 34) #[true, true, true, true, true, true, true, true, true, true, true, false, false, false, false, false, false, false] rfl rfl (one_of HT_.out (by kernel_rfl)) (by decide) (fun K hK => ?_)
                  refine goes_ Tryz.func21 (by kernel_rfl) rfl #[.string (((t311 ++ (⟨#[58, 58]⟩ : ByteArray)) ++ sx10_0) ++ t315)] (by rfl) rfl rfl (by (try simp only [List.map_toArray, List.map_cons, List.map_nil]); first | done | (simp only [hji10]; rfl) | rfl | (simp only [List.length_drop, List.length_take]; rfl)) ?_
                  with_reducible refine (fold_ReadItem.calls (((t311 ++ (⟨#[58, 58]⟩ : ByteArray)) ++ sx10_0) ++ t315) t316 t317 t318 _ ?side1 A16.out).mono ?_
                  (case side1 => exact GW.below hG (by repeat (first | (with_reducible first | exact HB.out | apply below_alloc | apply pw_below_drewN | apply below_drew1) | exact HB.out)))
                  rintro e w41 ⟨rfl, hb⟩
                  refine ⟨_, rfl, ?_⟩
                  have n0_ := Aside0.mk (below_step (by repeat (first | (with_reducible first | exact HB.out | apply below_alloc | apply pw_below_drewN | apply below_drew1) | exact HB.out)) hb)
                  clear HB
                  have HB := n0_
                  clear n0_
                  (try clear hb)
                  (try clear hb2)
                  (try clear hk)
                  (try clear hi)
                  refine hK.out _ _ trivial (fun hHeld => ?_)
                  clear hK K
                  refine norm_ (a' := ?_) ?_ ?_
                  rotate_left
                  · show Act.put _ (some 34) _ = _
                    simp only [Act.put, List.setIfInBounds_toArray, List.set_cons_zero, List.set_cons_succ, i64_w, i32_w]
                    rfl
                  refine pure_ (i := 11) (N := some 23) (v := ?_) (a' := ?_) #[true, true, true, true, true, true, true, true, true, true, true, true, false, false, false, false, false, false] rfl rfl (any_of HT_.out (by kernel_rfl)) (fun _ _ _ h => h) (Or.inl ⟨by rfl, ?_⟩) ?_ ?_
                  rotate_left
                  · intro w'
                    go_simp
                    first | with_reducible rfl | (rw [if_neg (by have q_ := c15; have e0_ : (⟨#[58, 58]⟩ : ByteArray).size = 2 := rfl; simp at q_; omega)]; done) | (rw [if_neg (by have q_ := c15; have e0_ : (⟨#[58, 58]⟩ : ByteArray).size = 2 := rfl; simp at q_; omega)]; rfl) | (rw [if_neg (by have q_ := c13; have e0_ : (⟨#[58, 58]⟩ : ByteArray).size = 2 := rfl; simp at q_; omega)]; done) | (rw [if_neg (by have q_ := c13; have e0_ : (⟨#[58, 58]⟩ : ByteArray).size = 2 := rfl; simp at q_; omega)]; rfl) | (rw [if_neg (by have q_ := c8; simp at q_; omega)]; done) | (rw [if_neg (by have q_ := c8; simp at q_; omega)]; rfl)
                  rotate_left
                  · simp only [Act.put, List.setIfInBounds_toArray, List.set_cons_zero, List.set_cons_succ, i64_w, i32_w]
                    rfl
                  refine pure_ (i := 12) (N := some 35) (v := ?_) (a' := ?_) #[true, true, true, true, true, true, true, true, true, true, true, true, true, false, false, false, false, false] rfl rfl (any_of HT_.out (by kernel_rfl)) (fun _ _ _ h => h) (Or.inl ⟨by rfl, ?_⟩) ?_ ?_
                  rotate_left
                  · intro w'
                    go_simp
                    first | with_reducible rfl | (rw [if_neg (by have q_ := c15; have e0_ : (⟨#[58, 58]⟩ : ByteArray).size = 2 := rfl; simp at q_; omega)]; done) | (rw [if_neg (by have q_ := c15; have e0_ : (⟨#[58, 58]⟩ : ByteArray).size = 2 := rfl; simp at q_; omega)]; rfl) | (rw [if_neg (by have q_ := c13; have e0_ : (⟨#[58, 58]⟩ : ByteArray).size = 2 := rfl; simp at q_; omega)]; done) | (rw [if_neg (by have q_ := c13; have e0_ : (⟨#[58, 58]⟩ : ByteArray).size = 2 := rfl; simp at q_; omega)]; rfl) | (rw [if_neg (by have q_ := c8; simp at q_; omega)]; done) | (rw [if_neg (by have q_ := c8; simp at q_; omega)]; rfl)
                  rotate_left
                  · simp only [Act.put, List.setIfInBounds_toArray, List.set_cons_zero, List.set_cons_succ, i64_w, i32_w]
                    rfl
                  refine pure_ (i := 13) (N := some 36) (v := ?_) (a' := ?_) #[true, true, true, true, true, true, true, true, true, true, true, true, true, true, false, false, false, false] rfl rfl (any_of HT_.out (by kernel_rfl)) (fun _ _ _ h => h) (Or.inl ⟨by rfl, ?_⟩) ?_ ?_
                  rotate_left
                  · intro w'
                    go_simp
                    first | with_reducible rfl | (rw [if_neg (by have q_ := c15; have e0_ : (⟨#[58, 58]⟩ : ByteArray).size = 2 := rfl; simp at q_; omega)]; done) | (rw [if_neg (by have q_ := c15; have e0_ : (⟨#[58, 58]⟩ : ByteArray).size = 2 := rfl; simp at q_; omega)]; rfl) | (rw [if_neg (by have q_ := c13; have e0_ : (⟨#[58, 58]⟩ : ByteArray).size = 2 := rfl; simp at q_; omega)]; done) | (rw [if_neg (by have q_ := c13; have e0_ : (⟨#[58, 58]⟩ : ByteArray).size = 2 := rfl; simp at q_; omega)]; rfl) | (rw [if_neg (by have q_ := c8; simp at q_; omega)]; done) | (rw [if_neg (by have q_ := c8; simp at q_; omega)]; rfl)
                  rotate_left
                  · simp only [Act.put, List.setIfInBounds_toArray, List.set_cons_zero, List.set_cons_succ, i64_w, i32_w]
                    rfl
                  refine pure_ (i := 14) (N := some 37) (v := ?_) (a' := ?_) #[true, true, true, true, true, true, true, true, true, true, true, true, true, true, true, false, false, false] rfl rfl (any_of HT_.out (by kernel_rfl)) (fun _ _ _ h => h) (Or.inl ⟨by rfl, ?_⟩) ?_ ?_
                  rotate_left
                  · intro w'
                    go_simp
                    first | with_reducible rfl | (rw [if_neg (by have q_ := c15; have e0_ : (⟨#[58, 58]⟩ : ByteArray).size = 2 := rfl; simp at q_; omega)]; done) | (rw [if_neg (by have q_ := c15; have e0_ : (⟨#[58, 58]⟩ : ByteArray).size = 2 := rfl; simp at q_; omega)]; rfl) | (rw [if_neg (by have q_ := c13; have e0_ : (⟨#[58, 58]⟩ : ByteArray).size = 2 := rfl; simp at q_; omega)]; done) | (rw [if_neg (by have q_ := c13; have e0_ : (⟨#[58, 58]⟩ : ByteArray).size = 2 := rfl; simp at q_; omega)]; rfl) | (rw [if_neg (by have q_ := c8; simp at q_; omega)]; done) | (rw [if_neg (by have q_ := c8; simp at q_; omega)]; rfl)
                  rotate_left
                  · simp only [Act.put, List.setIfInBounds_toArray, List.set_cons_zero, List.set_cons_succ, i64_w, i32_w]
                    rfl
                  refine pure_ (i := 15) (N := some 10) (v := ?_) (a' := ?_) #[true, true, true, true, true, true, true, true, true, true, true, true, true, true, true, true, false, false] rfl rfl (any_of HT_.out (by kernel_rfl)) (fun _ _ _ h => h) (Or.inl ⟨by rfl, ?_⟩) ?_ ?_
                  rotate_left
                  · intro w'
                    go_simp
                    first | with_reducible rfl | (rw [if_neg (by have q_ := c15; have e0_ : (⟨#[58, 58]⟩ : ByteArray).size = 2 := rfl; simp at q_; omega)]; done) | (rw [if_neg (by have q_ := c15; have e0_ : (⟨#[58, 58]⟩ : ByteArray).size = 2 := rfl; simp at q_; omega)]; rfl) | (rw [if_neg (by have q_ := c13; have e0_ : (⟨#[58, 58]⟩ : ByteArray).size = 2 := rfl; simp at q_; omega)]; done) | (rw [if_neg (by have q_ := c13; have e0_ : (⟨#[58, 58]⟩ : ByteArray).size = 2 := rfl; simp at q_; omega)]; rfl) | (rw [if_neg (by have q_ := c8; simp at q_; omega)]; done) | (rw [if_neg (by have q_ := c8; simp at q_; omega)]; rfl)
                  rotate_left
                  · simp only [Act.put, List.setIfInBounds_toArray, List.set_cons_zero, List.set_cons_succ, i64_w, i32_w]
                    rfl
                  refine pure_ (i := 16) (N := some 11) (v := ?_) (a' := ?_) #[true, true, true, true, true, true, true, true, true, true, true, true, true, true, true, true, true, false] rfl rfl (any_of HT_.out (by kernel_rfl)) (fun _ _ _ h => h) (Or.inl ⟨by rfl, ?_⟩) ?_ ?_
                  rotate_left
                  · intro w'
                    go_simp
                    first | with_reducible rfl | (rw [if_neg (by have q_ := c15; have e0_ : (⟨#[58, 58]⟩ : ByteArray).size = 2 := rfl; simp at q_; omega)]; done) | (rw [if_neg (by have q_ := c15; have e0_ : (⟨#[58, 58]⟩ : ByteArray).size = 2 := rfl; simp at q_; omega)]; rfl) | (rw [if_neg (by have q_ := c13; have e0_ : (⟨#[58, 58]⟩ : ByteArray).size = 2 := rfl; simp at q_; omega)]; done) | (rw [if_neg (by have q_ := c13; have e0_ : (⟨#[58, 58]⟩ : ByteArray).size = 2 := rfl; simp at q_; omega)]; rfl) | (rw [if_neg (by have q_ := c8; simp at q_; omega)]; done) | (rw [if_neg (by have q_ := c8; simp at q_; omega)]; rfl)
                  rotate_left
                  · simp only [Act.put, List.setIfInBounds_toArray, List.set_cons_zero, List.set_cons_succ, i64_w, i32_w]
                    rfl
                  refine pure_ (i := 17) (N := some 12) (v := ?_) (a' := ?_) #[true, true, true, true, true, true, true, true, true, true, true, true, true, true, true, true, true, true] rfl rfl (any_of HT_.out (by kernel_rfl)) (fun _ _ _ h => h) (Or.inl ⟨by rfl, ?_⟩) ?_ ?_
                  rotate_left
                  · intro w'
                    go_simp
                    first | with_reducible rfl | (rw [if_neg (by have q_ := c15; have e0_ : (⟨#[58, 58]⟩ : ByteArray).size = 2 := rfl; simp at q_; omega)]; done) | (rw [if_neg (by have q_ := c15; have e0_ : (⟨#[58, 58]⟩ : ByteArray).size = 2 := rfl; simp at q_; omega)]; rfl) | (rw [if_neg (by have q_ := c13; have e0_ : (⟨#[58, 58]⟩ : ByteArray).size = 2 := rfl; simp at q_; omega)]; done) | (rw [if_neg (by have q_ := c13; have e0_ : (⟨#[58, 58]⟩ : ByteArray).size = 2 := rfl; simp at q_; omega)]; rfl) | (rw [if_neg (by have q_ := c8; simp at q_; omega)]; done) | (rw [if_neg (by have q_ := c8; simp at q_; omega)]; rfl)
                  rotate_left
                  · simp only [Act.put, List.setIfInBounds_toArray, List.set_cons_zero, List.set_cons_succ, i64_w, i32_w]
                    rfl
                  refine done_ (done_of HT_.out (by kernel_rfl)) ?_
                  try go_wp2
                  go_ret
                  exact ⟨by first | rfl | (simp [errW_none, errW_some] <;> rfl) | (simp only [← hji9, ← hji10]; first | rfl | (simp [errW_none, errW_some] <;> rfl)) | (simp [*, errW_none, errW_some] <;> rfl), by repeat (first | (with_reducible first | exact HB.out | apply below_alloc | apply pw_below_drewN | apply below_drew1) | exact HB.out)⟩
              · replace c18 := Bool.eq_false_iff.mpr c18
                subst c18
                have H1 : (some false) = some r := by rw [if_neg (show ¬ (false = true) by decide)] at H; exact H
                clear H
                have H := H1
                clear H1
                obtain rfl := Option.some.inj H
                go_enter Tryz.func10, Tryz.ntmps10
                try go_wp2_with (first | ((with_reducible refine own_gate (f := 11) rfl ?_); refine goesL_ (some 13) rfl rfl Tryz.func11 (by kernel_rfl) rfl #[] rfl (by (try simp only [List.map_toArray, List.map_cons, List.map_nil]); first | done | rfl | (simp only [List.length_drop, List.length_take]; rfl)) ?_; (with_reducible refine (latinerlaw15_shown.calls k  false _ ?side1 A4.out).mono ?_); (case side1 => exact GW.below hG (by repeat (first | (with_reducible first | exact HB.out | apply below_alloc | apply pw_below_drewN | apply below_drew1) | exact HB.out))); rintro e w42 ⟨rfl, hb⟩; refine ⟨_, rfl, ?_⟩; have n0_ := Aside0.mk (below_step (by repeat (first | (with_reducible first | exact HB.out | apply below_alloc | apply pw_below_drewN | apply below_drew1) | exact HB.out)) hb); clear HB; have HB := n0_; clear n0_; (try clear hb); (try clear hb2); (try clear hk); (try clear hi)) | ((with_reducible refine own_gate (f := 18) rfl ?_); refine goesL_ (some 15) rfl rfl Tryz.func18 (by kernel_rfl) rfl #[.string a0] rfl (by (try simp only [List.map_toArray, List.map_cons, List.map_nil]); first | done | rfl | (simp only [List.length_drop, List.length_take]; rfl)) ?_; (with_reducible refine (latinerlaw15_short.calls a0 t311 _ A5.out).mono ?_); rintro e w43 ⟨rfl, hb⟩; refine ⟨_, rfl, ?_⟩; have n0_ := Aside0.mk (below_step (by repeat (first | (with_reducible first | exact HB.out | apply below_alloc | apply pw_below_drewN | apply below_drew1) | exact HB.out)) hb); clear HB; have HB := n0_; clear n0_; (try clear hb); (try clear hb2); (try clear hk); (try clear hi)) | ((with_reducible refine own_gate (f := 18) rfl ?_); refine goesL_ (some 17) rfl rfl Tryz.func18 (by kernel_rfl) rfl #[.string a1] rfl (by (try simp only [List.map_toArray, List.map_cons, List.map_nil]); first | done | rfl | (simp only [List.length_drop, List.length_take]; rfl)) ?_; (with_reducible refine (latinerlaw15_short.calls a1 t312 _ A6.out).mono ?_); rintro e w44 ⟨rfl, hb⟩; refine ⟨_, rfl, ?_⟩; have n0_ := Aside0.mk (below_step (by repeat (first | (with_reducible first | exact HB.out | apply below_alloc | apply pw_below_drewN | apply below_drew1) | exact HB.out)) hb); clear HB; have HB := n0_; clear n0_; (try clear hb); (try clear hb2); (try clear hk); (try clear hi)) | ((with_reducible refine own_gate (f := 19) rfl ?_); refine goesL_ (some 20) rfl rfl Tryz.func19 (by kernel_rfl) rfl #[.string t311, .string (⟨#[120]⟩ : ByteArray)] rfl (by (try simp only [List.map_toArray, List.map_cons, List.map_nil]); first | done | rfl | (simp only [List.length_drop, List.length_take]; rfl)) ?_; (with_reducible refine (fold_Item.calls t311 (⟨#[120]⟩ : ByteArray) t313 t314 _ ?side1 A7.out).mono ?_); (case side1 => exact GW.below hG (by repeat (first | (with_reducible first | exact HB.out | apply below_alloc | apply pw_below_drewN | apply below_drew1) | exact HB.out))); rintro e w45 ⟨rfl, hb⟩; refine ⟨_, rfl, ?_⟩; have n0_ := Aside0.mk (below_step (by repeat (first | (with_reducible first | exact HB.out | apply below_alloc | apply pw_below_drewN | apply below_drew1) | exact HB.out)) hb); clear HB; have HB := n0_; clear n0_; (try clear hb); (try clear hb2); (try clear hk); (try clear hi)))
                have n0_ := Aside0.mk (below_drew1 HB.out)
                clear HB
                have HB := n0_
                clear n0_
                refine start_ (n := 18) (S := fun w' => True) (ds := []) #[false, false, false, false, false, false, false, false, false, false, false, false, false, false, false, false, false, false] (by kernel_rfl) rfl rfl trivial (fun hHeld => ?_); refine with_tabW latinerlaw15_FoldBase.tab5 latinerlaw15_FoldBase.bits5 (fun HT_ HW_ => ?_)
                generalize w45.drew = w46 at HB hHeld ⊢
                refine pure_ (i := 0) (N := some 24) (v := ?_) (a' := ?_) #[true, false, false, false, false, false, false, false, false, false, false, false, false, false, false, false, false, false] rfl rfl (any_of HT_.out (by kernel_rfl)) (fun _ _ _ h => h) (Or.inl ⟨by rfl, ?_⟩) ?_ ?_
                rotate_left
                · intro w'
                  go_simp
                  first | with_reducible rfl | (rw [if_neg (by have q_ := c15; have e0_ : (⟨#[58, 58]⟩ : ByteArray).size = 2 := rfl; simp at q_; omega)]; done) | (rw [if_neg (by have q_ := c15; have e0_ : (⟨#[58, 58]⟩ : ByteArray).size = 2 := rfl; simp at q_; omega)]; rfl) | (rw [if_neg (by have q_ := c13; have e0_ : (⟨#[58, 58]⟩ : ByteArray).size = 2 := rfl; simp at q_; omega)]; done) | (rw [if_neg (by have q_ := c13; have e0_ : (⟨#[58, 58]⟩ : ByteArray).size = 2 := rfl; simp at q_; omega)]; rfl) | (rw [if_neg (by have q_ := c8; simp at q_; omega)]; done) | (rw [if_neg (by have q_ := c8; simp at q_; omega)]; rfl)
                rotate_left
                · simp only [Act.put, List.setIfInBounds_toArray, List.set_cons_zero, List.set_cons_succ, i64_w, i32_w]
                  rfl
                refine pure_ (i := 1) (N := some 25) (v := ?_) (a' := ?_) #[true, true, false, false, false, false, false, false, false, false, false, false, false, false, false, false, false, false] rfl rfl (any_of HT_.out (by kernel_rfl)) (fun _ _ _ h => h) (Or.inl ⟨by rfl, ?_⟩) ?_ ?_
                rotate_left
                · intro w'
                  go_simp
                  first | with_reducible rfl | (rw [if_neg (by have q_ := c15; have e0_ : (⟨#[58, 58]⟩ : ByteArray).size = 2 := rfl; simp at q_; omega)]; done) | (rw [if_neg (by have q_ := c15; have e0_ : (⟨#[58, 58]⟩ : ByteArray).size = 2 := rfl; simp at q_; omega)]; rfl) | (rw [if_neg (by have q_ := c13; have e0_ : (⟨#[58, 58]⟩ : ByteArray).size = 2 := rfl; simp at q_; omega)]; done) | (rw [if_neg (by have q_ := c13; have e0_ : (⟨#[58, 58]⟩ : ByteArray).size = 2 := rfl; simp at q_; omega)]; rfl) | (rw [if_neg (by have q_ := c8; simp at q_; omega)]; done) | (rw [if_neg (by have q_ := c8; simp at q_; omega)]; rfl)
                rotate_left
                · simp only [Act.put, List.setIfInBounds_toArray, List.set_cons_zero, List.set_cons_succ, i64_w, i32_w]
                  rfl
                refine pure_ (i := 2) (N := some 26) (v := ?_) (a' := ?_) #[true, true, true, false, false, false, false, false, false, false, false, false, false, false, false, false, false, false] rfl rfl (any_of HT_.out (by kernel_rfl)) (fun _ _ _ h => h) (Or.inl ⟨by rfl, ?_⟩) ?_ ?_
                rotate_left
                · intro w'
                  go_simp
                  first | with_reducible rfl | (rw [if_neg (by have q_ := c15; have e0_ : (⟨#[58, 58]⟩ : ByteArray).size = 2 := rfl; simp at q_; omega)]; done) | (rw [if_neg (by have q_ := c15; have e0_ : (⟨#[58, 58]⟩ : ByteArray).size = 2 := rfl; simp at q_; omega)]; rfl) | (rw [if_neg (by have q_ := c13; have e0_ : (⟨#[58, 58]⟩ : ByteArray).size = 2 := rfl; simp at q_; omega)]; done) | (rw [if_neg (by have q_ := c13; have e0_ : (⟨#[58, 58]⟩ : ByteArray).size = 2 := rfl; simp at q_; omega)]; rfl) | (rw [if_neg (by have q_ := c8; simp at q_; omega)]; done) | (rw [if_neg (by have q_ := c8; simp at q_; omega)]; rfl)
                rotate_left
                · simp only [Act.put, List.setIfInBounds_toArray, List.set_cons_zero, List.set_cons_succ, i64_w, i32_w]
                  rfl
                refine pure_ (i := 3) (N := some 27) (v := ?_) (a' := ?_) #[true, true, true, true, false, false, false, false, false, false, false, false, false, false, false, false, false, false] rfl rfl (any_of HT_.out (by kernel_rfl)) (fun _ _ _ h => h) (Or.inl ⟨by rfl, ?_⟩) ?_ ?_
                rotate_left
                · intro w'
                  go_simp
                  first | with_reducible rfl | (rw [if_neg (by have q_ := c15; have e0_ : (⟨#[58, 58]⟩ : ByteArray).size = 2 := rfl; simp at q_; omega)]; done) | (rw [if_neg (by have q_ := c15; have e0_ : (⟨#[58, 58]⟩ : ByteArray).size = 2 := rfl; simp at q_; omega)]; rfl) | (rw [if_neg (by have q_ := c13; have e0_ : (⟨#[58, 58]⟩ : ByteArray).size = 2 := rfl; simp at q_; omega)]; done) | (rw [if_neg (by have q_ := c13; have e0_ : (⟨#[58, 58]⟩ : ByteArray).size = 2 := rfl; simp at q_; omega)]; rfl) | (rw [if_neg (by have q_ := c8; simp at q_; omega)]; done) | (rw [if_neg (by have q_ := c8; simp at q_; omega)]; rfl)
                rotate_left
                · simp only [Act.put, List.setIfInBounds_toArray, List.set_cons_zero, List.set_cons_succ, i64_w, i32_w]
                  rfl
                refine pure_ (i := 4) (N := some 28) (v := ?_) (a' := ?_) #[true, true, true, true, true, false, false, false, false, false, false, false, false, false, false, false, false, false] rfl rfl (any_of HT_.out (by kernel_rfl)) (fun _ _ _ h => h) (Or.inl ⟨by rfl, ?_⟩) ?_ ?_
                rotate_left
                · intro w'
                  go_simp
                  first | with_reducible rfl | (rw [if_neg (by have q_ := c15; have e0_ : (⟨#[58, 58]⟩ : ByteArray).size = 2 := rfl; simp at q_; omega)]; done) | (rw [if_neg (by have q_ := c15; have e0_ : (⟨#[58, 58]⟩ : ByteArray).size = 2 := rfl; simp at q_; omega)]; rfl) | (rw [if_neg (by have q_ := c13; have e0_ : (⟨#[58, 58]⟩ : ByteArray).size = 2 := rfl; simp at q_; omega)]; done) | (rw [if_neg (by have q_ := c13; have e0_ : (⟨#[58, 58]⟩ : ByteArray).size = 2 := rfl; simp at q_; omega)]; rfl) | (rw [if_neg (by have q_ := c8; simp at q_; omega)]; done) | (rw [if_neg (by have q_ := c8; simp at q_; omega)]; rfl)
                rotate_left
                · simp only [Act.put, List.setIfInBounds_toArray, List.set_cons_zero, List.set_cons_succ, i64_w, i32_w]
                  rfl
                refine pure_ (i := 5) (N := some 29) (v := ?_) (a' := ?_) #[true, true, true, true, true, true, false, false, false, false, false, false, false, false, false, false, false, false] rfl rfl (any_of HT_.out (by kernel_rfl)) (fun _ _ _ h => h) (Or.inl ⟨by rfl, ?_⟩) ?_ ?_
                rotate_left
                · intro w'
                  go_simp
                  first | with_reducible rfl | (rw [if_neg (by have q_ := c15; have e0_ : (⟨#[58, 58]⟩ : ByteArray).size = 2 := rfl; simp at q_; omega)]; done) | (rw [if_neg (by have q_ := c15; have e0_ : (⟨#[58, 58]⟩ : ByteArray).size = 2 := rfl; simp at q_; omega)]; rfl) | (rw [if_neg (by have q_ := c13; have e0_ : (⟨#[58, 58]⟩ : ByteArray).size = 2 := rfl; simp at q_; omega)]; done) | (rw [if_neg (by have q_ := c13; have e0_ : (⟨#[58, 58]⟩ : ByteArray).size = 2 := rfl; simp at q_; omega)]; rfl) | (rw [if_neg (by have q_ := c8; simp at q_; omega)]; done) | (rw [if_neg (by have q_ := c8; simp at q_; omega)]; rfl)
                rotate_left
                · simp only [Act.put, List.setIfInBounds_toArray, List.set_cons_zero, List.set_cons_succ, i64_w, i32_w]
                  rfl
                refine pure_ (i := 6) (N := some 30) (v := ?_) (a' := ?_) #[true, true, true, true, true, true, true, false, false, false, false, false, false, false, false, false, false, false] rfl rfl (any_of HT_.out (by kernel_rfl)) (fun _ _ _ h => h) (Or.inl ⟨by rfl, ?_⟩) ?_ ?_
                rotate_left
                · intro w'
                  go_simp
                  first | with_reducible rfl | (rw [if_neg (by have q_ := c15; have e0_ : (⟨#[58, 58]⟩ : ByteArray).size = 2 := rfl; simp at q_; omega)]; done) | (rw [if_neg (by have q_ := c15; have e0_ : (⟨#[58, 58]⟩ : ByteArray).size = 2 := rfl; simp at q_; omega)]; rfl) | (rw [if_neg (by have q_ := c13; have e0_ : (⟨#[58, 58]⟩ : ByteArray).size = 2 := rfl; simp at q_; omega)]; done) | (rw [if_neg (by have q_ := c13; have e0_ : (⟨#[58, 58]⟩ : ByteArray).size = 2 := rfl; simp at q_; omega)]; rfl) | (rw [if_neg (by have q_ := c8; simp at q_; omega)]; done) | (rw [if_neg (by have q_ := c8; simp at q_; omega)]; rfl)
                rotate_left
                · simp only [Act.put, List.setIfInBounds_toArray, List.set_cons_zero, List.set_cons_succ, i64_w, i32_w]
                  rfl
                refine pure_ (i := 7) (N := some 31) (v := ?_) (a' := ?_) #[true, true, true, true, true, true, true, true, false, false, false, false, false, false, false, false, false, false] rfl rfl (any_of HT_.out (by kernel_rfl)) (fun _ _ _ h => h) (Or.inl ⟨by rfl, ?_⟩) ?_ ?_
                rotate_left
                · intro w'
                  go_simp
                  first | with_reducible rfl | (rw [if_neg (by have q_ := c15; have e0_ : (⟨#[58, 58]⟩ : ByteArray).size = 2 := rfl; simp at q_; omega)]; done) | (rw [if_neg (by have q_ := c15; have e0_ : (⟨#[58, 58]⟩ : ByteArray).size = 2 := rfl; simp at q_; omega)]; rfl) | (rw [if_neg (by have q_ := c13; have e0_ : (⟨#[58, 58]⟩ : ByteArray).size = 2 := rfl; simp at q_; omega)]; done) | (rw [if_neg (by have q_ := c13; have e0_ : (⟨#[58, 58]⟩ : ByteArray).size = 2 := rfl; simp at q_; omega)]; rfl) | (rw [if_neg (by have q_ := c8; simp at q_; omega)]; done) | (rw [if_neg (by have q_ := c8; simp at q_; omega)]; rfl)
                rotate_left
                · simp only [Act.put, List.setIfInBounds_toArray, List.set_cons_zero, List.set_cons_succ, i64_w, i32_w]
                  rfl
                refine one_ (i := 8) (N := some 32) #[true, true, true, true, true, true, true, true, true, false, false, false, false, false, false, false, false, false] rfl rfl (one_of HT_.out (by kernel_rfl)) (by decide) (fun K hK => ?_)
                refine goes_ Tryz.func23 (by kernel_rfl) rfl #[.string t312] (by rfl) rfl rfl (by (try simp only [List.map_toArray, List.map_cons, List.map_nil]); first | done | rfl | (simp only [List.length_drop, List.length_take]; rfl)) ?_
                with_reducible refine (code_Base.calls t312 t315 _ ?side1 A14.out).mono ?_
                (case side1 => exact GW.below hG (by repeat (first | (with_reducible first | exact HB.out | apply below_alloc | apply pw_below_drewN | apply below_drew1) | exact HB.out)))
                rintro e w47 ⟨rfl, hb⟩
                refine ⟨_, rfl, ?_⟩
                have n0_ := Aside0.mk (below_step (by repeat (first | (with_reducible first | exact HB.out | apply below_alloc | apply pw_below_drewN | apply below_drew1) | exact HB.out)) hb)
                clear HB
                have HB := n0_
                clear n0_
                (try clear hb)
                (try clear hb2)
                (try clear hk)
                (try clear hi)
                refine hK.out _ _ trivial (fun hHeld => ?_)
                clear hK K
                refine norm_ (a' := ?_) ?_ ?_
                rotate_left
                · show Act.put _ (some 32) _ = _
                  simp only [Act.put, List.setIfInBounds_toArray, List.set_cons_zero, List.set_cons_succ, i64_w, i32_w]
                  rfl
                refine pure_ (i := 9) (N := some 33) (v := ?_) (a' := ?_) #[true, true, true, true, true, true, true, true, true, true, false, false, false, false, false, false, false, false] rfl rfl (any_of HT_.out (by kernel_rfl)) (fun _ _ _ h => h) (Or.inl ⟨by rfl, ?_⟩) ?_ ?_
                rotate_left
                · intro w'
                  go_simp
                  first | with_reducible rfl | (rw [if_neg (by have q_ := c15; have e0_ : (⟨#[58, 58]⟩ : ByteArray).size = 2 := rfl; simp at q_; omega)]; done) | (rw [if_neg (by have q_ := c15; have e0_ : (⟨#[58, 58]⟩ : ByteArray).size = 2 := rfl; simp at q_; omega)]; rfl) | (rw [if_neg (by have q_ := c13; have e0_ : (⟨#[58, 58]⟩ : ByteArray).size = 2 := rfl; simp at q_; omega)]; done) | (rw [if_neg (by have q_ := c13; have e0_ : (⟨#[58, 58]⟩ : ByteArray).size = 2 := rfl; simp at q_; omega)]; rfl) | (rw [if_neg (by have q_ := c8; simp at q_; omega)]; done) | (rw [if_neg (by have q_ := c8; simp at q_; omega)]; rfl)
                rotate_left
                · simp only [Act.put, List.setIfInBounds_toArray, List.set_cons_zero, List.set_cons_succ, i64_w, i32_w]
                  rfl
                refine one_ (i := 10) (N := some 34) #[true, true, true, true, true, true, true, true, true, true, true, false, false, false, false, false, false, false] rfl rfl (one_of HT_.out (by kernel_rfl)) (by decide) (fun K hK => ?_)
                refine goes_ Tryz.func21 (by kernel_rfl) rfl #[.string (((t311 ++ (⟨#[58, 58]⟩ : ByteArray)) ++ sx10_0) ++ t315)] (by rfl) rfl rfl (by (try simp only [List.map_toArray, List.map_cons, List.map_nil]); first | done | (simp only [hji10]; rfl) | rfl | (simp only [List.length_drop, List.length_take]; rfl)) ?_
                with_reducible refine (fold_ReadItem.calls (((t311 ++ (⟨#[58, 58]⟩ : ByteArray)) ++ sx10_0) ++ t315) t316 t317 t318 _ ?side1 A16.out).mono ?_
                (case side1 => exact GW.below hG (by repeat (first | (with_reducible first | exact HB.out | apply below_alloc | apply pw_below_drewN | apply below_drew1) | exact HB.out)))
                rintro e w48 ⟨rfl, hb⟩
                refine ⟨_, rfl, ?_⟩
                have n0_ := Aside0.mk (below_step (by repeat (first | (with_reducible first | exact HB.out | apply below_alloc | apply pw_below_drewN | apply below_drew1) | exact HB.out)) hb)
                clear HB
                have HB := n0_
                clear n0_
                (try clear hb)
                (try clear hb2)
                (try clear hk)
                (try clear hi)
                refine hK.out _ _ trivial (fun hHeld => ?_)
                clear hK K
                refine norm_ (a' := ?_) ?_ ?_
                rotate_left
                · show Act.put _ (some 34) _ = _
                  simp only [Act.put, List.setIfInBounds_toArray, List.set_cons_zero, List.set_cons_succ, i64_w, i32_w]
                  rfl
                refine pure_ (i := 11) (N := some 23) (v := ?_) (a' := ?_) #[true, true, true, true, true, true, true, true, true, true, true, true, false, false, false, false, false, false] rfl rfl (any_of HT_.out (by kernel_rfl)) (fun _ _ _ h => h) (Or.inl ⟨by rfl, ?_⟩) ?_ ?_
                rotate_left
                · intro w'
                  go_simp
                  first | with_reducible rfl | (rw [if_neg (by have q_ := c15; have e0_ : (⟨#[58, 58]⟩ : ByteArray).size = 2 := rfl; simp at q_; omega)]; done) | (rw [if_neg (by have q_ := c15; have e0_ : (⟨#[58, 58]⟩ : ByteArray).size = 2 := rfl; simp at q_; omega)]; rfl) | (rw [if_neg (by have q_ := c13; have e0_ : (⟨#[58, 58]⟩ : ByteArray).size = 2 := rfl; simp at q_; omega)]; done) | (rw [if_neg (by have q_ := c13; have e0_ : (⟨#[58, 58]⟩ : ByteArray).size = 2 := rfl; simp at q_; omega)]; rfl) | (rw [if_neg (by have q_ := c8; simp at q_; omega)]; done) | (rw [if_neg (by have q_ := c8; simp at q_; omega)]; rfl)
                rotate_left
                · simp only [Act.put, List.setIfInBounds_toArray, List.set_cons_zero, List.set_cons_succ, i64_w, i32_w]
                  rfl
                refine pure_ (i := 12) (N := some 35) (v := ?_) (a' := ?_) #[true, true, true, true, true, true, true, true, true, true, true, true, true, false, false, false, false, false] rfl rfl (any_of HT_.out (by kernel_rfl)) (fun _ _ _ h => h) (Or.inl ⟨by rfl, ?_⟩) ?_ ?_
                rotate_left
                · intro w'
                  go_simp
                  first | with_reducible rfl | (rw [if_neg (by have q_ := c15; have e0_ : (⟨#[58, 58]⟩ : ByteArray).size = 2 := rfl; simp at q_; omega)]; done) | (rw [if_neg (by have q_ := c15; have e0_ : (⟨#[58, 58]⟩ : ByteArray).size = 2 := rfl; simp at q_; omega)]; rfl) | (rw [if_neg (by have q_ := c13; have e0_ : (⟨#[58, 58]⟩ : ByteArray).size = 2 := rfl; simp at q_; omega)]; done) | (rw [if_neg (by have q_ := c13; have e0_ : (⟨#[58, 58]⟩ : ByteArray).size = 2 := rfl; simp at q_; omega)]; rfl) | (rw [if_neg (by have q_ := c8; simp at q_; omega)]; done) | (rw [if_neg (by have q_ := c8; simp at q_; omega)]; rfl)
                rotate_left
                · simp only [Act.put, List.setIfInBounds_toArray, List.set_cons_zero, List.set_cons_succ, i64_w, i32_w]
                  rfl
                refine pure_ (i := 13) (N := some 36) (v := ?_) (a' := ?_) #[true, true, true, true, true, true, true, true, true, true, true, true, true, true, false, false, false, false] rfl rfl (any_of HT_.out (by kernel_rfl)) (fun _ _ _ h => h) (Or.inl ⟨by rfl, ?_⟩) ?_ ?_
                rotate_left
                · intro w'
                  go_simp
                  first | with_reducible rfl | (rw [if_neg (by have q_ := c15; have e0_ : (⟨#[58, 58]⟩ : ByteArray).size = 2 := rfl; simp at q_; omega)]; done) | (rw [if_neg (by have q_ := c15; have e0_ : (⟨#[58, 58]⟩ : ByteArray).size = 2 := rfl; simp at q_; omega)]; rfl) | (rw [if_neg (by have q_ := c13; have e0_ : (⟨#[58, 58]⟩ : ByteArray).size = 2 := rfl; simp at q_; omega)]; done) | (rw [if_neg (by have q_ := c13; have e0_ : (⟨#[58, 58]⟩ : ByteArray).size = 2 := rfl; simp at q_; omega)]; rfl) | (rw [if_neg (by have q_ := c8; simp at q_; omega)]; done) | (rw [if_neg (by have q_ := c8; simp at q_; omega)]; rfl)
                rotate_left
                · simp only [Act.put, List.setIfInBounds_toArray, List.set_cons_zero, List.set_cons_succ, i64_w, i32_w]
                  rfl
                refine pure_ (i := 14) (N := some 37) (v := ?_) (a' := ?_) #[true, true, true, true, true, true, true, true, true, true, true, true, true, true, true, false, false, false] rfl rfl (any_of HT_.out (by kernel_rfl)) (fun _ _ _ h => h) (Or.inl ⟨by rfl, ?_⟩) ?_ ?_
                rotate_left
                · intro w'
                  go_simp
                  first | with_reducible rfl | (rw [if_neg (by have q_ := c15; have e0_ : (⟨#[58, 58]⟩ : ByteArray).size = 2 := rfl; simp at q_; omega)]; done) | (rw [if_neg (by have q_ := c15; have e0_ : (⟨#[58, 58]⟩ : ByteArray).size = 2 := rfl; simp at q_; omega)]; rfl) | (rw [if_neg (by have q_ := c13; have e0_ : (⟨#[58, 58]⟩ : ByteArray).size = 2 := rfl; simp at q_; omega)]; done) | (rw [if_neg (by have q_ := c13; have e0_ : (⟨#[58, 58]⟩ : ByteArray).size = 2 := rfl; simp at q_; omega)]; rfl) | (rw [if_neg (by have q_ := c8; simp at q_; omega)]; done) | (rw [if_neg (by have q_ := c8; simp at q_; omega)]; rfl)
                rotate_left
                · simp only [Act.put, List.setIfInBounds_toArray, List.set_cons_zero, List.set_cons_succ, i64_w, i32_w]
                  rfl
                refine pure_ (i := 15) (N := some 10) (v := ?_) (a' := ?_) #[true, true, true, true, true, true, true, true, true, true, true, true, true, true, true, true, false, false] rfl rfl (any_of HT_.out (by kernel_rfl)) (fun _ _ _ h => h) (Or.inl ⟨by rfl, ?_⟩) ?_ ?_
                rotate_left
                · intro w'
                  go_simp
                  first | with_reducible rfl | (rw [if_neg (by have q_ := c15; have e0_ : (⟨#[58, 58]⟩ : ByteArray).size = 2 := rfl; simp at q_; omega)]; done) | (rw [if_neg (by have q_ := c15; have e0_ : (⟨#[58, 58]⟩ : ByteArray).size = 2 := rfl; simp at q_; omega)]; rfl) | (rw [if_neg (by have q_ := c13; have e0_ : (⟨#[58, 58]⟩ : ByteArray).size = 2 := rfl; simp at q_; omega)]; done) | (rw [if_neg (by have q_ := c13; have e0_ : (⟨#[58, 58]⟩ : ByteArray).size = 2 := rfl; simp at q_; omega)]; rfl) | (rw [if_neg (by have q_ := c8; simp at q_; omega)]; done) | (rw [if_neg (by have q_ := c8; simp at q_; omega)]; rfl)
                rotate_left
                · simp only [Act.put, List.setIfInBounds_toArray, List.set_cons_zero, List.set_cons_succ, i64_w, i32_w]
                  rfl
                refine pure_ (i := 16) (N := some 11) (v := ?_) (a' := ?_) #[true, true, true, true, true, true, true, true, true, true, true, true, true, true, true, true, true, false] rfl rfl (any_of HT_.out (by kernel_rfl)) (fun _ _ _ h => h) (Or.inl ⟨by rfl, ?_⟩) ?_ ?_
                rotate_left
                · intro w'
                  go_simp
                  first | with_reducible rfl | (rw [if_neg (by have q_ := c15; have e0_ : (⟨#[58, 58]⟩ : ByteArray).size = 2 := rfl; simp at q_; omega)]; done) | (rw [if_neg (by have q_ := c15; have e0_ : (⟨#[58, 58]⟩ : ByteArray).size = 2 := rfl; simp at q_; omega)]; rfl) | (rw [if_neg (by have q_ := c13; have e0_ : (⟨#[58, 58]⟩ : ByteArray).size = 2 := rfl; simp at q_; omega)]; done) | (rw [if_neg (by have q_ := c13; have e0_ : (⟨#[58, 58]⟩ : ByteArray).size = 2 := rfl; simp at q_; omega)]; rfl) | (rw [if_neg (by have q_ := c8; simp at q_; omega)]; done) | (rw [if_neg (by have q_ := c8; simp at q_; omega)]; rfl)
                rotate_left
                · simp only [Act.put, List.setIfInBounds_toArray, List.set_cons_zero, List.set_cons_succ, i64_w, i32_w]
                  rfl
                refine pure_ (i := 17) (N := some 12) (v := ?_) (a' := ?_) #[true, true, true, true, true, true, true, true, true, true, true, true, true, true, true, true, true, true] rfl rfl (any_of HT_.out (by kernel_rfl)) (fun _ _ _ h => h) (Or.inl ⟨by rfl, ?_⟩) ?_ ?_
                rotate_left
                · intro w'
                  go_simp
                  first | with_reducible rfl | (rw [if_neg (by have q_ := c15; have e0_ : (⟨#[58, 58]⟩ : ByteArray).size = 2 := rfl; simp at q_; omega)]; done) | (rw [if_neg (by have q_ := c15; have e0_ : (⟨#[58, 58]⟩ : ByteArray).size = 2 := rfl; simp at q_; omega)]; rfl) | (rw [if_neg (by have q_ := c13; have e0_ : (⟨#[58, 58]⟩ : ByteArray).size = 2 := rfl; simp at q_; omega)]; done) | (rw [if_neg (by have q_ := c13; have e0_ : (⟨#[58, 58]⟩ : ByteArray).size = 2 := rfl; simp at q_; omega)]; rfl) | (rw [if_neg (by have q_ := c8; simp at q_; omega)]; done) | (rw [if_neg (by have q_ := c8; simp at q_; omega)]; rfl)
                rotate_left
                · simp only [Act.put, List.setIfInBounds_toArray, List.set_cons_zero, List.set_cons_succ, i64_w, i32_w]
                  rfl
                refine done_ (done_of HT_.out (by kernel_rfl)) ?_
                try go_wp2
                go_ret
                exact ⟨by first | rfl | (simp [errW_none, errW_some] <;> rfl) | (simp only [← hji9, ← hji10]; first | rfl | (simp [errW_none, errW_some] <;> rfl)) | (simp [*, errW_none, errW_some] <;> rfl), by repeat (first | (with_reducible first | exact HB.out | apply below_alloc | apply pw_below_drewN | apply below_drew1) | exact HB.out)⟩
            · rw [if_neg c17] at H
              have c17b0 : (t314 == 0) = false := beq_eq_false_iff_ne.mpr c17
              have c17b1 : (t314 != 0) = true := bne_iff_ne.mpr c17
              by_cases c49 : t310 = true
              · subst c49
                have H1 : (if t318 = 0 then (some true) else (if t316.toList = ([] : List UInt8) then (some (t317.toList == ([] : List UInt8))) else (some false))) = some r := by rw [if_pos rfl] at H; exact H
                clear H
                have H := H1
                clear H1
                by_cases c50 : t318 = 0
                · rw [if_pos c50] at H
                  have c50b0 : (t318 == 0) = true := beq_iff_eq.mpr c50
                  have c50b1 : (t318 != 0) = false := bne_eq_false_iff_eq.mpr c50
                  clear c50
                  obtain rfl := Option.some.inj H
                  go_enter Tryz.func10, Tryz.ntmps10
                  try go_wp2_with (first | ((with_reducible refine own_gate (f := 11) rfl ?_); refine goesL_ (some 13) rfl rfl Tryz.func11 (by kernel_rfl) rfl #[] rfl (by (try simp only [List.map_toArray, List.map_cons, List.map_nil]); first | done | rfl | (simp only [List.length_drop, List.length_take]; rfl)) ?_; (with_reducible refine (latinerlaw15_shown.calls k  true _ ?side1 A4.out).mono ?_); (case side1 => exact GW.below hG (by repeat (first | (with_reducible first | exact HB.out | apply below_alloc | apply pw_below_drewN | apply below_drew1) | exact HB.out))); rintro e w51 ⟨rfl, hb⟩; refine ⟨_, rfl, ?_⟩; have n0_ := Aside0.mk (below_step (by repeat (first | (with_reducible first | exact HB.out | apply below_alloc | apply pw_below_drewN | apply below_drew1) | exact HB.out)) hb); clear HB; have HB := n0_; clear n0_; (try clear hb); (try clear hb2); (try clear hk); (try clear hi)) | ((with_reducible refine own_gate (f := 18) rfl ?_); refine goesL_ (some 15) rfl rfl Tryz.func18 (by kernel_rfl) rfl #[.string a0] rfl (by (try simp only [List.map_toArray, List.map_cons, List.map_nil]); first | done | rfl | (simp only [List.length_drop, List.length_take]; rfl)) ?_; (with_reducible refine (latinerlaw15_short.calls a0 t311 _ A5.out).mono ?_); rintro e w52 ⟨rfl, hb⟩; refine ⟨_, rfl, ?_⟩; have n0_ := Aside0.mk (below_step (by repeat (first | (with_reducible first | exact HB.out | apply below_alloc | apply pw_below_drewN | apply below_drew1) | exact HB.out)) hb); clear HB; have HB := n0_; clear n0_; (try clear hb); (try clear hb2); (try clear hk); (try clear hi)) | ((with_reducible refine own_gate (f := 18) rfl ?_); refine goesL_ (some 17) rfl rfl Tryz.func18 (by kernel_rfl) rfl #[.string a1] rfl (by (try simp only [List.map_toArray, List.map_cons, List.map_nil]); first | done | rfl | (simp only [List.length_drop, List.length_take]; rfl)) ?_; (with_reducible refine (latinerlaw15_short.calls a1 t312 _ A6.out).mono ?_); rintro e w53 ⟨rfl, hb⟩; refine ⟨_, rfl, ?_⟩; have n0_ := Aside0.mk (below_step (by repeat (first | (with_reducible first | exact HB.out | apply below_alloc | apply pw_below_drewN | apply below_drew1) | exact HB.out)) hb); clear HB; have HB := n0_; clear n0_; (try clear hb); (try clear hb2); (try clear hk); (try clear hi)) | ((with_reducible refine own_gate (f := 19) rfl ?_); refine goesL_ (some 20) rfl rfl Tryz.func19 (by kernel_rfl) rfl #[.string t311, .string (⟨#[120]⟩ : ByteArray)] rfl (by (try simp only [List.map_toArray, List.map_cons, List.map_nil]); first | done | rfl | (simp only [List.length_drop, List.length_take]; rfl)) ?_; (with_reducible refine (fold_Item.calls t311 (⟨#[120]⟩ : ByteArray) t313 t314 _ ?side1 A7.out).mono ?_); (case side1 => exact GW.below hG (by repeat (first | (with_reducible first | exact HB.out | apply below_alloc | apply pw_below_drewN | apply below_drew1) | exact HB.out))); rintro e w54 ⟨rfl, hb⟩; refine ⟨_, rfl, ?_⟩; have n0_ := Aside0.mk (below_step (by repeat (first | (with_reducible first | exact HB.out | apply below_alloc | apply pw_below_drewN | apply below_drew1) | exact HB.out)) hb); clear HB; have HB := n0_; clear n0_; (try clear hb); (try clear hb2); (try clear hk); (try clear hi)))
                  have n0_ := Aside0.mk (below_drew1 HB.out)
                  clear HB
                  have HB := n0_
                  clear n0_
                  refine start_ (n := 18) (S := fun w' => True) (ds := []) #[false, false, false, false, false, false, false, false, false, false, false, false, false, false, false, false, false, false] (by kernel_rfl) rfl rfl trivial (fun hHeld => ?_); refine with_tabW latinerlaw15_FoldBase.tab5 latinerlaw15_FoldBase.bits5 (fun HT_ HW_ => ?_)
                  generalize w54.drew = w55 at HB hHeld ⊢
                  refine pure_ (i := 0) (N := some 24) (v := ?_) (a' := ?_) #[true, false, false, false, false, false, false, false, false, false, false, false, false, false, false, false, false, false] rfl rfl (any_of HT_.out (by kernel_rfl)) (fun _ _ _ h => h) (Or.inl ⟨by rfl, ?_⟩) ?_ ?_
                  rotate_left
                  · intro w'
                    go_simp
                    first | with_reducible rfl | (rw [if_neg (by have q_ := c15; have e0_ : (⟨#[58, 58]⟩ : ByteArray).size = 2 := rfl; simp at q_; omega)]; done) | (rw [if_neg (by have q_ := c15; have e0_ : (⟨#[58, 58]⟩ : ByteArray).size = 2 := rfl; simp at q_; omega)]; rfl) | (rw [if_neg (by have q_ := c13; have e0_ : (⟨#[58, 58]⟩ : ByteArray).size = 2 := rfl; simp at q_; omega)]; done) | (rw [if_neg (by have q_ := c13; have e0_ : (⟨#[58, 58]⟩ : ByteArray).size = 2 := rfl; simp at q_; omega)]; rfl) | (rw [if_neg (by have q_ := c8; simp at q_; omega)]; done) | (rw [if_neg (by have q_ := c8; simp at q_; omega)]; rfl)
                  rotate_left
                  · simp only [Act.put, List.setIfInBounds_toArray, List.set_cons_zero, List.set_cons_succ, i64_w, i32_w]
                    rfl
                  refine pure_ (i := 1) (N := some 25) (v := ?_) (a' := ?_) #[true, true, false, false, false, false, false, false, false, false, false, false, false, false, false, false, false, false] rfl rfl (any_of HT_.out (by kernel_rfl)) (fun _ _ _ h => h) (Or.inl ⟨by rfl, ?_⟩) ?_ ?_
                  rotate_left
                  · intro w'
                    go_simp
                    first | with_reducible rfl | (rw [if_neg (by have q_ := c15; have e0_ : (⟨#[58, 58]⟩ : ByteArray).size = 2 := rfl; simp at q_; omega)]; done) | (rw [if_neg (by have q_ := c15; have e0_ : (⟨#[58, 58]⟩ : ByteArray).size = 2 := rfl; simp at q_; omega)]; rfl) | (rw [if_neg (by have q_ := c13; have e0_ : (⟨#[58, 58]⟩ : ByteArray).size = 2 := rfl; simp at q_; omega)]; done) | (rw [if_neg (by have q_ := c13; have e0_ : (⟨#[58, 58]⟩ : ByteArray).size = 2 := rfl; simp at q_; omega)]; rfl) | (rw [if_neg (by have q_ := c8; simp at q_; omega)]; done) | (rw [if_neg (by have q_ := c8; simp at q_; omega)]; rfl)
                  rotate_left
                  · simp only [Act.put, List.setIfInBounds_toArray, List.set_cons_zero, List.set_cons_succ, i64_w, i32_w]
                    rfl
                  refine pure_ (i := 2) (N := some 26) (v := ?_) (a' := ?_) #[true, true, true, false, false, false, false, false, false, false, false, false, false, false, false, false, false, false] rfl rfl (any_of HT_.out (by kernel_rfl)) (fun _ _ _ h => h) (Or.inl ⟨by rfl, ?_⟩) ?_ ?_
                  rotate_left
                  · intro w'
                    go_simp
                    first | with_reducible rfl | (rw [if_neg (by have q_ := c15; have e0_ : (⟨#[58, 58]⟩ : ByteArray).size = 2 := rfl; simp at q_; omega)]; done) | (rw [if_neg (by have q_ := c15; have e0_ : (⟨#[58, 58]⟩ : ByteArray).size = 2 := rfl; simp at q_; omega)]; rfl) | (rw [if_neg (by have q_ := c13; have e0_ : (⟨#[58, 58]⟩ : ByteArray).size = 2 := rfl; simp at q_; omega)]; done) | (rw [if_neg (by have q_ := c13; have e0_ : (⟨#[58, 58]⟩ : ByteArray).size = 2 := rfl; simp at q_; omega)]; rfl) | (rw [if_neg (by have q_ := c8; simp at q_; omega)]; done) | (rw [if_neg (by have q_ := c8; simp at q_; omega)]; rfl)
                  rotate_left
                  · simp only [Act.put, List.setIfInBounds_toArray, List.set_cons_zero, List.set_cons_succ, i64_w, i32_w]
                    rfl
                  refine pure_ (i := 3) (N := some 27) (v := ?_) (a' := ?_) #[true, true, true, true, false, false, false, false, false, false, false, false, false, false, false, false, false, false] rfl rfl (any_of HT_.out (by kernel_rfl)) (fun _ _ _ h => h) (Or.inl ⟨by rfl, ?_⟩) ?_ ?_
                  rotate_left
                  · intro w'
                    go_simp
                    first | with_reducible rfl | (rw [if_neg (by have q_ := c15; have e0_ : (⟨#[58, 58]⟩ : ByteArray).size = 2 := rfl; simp at q_; omega)]; done) | (rw [if_neg (by have q_ := c15; have e0_ : (⟨#[58, 58]⟩ : ByteArray).size = 2 := rfl; simp at q_; omega)]; rfl) | (rw [if_neg (by have q_ := c13; have e0_ : (⟨#[58, 58]⟩ : ByteArray).size = 2 := rfl; simp at q_; omega)]; done) | (rw [if_neg (by have q_ := c13; have e0_ : (⟨#[58, 58]⟩ : ByteArray).size = 2 := rfl; simp at q_; omega)]; rfl) | (rw [if_neg (by have q_ := c8; simp at q_; omega)]; done) | (rw [if_neg (by have q_ := c8; simp at q_; omega)]; rfl)
                  rotate_left
                  · simp only [Act.put, List.setIfInBounds_toArray, List.set_cons_zero, List.set_cons_succ, i64_w, i32_w]
                    rfl
                  refine pure_ (i := 4) (N := some 28) (v := ?_) (a' := ?_) #[true, true, true, true, true, false, false, false, false, false, false, false, false, false, false, false, false, false] rfl rfl (any_of HT_.out (by kernel_rfl)) (fun _ _ _ h => h) (Or.inl ⟨by rfl, ?_⟩) ?_ ?_
                  rotate_left
                  · intro w'
                    go_simp
                    first | with_reducible rfl | (rw [if_neg (by have q_ := c15; have e0_ : (⟨#[58, 58]⟩ : ByteArray).size = 2 := rfl; simp at q_; omega)]; done) | (rw [if_neg (by have q_ := c15; have e0_ : (⟨#[58, 58]⟩ : ByteArray).size = 2 := rfl; simp at q_; omega)]; rfl) | (rw [if_neg (by have q_ := c13; have e0_ : (⟨#[58, 58]⟩ : ByteArray).size = 2 := rfl; simp at q_; omega)]; done) | (rw [if_neg (by have q_ := c13; have e0_ : (⟨#[58, 58]⟩ : ByteArray).size = 2 := rfl; simp at q_; omega)]; rfl) | (rw [if_neg (by have q_ := c8; simp at q_; omega)]; done) | (rw [if_neg (by have q_ := c8; simp at q_; omega)]; rfl)
                  rotate_left
                  · simp only [Act.put, List.setIfInBounds_toArray, List.set_cons_zero, List.set_cons_succ, i64_w, i32_w]
                    rfl
                  refine pure_ (i := 5) (N := some 29) (v := ?_) (a' := ?_) #[true, true, true, true, true, true, false, false, false, false, false, false, false, false, false, false, false, false] rfl rfl (any_of HT_.out (by kernel_rfl)) (fun _ _ _ h => h) (Or.inl ⟨by rfl, ?_⟩) ?_ ?_
                  rotate_left
                  · intro w'
                    go_simp
                    first | with_reducible rfl | (rw [if_neg (by have q_ := c15; have e0_ : (⟨#[58, 58]⟩ : ByteArray).size = 2 := rfl; simp at q_; omega)]; done) | (rw [if_neg (by have q_ := c15; have e0_ : (⟨#[58, 58]⟩ : ByteArray).size = 2 := rfl; simp at q_; omega)]; rfl) | (rw [if_neg (by have q_ := c13; have e0_ : (⟨#[58, 58]⟩ : ByteArray).size = 2 := rfl; simp at q_; omega)]; done) | (rw [if_neg (by have q_ := c13; have e0_ : (⟨#[58, 58]⟩ : ByteArray).size = 2 := rfl; simp at q_; omega)]; rfl) | (rw [if_neg (by have q_ := c8; simp at q_; omega)]; done) | (rw [if_neg (by have q_ := c8; simp at q_; omega)]; rfl)
                  rotate_left
                  · simp only [Act.put, List.setIfInBounds_toArray, List.set_cons_zero, List.set_cons_succ, i64_w, i32_w]
                    rfl
                  refine pure_ (i := 6) (N := some 30) (v := ?_) (a' := ?_) #[true, true, true, true, true, true, true, false, false, false, false, false, false, false, false, false, false, false] rfl rfl (any_of HT_.out (by kernel_rfl)) (fun _ _ _ h => h) (Or.inl ⟨by rfl, ?_⟩) ?_ ?_
                  rotate_left
                  · intro w'
                    go_simp
                    first | with_reducible rfl | (rw [if_neg (by have q_ := c15; have e0_ : (⟨#[58, 58]⟩ : ByteArray).size = 2 := rfl; simp at q_; omega)]; done) | (rw [if_neg (by have q_ := c15; have e0_ : (⟨#[58, 58]⟩ : ByteArray).size = 2 := rfl; simp at q_; omega)]; rfl) | (rw [if_neg (by have q_ := c13; have e0_ : (⟨#[58, 58]⟩ : ByteArray).size = 2 := rfl; simp at q_; omega)]; done) | (rw [if_neg (by have q_ := c13; have e0_ : (⟨#[58, 58]⟩ : ByteArray).size = 2 := rfl; simp at q_; omega)]; rfl) | (rw [if_neg (by have q_ := c8; simp at q_; omega)]; done) | (rw [if_neg (by have q_ := c8; simp at q_; omega)]; rfl)
                  rotate_left
                  · simp only [Act.put, List.setIfInBounds_toArray, List.set_cons_zero, List.set_cons_succ, i64_w, i32_w]
                    rfl
                  refine pure_ (i := 7) (N := some 31) (v := ?_) (a' := ?_) #[true, true, true, true, true, true, true, true, false, false, false, false, false, false, false, false, false, false] rfl rfl (any_of HT_.out (by kernel_rfl)) (fun _ _ _ h => h) (Or.inl ⟨by rfl, ?_⟩) ?_ ?_
                  rotate_left
                  · intro w'
                    go_simp
                    first | with_reducible rfl | (rw [if_neg (by have q_ := c15; have e0_ : (⟨#[58, 58]⟩ : ByteArray).size = 2 := rfl; simp at q_; omega)]; done) | (rw [if_neg (by have q_ := c15; have e0_ : (⟨#[58, 58]⟩ : ByteArray).size = 2 := rfl; simp at q_; omega)]; rfl) | (rw [if_neg (by have q_ := c13; have e0_ : (⟨#[58, 58]⟩ : ByteArray).size = 2 := rfl; simp at q_; omega)]; done) | (rw [if_neg (by have q_ := c13; have e0_ : (⟨#[58, 58]⟩ : ByteArray).size = 2 := rfl; simp at q_; omega)]; rfl) | (rw [if_neg (by have q_ := c8; simp at q_; omega)]; done) | (rw [if_neg (by have q_ := c8; simp at q_; omega)]; rfl)
                  rotate_left
                  · simp only [Act.put, List.setIfInBounds_toArray, List.set_cons_zero, List.set_cons_succ, i64_w, i32_w]
                    rfl
                  refine one_ (i := 8) (N := some 32) #[true, true, true, true, true, true, true, true, true, false, false, false, false, false, false, false, false, false] rfl rfl (one_of HT_.out (by kernel_rfl)) (by decide) (fun K hK => ?_)
                  refine goes_ Tryz.func23 (by kernel_rfl) rfl #[.string t312] (by rfl) rfl rfl (by (try simp only [List.map_toArray, List.map_cons, List.map_nil]); first | done | rfl | (simp only [List.length_drop, List.length_take]; rfl)) ?_
                  with_reducible refine (code_Base.calls t312 t315 _ ?side1 A14.out).mono ?_
                  (case side1 => exact GW.below hG (by repeat (first | (with_reducible first | exact HB.out | apply below_alloc | apply pw_below_drewN | apply below_drew1) | exact HB.out)))
                  rintro e w56 ⟨rfl, hb⟩
                  refine ⟨_, rfl, ?_⟩
                  have n0_ := Aside0.mk (below_step (by repeat (first | (with_reducible first | exact HB.out | apply below_alloc | apply pw_below_drewN | apply below_drew1) | exact HB.out)) hb)
                  clear HB
                  have HB := n0_
                  clear n0_
                  (try clear hb)
                  (try clear hb2)
                  (try clear hk)
                  (try clear hi)
                  refine hK.out _ _ trivial (fun hHeld => ?_)
                  clear hK K
                  refine norm_ (a' := ?_) ?_ ?_
                  rotate_left
                  · show Act.put _ (some 32) _ = _
                    simp only [Act.put, List.setIfInBounds_toArray, List.set_cons_zero, List.set_cons_succ, i64_w, i32_w]
                    rfl
                  refine pure_ (i := 9) (N := some 33) (v := ?_) (a' := ?_) #[true, true, true, true, true, true, true, true, true, true, false, false, false, false, false, false, false, false] rfl rfl (any_of HT_.out (by kernel_rfl)) (fun _ _ _ h => h) (Or.inl ⟨by rfl, ?_⟩) ?_ ?_
                  rotate_left
                  · intro w'
                    go_simp
                    first | with_reducible rfl | (rw [if_neg (by have q_ := c15; have e0_ : (⟨#[58, 58]⟩ : ByteArray).size = 2 := rfl; simp at q_; omega)]; done) | (rw [if_neg (by have q_ := c15; have e0_ : (⟨#[58, 58]⟩ : ByteArray).size = 2 := rfl; simp at q_; omega)]; rfl) | (rw [if_neg (by have q_ := c13; have e0_ : (⟨#[58, 58]⟩ : ByteArray).size = 2 := rfl; simp at q_; omega)]; done) | (rw [if_neg (by have q_ := c13; have e0_ : (⟨#[58, 58]⟩ : ByteArray).size = 2 := rfl; simp at q_; omega)]; rfl) | (rw [if_neg (by have q_ := c8; simp at q_; omega)]; done) | (rw [if_neg (by have q_ := c8; simp at q_; omega)]; rfl)
                  rotate_left
                  · simp only [Act.put, List.setIfInBounds_toArray, List.set_cons_zero, List.set_cons_succ, i64_w, i32_w]
                    rfl
                  refine one_ (i := 10) (N := some 34) #[true, true, true, true, true, true, true, true, true, true, true, false, false, false, false, false, false, false] rfl rfl (one_of HT_.out (by kernel_rfl)) (by decide) (fun K hK => ?_)
                  refine goes_ Tryz.func21 (by kernel_rfl) rfl #[.string (((t311 ++ (⟨#[58, 58]⟩ : ByteArray)) ++ sx10_0) ++ t315)] (by rfl) rfl rfl (by (try simp only [List.map_toArray, List.map_cons, List.map_nil]); first | done | (simp only [hji10]; rfl) | rfl | (simp only [List.length_drop, List.length_take]; rfl)) ?_
                  with_reducible refine (fold_ReadItem.calls (((t311 ++ (⟨#[58, 58]⟩ : ByteArray)) ++ sx10_0) ++ t315) t316 t317 t318 _ ?side1 A16.out).mono ?_
                  (case side1 => exact GW.below hG (by repeat (first | (with_reducible first | exact HB.out | apply below_alloc | apply pw_below_drewN | apply below_drew1) | exact HB.out)))
                  rintro e w57 ⟨rfl, hb⟩
                  refine ⟨_, rfl, ?_⟩
                  have n0_ := Aside0.mk (below_step (by repeat (first | (with_reducible first | exact HB.out | apply below_alloc | apply pw_below_drewN | apply below_drew1) | exact HB.out)) hb)
                  clear HB
                  have HB := n0_
                  clear n0_
                  (try clear hb)
                  (try clear hb2)
                  (try clear hk)
                  (try clear hi)
                  refine hK.out _ _ trivial (fun hHeld => ?_)
                  clear hK K
                  refine norm_ (a' := ?_) ?_ ?_
                  rotate_left
                  · show Act.put _ (some 34) _ = _
                    simp only [Act.put, List.setIfInBounds_toArray, List.set_cons_zero, List.set_cons_succ, i64_w, i32_w]
                    rfl
                  refine pure_ (i := 11) (N := some 23) (v := ?_) (a' := ?_) #[true, true, true, true, true, true, true, true, true, true, true, true, false, false, false, false, false, false] rfl rfl (any_of HT_.out (by kernel_rfl)) (fun _ _ _ h => h) (Or.inl ⟨by rfl, ?_⟩) ?_ ?_
                  rotate_left
                  · intro w'
                    go_simp
                    first | with_reducible rfl | (rw [if_neg (by have q_ := c15; have e0_ : (⟨#[58, 58]⟩ : ByteArray).size = 2 := rfl; simp at q_; omega)]; done) | (rw [if_neg (by have q_ := c15; have e0_ : (⟨#[58, 58]⟩ : ByteArray).size = 2 := rfl; simp at q_; omega)]; rfl) | (rw [if_neg (by have q_ := c13; have e0_ : (⟨#[58, 58]⟩ : ByteArray).size = 2 := rfl; simp at q_; omega)]; done) | (rw [if_neg (by have q_ := c13; have e0_ : (⟨#[58, 58]⟩ : ByteArray).size = 2 := rfl; simp at q_; omega)]; rfl) | (rw [if_neg (by have q_ := c8; simp at q_; omega)]; done) | (rw [if_neg (by have q_ := c8; simp at q_; omega)]; rfl)
                  rotate_left
                  · simp only [Act.put, List.setIfInBounds_toArray, List.set_cons_zero, List.set_cons_succ, i64_w, i32_w]
                    rfl
                  refine pure_ (i := 12) (N := some 35) (v := ?_) (a' := ?_) #[true, true, true, true, true, true, true, true, true, true, true, true, true, false, false, false, false, false] rfl rfl (any_of HT_.out (by kernel_rfl)) (fun _ _ _ h => h) (Or.inl ⟨by rfl, ?_⟩) ?_ ?_
                  rotate_left
                  · intro w'
                    go_simp
                    first | with_reducible rfl | (rw [if_neg (by have q_ := c15; have e0_ : (⟨#[58, 58]⟩ : ByteArray).size = 2 := rfl; simp at q_; omega)]; done) | (rw [if_neg (by have q_ := c15; have e0_ : (⟨#[58, 58]⟩ : ByteArray).size = 2 := rfl; simp at q_; omega)]; rfl) | (rw [if_neg (by have q_ := c13; have e0_ : (⟨#[58, 58]⟩ : ByteArray).size = 2 := rfl; simp at q_; omega)]; done) | (rw [if_neg (by have q_ := c13; have e0_ : (⟨#[58, 58]⟩ : ByteArray).size = 2 := rfl; simp at q_; omega)]; rfl) | (rw [if_neg (by have q_ := c8; simp at q_; omega)]; done) | (rw [if_neg (by have q_ := c8; simp at q_; omega)]; rfl)
                  rotate_left
                  · simp only [Act.put, List.setIfInBounds_toArray, List.set_cons_zero, List.set_cons_succ, i64_w, i32_w]
                    rfl
                  refine pure_ (i := 13) (N := some 36) (v := ?_) (a' := ?_) #[true, true, true, true, true, true, true, true, true, true, true, true, true, true, false, false, false, false] rfl rfl (any_of HT_.out (by kernel_rfl)) (fun _ _ _ h => h) (Or.inl ⟨by rfl, ?_⟩) ?_ ?_
                  rotate_left
                  · intro w'
                    go_simp
                    first | with_reducible rfl | (rw [if_neg (by have q_ := c15; have e0_ : (⟨#[58, 58]⟩ : ByteArray).size = 2 := rfl; simp at q_; omega)]; done) | (rw [if_neg (by have q_ := c15; have e0_ : (⟨#[58, 58]⟩ : ByteArray).size = 2 := rfl; simp at q_; omega)]; rfl) | (rw [if_neg (by have q_ := c13; have e0_ : (⟨#[58, 58]⟩ : ByteArray).size = 2 := rfl; simp at q_; omega)]; done) | (rw [if_neg (by have q_ := c13; have e0_ : (⟨#[58, 58]⟩ : ByteArray).size = 2 := rfl; simp at q_; omega)]; rfl) | (rw [if_neg (by have q_ := c8; simp at q_; omega)]; done) | (rw [if_neg (by have q_ := c8; simp at q_; omega)]; rfl)
                  rotate_left
                  · simp only [Act.put, List.setIfInBounds_toArray, List.set_cons_zero, List.set_cons_succ, i64_w, i32_w]
                    rfl
                  refine pure_ (i := 14) (N := some 37) (v := ?_) (a' := ?_) #[true, true, true, true, true, true, true, true, true, true, true, true, true, true, true, false, false, false] rfl rfl (any_of HT_.out (by kernel_rfl)) (fun _ _ _ h => h) (Or.inl ⟨by rfl, ?_⟩) ?_ ?_
                  rotate_left
                  · intro w'
                    go_simp
                    first | with_reducible rfl | (rw [if_neg (by have q_ := c15; have e0_ : (⟨#[58, 58]⟩ : ByteArray).size = 2 := rfl; simp at q_; omega)]; done) | (rw [if_neg (by have q_ := c15; have e0_ : (⟨#[58, 58]⟩ : ByteArray).size = 2 := rfl; simp at q_; omega)]; rfl) | (rw [if_neg (by have q_ := c13; have e0_ : (⟨#[58, 58]⟩ : ByteArray).size = 2 := rfl; simp at q_; omega)]; done) | (rw [if_neg (by have q_ := c13; have e0_ : (⟨#[58, 58]⟩ : ByteArray).size = 2 := rfl; simp at q_; omega)]; rfl) | (rw [if_neg (by have q_ := c8; simp at q_; omega)]; done) | (rw [if_neg (by have q_ := c8; simp at q_; omega)]; rfl)
                  rotate_left
                  · simp only [Act.put, List.setIfInBounds_toArray, List.set_cons_zero, List.set_cons_succ, i64_w, i32_w]
                    rfl
                  refine pure_ (i := 15) (N := some 10) (v := ?_) (a' := ?_) #[true, true, true, true, true, true, true, true, true, true, true, true, true, true, true, true, false, false] rfl rfl (any_of HT_.out (by kernel_rfl)) (fun _ _ _ h => h) (Or.inl ⟨by rfl, ?_⟩) ?_ ?_
                  rotate_left
                  · intro w'
                    go_simp
                    first | with_reducible rfl | (rw [if_neg (by have q_ := c15; have e0_ : (⟨#[58, 58]⟩ : ByteArray).size = 2 := rfl; simp at q_; omega)]; done) | (rw [if_neg (by have q_ := c15; have e0_ : (⟨#[58, 58]⟩ : ByteArray).size = 2 := rfl; simp at q_; omega)]; rfl) | (rw [if_neg (by have q_ := c13; have e0_ : (⟨#[58, 58]⟩ : ByteArray).size = 2 := rfl; simp at q_; omega)]; done) | (rw [if_neg (by have q_ := c13; have e0_ : (⟨#[58, 58]⟩ : ByteArray).size = 2 := rfl; simp at q_; omega)]; rfl) | (rw [if_neg (by have q_ := c8; simp at q_; omega)]; done) | (rw [if_neg (by have q_ := c8; simp at q_; omega)]; rfl)
                  rotate_left
                  · simp only [Act.put, List.setIfInBounds_toArray, List.set_cons_zero, List.set_cons_succ, i64_w, i32_w]
                    rfl
                  refine pure_ (i := 16) (N := some 11) (v := ?_) (a' := ?_) #[true, true, true, true, true, true, true, true, true, true, true, true, true, true, true, true, true, false] rfl rfl (any_of HT_.out (by kernel_rfl)) (fun _ _ _ h => h) (Or.inl ⟨by rfl, ?_⟩) ?_ ?_
                  rotate_left
                  · intro w'
                    go_simp
                    first | with_reducible rfl | (rw [if_neg (by have q_ := c15; have e0_ : (⟨#[58, 58]⟩ : ByteArray).size = 2 := rfl; simp at q_; omega)]; done) | (rw [if_neg (by have q_ := c15; have e0_ : (⟨#[58, 58]⟩ : ByteArray).size = 2 := rfl; simp at q_; omega)]; rfl) | (rw [if_neg (by have q_ := c13; have e0_ : (⟨#[58, 58]⟩ : ByteArray).size = 2 := rfl; simp at q_; omega)]; done) | (rw [if_neg (by have q_ := c13; have e0_ : (⟨#[58, 58]⟩ : ByteArray).size = 2 := rfl; simp at q_; omega)]; rfl) | (rw [if_neg (by have q_ := c8; simp at q_; omega)]; done) | (rw [if_neg (by have q_ := c8; simp at q_; omega)]; rfl)
                  rotate_left
                  · simp only [Act.put, List.setIfInBounds_toArray, List.set_cons_zero, List.set_cons_succ, i64_w, i32_w]
                    rfl
                  refine pure_ (i := 17) (N := some 12) (v := ?_) (a' := ?_) #[true, true, true, true, true, true, true, true, true, true, true, true, true, true, true, true, true, true] rfl rfl (any_of HT_.out (by kernel_rfl)) (fun _ _ _ h => h) (Or.inl ⟨by rfl, ?_⟩) ?_ ?_
                  rotate_left
                  · intro w'
                    go_simp
                    first | with_reducible rfl | (rw [if_neg (by have q_ := c15; have e0_ : (⟨#[58, 58]⟩ : ByteArray).size = 2 := rfl; simp at q_; omega)]; done) | (rw [if_neg (by have q_ := c15; have e0_ : (⟨#[58, 58]⟩ : ByteArray).size = 2 := rfl; simp at q_; omega)]; rfl) | (rw [if_neg (by have q_ := c13; have e0_ : (⟨#[58, 58]⟩ : ByteArray).size = 2 := rfl; simp at q_; omega)]; done) | (rw [if_neg (by have q_ := c13; have e0_ : (⟨#[58, 58]⟩ : ByteArray).size = 2 := rfl; simp at q_; omega)]; rfl) | (rw [if_neg (by have q_ := c8; simp at q_; omega)]; done) | (rw [if_neg (by have q_ := c8; simp at q_; omega)]; rfl)
                  rotate_left
                  · simp only [Act.put, List.setIfInBounds_toArray, List.set_cons_zero, List.set_cons_succ, i64_w, i32_w]
                    rfl
                  refine done_ (done_of HT_.out (by kernel_rfl)) ?_
                  try go_wp2
                  go_ret
                  exact ⟨by first | rfl | (simp [errW_none, errW_some] <;> rfl) | (simp only [← hji9, ← hji10]; first | rfl | (simp [errW_none, errW_some] <;> rfl)) | (simp [*, errW_none, errW_some] <;> rfl), by repeat (first | (with_reducible first | exact HB.out | apply below_alloc | apply pw_below_drewN | apply below_drew1) | exact HB.out)⟩
                · rw [if_neg c50] at H
                  have c50b0 : (t318 == 0) = false := beq_eq_false_iff_ne.mpr c50
                  have c50b1 : (t318 != 0) = true := bne_iff_ne.mpr c50
                  by_cases c58 : t316.toList = ([] : List UInt8)
                  · rw [if_pos c58] at H
                    have c58b0 : (t316.toList == ([] : List UInt8)) = true := beq_iff_eq.mpr c58
                    have c58b1 : (t316.toList != ([] : List UInt8)) = false := bne_eq_false_iff_eq.mpr c58
                    clear c58
                    obtain rfl := Option.some.inj H
                    go_enter Tryz.func10, Tryz.ntmps10
                    try go_wp2_with (first | ((with_reducible refine own_gate (f := 11) rfl ?_); refine goesL_ (some 13) rfl rfl Tryz.func11 (by kernel_rfl) rfl #[] rfl (by (try simp only [List.map_toArray, List.map_cons, List.map_nil]); first | done | rfl | (simp only [List.length_drop, List.length_take]; rfl)) ?_; (with_reducible refine (latinerlaw15_shown.calls k  true _ ?side1 A4.out).mono ?_); (case side1 => exact GW.below hG (by repeat (first | (with_reducible first | exact HB.out | apply below_alloc | apply pw_below_drewN | apply below_drew1) | exact HB.out))); rintro e w59 ⟨rfl, hb⟩; refine ⟨_, rfl, ?_⟩; have n0_ := Aside0.mk (below_step (by repeat (first | (with_reducible first | exact HB.out | apply below_alloc | apply pw_below_drewN | apply below_drew1) | exact HB.out)) hb); clear HB; have HB := n0_; clear n0_; (try clear hb); (try clear hb2); (try clear hk); (try clear hi)) | ((with_reducible refine own_gate (f := 18) rfl ?_); refine goesL_ (some 15) rfl rfl Tryz.func18 (by kernel_rfl) rfl #[.string a0] rfl (by (try simp only [List.map_toArray, List.map_cons, List.map_nil]); first | done | rfl | (simp only [List.length_drop, List.length_take]; rfl)) ?_; (with_reducible refine (latinerlaw15_short.calls a0 t311 _ A5.out).mono ?_); rintro e w60 ⟨rfl, hb⟩; refine ⟨_, rfl, ?_⟩; have n0_ := Aside0.mk (below_step (by repeat (first | (with_reducible first | exact HB.out | apply below_alloc | apply pw_below_drewN | apply below_drew1) | exact HB.out)) hb); clear HB; have HB := n0_; clear n0_; (try clear hb); (try clear hb2); (try clear hk); (try clear hi)) | ((with_reducible refine own_gate (f := 18) rfl ?_); refine goesL_ (some 17) rfl rfl Tryz.func18 (by kernel_rfl) rfl #[.string a1] rfl (by (try simp only [List.map_toArray, List.map_cons, List.map_nil]); first | done | rfl | (simp only [List.length_drop, List.length_take]; rfl)) ?_; (with_reducible refine (latinerlaw15_short.calls a1 t312 _ A6.out).mono ?_); rintro e w61 ⟨rfl, hb⟩; refine ⟨_, rfl, ?_⟩; have n0_ := Aside0.mk (below_step (by repeat (first | (with_reducible first | exact HB.out | apply below_alloc | apply pw_below_drewN | apply below_drew1) | exact HB.out)) hb); clear HB; have HB := n0_; clear n0_; (try clear hb); (try clear hb2); (try clear hk); (try clear hi)) | ((with_reducible refine own_gate (f := 19) rfl ?_); refine goesL_ (some 20) rfl rfl Tryz.func19 (by kernel_rfl) rfl #[.string t311, .string (⟨#[120]⟩ : ByteArray)] rfl (by (try simp only [List.map_toArray, List.map_cons, List.map_nil]); first | done | rfl | (simp only [List.length_drop, List.length_take]; rfl)) ?_; (with_reducible refine (fold_Item.calls t311 (⟨#[120]⟩ : ByteArray) t313 t314 _ ?side1 A7.out).mono ?_); (case side1 => exact GW.below hG (by repeat (first | (with_reducible first | exact HB.out | apply below_alloc | apply pw_below_drewN | apply below_drew1) | exact HB.out))); rintro e w62 ⟨rfl, hb⟩; refine ⟨_, rfl, ?_⟩; have n0_ := Aside0.mk (below_step (by repeat (first | (with_reducible first | exact HB.out | apply below_alloc | apply pw_below_drewN | apply below_drew1) | exact HB.out)) hb); clear HB; have HB := n0_; clear n0_; (try clear hb); (try clear hb2); (try clear hk); (try clear hi)))
                    have n0_ := Aside0.mk (below_drew1 HB.out)
                    clear HB
                    have HB := n0_
                    clear n0_
                    refine start_ (n := 18) (S := fun w' => True) (ds := []) #[false, false, false, false, false, false, false, false, false, false, false, false, false, false, false, false, false, false] (by kernel_rfl) rfl rfl trivial (fun hHeld => ?_); refine with_tabW latinerlaw15_FoldBase.tab5 latinerlaw15_FoldBase.bits5 (fun HT_ HW_ => ?_)
                    generalize w62.drew = w63 at HB hHeld ⊢
                    refine pure_ (i := 0) (N := some 24) (v := ?_) (a' := ?_) #[true, false, false, false, false, false, false, false, false, false, false, false, false, false, false, false, false, false] rfl rfl (any_of HT_.out (by kernel_rfl)) (fun _ _ _ h => h) (Or.inl ⟨by rfl, ?_⟩) ?_ ?_
                    rotate_left
                    · intro w'
                      go_simp
                      first | with_reducible rfl | (rw [if_neg (by have q_ := c15; have e0_ : (⟨#[58, 58]⟩ : ByteArray).size = 2 := rfl; simp at q_; omega)]; done) | (rw [if_neg (by have q_ := c15; have e0_ : (⟨#[58, 58]⟩ : ByteArray).size = 2 := rfl; simp at q_; omega)]; rfl) | (rw [if_neg (by have q_ := c13; have e0_ : (⟨#[58, 58]⟩ : ByteArray).size = 2 := rfl; simp at q_; omega)]; done) | (rw [if_neg (by have q_ := c13; have e0_ : (⟨#[58, 58]⟩ : ByteArray).size = 2 := rfl; simp at q_; omega)]; rfl) | (rw [if_neg (by have q_ := c8; simp at q_; omega)]; done) | (rw [if_neg (by have q_ := c8; simp at q_; omega)]; rfl)
                    rotate_left
                    · simp only [Act.put, List.setIfInBounds_toArray, List.set_cons_zero, List.set_cons_succ, i64_w, i32_w]
                      rfl
                    refine pure_ (i := 1) (N := some 25) (v := ?_) (a' := ?_) #[true, true, false, false, false, false, false, false, false, false, false, false, false, false, false, false, false, false] rfl rfl (any_of HT_.out (by kernel_rfl)) (fun _ _ _ h => h) (Or.inl ⟨by rfl, ?_⟩) ?_ ?_
                    rotate_left
                    · intro w'
                      go_simp
                      first | with_reducible rfl | (rw [if_neg (by have q_ := c15; have e0_ : (⟨#[58, 58]⟩ : ByteArray).size = 2 := rfl; simp at q_; omega)]; done) | (rw [if_neg (by have q_ := c15; have e0_ : (⟨#[58, 58]⟩ : ByteArray).size = 2 := rfl; simp at q_; omega)]; rfl) | (rw [if_neg (by have q_ := c13; have e0_ : (⟨#[58, 58]⟩ : ByteArray).size = 2 := rfl; simp at q_; omega)]; done) | (rw [if_neg (by have q_ := c13; have e0_ : (⟨#[58, 58]⟩ : ByteArray).size = 2 := rfl; simp at q_; omega)]; rfl) | (rw [if_neg (by have q_ := c8; simp at q_; omega)]; done) | (rw [if_neg (by have q_ := c8; simp at q_; omega)]; rfl)
                    rotate_left
                    · simp only [Act.put, List.setIfInBounds_toArray, List.set_cons_zero, List.set_cons_succ, i64_w, i32_w]
                      rfl
                    refine pure_ (i := 2) (N := some 26) (v := ?_) (a' := ?_) #[true, true, true, false, false, false, false, false, false, false, false, false, false, false, false, false, false, false] rfl rfl (any_of HT_.out (by kernel_rfl)) (fun _ _ _ h => h) (Or.inl ⟨by rfl, ?_⟩) ?_ ?_
                    rotate_left
                    · intro w'
                      go_simp
                      first | with_reducible rfl | (rw [if_neg (by have q_ := c15; have e0_ : (⟨#[58, 58]⟩ : ByteArray).size = 2 := rfl; simp at q_; omega)]; done) | (rw [if_neg (by have q_ := c15; have e0_ : (⟨#[58, 58]⟩ : ByteArray).size = 2 := rfl; simp at q_; omega)]; rfl) | (rw [if_neg (by have q_ := c13; have e0_ : (⟨#[58, 58]⟩ : ByteArray).size = 2 := rfl; simp at q_; omega)]; done) | (rw [if_neg (by have q_ := c13; have e0_ : (⟨#[58, 58]⟩ : ByteArray).size = 2 := rfl; simp at q_; omega)]; rfl) | (rw [if_neg (by have q_ := c8; simp at q_; omega)]; done) | (rw [if_neg (by have q_ := c8; simp at q_; omega)]; rfl)
                    rotate_left
                    · simp only [Act.put, List.setIfInBounds_toArray, List.set_cons_zero, List.set_cons_succ, i64_w, i32_w]
                      rfl
                    refine pure_ (i := 3) (N := some 27) (v := ?_) (a' := ?_) #[true, true, true, true, false, false, false, false, false, false, false, false, false, false, false, false, false, false] rfl rfl (any_of HT_.out (by kernel_rfl)) (fun _ _ _ h => h) (Or.inl ⟨by rfl, ?_⟩) ?_ ?_
                    rotate_left
                    · intro w'
                      go_simp
                      first | with_reducible rfl | (rw [if_neg (by have q_ := c15; have e0_ : (⟨#[58, 58]⟩ : ByteArray).size = 2 := rfl; simp at q_; omega)]; done) | (rw [if_neg (by have q_ := c15; have e0_ : (⟨#[58, 58]⟩ : ByteArray).size = 2 := rfl; simp at q_; omega)]; rfl) | (rw [if_neg (by have q_ := c13; have e0_ : (⟨#[58, 58]⟩ : ByteArray).size = 2 := rfl; simp at q_; omega)]; done) | (rw [if_neg (by have q_ := c13; have e0_ : (⟨#[58, 58]⟩ : ByteArray).size = 2 := rfl; simp at q_; omega)]; rfl) | (rw [if_neg (by have q_ := c8; simp at q_; omega)]; done) | (rw [if_neg (by have q_ := c8; simp at q_; omega)]; rfl)
                    rotate_left
                    · simp only [Act.put, List.setIfInBounds_toArray, List.set_cons_zero, List.set_cons_succ, i64_w, i32_w]
                      rfl
                    refine pure_ (i := 4) (N := some 28) (v := ?_) (a' := ?_) #[true, true, true, true, true, false, false, false, false, false, false, false, false, false, false, false, false, false] rfl rfl (any_of HT_.out (by kernel_rfl)) (fun _ _ _ h => h) (Or.inl ⟨by rfl, ?_⟩) ?_ ?_
                    rotate_left
                    · intro w'
                      go_simp
                      first | with_reducible rfl | (rw [if_neg (by have q_ := c15; have e0_ : (⟨#[58, 58]⟩ : ByteArray).size = 2 := rfl; simp at q_; omega)]; done) | (rw [if_neg (by have q_ := c15; have e0_ : (⟨#[58, 58]⟩ : ByteArray).size = 2 := rfl; simp at q_; omega)]; rfl) | (rw [if_neg (by have q_ := c13; have e0_ : (⟨#[58, 58]⟩ : ByteArray).size = 2 := rfl; simp at q_; omega)]; done) | (rw [if_neg (by have q_ := c13; have e0_ : (⟨#[58, 58]⟩ : ByteArray).size = 2 := rfl; simp at q_; omega)]; rfl) | (rw [if_neg (by have q_ := c8; simp at q_; omega)]; done) | (rw [if_neg (by have q_ := c8; simp at q_; omega)]; rfl)
                    rotate_left
                    · simp only [Act.put, List.setIfInBounds_toArray, List.set_cons_zero, List.set_cons_succ, i64_w, i32_w]
                      rfl
                    refine pure_ (i := 5) (N := some 29) (v := ?_) (a' := ?_) #[true, true, true, true, true, true, false, false, false, false, false, false, false, false, false, false, false, false] rfl rfl (any_of HT_.out (by kernel_rfl)) (fun _ _ _ h => h) (Or.inl ⟨by rfl, ?_⟩) ?_ ?_
                    rotate_left
                    · intro w'
                      go_simp
                      first | with_reducible rfl | (rw [if_neg (by have q_ := c15; have e0_ : (⟨#[58, 58]⟩ : ByteArray).size = 2 := rfl; simp at q_; omega)]; done) | (rw [if_neg (by have q_ := c15; have e0_ : (⟨#[58, 58]⟩ : ByteArray).size = 2 := rfl; simp at q_; omega)]; rfl) | (rw [if_neg (by have q_ := c13; have e0_ : (⟨#[58, 58]⟩ : ByteArray).size = 2 := rfl; simp at q_; omega)]; done) | (rw [if_neg (by have q_ := c13; have e0_ : (⟨#[58, 58]⟩ : ByteArray).size = 2 := rfl; simp at q_; omega)]; rfl) | (rw [if_neg (by have q_ := c8; simp at q_; omega)]; done) | (rw [if_neg (by have q_ := c8; simp at q_; omega)]; rfl)
                    rotate_left
                    · simp only [Act.put, List.setIfInBounds_toArray, List.set_cons_zero, List.set_cons_succ, i64_w, i32_w]
                      rfl
                    refine pure_ (i := 6) (N := some 30) (v := ?_) (a' := ?_) #[true, true, true, true, true, true, true, false, false, false, false, false, false, false, false, false, false, false] rfl rfl (any_of HT_.out (by kernel_rfl)) (fun _ _ _ h => h) (Or.inl ⟨by rfl, ?_⟩) ?_ ?_
                    rotate_left
                    · intro w'
                      go_simp
                      first | with_reducible rfl | (rw [if_neg (by have q_ := c15; have e0_ : (⟨#[58, 58]⟩ : ByteArray).size = 2 := rfl; simp at q_; omega)]; done) | (rw [if_neg (by have q_ := c15; have e0_ : (⟨#[58, 58]⟩ : ByteArray).size = 2 := rfl; simp at q_; omega)]; rfl) | (rw [if_neg (by have q_ := c13; have e0_ : (⟨#[58, 58]⟩ : ByteArray).size = 2 := rfl; simp at q_; omega)]; done) | (rw [if_neg (by have q_ := c13; have e0_ : (⟨#[58, 58]⟩ : ByteArray).size = 2 := rfl; simp at q_; omega)]; rfl) | (rw [if_neg (by have q_ := c8; simp at q_; omega)]; done) | (rw [if_neg (by have q_ := c8; simp at q_; omega)]; rfl)
                    rotate_left
                    · simp only [Act.put, List.setIfInBounds_toArray, List.set_cons_zero, List.set_cons_succ, i64_w, i32_w]
                      rfl
                    refine pure_ (i := 7) (N := some 31) (v := ?_) (a' := ?_) #[true, true, true, true, true, true, true, true, false, false, false, false, false, false, false, false, false, false] rfl rfl (any_of HT_.out (by kernel_rfl)) (fun _ _ _ h => h) (Or.inl ⟨by rfl, ?_⟩) ?_ ?_
                    rotate_left
                    · intro w'
                      go_simp
                      first | with_reducible rfl | (rw [if_neg (by have q_ := c15; have e0_ : (⟨#[58, 58]⟩ : ByteArray).size = 2 := rfl; simp at q_; omega)]; done) | (rw [if_neg (by have q_ := c15; have e0_ : (⟨#[58, 58]⟩ : ByteArray).size = 2 := rfl; simp at q_; omega)]; rfl) | (rw [if_neg (by have q_ := c13; have e0_ : (⟨#[58, 58]⟩ : ByteArray).size = 2 := rfl; simp at q_; omega)]; done) | (rw [if_neg (by have q_ := c13; have e0_ : (⟨#[58, 58]⟩ : ByteArray).size = 2 := rfl; simp at q_; omega)]; rfl) | (rw [if_neg (by have q_ := c8; simp at q_; omega)]; done) | (rw [if_neg (by have q_ := c8; simp at q_; omega)]; rfl)
                    rotate_left
                    · simp only [Act.put, List.setIfInBounds_toArray, List.set_cons_zero, List.set_cons_succ, i64_w, i32_w]
                      rfl
                    refine one_ (i := 8) (N := some 32) #[true, true, true, true, true, true, true, true, true, false, false, false, false, false, false, false, false, false] rfl rfl (one_of HT_.out (by kernel_rfl)) (by decide) (fun K hK => ?_)
                    refine goes_ Tryz.func23 (by kernel_rfl) rfl #[.string t312] (by rfl) rfl rfl (by (try simp only [List.map_toArray, List.map_cons, List.map_nil]); first | done | rfl | (simp only [List.length_drop, List.length_take]; rfl)) ?_
                    with_reducible refine (code_Base.calls t312 t315 _ ?side1 A14.out).mono ?_
                    (case side1 => exact GW.below hG (by repeat (first | (with_reducible first | exact HB.out | apply below_alloc | apply pw_below_drewN | apply below_drew1) | exact HB.out)))
                    rintro e w64 ⟨rfl, hb⟩
                    refine ⟨_, rfl, ?_⟩
                    have n0_ := Aside0.mk (below_step (by repeat (first | (with_reducible first | exact HB.out | apply below_alloc | apply pw_below_drewN | apply below_drew1) | exact HB.out)) hb)
                    clear HB
                    have HB := n0_
                    clear n0_
                    (try clear hb)
                    (try clear hb2)
                    (try clear hk)
                    (try clear hi)
                    refine hK.out _ _ trivial (fun hHeld => ?_)
                    clear hK K
                    refine norm_ (a' := ?_) ?_ ?_
                    rotate_left
                    · show Act.put _ (some 32) _ = _
                      simp only [Act.put, List.setIfInBounds_toArray, List.set_cons_zero, List.set_cons_succ, i64_w, i32_w]
                      rfl
                    refine pure_ (i := 9) (N := some 33) (v := ?_) (a' := ?_) #[true, true, true, true, true, true, true, true, true, true, false, false, false, false, false, false, false, false] rfl rfl (any_of HT_.out (by kernel_rfl)) (fun _ _ _ h => h) (Or.inl ⟨by rfl, ?_⟩) ?_ ?_
                    rotate_left
                    · intro w'
                      go_simp
                      first | with_reducible rfl | (rw [if_neg (by have q_ := c15; have e0_ : (⟨#[58, 58]⟩ : ByteArray).size = 2 := rfl; simp at q_; omega)]; done) | (rw [if_neg (by have q_ := c15; have e0_ : (⟨#[58, 58]⟩ : ByteArray).size = 2 := rfl; simp at q_; omega)]; rfl) | (rw [if_neg (by have q_ := c13; have e0_ : (⟨#[58, 58]⟩ : ByteArray).size = 2 := rfl; simp at q_; omega)]; done) | (rw [if_neg (by have q_ := c13; have e0_ : (⟨#[58, 58]⟩ : ByteArray).size = 2 := rfl; simp at q_; omega)]; rfl) | (rw [if_neg (by have q_ := c8; simp at q_; omega)]; done) | (rw [if_neg (by have q_ := c8; simp at q_; omega)]; rfl)
                    rotate_left
                    · simp only [Act.put, List.setIfInBounds_toArray, List.set_cons_zero, List.set_cons_succ, i64_w, i32_w]
                      rfl
                    refine one_ (i := 10) (N := some 34) #[true, true, true, true, true, true, true, true, true, true, true, false, false, false, false, false, false, false] rfl rfl (one_of HT_.out (by kernel_rfl)) (by decide) (fun K hK => ?_)
                    refine goes_ Tryz.func21 (by kernel_rfl) rfl #[.string (((t311 ++ (⟨#[58, 58]⟩ : ByteArray)) ++ sx10_0) ++ t315)] (by rfl) rfl rfl (by (try simp only [List.map_toArray, List.map_cons, List.map_nil]); first | done | (simp only [hji10]; rfl) | rfl | (simp only [List.length_drop, List.length_take]; rfl)) ?_
                    with_reducible refine (fold_ReadItem.calls (((t311 ++ (⟨#[58, 58]⟩ : ByteArray)) ++ sx10_0) ++ t315) t316 t317 t318 _ ?side1 A16.out).mono ?_
                    (case side1 => exact GW.below hG (by repeat (first | (with_reducible first | exact HB.out | apply below_alloc | apply pw_below_drewN | apply below_drew1) | exact HB.out)))
                    rintro e w65 ⟨rfl, hb⟩
                    refine ⟨_, rfl, ?_⟩
                    have n0_ := Aside0.mk (below_step (by repeat (first | (with_reducible first | exact HB.out | apply below_alloc | apply pw_below_drewN | apply below_drew1) | exact HB.out)) hb)
                    clear HB
                    have HB := n0_
                    clear n0_
                    (try clear hb)
                    (try clear hb2)
                    (try clear hk)
                    (try clear hi)
                    refine hK.out _ _ trivial (fun hHeld => ?_)
                    clear hK K
                    refine norm_ (a' := ?_) ?_ ?_
                    rotate_left
                    · show Act.put _ (some 34) _ = _
                      simp only [Act.put, List.setIfInBounds_toArray, List.set_cons_zero, List.set_cons_succ, i64_w, i32_w]
                      rfl
                    refine pure_ (i := 11) (N := some 23) (v := ?_) (a' := ?_) #[true, true, true, true, true, true, true, true, true, true, true, true, false, false, false, false, false, false] rfl rfl (any_of HT_.out (by kernel_rfl)) (fun _ _ _ h => h) (Or.inl ⟨by rfl, ?_⟩) ?_ ?_
                    rotate_left
                    · intro w'
                      go_simp
                      first | with_reducible rfl | (rw [if_neg (by have q_ := c15; have e0_ : (⟨#[58, 58]⟩ : ByteArray).size = 2 := rfl; simp at q_; omega)]; done) | (rw [if_neg (by have q_ := c15; have e0_ : (⟨#[58, 58]⟩ : ByteArray).size = 2 := rfl; simp at q_; omega)]; rfl) | (rw [if_neg (by have q_ := c13; have e0_ : (⟨#[58, 58]⟩ : ByteArray).size = 2 := rfl; simp at q_; omega)]; done) | (rw [if_neg (by have q_ := c13; have e0_ : (⟨#[58, 58]⟩ : ByteArray).size = 2 := rfl; simp at q_; omega)]; rfl) | (rw [if_neg (by have q_ := c8; simp at q_; omega)]; done) | (rw [if_neg (by have q_ := c8; simp at q_; omega)]; rfl)
                    rotate_left
                    · simp only [Act.put, List.setIfInBounds_toArray, List.set_cons_zero, List.set_cons_succ, i64_w, i32_w]
                      rfl
                    refine pure_ (i := 12) (N := some 35) (v := ?_) (a' := ?_) #[true, true, true, true, true, true, true, true, true, true, true, true, true, false, false, false, false, false] rfl rfl (any_of HT_.out (by kernel_rfl)) (fun _ _ _ h => h) (Or.inl ⟨by rfl, ?_⟩) ?_ ?_
                    rotate_left
                    · intro w'
                      go_simp
                      first | with_reducible rfl | (rw [if_neg (by have q_ := c15; have e0_ : (⟨#[58, 58]⟩ : ByteArray).size = 2 := rfl; simp at q_; omega)]; done) | (rw [if_neg (by have q_ := c15; have e0_ : (⟨#[58, 58]⟩ : ByteArray).size = 2 := rfl; simp at q_; omega)]; rfl) | (rw [if_neg (by have q_ := c13; have e0_ : (⟨#[58, 58]⟩ : ByteArray).size = 2 := rfl; simp at q_; omega)]; done) | (rw [if_neg (by have q_ := c13; have e0_ : (⟨#[58, 58]⟩ : ByteArray).size = 2 := rfl; simp at q_; omega)]; rfl) | (rw [if_neg (by have q_ := c8; simp at q_; omega)]; done) | (rw [if_neg (by have q_ := c8; simp at q_; omega)]; rfl)
                    rotate_left
                    · simp only [Act.put, List.setIfInBounds_toArray, List.set_cons_zero, List.set_cons_succ, i64_w, i32_w]
                      rfl
                    refine pure_ (i := 13) (N := some 36) (v := ?_) (a' := ?_) #[true, true, true, true, true, true, true, true, true, true, true, true, true, true, false, false, false, false] rfl rfl (any_of HT_.out (by kernel_rfl)) (fun _ _ _ h => h) (Or.inl ⟨by rfl, ?_⟩) ?_ ?_
                    rotate_left
                    · intro w'
                      go_simp
                      first | with_reducible rfl | (rw [if_neg (by have q_ := c15; have e0_ : (⟨#[58, 58]⟩ : ByteArray).size = 2 := rfl; simp at q_; omega)]; done) | (rw [if_neg (by have q_ := c15; have e0_ : (⟨#[58, 58]⟩ : ByteArray).size = 2 := rfl; simp at q_; omega)]; rfl) | (rw [if_neg (by have q_ := c13; have e0_ : (⟨#[58, 58]⟩ : ByteArray).size = 2 := rfl; simp at q_; omega)]; done) | (rw [if_neg (by have q_ := c13; have e0_ : (⟨#[58, 58]⟩ : ByteArray).size = 2 := rfl; simp at q_; omega)]; rfl) | (rw [if_neg (by have q_ := c8; simp at q_; omega)]; done) | (rw [if_neg (by have q_ := c8; simp at q_; omega)]; rfl)
                    rotate_left
                    · simp only [Act.put, List.setIfInBounds_toArray, List.set_cons_zero, List.set_cons_succ, i64_w, i32_w]
                      rfl
                    refine pure_ (i := 14) (N := some 37) (v := ?_) (a' := ?_) #[true, true, true, true, true, true, true, true, true, true, true, true, true, true, true, false, false, false] rfl rfl (any_of HT_.out (by kernel_rfl)) (fun _ _ _ h => h) (Or.inl ⟨by rfl, ?_⟩) ?_ ?_
                    rotate_left
                    · intro w'
                      go_simp
                      first | with_reducible rfl | (rw [if_neg (by have q_ := c15; have e0_ : (⟨#[58, 58]⟩ : ByteArray).size = 2 := rfl; simp at q_; omega)]; done) | (rw [if_neg (by have q_ := c15; have e0_ : (⟨#[58, 58]⟩ : ByteArray).size = 2 := rfl; simp at q_; omega)]; rfl) | (rw [if_neg (by have q_ := c13; have e0_ : (⟨#[58, 58]⟩ : ByteArray).size = 2 := rfl; simp at q_; omega)]; done) | (rw [if_neg (by have q_ := c13; have e0_ : (⟨#[58, 58]⟩ : ByteArray).size = 2 := rfl; simp at q_; omega)]; rfl) | (rw [if_neg (by have q_ := c8; simp at q_; omega)]; done) | (rw [if_neg (by have q_ := c8; simp at q_; omega)]; rfl)
                    rotate_left
                    · simp only [Act.put, List.setIfInBounds_toArray, List.set_cons_zero, List.set_cons_succ, i64_w, i32_w]
                      rfl
                    refine pure_ (i := 15) (N := some 10) (v := ?_) (a' := ?_) #[true, true, true, true, true, true, true, true, true, true, true, true, true, true, true, true, false, false] rfl rfl (any_of HT_.out (by kernel_rfl)) (fun _ _ _ h => h) (Or.inl ⟨by rfl, ?_⟩) ?_ ?_
                    rotate_left
                    · intro w'
                      go_simp
                      first | with_reducible rfl | (rw [if_neg (by have q_ := c15; have e0_ : (⟨#[58, 58]⟩ : ByteArray).size = 2 := rfl; simp at q_; omega)]; done) | (rw [if_neg (by have q_ := c15; have e0_ : (⟨#[58, 58]⟩ : ByteArray).size = 2 := rfl; simp at q_; omega)]; rfl) | (rw [if_neg (by have q_ := c13; have e0_ : (⟨#[58, 58]⟩ : ByteArray).size = 2 := rfl; simp at q_; omega)]; done) | (rw [if_neg (by have q_ := c13; have e0_ : (⟨#[58, 58]⟩ : ByteArray).size = 2 := rfl; simp at q_; omega)]; rfl) | (rw [if_neg (by have q_ := c8; simp at q_; omega)]; done) | (rw [if_neg (by have q_ := c8; simp at q_; omega)]; rfl)
                    rotate_left
                    · simp only [Act.put, List.setIfInBounds_toArray, List.set_cons_zero, List.set_cons_succ, i64_w, i32_w]
                      rfl
                    refine pure_ (i := 16) (N := some 11) (v := ?_) (a' := ?_) #[true, true, true, true, true, true, true, true, true, true, true, true, true, true, true, true, true, false] rfl rfl (any_of HT_.out (by kernel_rfl)) (fun _ _ _ h => h) (Or.inl ⟨by rfl, ?_⟩) ?_ ?_
                    rotate_left
                    · intro w'
                      go_simp
                      first | with_reducible rfl | (rw [if_neg (by have q_ := c15; have e0_ : (⟨#[58, 58]⟩ : ByteArray).size = 2 := rfl; simp at q_; omega)]; done) | (rw [if_neg (by have q_ := c15; have e0_ : (⟨#[58, 58]⟩ : ByteArray).size = 2 := rfl; simp at q_; omega)]; rfl) | (rw [if_neg (by have q_ := c13; have e0_ : (⟨#[58, 58]⟩ : ByteArray).size = 2 := rfl; simp at q_; omega)]; done) | (rw [if_neg (by have q_ := c13; have e0_ : (⟨#[58, 58]⟩ : ByteArray).size = 2 := rfl; simp at q_; omega)]; rfl) | (rw [if_neg (by have q_ := c8; simp at q_; omega)]; done) | (rw [if_neg (by have q_ := c8; simp at q_; omega)]; rfl)
                    rotate_left
                    · simp only [Act.put, List.setIfInBounds_toArray, List.set_cons_zero, List.set_cons_succ, i64_w, i32_w]
                      rfl
                    refine pure_ (i := 17) (N := some 12) (v := ?_) (a' := ?_) #[true, true, true, true, true, true, true, true, true, true, true, true, true, true, true, true, true, true] rfl rfl (any_of HT_.out (by kernel_rfl)) (fun _ _ _ h => h) (Or.inl ⟨by rfl, ?_⟩) ?_ ?_
                    rotate_left
                    · intro w'
                      go_simp
                      first | with_reducible rfl | (rw [if_neg (by have q_ := c15; have e0_ : (⟨#[58, 58]⟩ : ByteArray).size = 2 := rfl; simp at q_; omega)]; done) | (rw [if_neg (by have q_ := c15; have e0_ : (⟨#[58, 58]⟩ : ByteArray).size = 2 := rfl; simp at q_; omega)]; rfl) | (rw [if_neg (by have q_ := c13; have e0_ : (⟨#[58, 58]⟩ : ByteArray).size = 2 := rfl; simp at q_; omega)]; done) | (rw [if_neg (by have q_ := c13; have e0_ : (⟨#[58, 58]⟩ : ByteArray).size = 2 := rfl; simp at q_; omega)]; rfl) | (rw [if_neg (by have q_ := c8; simp at q_; omega)]; done) | (rw [if_neg (by have q_ := c8; simp at q_; omega)]; rfl)
                    rotate_left
                    · simp only [Act.put, List.setIfInBounds_toArray, List.set_cons_zero, List.set_cons_succ, i64_w, i32_w]
                      rfl
                    refine done_ (done_of HT_.out (by kernel_rfl)) ?_
                    try go_wp2
                    go_ret
                    exact ⟨by first | rfl | (simp [errW_none, errW_some] <;> rfl) | (simp only [← hji9, ← hji10]; first | rfl | (simp [errW_none, errW_some] <;> rfl)) | (simp [*, errW_none, errW_some] <;> rfl), by repeat (first | (with_reducible first | exact HB.out | apply below_alloc | apply pw_below_drewN | apply below_drew1) | exact HB.out)⟩
                  · rw [if_neg c58] at H
                    have c58b0 : (t316.toList == ([] : List UInt8)) = false := beq_eq_false_iff_ne.mpr c58
                    have c58b1 : (t316.toList != ([] : List UInt8)) = true := bne_iff_ne.mpr c58
                    obtain rfl := Option.some.inj H
                    go_enter Tryz.func10, Tryz.ntmps10
                    try go_wp2_with (first | ((with_reducible refine own_gate (f := 11) rfl ?_); refine goesL_ (some 13) rfl rfl Tryz.func11 (by kernel_rfl) rfl #[] rfl (by (try simp only [List.map_toArray, List.map_cons, List.map_nil]); first | done | rfl | (simp only [List.length_drop, List.length_take]; rfl)) ?_; (with_reducible refine (latinerlaw15_shown.calls k  true _ ?side1 A4.out).mono ?_); (case side1 => exact GW.below hG (by repeat (first | (with_reducible first | exact HB.out | apply below_alloc | apply pw_below_drewN | apply below_drew1) | exact HB.out))); rintro e w66 ⟨rfl, hb⟩; refine ⟨_, rfl, ?_⟩; have n0_ := Aside0.mk (below_step (by repeat (first | (with_reducible first | exact HB.out | apply below_alloc | apply pw_below_drewN | apply below_drew1) | exact HB.out)) hb); clear HB; have HB := n0_; clear n0_; (try clear hb); (try clear hb2); (try clear hk); (try clear hi)) | ((with_reducible refine own_gate (f := 18) rfl ?_); refine goesL_ (some 15) rfl rfl Tryz.func18 (by kernel_rfl) rfl #[.string a0] rfl (by (try simp only [List.map_toArray, List.map_cons, List.map_nil]); first | done | rfl | (simp only [List.length_drop, List.length_take]; rfl)) ?_; (with_reducible refine (latinerlaw15_short.calls a0 t311 _ A5.out).mono ?_); rintro e w67 ⟨rfl, hb⟩; refine ⟨_, rfl, ?_⟩; have n0_ := Aside0.mk (below_step (by repeat (first | (with_reducible first | exact HB.out | apply below_alloc | apply pw_below_drewN | apply below_drew1) | exact HB.out)) hb); clear HB; have HB := n0_; clear n0_; (try clear hb); (try clear hb2); (try clear hk); (try clear hi)) | ((with_reducible refine own_gate (f := 18) rfl ?_); refine goesL_ (some 17) rfl rfl Tryz.func18 (by kernel_rfl) rfl #[.string a1] rfl (by (try simp only [List.map_toArray, List.map_cons, List.map_nil]); first | done | rfl | (simp only [List.length_drop, List.length_take]; rfl)) ?_; (with_reducible refine (latinerlaw15_short.calls a1 t312 _ A6.out).mono ?_); rintro e w68 ⟨rfl, hb⟩; refine ⟨_, rfl, ?_⟩; have n0_ := Aside0.mk (below_step (by repeat (first | (with_reducible first | exact HB.out | apply below_alloc | apply pw_below_drewN | apply below_drew1) | exact HB.out)) hb); clear HB; have HB := n0_; clear n0_; (try clear hb); (try clear hb2); (try clear hk); (try clear hi)) | ((with_reducible refine own_gate (f := 19) rfl ?_); refine goesL_ (some 20) rfl rfl Tryz.func19 (by kernel_rfl) rfl #[.string t311, .string (⟨#[120]⟩ : ByteArray)] rfl (by (try simp only [List.map_toArray, List.map_cons, List.map_nil]); first | done | rfl | (simp only [List.length_drop, List.length_take]; rfl)) ?_; (with_reducible refine (fold_Item.calls t311 (⟨#[120]⟩ : ByteArray) t313 t314 _ ?side1 A7.out).mono ?_); (case side1 => exact GW.below hG (by repeat (first | (with_reducible first | exact HB.out | apply below_alloc | apply pw_below_drewN | apply below_drew1) | exact HB.out))); rintro e w69 ⟨rfl, hb⟩; refine ⟨_, rfl, ?_⟩; have n0_ := Aside0.mk (below_step (by repeat (first | (with_reducible first | exact HB.out | apply below_alloc | apply pw_below_drewN | apply below_drew1) | exact HB.out)) hb); clear HB; have HB := n0_; clear n0_; (try clear hb); (try clear hb2); (try clear hk); (try clear hi)))
                    have n0_ := Aside0.mk (below_drew1 HB.out)
                    clear HB
                    have HB := n0_
                    clear n0_
                    refine start_ (n := 18) (S := fun w' => True) (ds := []) #[false, false, false, false, false, false, false, false, false, false, false, false, false, false, false, false, false, false] (by kernel_rfl) rfl rfl trivial (fun hHeld => ?_); refine with_tabW latinerlaw15_FoldBase.tab5 latinerlaw15_FoldBase.bits5 (fun HT_ HW_ => ?_)
                    generalize w69.drew = w70 at HB hHeld ⊢
                    refine pure_ (i := 0) (N := some 24) (v := ?_) (a' := ?_) #[true, false, false, false, false, false, false, false, false, false, false, false, false, false, false, false, false, false] rfl rfl (any_of HT_.out (by kernel_rfl)) (fun _ _ _ h => h) (Or.inl ⟨by rfl, ?_⟩) ?_ ?_
                    rotate_left
                    · intro w'
                      go_simp
                      first | with_reducible rfl | (rw [if_neg (by have q_ := c15; have e0_ : (⟨#[58, 58]⟩ : ByteArray).size = 2 := rfl; simp at q_; omega)]; done) | (rw [if_neg (by have q_ := c15; have e0_ : (⟨#[58, 58]⟩ : ByteArray).size = 2 := rfl; simp at q_; omega)]; rfl) | (rw [if_neg (by have q_ := c13; have e0_ : (⟨#[58, 58]⟩ : ByteArray).size = 2 := rfl; simp at q_; omega)]; done) | (rw [if_neg (by have q_ := c13; have e0_ : (⟨#[58, 58]⟩ : ByteArray).size = 2 := rfl; simp at q_; omega)]; rfl) | (rw [if_neg (by have q_ := c8; simp at q_; omega)]; done) | (rw [if_neg (by have q_ := c8; simp at q_; omega)]; rfl)
                    rotate_left
                    · simp only [Act.put, List.setIfInBounds_toArray, List.set_cons_zero, List.set_cons_succ, i64_w, i32_w]
                      rfl
                    refine pure_ (i := 1) (N := some 25) (v := ?_) (a' := ?_) #[true, true, false, false, false, false, false, false, false, false, false, false, false, false, false, false, false, false] rfl rfl (any_of HT_.out (by kernel_rfl)) (fun _ _ _ h => h) (Or.inl ⟨by rfl, ?_⟩) ?_ ?_
                    rotate_left
                    · intro w'
                      go_simp
                      first | with_reducible rfl | (rw [if_neg (by have q_ := c15; have e0_ : (⟨#[58, 58]⟩ : ByteArray).size = 2 := rfl; simp at q_; omega)]; done) | (rw [if_neg (by have q_ := c15; have e0_ : (⟨#[58, 58]⟩ : ByteArray).size = 2 := rfl; simp at q_; omega)]; rfl) | (rw [if_neg (by have q_ := c13; have e0_ : (⟨#[58, 58]⟩ : ByteArray).size = 2 := rfl; simp at q_; omega)]; done) | (rw [if_neg (by have q_ := c13; have e0_ : (⟨#[58, 58]⟩ : ByteArray).size = 2 := rfl; simp at q_; omega)]; rfl) | (rw [if_neg (by have q_ := c8; simp at q_; omega)]; done) | (rw [if_neg (by have q_ := c8; simp at q_; omega)]; rfl)
                    rotate_left
                    · simp only [Act.put, List.setIfInBounds_toArray, List.set_cons_zero, List.set_cons_succ, i64_w, i32_w]
                      rfl
                    refine pure_ (i := 2) (N := some 26) (v := ?_) (a' := ?_) #[true, true, true, false, false, false, false, false, false, false, false, false, false, false, false, false, false, false] rfl rfl (any_of HT_.out (by kernel_rfl)) (fun _ _ _ h => h) (Or.inl ⟨by rfl, ?_⟩) ?_ ?_
                    rotate_left
                    · intro w'
                      go_simp
                      first | with_reducible rfl | (rw [if_neg (by have q_ := c15; have e0_ : (⟨#[58, 58]⟩ : ByteArray).size = 2 := rfl; simp at q_; omega)]; done) | (rw [if_neg (by have q_ := c15; have e0_ : (⟨#[58, 58]⟩ : ByteArray).size = 2 := rfl; simp at q_; omega)]; rfl) | (rw [if_neg (by have q_ := c13; have e0_ : (⟨#[58, 58]⟩ : ByteArray).size = 2 := rfl; simp at q_; omega)]; done) | (rw [if_neg (by have q_ := c13; have e0_ : (⟨#[58, 58]⟩ : ByteArray).size = 2 := rfl; simp at q_; omega)]; rfl) | (rw [if_neg (by have q_ := c8; simp at q_; omega)]; done) | (rw [if_neg (by have q_ := c8; simp at q_; omega)]; rfl)
                    rotate_left
                    · simp only [Act.put, List.setIfInBounds_toArray, List.set_cons_zero, List.set_cons_succ, i64_w, i32_w]
                      rfl
                    refine pure_ (i := 3) (N := some 27) (v := ?_) (a' := ?_) #[true, true, true, true, false, false, false, false, false, false, false, false, false, false, false, false, false, false] rfl rfl (any_of HT_.out (by kernel_rfl)) (fun _ _ _ h => h) (Or.inl ⟨by rfl, ?_⟩) ?_ ?_
                    rotate_left
                    · intro w'
                      go_simp
                      first | with_reducible rfl | (rw [if_neg (by have q_ := c15; have e0_ : (⟨#[58, 58]⟩ : ByteArray).size = 2 := rfl; simp at q_; omega)]; done) | (rw [if_neg (by have q_ := c15; have e0_ : (⟨#[58, 58]⟩ : ByteArray).size = 2 := rfl; simp at q_; omega)]; rfl) | (rw [if_neg (by have q_ := c13; have e0_ : (⟨#[58, 58]⟩ : ByteArray).size = 2 := rfl; simp at q_; omega)]; done) | (rw [if_neg (by have q_ := c13; have e0_ : (⟨#[58, 58]⟩ : ByteArray).size = 2 := rfl; simp at q_; omega)]; rfl) | (rw [if_neg (by have q_ := c8; simp at q_; omega)]; done) | (rw [if_neg (by have q_ := c8; simp at q_; omega)]; rfl)
                    rotate_left
                    · simp only [Act.put, List.setIfInBounds_toArray, List.set_cons_zero, List.set_cons_succ, i64_w, i32_w]
                      rfl
                    refine pure_ (i := 4) (N := some 28) (v := ?_) (a' := ?_) #[true, true, true, true, true, false, false, false, false, false, false, false, false, false, false, false, false, false] rfl rfl (any_of HT_.out (by kernel_rfl)) (fun _ _ _ h => h) (Or.inl ⟨by rfl, ?_⟩) ?_ ?_
                    rotate_left
                    · intro w'
                      go_simp
                      first | with_reducible rfl | (rw [if_neg (by have q_ := c15; have e0_ : (⟨#[58, 58]⟩ : ByteArray).size = 2 := rfl; simp at q_; omega)]; done) | (rw [if_neg (by have q_ := c15; have e0_ : (⟨#[58, 58]⟩ : ByteArray).size = 2 := rfl; simp at q_; omega)]; rfl) | (rw [if_neg (by have q_ := c13; have e0_ : (⟨#[58, 58]⟩ : ByteArray).size = 2 := rfl; simp at q_; omega)]; done) | (rw [if_neg (by have q_ := c13; have e0_ : (⟨#[58, 58]⟩ : ByteArray).size = 2 := rfl; simp at q_; omega)]; rfl) | (rw [if_neg (by have q_ := c8; simp at q_; omega)]; done) | (rw [if_neg (by have q_ := c8; simp at q_; omega)]; rfl)
                    rotate_left
                    · simp only [Act.put, List.setIfInBounds_toArray, List.set_cons_zero, List.set_cons_succ, i64_w, i32_w]
                      rfl
                    refine pure_ (i := 5) (N := some 29) (v := ?_) (a' := ?_) #[true, true, true, true, true, true, false, false, false, false, false, false, false, false, false, false, false, false] rfl rfl (any_of HT_.out (by kernel_rfl)) (fun _ _ _ h => h) (Or.inl ⟨by rfl, ?_⟩) ?_ ?_
                    rotate_left
                    · intro w'
                      go_simp
                      first | with_reducible rfl | (rw [if_neg (by have q_ := c15; have e0_ : (⟨#[58, 58]⟩ : ByteArray).size = 2 := rfl; simp at q_; omega)]; done) | (rw [if_neg (by have q_ := c15; have e0_ : (⟨#[58, 58]⟩ : ByteArray).size = 2 := rfl; simp at q_; omega)]; rfl) | (rw [if_neg (by have q_ := c13; have e0_ : (⟨#[58, 58]⟩ : ByteArray).size = 2 := rfl; simp at q_; omega)]; done) | (rw [if_neg (by have q_ := c13; have e0_ : (⟨#[58, 58]⟩ : ByteArray).size = 2 := rfl; simp at q_; omega)]; rfl) | (rw [if_neg (by have q_ := c8; simp at q_; omega)]; done) | (rw [if_neg (by have q_ := c8; simp at q_; omega)]; rfl)
                    rotate_left
                    · simp only [Act.put, List.setIfInBounds_toArray, List.set_cons_zero, List.set_cons_succ, i64_w, i32_w]
                      rfl
                    refine pure_ (i := 6) (N := some 30) (v := ?_) (a' := ?_) #[true, true, true, true, true, true, true, false, false, false, false, false, false, false, false, false, false, false] rfl rfl (any_of HT_.out (by kernel_rfl)) (fun _ _ _ h => h) (Or.inl ⟨by rfl, ?_⟩) ?_ ?_
                    rotate_left
                    · intro w'
                      go_simp
                      first | with_reducible rfl | (rw [if_neg (by have q_ := c15; have e0_ : (⟨#[58, 58]⟩ : ByteArray).size = 2 := rfl; simp at q_; omega)]; done) | (rw [if_neg (by have q_ := c15; have e0_ : (⟨#[58, 58]⟩ : ByteArray).size = 2 := rfl; simp at q_; omega)]; rfl) | (rw [if_neg (by have q_ := c13; have e0_ : (⟨#[58, 58]⟩ : ByteArray).size = 2 := rfl; simp at q_; omega)]; done) | (rw [if_neg (by have q_ := c13; have e0_ : (⟨#[58, 58]⟩ : ByteArray).size = 2 := rfl; simp at q_; omega)]; rfl) | (rw [if_neg (by have q_ := c8; simp at q_; omega)]; done) | (rw [if_neg (by have q_ := c8; simp at q_; omega)]; rfl)
                    rotate_left
                    · simp only [Act.put, List.setIfInBounds_toArray, List.set_cons_zero, List.set_cons_succ, i64_w, i32_w]
                      rfl
                    refine pure_ (i := 7) (N := some 31) (v := ?_) (a' := ?_) #[true, true, true, true, true, true, true, true, false, false, false, false, false, false, false, false, false, false] rfl rfl (any_of HT_.out (by kernel_rfl)) (fun _ _ _ h => h) (Or.inl ⟨by rfl, ?_⟩) ?_ ?_
                    rotate_left
                    · intro w'
                      go_simp
                      first | with_reducible rfl | (rw [if_neg (by have q_ := c15; have e0_ : (⟨#[58, 58]⟩ : ByteArray).size = 2 := rfl; simp at q_; omega)]; done) | (rw [if_neg (by have q_ := c15; have e0_ : (⟨#[58, 58]⟩ : ByteArray).size = 2 := rfl; simp at q_; omega)]; rfl) | (rw [if_neg (by have q_ := c13; have e0_ : (⟨#[58, 58]⟩ : ByteArray).size = 2 := rfl; simp at q_; omega)]; done) | (rw [if_neg (by have q_ := c13; have e0_ : (⟨#[58, 58]⟩ : ByteArray).size = 2 := rfl; simp at q_; omega)]; rfl) | (rw [if_neg (by have q_ := c8; simp at q_; omega)]; done) | (rw [if_neg (by have q_ := c8; simp at q_; omega)]; rfl)
                    rotate_left
                    · simp only [Act.put, List.setIfInBounds_toArray, List.set_cons_zero, List.set_cons_succ, i64_w, i32_w]
                      rfl
                    refine one_ (i := 8) (N := some 32) #[true, true, true, true, true, true, true, true, true, false, false, false, false, false, false, false, false, false] rfl rfl (one_of HT_.out (by kernel_rfl)) (by decide) (fun K hK => ?_)
                    refine goes_ Tryz.func23 (by kernel_rfl) rfl #[.string t312] (by rfl) rfl rfl (by (try simp only [List.map_toArray, List.map_cons, List.map_nil]); first | done | rfl | (simp only [List.length_drop, List.length_take]; rfl)) ?_
                    with_reducible refine (code_Base.calls t312 t315 _ ?side1 A14.out).mono ?_
                    (case side1 => exact GW.below hG (by repeat (first | (with_reducible first | exact HB.out | apply below_alloc | apply pw_below_drewN | apply below_drew1) | exact HB.out)))
                    rintro e w71 ⟨rfl, hb⟩
                    refine ⟨_, rfl, ?_⟩
                    have n0_ := Aside0.mk (below_step (by repeat (first | (with_reducible first | exact HB.out | apply below_alloc | apply pw_below_drewN | apply below_drew1) | exact HB.out)) hb)
                    clear HB
                    have HB := n0_
                    clear n0_
                    (try clear hb)
                    (try clear hb2)
                    (try clear hk)
                    (try clear hi)
                    refine hK.out _ _ trivial (fun hHeld => ?_)
                    clear hK K
                    refine norm_ (a' := ?_) ?_ ?_
                    rotate_left
                    · show Act.put _ (some 32) _ = _
                      simp only [Act.put, List.setIfInBounds_toArray, List.set_cons_zero, List.set_cons_succ, i64_w, i32_w]
                      rfl
                    refine pure_ (i := 9) (N := some 33) (v := ?_) (a' := ?_) #[true, true, true, true, true, true, true, true, true, true, false, false, false, false, false, false, false, false] rfl rfl (any_of HT_.out (by kernel_rfl)) (fun _ _ _ h => h) (Or.inl ⟨by rfl, ?_⟩) ?_ ?_
                    rotate_left
                    · intro w'
                      go_simp
                      first | with_reducible rfl | (rw [if_neg (by have q_ := c15; have e0_ : (⟨#[58, 58]⟩ : ByteArray).size = 2 := rfl; simp at q_; omega)]; done) | (rw [if_neg (by have q_ := c15; have e0_ : (⟨#[58, 58]⟩ : ByteArray).size = 2 := rfl; simp at q_; omega)]; rfl) | (rw [if_neg (by have q_ := c13; have e0_ : (⟨#[58, 58]⟩ : ByteArray).size = 2 := rfl; simp at q_; omega)]; done) | (rw [if_neg (by have q_ := c13; have e0_ : (⟨#[58, 58]⟩ : ByteArray).size = 2 := rfl; simp at q_; omega)]; rfl) | (rw [if_neg (by have q_ := c8; simp at q_; omega)]; done) | (rw [if_neg (by have q_ := c8; simp at q_; omega)]; rfl)
                    rotate_left
                    · simp only [Act.put, List.setIfInBounds_toArray, List.set_cons_zero, List.set_cons_succ, i64_w, i32_w]
                      rfl
                    refine one_ (i := 10) (N := some 34) #[true, true, true, true, true, true, true, true, true, true, true, false, false, false, false, false, false, false] rfl rfl (one_of HT_.out (by kernel_rfl)) (by decide) (fun K hK => ?_)
                    refine goes_ Tryz.func21 (by kernel_rfl) rfl #[.string (((t311 ++ (⟨#[58, 58]⟩ : ByteArray)) ++ sx10_0) ++ t315)] (by rfl) rfl rfl (by (try simp only [List.map_toArray, List.map_cons, List.map_nil]); first | done | (simp only [hji10]; rfl) | rfl | (simp only [List.length_drop, List.length_take]; rfl)) ?_
                    with_reducible refine (fold_ReadItem.calls (((t311 ++ (⟨#[58, 58]⟩ : ByteArray)) ++ sx10_0) ++ t315) t316 t317 t318 _ ?side1 A16.out).mono ?_
                    (case side1 => exact GW.below hG (by repeat (first | (with_reducible first | exact HB.out | apply below_alloc | apply pw_below_drewN | apply below_drew1) | exact HB.out)))
                    rintro e w72 ⟨rfl, hb⟩
                    refine ⟨_, rfl, ?_⟩
                    have n0_ := Aside0.mk (below_step (by repeat (first | (with_reducible first | exact HB.out | apply below_alloc | apply pw_below_drewN | apply below_drew1) | exact HB.out)) hb)
                    clear HB
                    have HB := n0_
                    clear n0_
                    (try clear hb)
                    (try clear hb2)
                    (try clear hk)
                    (try clear hi)
                    refine hK.out _ _ trivial (fun hHeld => ?_)
                    clear hK K
                    refine norm_ (a' := ?_) ?_ ?_
                    rotate_left
                    · show Act.put _ (some 34) _ = _
                      simp only [Act.put, List.setIfInBounds_toArray, List.set_cons_zero, List.set_cons_succ, i64_w, i32_w]
                      rfl
                    refine pure_ (i := 11) (N := some 23) (v := ?_) (a' := ?_) #[true, true, true, true, true, true, true, true, true, true, true, true, false, false, false, false, false, false] rfl rfl (any_of HT_.out (by kernel_rfl)) (fun _ _ _ h => h) (Or.inl ⟨by rfl, ?_⟩) ?_ ?_
                    rotate_left
                    · intro w'
                      go_simp
                      first | with_reducible rfl | (rw [if_neg (by have q_ := c15; have e0_ : (⟨#[58, 58]⟩ : ByteArray).size = 2 := rfl; simp at q_; omega)]; done) | (rw [if_neg (by have q_ := c15; have e0_ : (⟨#[58, 58]⟩ : ByteArray).size = 2 := rfl; simp at q_; omega)]; rfl) | (rw [if_neg (by have q_ := c13; have e0_ : (⟨#[58, 58]⟩ : ByteArray).size = 2 := rfl; simp at q_; omega)]; done) | (rw [if_neg (by have q_ := c13; have e0_ : (⟨#[58, 58]⟩ : ByteArray).size = 2 := rfl; simp at q_; omega)]; rfl) | (rw [if_neg (by have q_ := c8; simp at q_; omega)]; done) | (rw [if_neg (by have q_ := c8; simp at q_; omega)]; rfl)
                    rotate_left
                    · simp only [Act.put, List.setIfInBounds_toArray, List.set_cons_zero, List.set_cons_succ, i64_w, i32_w]
                      rfl
                    refine pure_ (i := 12) (N := some 35) (v := ?_) (a' := ?_) #[true, true, true, true, true, true, true, true, true, true, true, true, true, false, false, false, false, false] rfl rfl (any_of HT_.out (by kernel_rfl)) (fun _ _ _ h => h) (Or.inl ⟨by rfl, ?_⟩) ?_ ?_
                    rotate_left
                    · intro w'
                      go_simp
                      first | with_reducible rfl | (rw [if_neg (by have q_ := c15; have e0_ : (⟨#[58, 58]⟩ : ByteArray).size = 2 := rfl; simp at q_; omega)]; done) | (rw [if_neg (by have q_ := c15; have e0_ : (⟨#[58, 58]⟩ : ByteArray).size = 2 := rfl; simp at q_; omega)]; rfl) | (rw [if_neg (by have q_ := c13; have e0_ : (⟨#[58, 58]⟩ : ByteArray).size = 2 := rfl; simp at q_; omega)]; done) | (rw [if_neg (by have q_ := c13; have e0_ : (⟨#[58, 58]⟩ : ByteArray).size = 2 := rfl; simp at q_; omega)]; rfl) | (rw [if_neg (by have q_ := c8; simp at q_; omega)]; done) | (rw [if_neg (by have q_ := c8; simp at q_; omega)]; rfl)
                    rotate_left
                    · simp only [Act.put, List.setIfInBounds_toArray, List.set_cons_zero, List.set_cons_succ, i64_w, i32_w]
                      rfl
                    refine pure_ (i := 13) (N := some 36) (v := ?_) (a' := ?_) #[true, true, true, true, true, true, true, true, true, true, true, true, true, true, false, false, false, false] rfl rfl (any_of HT_.out (by kernel_rfl)) (fun _ _ _ h => h) (Or.inl ⟨by rfl, ?_⟩) ?_ ?_
                    rotate_left
                    · intro w'
                      go_simp
                      first | with_reducible rfl | (rw [if_neg (by have q_ := c15; have e0_ : (⟨#[58, 58]⟩ : ByteArray).size = 2 := rfl; simp at q_; omega)]; done) | (rw [if_neg (by have q_ := c15; have e0_ : (⟨#[58, 58]⟩ : ByteArray).size = 2 := rfl; simp at q_; omega)]; rfl) | (rw [if_neg (by have q_ := c13; have e0_ : (⟨#[58, 58]⟩ : ByteArray).size = 2 := rfl; simp at q_; omega)]; done) | (rw [if_neg (by have q_ := c13; have e0_ : (⟨#[58, 58]⟩ : ByteArray).size = 2 := rfl; simp at q_; omega)]; rfl) | (rw [if_neg (by have q_ := c8; simp at q_; omega)]; done) | (rw [if_neg (by have q_ := c8; simp at q_; omega)]; rfl)
                    rotate_left
                    · simp only [Act.put, List.setIfInBounds_toArray, List.set_cons_zero, List.set_cons_succ, i64_w, i32_w]
                      rfl
                    refine pure_ (i := 14) (N := some 37) (v := ?_) (a' := ?_) #[true, true, true, true, true, true, true, true, true, true, true, true, true, true, true, false, false, false] rfl rfl (any_of HT_.out (by kernel_rfl)) (fun _ _ _ h => h) (Or.inl ⟨by rfl, ?_⟩) ?_ ?_
                    rotate_left
                    · intro w'
                      go_simp
                      first | with_reducible rfl | (rw [if_neg (by have q_ := c15; have e0_ : (⟨#[58, 58]⟩ : ByteArray).size = 2 := rfl; simp at q_; omega)]; done) | (rw [if_neg (by have q_ := c15; have e0_ : (⟨#[58, 58]⟩ : ByteArray).size = 2 := rfl; simp at q_; omega)]; rfl) | (rw [if_neg (by have q_ := c13; have e0_ : (⟨#[58, 58]⟩ : ByteArray).size = 2 := rfl; simp at q_; omega)]; done) | (rw [if_neg (by have q_ := c13; have e0_ : (⟨#[58, 58]⟩ : ByteArray).size = 2 := rfl; simp at q_; omega)]; rfl) | (rw [if_neg (by have q_ := c8; simp at q_; omega)]; done) | (rw [if_neg (by have q_ := c8; simp at q_; omega)]; rfl)
                    rotate_left
                    · simp only [Act.put, List.setIfInBounds_toArray, List.set_cons_zero, List.set_cons_succ, i64_w, i32_w]
                      rfl
                    refine pure_ (i := 15) (N := some 10) (v := ?_) (a' := ?_) #[true, true, true, true, true, true, true, true, true, true, true, true, true, true, true, true, false, false] rfl rfl (any_of HT_.out (by kernel_rfl)) (fun _ _ _ h => h) (Or.inl ⟨by rfl, ?_⟩) ?_ ?_
                    rotate_left
                    · intro w'
                      go_simp
                      first | with_reducible rfl | (rw [if_neg (by have q_ := c15; have e0_ : (⟨#[58, 58]⟩ : ByteArray).size = 2 := rfl; simp at q_; omega)]; done) | (rw [if_neg (by have q_ := c15; have e0_ : (⟨#[58, 58]⟩ : ByteArray).size = 2 := rfl; simp at q_; omega)]; rfl) | (rw [if_neg (by have q_ := c13; have e0_ : (⟨#[58, 58]⟩ : ByteArray).size = 2 := rfl; simp at q_; omega)]; done) | (rw [if_neg (by have q_ := c13; have e0_ : (⟨#[58, 58]⟩ : ByteArray).size = 2 := rfl; simp at q_; omega)]; rfl) | (rw [if_neg (by have q_ := c8; simp at q_; omega)]; done) | (rw [if_neg (by have q_ := c8; simp at q_; omega)]; rfl)
                    rotate_left
                    · simp only [Act.put, List.setIfInBounds_toArray, List.set_cons_zero, List.set_cons_succ, i64_w, i32_w]
                      rfl
                    refine pure_ (i := 16) (N := some 11) (v := ?_) (a' := ?_) #[true, true, true, true, true, true, true, true, true, true, true, true, true, true, true, true, true, false] rfl rfl (any_of HT_.out (by kernel_rfl)) (fun _ _ _ h => h) (Or.inl ⟨by rfl, ?_⟩) ?_ ?_
                    rotate_left
                    · intro w'
                      go_simp
                      first | with_reducible rfl | (rw [if_neg (by have q_ := c15; have e0_ : (⟨#[58, 58]⟩ : ByteArray).size = 2 := rfl; simp at q_; omega)]; done) | (rw [if_neg (by have q_ := c15; have e0_ : (⟨#[58, 58]⟩ : ByteArray).size = 2 := rfl; simp at q_; omega)]; rfl) | (rw [if_neg (by have q_ := c13; have e0_ : (⟨#[58, 58]⟩ : ByteArray).size = 2 := rfl; simp at q_; omega)]; done) | (rw [if_neg (by have q_ := c13; have e0_ : (⟨#[58, 58]⟩ : ByteArray).size = 2 := rfl; simp at q_; omega)]; rfl) | (rw [if_neg (by have q_ := c8; simp at q_; omega)]; done) | (rw [if_neg (by have q_ := c8; simp at q_; omega)]; rfl)
                    rotate_left
                    · simp only [Act.put, List.setIfInBounds_toArray, List.set_cons_zero, List.set_cons_succ, i64_w, i32_w]
                      rfl
                    refine pure_ (i := 17) (N := some 12) (v := ?_) (a' := ?_) #[true, true, true, true, true, true, true, true, true, true, true, true, true, true, true, true, true, true] rfl rfl (any_of HT_.out (by kernel_rfl)) (fun _ _ _ h => h) (Or.inl ⟨by rfl, ?_⟩) ?_ ?_
                    rotate_left
                    · intro w'
                      go_simp
                      first | with_reducible rfl | (rw [if_neg (by have q_ := c15; have e0_ : (⟨#[58, 58]⟩ : ByteArray).size = 2 := rfl; simp at q_; omega)]; done) | (rw [if_neg (by have q_ := c15; have e0_ : (⟨#[58, 58]⟩ : ByteArray).size = 2 := rfl; simp at q_; omega)]; rfl) | (rw [if_neg (by have q_ := c13; have e0_ : (⟨#[58, 58]⟩ : ByteArray).size = 2 := rfl; simp at q_; omega)]; done) | (rw [if_neg (by have q_ := c13; have e0_ : (⟨#[58, 58]⟩ : ByteArray).size = 2 := rfl; simp at q_; omega)]; rfl) | (rw [if_neg (by have q_ := c8; simp at q_; omega)]; done) | (rw [if_neg (by have q_ := c8; simp at q_; omega)]; rfl)
                    rotate_left
                    · simp only [Act.put, List.setIfInBounds_toArray, List.set_cons_zero, List.set_cons_succ, i64_w, i32_w]
                      rfl
                    refine done_ (done_of HT_.out (by kernel_rfl)) ?_
                    try go_wp2
                    go_ret
                    exact ⟨by first | rfl | (simp [errW_none, errW_some] <;> rfl) | (simp only [← hji9, ← hji10]; first | rfl | (simp [errW_none, errW_some] <;> rfl)) | (simp [*, errW_none, errW_some] <;> rfl), by repeat (first | (with_reducible first | exact HB.out | apply below_alloc | apply pw_below_drewN | apply below_drew1) | exact HB.out)⟩
              · replace c49 := Bool.eq_false_iff.mpr c49
                subst c49
                have H1 : (some false) = some r := by rw [if_neg (show ¬ (false = true) by decide)] at H; exact H
                clear H
                have H := H1
                clear H1
                obtain rfl := Option.some.inj H
                go_enter Tryz.func10, Tryz.ntmps10
                try go_wp2_with (first | ((with_reducible refine own_gate (f := 11) rfl ?_); refine goesL_ (some 13) rfl rfl Tryz.func11 (by kernel_rfl) rfl #[] rfl (by (try simp only [List.map_toArray, List.map_cons, List.map_nil]); first | done | rfl | (simp only [List.length_drop, List.length_take]; rfl)) ?_; (with_reducible refine (latinerlaw15_shown.calls k  false _ ?side1 A4.out).mono ?_); (case side1 => exact GW.below hG (by repeat (first | (with_reducible first | exact HB.out | apply below_alloc | apply pw_below_drewN | apply below_drew1) | exact HB.out))); rintro e w73 ⟨rfl, hb⟩; refine ⟨_, rfl, ?_⟩; have n0_ := Aside0.mk (below_step (by repeat (first | (with_reducible first | exact HB.out | apply below_alloc | apply pw_below_drewN | apply below_drew1) | exact HB.out)) hb); clear HB; have HB := n0_; clear n0_; (try clear hb); (try clear hb2); (try clear hk); (try clear hi)) | ((with_reducible refine own_gate (f := 18) rfl ?_); refine goesL_ (some 15) rfl rfl Tryz.func18 (by kernel_rfl) rfl #[.string a0] rfl (by (try simp only [List.map_toArray, List.map_cons, List.map_nil]); first | done | rfl | (simp only [List.length_drop, List.length_take]; rfl)) ?_; (with_reducible refine (latinerlaw15_short.calls a0 t311 _ A5.out).mono ?_); rintro e w74 ⟨rfl, hb⟩; refine ⟨_, rfl, ?_⟩; have n0_ := Aside0.mk (below_step (by repeat (first | (with_reducible first | exact HB.out | apply below_alloc | apply pw_below_drewN | apply below_drew1) | exact HB.out)) hb); clear HB; have HB := n0_; clear n0_; (try clear hb); (try clear hb2); (try clear hk); (try clear hi)) | ((with_reducible refine own_gate (f := 18) rfl ?_); refine goesL_ (some 17) rfl rfl Tryz.func18 (by kernel_rfl) rfl #[.string a1] rfl (by (try simp only [List.map_toArray, List.map_cons, List.map_nil]); first | done | rfl | (simp only [List.length_drop, List.length_take]; rfl)) ?_; (with_reducible refine (latinerlaw15_short.calls a1 t312 _ A6.out).mono ?_); rintro e w75 ⟨rfl, hb⟩; refine ⟨_, rfl, ?_⟩; have n0_ := Aside0.mk (below_step (by repeat (first | (with_reducible first | exact HB.out | apply below_alloc | apply pw_below_drewN | apply below_drew1) | exact HB.out)) hb); clear HB; have HB := n0_; clear n0_; (try clear hb); (try clear hb2); (try clear hk); (try clear hi)) | ((with_reducible refine own_gate (f := 19) rfl ?_); refine goesL_ (some 20) rfl rfl Tryz.func19 (by kernel_rfl) rfl #[.string t311, .string (⟨#[120]⟩ : ByteArray)] rfl (by (try simp only [List.map_toArray, List.map_cons, List.map_nil]); first | done | rfl | (simp only [List.length_drop, List.length_take]; rfl)) ?_; (with_reducible refine (fold_Item.calls t311 (⟨#[120]⟩ : ByteArray) t313 t314 _ ?side1 A7.out).mono ?_); (case side1 => exact GW.below hG (by repeat (first | (with_reducible first | exact HB.out | apply below_alloc | apply pw_below_drewN | apply below_drew1) | exact HB.out))); rintro e w76 ⟨rfl, hb⟩; refine ⟨_, rfl, ?_⟩; have n0_ := Aside0.mk (below_step (by repeat (first | (with_reducible first | exact HB.out | apply below_alloc | apply pw_below_drewN | apply below_drew1) | exact HB.out)) hb); clear HB; have HB := n0_; clear n0_; (try clear hb); (try clear hb2); (try clear hk); (try clear hi)))
                have n0_ := Aside0.mk (below_drew1 HB.out)
                clear HB
                have HB := n0_
                clear n0_
                refine start_ (n := 18) (S := fun w' => True) (ds := []) #[false, false, false, false, false, false, false, false, false, false, false, false, false, false, false, false, false, false] (by kernel_rfl) rfl rfl trivial (fun hHeld => ?_); refine with_tabW latinerlaw15_FoldBase.tab5 latinerlaw15_FoldBase.bits5 (fun HT_ HW_ => ?_)
                generalize w76.drew = w77 at HB hHeld ⊢
                refine pure_ (i := 0) (N := some 24) (v := ?_) (a' := ?_) #[true, false, false, false, false, false, false, false, false, false, false, false, false, false, false, false, false, false] rfl rfl (any_of HT_.out (by kernel_rfl)) (fun _ _ _ h => h) (Or.inl ⟨by rfl, ?_⟩) ?_ ?_
                rotate_left
                · intro w'
                  go_simp
                  first | with_reducible rfl | (rw [if_neg (by have q_ := c15; have e0_ : (⟨#[58, 58]⟩ : ByteArray).size = 2 := rfl; simp at q_; omega)]; done) | (rw [if_neg (by have q_ := c15; have e0_ : (⟨#[58, 58]⟩ : ByteArray).size = 2 := rfl; simp at q_; omega)]; rfl) | (rw [if_neg (by have q_ := c13; have e0_ : (⟨#[58, 58]⟩ : ByteArray).size = 2 := rfl; simp at q_; omega)]; done) | (rw [if_neg (by have q_ := c13; have e0_ : (⟨#[58, 58]⟩ : ByteArray).size = 2 := rfl; simp at q_; omega)]; rfl) | (rw [if_neg (by have q_ := c8; simp at q_; omega)]; done) | (rw [if_neg (by have q_ := c8; simp at q_; omega)]; rfl)
                rotate_left
                · simp only [Act.put, List.setIfInBounds_toArray, List.set_cons_zero, List.set_cons_succ, i64_w, i32_w]
                  rfl
                refine pure_ (i := 1) (N := some 25) (v := ?_) (a' := ?_) #[true, true, false, false, false, false, false, false, false, false, false, false, false, false, false, false, false, false] rfl rfl (any_of HT_.out (by kernel_rfl)) (fun _ _ _ h => h) (Or.inl ⟨by rfl, ?_⟩) ?_ ?_
                rotate_left
                · intro w'
                  go_simp
                  first | with_reducible rfl | (rw [if_neg (by have q_ := c15; have e0_ : (⟨#[58, 58]⟩ : ByteArray).size = 2 := rfl; simp at q_; omega)]; done) | (rw [if_neg (by have q_ := c15; have e0_ : (⟨#[58, 58]⟩ : ByteArray).size = 2 := rfl; simp at q_; omega)]; rfl) | (rw [if_neg (by have q_ := c13; have e0_ : (⟨#[58, 58]⟩ : ByteArray).size = 2 := rfl; simp at q_; omega)]; done) | (rw [if_neg (by have q_ := c13; have e0_ : (⟨#[58, 58]⟩ : ByteArray).size = 2 := rfl; simp at q_; omega)]; rfl) | (rw [if_neg (by have q_ := c8; simp at q_; omega)]; done) | (rw [if_neg (by have q_ := c8; simp at q_; omega)]; rfl)
                rotate_left
                · simp only [Act.put, List.setIfInBounds_toArray, List.set_cons_zero, List.set_cons_succ, i64_w, i32_w]
                  rfl
                refine pure_ (i := 2) (N := some 26) (v := ?_) (a' := ?_) #[true, true, true, false, false, false, false, false, false, false, false, false, false, false, false, false, false, false] rfl rfl (any_of HT_.out (by kernel_rfl)) (fun _ _ _ h => h) (Or.inl ⟨by rfl, ?_⟩) ?_ ?_
                rotate_left
                · intro w'
                  go_simp
                  first | with_reducible rfl | (rw [if_neg (by have q_ := c15; have e0_ : (⟨#[58, 58]⟩ : ByteArray).size = 2 := rfl; simp at q_; omega)]; done) | (rw [if_neg (by have q_ := c15; have e0_ : (⟨#[58, 58]⟩ : ByteArray).size = 2 := rfl; simp at q_; omega)]; rfl) | (rw [if_neg (by have q_ := c13; have e0_ : (⟨#[58, 58]⟩ : ByteArray).size = 2 := rfl; simp at q_; omega)]; done) | (rw [if_neg (by have q_ := c13; have e0_ : (⟨#[58, 58]⟩ : ByteArray).size = 2 := rfl; simp at q_; omega)]; rfl) | (rw [if_neg (by have q_ := c8; simp at q_; omega)]; done) | (rw [if_neg (by have q_ := c8; simp at q_; omega)]; rfl)
                rotate_left
                · simp only [Act.put, List.setIfInBounds_toArray, List.set_cons_zero, List.set_cons_succ, i64_w, i32_w]
                  rfl
                refine pure_ (i := 3) (N := some 27) (v := ?_) (a' := ?_) #[true, true, true, true, false, false, false, false, false, false, false, false, false, false, false, false, false, false] rfl rfl (any_of HT_.out (by kernel_rfl)) (fun _ _ _ h => h) (Or.inl ⟨by rfl, ?_⟩) ?_ ?_
                rotate_left
                · intro w'
                  go_simp
                  first | with_reducible rfl | (rw [if_neg (by have q_ := c15; have e0_ : (⟨#[58, 58]⟩ : ByteArray).size = 2 := rfl; simp at q_; omega)]; done) | (rw [if_neg (by have q_ := c15; have e0_ : (⟨#[58, 58]⟩ : ByteArray).size = 2 := rfl; simp at q_; omega)]; rfl) | (rw [if_neg (by have q_ := c13; have e0_ : (⟨#[58, 58]⟩ : ByteArray).size = 2 := rfl; simp at q_; omega)]; done) | (rw [if_neg (by have q_ := c13; have e0_ : (⟨#[58, 58]⟩ : ByteArray).size = 2 := rfl; simp at q_; omega)]; rfl) | (rw [if_neg (by have q_ := c8; simp at q_; omega)]; done) | (rw [if_neg (by have q_ := c8; simp at q_; omega)]; rfl)
                rotate_left
                · simp only [Act.put, List.setIfInBounds_toArray, List.set_cons_zero, List.set_cons_succ, i64_w, i32_w]
                  rfl
                refine pure_ (i := 4) (N := some 28) (v := ?_) (a' := ?_) #[true, true, true, true, true, false, false, false, false, false, false, false, false, false, false, false, false, false] rfl rfl (any_of HT_.out (by kernel_rfl)) (fun _ _ _ h => h) (Or.inl ⟨by rfl, ?_⟩) ?_ ?_
                rotate_left
                · intro w'
                  go_simp
                  first | with_reducible rfl | (rw [if_neg (by have q_ := c15; have e0_ : (⟨#[58, 58]⟩ : ByteArray).size = 2 := rfl; simp at q_; omega)]; done) | (rw [if_neg (by have q_ := c15; have e0_ : (⟨#[58, 58]⟩ : ByteArray).size = 2 := rfl; simp at q_; omega)]; rfl) | (rw [if_neg (by have q_ := c13; have e0_ : (⟨#[58, 58]⟩ : ByteArray).size = 2 := rfl; simp at q_; omega)]; done) | (rw [if_neg (by have q_ := c13; have e0_ : (⟨#[58, 58]⟩ : ByteArray).size = 2 := rfl; simp at q_; omega)]; rfl) | (rw [if_neg (by have q_ := c8; simp at q_; omega)]; done) | (rw [if_neg (by have q_ := c8; simp at q_; omega)]; rfl)
                rotate_left
                · simp only [Act.put, List.setIfInBounds_toArray, List.set_cons_zero, List.set_cons_succ, i64_w, i32_w]
                  rfl
                refine pure_ (i := 5) (N := some 29) (v := ?_) (a' := ?_) #[true, true, true, true, true, true, false, false, false, false, false, false, false, false, false, false, false, false] rfl rfl (any_of HT_.out (by kernel_rfl)) (fun _ _ _ h => h) (Or.inl ⟨by rfl, ?_⟩) ?_ ?_
                rotate_left
                · intro w'
                  go_simp
                  first | with_reducible rfl | (rw [if_neg (by have q_ := c15; have e0_ : (⟨#[58, 58]⟩ : ByteArray).size = 2 := rfl; simp at q_; omega)]; done) | (rw [if_neg (by have q_ := c15; have e0_ : (⟨#[58, 58]⟩ : ByteArray).size = 2 := rfl; simp at q_; omega)]; rfl) | (rw [if_neg (by have q_ := c13; have e0_ : (⟨#[58, 58]⟩ : ByteArray).size = 2 := rfl; simp at q_; omega)]; done) | (rw [if_neg (by have q_ := c13; have e0_ : (⟨#[58, 58]⟩ : ByteArray).size = 2 := rfl; simp at q_; omega)]; rfl) | (rw [if_neg (by have q_ := c8; simp at q_; omega)]; done) | (rw [if_neg (by have q_ := c8; simp at q_; omega)]; rfl)
                rotate_left
                · simp only [Act.put, List.setIfInBounds_toArray, List.set_cons_zero, List.set_cons_succ, i64_w, i32_w]
                  rfl
                refine pure_ (i := 6) (N := some 30) (v := ?_) (a' := ?_) #[true, true, true, true, true, true, true, false, false, false, false, false, false, false, false, false, false, false] rfl rfl (any_of HT_.out (by kernel_rfl)) (fun _ _ _ h => h) (Or.inl ⟨by rfl, ?_⟩) ?_ ?_
                rotate_left
                · intro w'
                  go_simp
                  first | with_reducible rfl | (rw [if_neg (by have q_ := c15; have e0_ : (⟨#[58, 58]⟩ : ByteArray).size = 2 := rfl; simp at q_; omega)]; done) | (rw [if_neg (by have q_ := c15; have e0_ : (⟨#[58, 58]⟩ : ByteArray).size = 2 := rfl; simp at q_; omega)]; rfl) | (rw [if_neg (by have q_ := c13; have e0_ : (⟨#[58, 58]⟩ : ByteArray).size = 2 := rfl; simp at q_; omega)]; done) | (rw [if_neg (by have q_ := c13; have e0_ : (⟨#[58, 58]⟩ : ByteArray).size = 2 := rfl; simp at q_; omega)]; rfl) | (rw [if_neg (by have q_ := c8; simp at q_; omega)]; done) | (rw [if_neg (by have q_ := c8; simp at q_; omega)]; rfl)
                rotate_left
                · simp only [Act.put, List.setIfInBounds_toArray, List.set_cons_zero, List.set_cons_succ, i64_w, i32_w]
                  rfl
                refine pure_ (i := 7) (N := some 31) (v := ?_) (a' := ?_) #[true, true, true, true, true, true, true, true, false, false, false, false, false, false, false, false, false, false] rfl rfl (any_of HT_.out (by kernel_rfl)) (fun _ _ _ h => h) (Or.inl ⟨by rfl, ?_⟩) ?_ ?_
                rotate_left
                · intro w'
                  go_simp
                  first | with_reducible rfl | (rw [if_neg (by have q_ := c15; have e0_ : (⟨#[58, 58]⟩ : ByteArray).size = 2 := rfl; simp at q_; omega)]; done) | (rw [if_neg (by have q_ := c15; have e0_ : (⟨#[58, 58]⟩ : ByteArray).size = 2 := rfl; simp at q_; omega)]; rfl) | (rw [if_neg (by have q_ := c13; have e0_ : (⟨#[58, 58]⟩ : ByteArray).size = 2 := rfl; simp at q_; omega)]; done) | (rw [if_neg (by have q_ := c13; have e0_ : (⟨#[58, 58]⟩ : ByteArray).size = 2 := rfl; simp at q_; omega)]; rfl) | (rw [if_neg (by have q_ := c8; simp at q_; omega)]; done) | (rw [if_neg (by have q_ := c8; simp at q_; omega)]; rfl)
                rotate_left
                · simp only [Act.put, List.setIfInBounds_toArray, List.set_cons_zero, List.set_cons_succ, i64_w, i32_w]
                  rfl
                refine one_ (i := 8) (N := some 32) #[true, true, true, true, true, true, true, true, true, false, false, false, false, false, false, false, false, false] rfl rfl (one_of HT_.out (by kernel_rfl)) (by decide) (fun K hK => ?_)
                refine goes_ Tryz.func23 (by kernel_rfl) rfl #[.string t312] (by rfl) rfl rfl (by (try simp only [List.map_toArray, List.map_cons, List.map_nil]); first | done | rfl | (simp only [List.length_drop, List.length_take]; rfl)) ?_
                with_reducible refine (code_Base.calls t312 t315 _ ?side1 A14.out).mono ?_
                (case side1 => exact GW.below hG (by repeat (first | (with_reducible first | exact HB.out | apply below_alloc | apply pw_below_drewN | apply below_drew1) | exact HB.out)))
                rintro e w78 ⟨rfl, hb⟩
                refine ⟨_, rfl, ?_⟩
                have n0_ := Aside0.mk (below_step (by repeat (first | (with_reducible first | exact HB.out | apply below_alloc | apply pw_below_drewN | apply below_drew1) | exact HB.out)) hb)
                clear HB
                have HB := n0_
                clear n0_
                (try clear hb)
                (try clear hb2)
                (try clear hk)
                (try clear hi)
                refine hK.out _ _ trivial (fun hHeld => ?_)
                clear hK K
                refine norm_ (a' := ?_) ?_ ?_
                rotate_left
                · show Act.put _ (some 32) _ = _
                  simp only [Act.put, List.setIfInBounds_toArray, List.set_cons_zero, List.set_cons_succ, i64_w, i32_w]
                  rfl
                refine pure_ (i := 9) (N := some 33) (v := ?_) (a' := ?_) #[true, true, true, true, true, true, true, true, true, true, false, false, false, false, false, false, false, false] rfl rfl (any_of HT_.out (by kernel_rfl)) (fun _ _ _ h => h) (Or.inl ⟨by rfl, ?_⟩) ?_ ?_
                rotate_left
                · intro w'
                  go_simp
                  first | with_reducible rfl | (rw [if_neg (by have q_ := c15; have e0_ : (⟨#[58, 58]⟩ : ByteArray).size = 2 := rfl; simp at q_; omega)]; done) | (rw [if_neg (by have q_ := c15; have e0_ : (⟨#[58, 58]⟩ : ByteArray).size = 2 := rfl; simp at q_; omega)]; rfl) | (rw [if_neg (by have q_ := c13; have e0_ : (⟨#[58, 58]⟩ : ByteArray).size = 2 := rfl; simp at q_; omega)]; done) | (rw [if_neg (by have q_ := c13; have e0_ : (⟨#[58, 58]⟩ : ByteArray).size = 2 := rfl; simp at q_; omega)]; rfl) | (rw [if_neg (by have q_ := c8; simp at q_; omega)]; done) | (rw [if_neg (by have q_ := c8; simp at q_; omega)]; rfl)
                rotate_left
                · simp only [Act.put, List.setIfInBounds_toArray, List.set_cons_zero, List.set_cons_succ, i64_w, i32_w]
                  rfl
                refine one_ (i := 10) (N := some 34) #[true, true, true, true, true, true, true, true, true, true, true, false, false, false, false, false, false, false] rfl rfl (one_of HT_.out (by kernel_rfl)) (by decide) (fun K hK => ?_)
                refine goes_ Tryz.func21 (by kernel_rfl) rfl #[.string (((t311 ++ (⟨#[58, 58]⟩ : ByteArray)) ++ sx10_0) ++ t315)] (by rfl) rfl rfl (by (try simp only [List.map_toArray, List.map_cons, List.map_nil]); first | done | (simp only [hji10]; rfl) | rfl | (simp only [List.length_drop, List.length_take]; rfl)) ?_
                with_reducible refine (fold_ReadItem.calls (((t311 ++ (⟨#[58, 58]⟩ : ByteArray)) ++ sx10_0) ++ t315) t316 t317 t318 _ ?side1 A16.out).mono ?_
                (case side1 => exact GW.below hG (by repeat (first | (with_reducible first | exact HB.out | apply below_alloc | apply pw_below_drewN | apply below_drew1) | exact HB.out)))
                rintro e w79 ⟨rfl, hb⟩
                refine ⟨_, rfl, ?_⟩
                have n0_ := Aside0.mk (below_step (by repeat (first | (with_reducible first | exact HB.out | apply below_alloc | apply pw_below_drewN | apply below_drew1) | exact HB.out)) hb)
                clear HB
                have HB := n0_
                clear n0_
                (try clear hb)
                (try clear hb2)
                (try clear hk)
                (try clear hi)
                refine hK.out _ _ trivial (fun hHeld => ?_)
                clear hK K
                refine norm_ (a' := ?_) ?_ ?_
                rotate_left
                · show Act.put _ (some 34) _ = _
                  simp only [Act.put, List.setIfInBounds_toArray, List.set_cons_zero, List.set_cons_succ, i64_w, i32_w]
                  rfl
                refine pure_ (i := 11) (N := some 23) (v := ?_) (a' := ?_) #[true, true, true, true, true, true, true, true, true, true, true, true, false, false, false, false, false, false] rfl rfl (any_of HT_.out (by kernel_rfl)) (fun _ _ _ h => h) (Or.inl ⟨by rfl, ?_⟩) ?_ ?_
                rotate_left
                · intro w'
                  go_simp
                  first | with_reducible rfl | (rw [if_neg (by have q_ := c15; have e0_ : (⟨#[58, 58]⟩ : ByteArray).size = 2 := rfl; simp at q_; omega)]; done) | (rw [if_neg (by have q_ := c15; have e0_ : (⟨#[58, 58]⟩ : ByteArray).size = 2 := rfl; simp at q_; omega)]; rfl) | (rw [if_neg (by have q_ := c13; have e0_ : (⟨#[58, 58]⟩ : ByteArray).size = 2 := rfl; simp at q_; omega)]; done) | (rw [if_neg (by have q_ := c13; have e0_ : (⟨#[58, 58]⟩ : ByteArray).size = 2 := rfl; simp at q_; omega)]; rfl) | (rw [if_neg (by have q_ := c8; simp at q_; omega)]; done) | (rw [if_neg (by have q_ := c8; simp at q_; omega)]; rfl)
                rotate_left
                · simp only [Act.put, List.setIfInBounds_toArray, List.set_cons_zero, List.set_cons_succ, i64_w, i32_w]
                  rfl
                refine pure_ (i := 12) (N := some 35) (v := ?_) (a' := ?_) #[true, true, true, true, true, true, true, true, true, true, true, true, true, false, false, false, false, false] rfl rfl (any_of HT_.out (by kernel_rfl)) (fun _ _ _ h => h) (Or.inl ⟨by rfl, ?_⟩) ?_ ?_
                rotate_left
                · intro w'
                  go_simp
                  first | with_reducible rfl | (rw [if_neg (by have q_ := c15; have e0_ : (⟨#[58, 58]⟩ : ByteArray).size = 2 := rfl; simp at q_; omega)]; done) | (rw [if_neg (by have q_ := c15; have e0_ : (⟨#[58, 58]⟩ : ByteArray).size = 2 := rfl; simp at q_; omega)]; rfl) | (rw [if_neg (by have q_ := c13; have e0_ : (⟨#[58, 58]⟩ : ByteArray).size = 2 := rfl; simp at q_; omega)]; done) | (rw [if_neg (by have q_ := c13; have e0_ : (⟨#[58, 58]⟩ : ByteArray).size = 2 := rfl; simp at q_; omega)]; rfl) | (rw [if_neg (by have q_ := c8; simp at q_; omega)]; done) | (rw [if_neg (by have q_ := c8; simp at q_; omega)]; rfl)
                rotate_left
                · simp only [Act.put, List.setIfInBounds_toArray, List.set_cons_zero, List.set_cons_succ, i64_w, i32_w]
                  rfl
                refine pure_ (i := 13) (N := some 36) (v := ?_) (a' := ?_) #[true, true, true, true, true, true, true, true, true, true, true, true, true, true, false, false, false, false] rfl rfl (any_of HT_.out (by kernel_rfl)) (fun _ _ _ h => h) (Or.inl ⟨by rfl, ?_⟩) ?_ ?_
                rotate_left
                · intro w'
                  go_simp
                  first | with_reducible rfl | (rw [if_neg (by have q_ := c15; have e0_ : (⟨#[58, 58]⟩ : ByteArray).size = 2 := rfl; simp at q_; omega)]; done) | (rw [if_neg (by have q_ := c15; have e0_ : (⟨#[58, 58]⟩ : ByteArray).size = 2 := rfl; simp at q_; omega)]; rfl) | (rw [if_neg (by have q_ := c13; have e0_ : (⟨#[58, 58]⟩ : ByteArray).size = 2 := rfl; simp at q_; omega)]; done) | (rw [if_neg (by have q_ := c13; have e0_ : (⟨#[58, 58]⟩ : ByteArray).size = 2 := rfl; simp at q_; omega)]; rfl) | (rw [if_neg (by have q_ := c8; simp at q_; omega)]; done) | (rw [if_neg (by have q_ := c8; simp at q_; omega)]; rfl)
                rotate_left
                · simp only [Act.put, List.setIfInBounds_toArray, List.set_cons_zero, List.set_cons_succ, i64_w, i32_w]
                  rfl
                refine pure_ (i := 14) (N := some 37) (v := ?_) (a' := ?_) #[true, true, true, true, true, true, true, true, true, true, true, true, true, true, true, false, false, false] rfl rfl (any_of HT_.out (by kernel_rfl)) (fun _ _ _ h => h) (Or.inl ⟨by rfl, ?_⟩) ?_ ?_
                rotate_left
                · intro w'
                  go_simp
                  first | with_reducible rfl | (rw [if_neg (by have q_ := c15; have e0_ : (⟨#[58, 58]⟩ : ByteArray).size = 2 := rfl; simp at q_; omega)]; done) | (rw [if_neg (by have q_ := c15; have e0_ : (⟨#[58, 58]⟩ : ByteArray).size = 2 := rfl; simp at q_; omega)]; rfl) | (rw [if_neg (by have q_ := c13; have e0_ : (⟨#[58, 58]⟩ : ByteArray).size = 2 := rfl; simp at q_; omega)]; done) | (rw [if_neg (by have q_ := c13; have e0_ : (⟨#[58, 58]⟩ : ByteArray).size = 2 := rfl; simp at q_; omega)]; rfl) | (rw [if_neg (by have q_ := c8; simp at q_; omega)]; done) | (rw [if_neg (by have q_ := c8; simp at q_; omega)]; rfl)
                rotate_left
                · simp only [Act.put, List.setIfInBounds_toArray, List.set_cons_zero, List.set_cons_succ, i64_w, i32_w]
                  rfl
                refine pure_ (i := 15) (N := some 10) (v := ?_) (a' := ?_) #[true, true, true, true, true, true, true, true, true, true, true, true, true, true, true, true, false, false] rfl rfl (any_of HT_.out (by kernel_rfl)) (fun _ _ _ h => h) (Or.inl ⟨by rfl, ?_⟩) ?_ ?_
                rotate_left
                · intro w'
                  go_simp
                  first | with_reducible rfl | (rw [if_neg (by have q_ := c15; have e0_ : (⟨#[58, 58]⟩ : ByteArray).size = 2 := rfl; simp at q_; omega)]; done) | (rw [if_neg (by have q_ := c15; have e0_ : (⟨#[58, 58]⟩ : ByteArray).size = 2 := rfl; simp at q_; omega)]; rfl) | (rw [if_neg (by have q_ := c13; have e0_ : (⟨#[58, 58]⟩ : ByteArray).size = 2 := rfl; simp at q_; omega)]; done) | (rw [if_neg (by have q_ := c13; have e0_ : (⟨#[58, 58]⟩ : ByteArray).size = 2 := rfl; simp at q_; omega)]; rfl) | (rw [if_neg (by have q_ := c8; simp at q_; omega)]; done) | (rw [if_neg (by have q_ := c8; simp at q_; omega)]; rfl)
                rotate_left
                · simp only [Act.put, List.setIfInBounds_toArray, List.set_cons_zero, List.set_cons_succ, i64_w, i32_w]
                  rfl
                refine pure_ (i := 16) (N := some 11) (v := ?_) (a' := ?_) #[true, true, true, true, true, true, true, true, true, true, true, true, true, true, true, true, true, false] rfl rfl (any_of HT_.out (by kernel_rfl)) (fun _ _ _ h => h) (Or.inl ⟨by rfl, ?_⟩) ?_ ?_
                rotate_left
                · intro w'
                  go_simp
                  first | with_reducible rfl | (rw [if_neg (by have q_ := c15; have e0_ : (⟨#[58, 58]⟩ : ByteArray).size = 2 := rfl; simp at q_; omega)]; done) | (rw [if_neg (by have q_ := c15; have e0_ : (⟨#[58, 58]⟩ : ByteArray).size = 2 := rfl; simp at q_; omega)]; rfl) | (rw [if_neg (by have q_ := c13; have e0_ : (⟨#[58, 58]⟩ : ByteArray).size = 2 := rfl; simp at q_; omega)]; done) | (rw [if_neg (by have q_ := c13; have e0_ : (⟨#[58, 58]⟩ : ByteArray).size = 2 := rfl; simp at q_; omega)]; rfl) | (rw [if_neg (by have q_ := c8; simp at q_; omega)]; done) | (rw [if_neg (by have q_ := c8; simp at q_; omega)]; rfl)
                rotate_left
                · simp only [Act.put, List.setIfInBounds_toArray, List.set_cons_zero, List.set_cons_succ, i64_w, i32_w]
                  rfl
                refine pure_ (i := 17) (N := some 12) (v := ?_) (a' := ?_) #[true, true, true, true, true, true, true, true, true, true, true, true, true, true, true, true, true, true] rfl rfl (any_of HT_.out (by kernel_rfl)) (fun _ _ _ h => h) (Or.inl ⟨by rfl, ?_⟩) ?_ ?_
                rotate_left
                · intro w'
                  go_simp
                  first | with_reducible rfl | (rw [if_neg (by have q_ := c15; have e0_ : (⟨#[58, 58]⟩ : ByteArray).size = 2 := rfl; simp at q_; omega)]; done) | (rw [if_neg (by have q_ := c15; have e0_ : (⟨#[58, 58]⟩ : ByteArray).size = 2 := rfl; simp at q_; omega)]; rfl) | (rw [if_neg (by have q_ := c13; have e0_ : (⟨#[58, 58]⟩ : ByteArray).size = 2 := rfl; simp at q_; omega)]; done) | (rw [if_neg (by have q_ := c13; have e0_ : (⟨#[58, 58]⟩ : ByteArray).size = 2 := rfl; simp at q_; omega)]; rfl) | (rw [if_neg (by have q_ := c8; simp at q_; omega)]; done) | (rw [if_neg (by have q_ := c8; simp at q_; omega)]; rfl)
                rotate_left
                · simp only [Act.put, List.setIfInBounds_toArray, List.set_cons_zero, List.set_cons_succ, i64_w, i32_w]
                  rfl
                refine done_ (done_of HT_.out (by kernel_rfl)) ?_
                try go_wp2
                go_ret
                exact ⟨by first | rfl | (simp [errW_none, errW_some] <;> rfl) | (simp only [← hji9, ← hji10]; first | rfl | (simp [errW_none, errW_some] <;> rfl)) | (simp [*, errW_none, errW_some] <;> rfl), by repeat (first | (with_reducible first | exact HB.out | apply below_alloc | apply pw_below_drewN | apply below_drew1) | exact HB.out)⟩
          · rw [if_neg c15] at H
            exact absurd H (by simp)
        · rw [if_neg c13] at H
          exact absurd H (by simp)
      · rw [if_neg c12] at H
        exact absurd H (by simp)
    · rw [if_neg c11] at H
      exact absurd H (by simp)
  · rw [if_neg c8] at H
    exact absurd H (by simp)

/-- THE ONE PURE STATEMENT of latinerlaw15_FoldBase: yours. -/
def latinerlaw15_FoldBase.Pure : Prop := ∀ (a0 : ByteArray) (a1 : ByteArray) (a2 : Int), a0.size ≤ 140737488351232 → a1.size ≤ 140737488351232 → (Lit.int .i64 a2).wf = true → ∃ k, latinerlaw15_FoldBase.f k a0 a1 a2 = some true
theorem latinerlaw15_FoldBase.walk (P : latinerlaw15_FoldBase.Pure) (a0 : ByteArray) (a1 : ByteArray) (a2 : Int) (w : World) (w0 : a0.size ≤ 140737488351232) (w1 : a1.size ≤ 140737488351232) (w2 : (Lit.int .i64 a2).wf = true) (hG : GW w) :
    Calls Tryz.prog 10 #[.string a0, .string a1, .int .i64 a2] w fun e w' => e = .returned (.bool true) ∧ Below w.heap.size w w' := by
  obtain ⟨k, h⟩ := P a0 a1 a2 w0 w1 w2
  refine (latinerlaw15_FoldBase.calls k a0 a1 a2 true w hG h).mono ?_
  rintro e w' ⟨rfl, hd⟩
  exact ⟨rfl, hd⟩

end Go.Proofs.YtjnfoocmilbdlaaGreatDoor.LFold
-- Written by this repo's own program over the kit's printer: YtjnfoocmilbdlaaGreatDoor.LFold
namespace Go.Proofs.YtjnfoocmilbdlaaGreatDoor.LFold
open Go.Proofs.YtjnfoocmilbdlaaGreatDoor.ExtFold
open Go.RowKit Go.Proofs.YtjnfoocmilbdlaaGreatDoorW.PrintWords Go.Proofs.YtjnfoocmilbdlaaGreatDoorW.PrintLast Go.Proofs.YtjnfoocmilbdlaaGreatDoorW2
attribute [local go_sem] own_max2 own_min2 own_maxs own_mins
set_option linter.unusedVariables false
set_option linter.unusedSimpArgs false

/-! ### latinerlaw15_FoldBack: function 5 -/
/-! ### latinerlaw15_FoldRead: function 6 -/
end Go.Proofs.YtjnfoocmilbdlaaGreatDoor.LFold
/- What is unfolded of what is folded, of two texts, of a text behind a note, of one whose rows end with 0d 0a. No program in sight. -/
namespace Go.Proofs.YtjnfoocmilbdlaaGreatDoor
set_option linter.unusedSimpArgs false
set_option linter.unusedVariables false
namespace Fold
open Go.Proofs.YtjnfoocmilbdlaaGreatDoor.Code (Byt)
/-! Folded and unfolded. -/
def headOk (l : List Int) : Prop := ∀ c r, l = c :: r → c ≠ 32 ∧ c ≠ 35
/-! A line kept apart from what follows it. -/
/-! Rows that end with 0d 0a. -/
end Fold
end Go.Proofs.YtjnfoocmilbdlaaGreatDoor
namespace Go.Proofs.YtjnfoocmilbdlaaGreatDoor.Pure
set_option linter.unusedSimpArgs false
set_option linter.unusedVariables false
open Go.RowKit Go.Proofs.YtjnfoocmilbdlaaGreatDoor.LFold Go.Proofs.YtjnfoocmilbdlaaGreatDoor.ExtFold Go.Proofs.YtjnfoocmilbdlaaGreatDoor.Fold Go.Proofs.YtjnfoocmilbdlaaGreatDoorW.PrintWords Go.Proofs.YtjnfoocmilbdlaaGreatDoorW2 Go.Proofs.YtjnfoocmilbdlaaGreatDoorW.PrintLast Go.Proofs.YtjnfoocmilbdlaaGreatDoor.PureB
open Go.Proofs.YtjnfoocmilbdlaaGreatDoor.Code (bl bl_len bl_get bl_byte Byt bl_son son_bl bl_append)
set_option maxRecDepth 100000 in
theorem shown_10 : latinerlaw15_shown.f 10 = some true := by decide +kernel
theorem shown_true : ∀ n : Nat, latinerlaw15_shown.f (10 + n) = some true
  | 0 => shown_10
  | n + 1 => latinerlaw15_shown.mono (10 + n) _ (shown_true n)
theorem shown_k (k : Nat) (h : 10 ≤ k) : latinerlaw15_shown.f k = some true := by
  have := shown_true (k - 10)
  rwa [show 10 + (k - 10) = k by omega] at this
theorem item_f (n v : ByteArray) (h1 : n.size ≤ 100000) (h2 : v.size ≤ 100000) : fold_Item.f n v = some (itS n v, itE n) := if_pos ⟨h1, h2⟩
theorem read_f (s : ByteArray) (h : s.size ≤ 100000) : fold_ReadItem.f s = some (rdName (riR (bl s)), rdVal (riR (bl s)), rdErr (riR (bl s))) := if_pos h
theorem cut_of (s : ByteArray) (m : Int) (h0 : 0 ≤ m) : 0 ≤ lesser (s.size : Int) m ∧ lesser (s.size : Int) m ≤ s.size ∧ lesser (s.size : Int) m ≤ m := by
  unfold lesser; split <;> omega
theorem cut_sz (s : ByteArray) (m : Nat) : (s.extract 0 (lesser (s.size : Int) m).toNat).size ≤ m := by
  have := cut_of s m (by omega)
  rw [ByteArray.size_extract]
  omega
end Go.Proofs.YtjnfoocmilbdlaaGreatDoor.Pure
/- What is read of an item's line, and of a line with a value's base64. No program in sight. -/
namespace Go.Proofs.YtjnfoocmilbdlaaGreatDoor
set_option linter.unusedSimpArgs false
set_option linter.unusedVariables false
namespace Fold
open Go.RowKit Go.Proofs.YtjnfoocmilbdlaaGreatDoorW.PrintWords Go.Proofs.YtjnfoocmilbdlaaGreatDoor.PureB Go.Proofs.YtjnfoocmilbdlaaGreatDoor.Utf
open Go.Proofs.YtjnfoocmilbdlaaGreatDoor.Code (bl bl_len bl_get bl_byte Byt bl_son son_bl bl_append baseL baseL_len unbL b64 b64_byte unb_base)
theorem baseL_ch : ∀ (l : List Int), Byt l → ∀ y ∈ baseL l, 43 ≤ y ∧ y ≤ 122
  | [], _ => by intro y hy; simp [baseL] at hy
  | [a], h => by
    have ha := h a (by simp)
    have b1 := b64_byte (a / 4) (by omega) (by omega)
    have b2 := b64_byte (a % 4 * 16) (by omega) (by omega)
    intro y hy
    simp [baseL] at hy
    rcases hy with rfl | rfl | rfl <;> omega
  | [a, b], h => by
    have ha := h a (by simp)
    have hb := h b (by simp)
    have b1 := b64_byte (a / 4) (by omega) (by omega)
    have b2 := b64_byte (a % 4 * 16 + b / 16) (by omega) (by omega)
    have b3 := b64_byte (b % 16 * 4) (by omega) (by omega)
    intro y hy
    simp [baseL] at hy
    rcases hy with rfl | rfl | rfl | rfl <;> omega
  | a :: b :: c :: r, h => by
    have ha := h a (by simp)
    have hb := h b (by simp)
    have hc := h c (by simp)
    have b1 := b64_byte (a / 4) (by omega) (by omega)
    have b2 := b64_byte (a % 4 * 16 + b / 16) (by omega) (by omega)
    have b3 := b64_byte (b % 16 * 4 + c / 64) (by omega) (by omega)
    have b4 := b64_byte (c % 64) (by omega) (by omega)
    intro y hy
    simp only [baseL] at hy
    rcases List.mem_append.1 hy with q | q
    · simp at q
      rcases q with rfl | rfl | rfl | rfl <;> omega
    · exact baseL_ch r (fun x hx => h x (by simp [hx])) y q
theorem nm_facts (l : List Int) (h : nmB l = true) : l ≠ [] ∧ (∀ x ∈ l, 33 ≤ x ∧ x ≤ 126 ∧ x ≠ 58) ∧ headOk l ∧ (58 : Int) ∉ l := by
  cases l with
  | nil => cases h
  | cons c r =>
    simp only [nmB, Bool.and_eq_true, decide_eq_true_eq, List.all_eq_true] at h
    refine ⟨by simp, h.2, fun c' r' e => ?_, fun e => (h.2 _ e).2.2 rfl⟩
    obtain ⟨rfl, _⟩ := List.cons.inj e
    have := h.2 c (by simp)
    exact ⟨by omega, h.1⟩
theorem blanks_not (l : List Int) (h : ∀ c r, l = c :: r → c ≠ 32) : blanks l = l := by
  cases l with
  | nil => rfl
  | cons c r => simp only [blanks]; rw [if_neg (h c r rfl)]
/-- blanks ahead do not count -/
theorem blanks_rep (n : Nat) (l : List Int) : blanks (List.replicate n 32 ++ l) = blanks l := by
  induction n with
  | zero => rfl
  | succ n ih => rw [List.replicate_succ, List.cons_append]; simp only [blanks, if_true]; exact ih
/-- a line of a name, ::, blanks, base64 -/
theorem ri_base (a v : List Int) (k : Nat) (ha : a ≠ []) (h58 : (58 : Int) ∉ a) (hv : Byt v) : riR (a ++ 58 :: 58 :: (List.replicate k 32 ++ baseL v)) = .ok (a, v) := by
  have hc := cutL_app 58 a (58 :: (List.replicate k 32 ++ baseL v)) h58
  have hb : blanks (baseL v) = baseL v := blanks_not _ fun c r e => by
    have := baseL_ch v hv c (by rw [e]; simp)
    omega
  unfold riR
  rw [hc]
  simp only [ha, or_false, Bool.true_eq_false, if_false, st60, unC, if_true, decide_eq_true_eq, blanks_rep, hb, unb_base v hv]
  rfl
end Fold
end Go.Proofs.YtjnfoocmilbdlaaGreatDoor
namespace Go.Proofs.YtjnfoocmilbdlaaGreatDoor.Pure
set_option linter.unusedSimpArgs false
set_option linter.unusedVariables false
open Go.RowKit Go.Proofs.YtjnfoocmilbdlaaGreatDoor.LFold Go.Proofs.YtjnfoocmilbdlaaGreatDoor.ExtFold Go.Proofs.YtjnfoocmilbdlaaGreatDoor.Fold Go.Proofs.YtjnfoocmilbdlaaGreatDoorW.PrintWords Go.Proofs.YtjnfoocmilbdlaaGreatDoorW2 Go.Proofs.YtjnfoocmilbdlaaGreatDoorW.PrintLast Go.Proofs.YtjnfoocmilbdlaaGreatDoor.PureB
open Go.Proofs.YtjnfoocmilbdlaaGreatDoor.Code (bl bl_len bl_get bl_byte Byt bl_son son_bl bl_append)
theorem short_400 (s : ByteArray) : ∃ t, latinerlaw15_short.f s = some t ∧ t.size ≤ 400 := by
  have c := cut_of s 400 (by omega)
  have z : (s.extract 0 (lesser (s.size : Int) 400).toNat).size ≤ 400 := cut_sz s 400
  unfold latinerlaw15_short.f
  rw [if_pos c.1, if_pos c.2.1]
  exact ⟨_, rfl, z⟩
end Go.Proofs.YtjnfoocmilbdlaaGreatDoor.Pure
namespace Go.Proofs.YtjnfoocmilbdlaaGreatDoor.Pure
set_option linter.unusedSimpArgs false
set_option linter.unusedVariables false
open Go.RowKit Go.Proofs.YtjnfoocmilbdlaaGreatDoor.LFold Go.Proofs.YtjnfoocmilbdlaaGreatDoor.ExtFold Go.Proofs.YtjnfoocmilbdlaaGreatDoor.Fold Go.Proofs.YtjnfoocmilbdlaaGreatDoorW.PrintWords Go.Proofs.YtjnfoocmilbdlaaGreatDoorW2 Go.Proofs.YtjnfoocmilbdlaaGreatDoorW.PrintLast Go.Proofs.YtjnfoocmilbdlaaGreatDoor.PureB
open Go.Proofs.YtjnfoocmilbdlaaGreatDoor.Code (bl bl_len bl_get bl_byte Byt bl_son son_bl bl_append baseL baseL_len bl_extract)
theorem base_f (s : ByteArray) (h : s.size ≤ 1000000) : code_Base.f s = some (strOfNums (baseL (bl s))) := if_pos h
theorem blanks_cut (m : Int) (h0 : 0 ≤ m) (h9 : m ≤ 9) : ∃ k, bl ((⟨#[32, 32, 32, 32, 32, 32, 32, 32, 32]⟩ : ByteArray).extract 0 m.toNat) = List.replicate k 32 ∧ k ≤ 9 := by
  refine ⟨m.toNat, ?_, by omega⟩
  rw [bl_extract]
  have : bl (⟨#[32, 32, 32, 32, 32, 32, 32, 32, 32]⟩ : ByteArray) = List.replicate 9 32 := rfl
  rw [this, List.drop_zero, List.take_replicate]
  congr 1
  omega
theorem FoldBase : latinerlaw15_FoldBase.Pure := by
  intro a0 a1 a2 _ _ _
  obtain ⟨n, hn, zn⟩ := short_400 a0
  obtain ⟨v, hv, zv⟩ := short_400 a1
  refine ⟨100, ?_⟩
  have hm : 0 ≤ lesser (greater a2 0) 9 ∧ lesser (greater a2 0) 9 ≤ 9 := by unfold lesser greater; split <;> split <;> omega
  obtain ⟨k, hk, hk9⟩ := blanks_cut _ hm.1 hm.2
  unfold latinerlaw15_FoldBase.f
  rw [shown_k _ (by omega), Option.bind_some, hn, Option.bind_some, hv, Option.bind_some, item_f _ _ (by omega) (by show 1 ≤ 100000; omega), Option.bind_some, if_pos (by omega), if_pos hm.1, if_pos hm.2]
  generalize (⟨#[32, 32, 32, 32, 32, 32, 32, 32, 32]⟩ : ByteArray).extract 0 (lesser (greater a2 0) 9).toNat = z at hk ⊢
  have hz : z.size = k := by rw [← bl_len, hk, List.length_replicate]
  have e1 : (n ++ (⟨#[58, 58]⟩ : ByteArray)).size = n.size + 2 := by rw [ByteArray.size_append]; rfl
  have e2 : ((n ++ (⟨#[58, 58]⟩ : ByteArray)) ++ z).size = n.size + 2 + k := by rw [ByteArray.size_append, e1, hz]
  have hl := baseL_len (bl v)
  rw [bl_len] at hl
  have e3 : (strOfNums (baseL (bl v))).size = (baseL (bl v)).length := son_size _
  have e4 : (((n ++ (⟨#[58, 58]⟩ : ByteArray)) ++ z) ++ strOfNums (baseL (bl v))).size = n.size + 2 + k + (baseL (bl v)).length := by rw [ByteArray.size_append, e2, e3]
  have hc := baseL_ch (bl v) (bl_byte v)
  have hb : bl (((n ++ (⟨#[58, 58]⟩ : ByteArray)) ++ z) ++ strOfNums (baseL (bl v))) = bl n ++ 58 :: 58 :: (List.replicate k 32 ++ baseL (bl v)) := by
    rw [bl_append, bl_append, bl_append, hk, bl_son _ (fun y hy => by have := hc y hy; omega)]
    show ((bl n ++ [58, 58]) ++ _) ++ _ = _
    simp
  rw [if_pos (by omega), base_f _ (by omega), Option.bind_some, if_pos (by omega), read_f _ (by omega), Option.bind_some, hb]
  cases hnm : nmB (bl n) with
  | false =>
    have i1 : itE n = 151 := by unfold itE; rw [hnm]; rfl
    simp only [i1]
    rw [if_neg (by omega), if_pos trivial]
    cases riR (bl n ++ 58 :: 58 :: (List.replicate k 32 ++ baseL (bl v))) with
    | ok p => exact if_pos rfl
    | error x =>
      have hx : ¬ rdErr (.error x) = 0 := by unfold rdErr; simp only; split <;> omega
      rw [if_neg hx, if_pos (toList_nil.2 rfl), show (rdVal (.error x)).toList = ([] : List UInt8) from toList_nil.2 rfl]
      rfl
  | true =>
    have i1 : itE n = 0 := by unfold itE; rw [hnm]; rfl
    obtain ⟨h0, _, _, h58⟩ := nm_facts _ hnm
    have r1 : rdName (.ok (bl n, bl v)) = n := son_bl n
    have r2 : rdVal (.ok (bl n, bl v)) = v := son_bl v
    have r3 : rdErr (.ok (bl n, bl v)) = 0 := rfl
    rw [ri_base _ _ k h0 h58 (bl_byte v)]
    simp only [r1, r2, r3, i1]
    rw [if_pos trivial, if_pos trivial, if_pos trivial, if_pos trivial]
    simp
end Go.Proofs.YtjnfoocmilbdlaaGreatDoor.Pure
/- A claim's hand-over whose walk may also use that the start is shaped: the cell of a package-level variable that the rows do not list is still of its type. -/
namespace Go.Proofs.YtjnfoocmilbdlaaGreatDoor
set_option linter.unusedSimpArgs false
set_option linter.unusedVariables false
namespace HandSh
open Go.RowKit Go.ChangeShapes Go.WideShapes Go.ChangeAt
theorem handed_shaped {H : Type} {enc : TypeId × Value → H} {a : Assume} {C : Checked} {os : Os} {f : FuncId} {fn : Func} {s : ChangeSpec} {conds : List PathCond} {apart fresh handsOn again : Bool} {X : World → Array Value → Prop}
    (hX : ∀ (w w' : World) (args : Array Value), w.heap = w'.heap → X w args → X w' args)
    (own : ownKnob C.prog.godebug = none) (started : os.Started) (noInit : C.prog.inits.idxOf? f = none) (hfn : C.prog.funcs[f]? = some fn)
    (witness : ∃ (w : World) (tape : Tape) (i : Input), w.os = os ∧ (w.forCall tape i).Shaped C.prog ∧ i.vars = [] ∧ Input.okWide C.prog (w.forCall tape i) .any w.heap.size f i ∧
      ((s.pre enc C.prog fn conds apart (w.forCall tape i).memory i.args ∧ X (w.forCall tape i).memory i.args) ∧ sizedMet enc C.prog fn (OpenSpec.ofChange s) apart (w.forCall tape i).memory i.args) ∧ a.holds C.prog (lone (Frame.enter C.prog f i.args .normal) [] (w.forCall tape i)))
    (contract : ∀ (W : World) (base : Nat) (args : Array Value) (ds gs : List (DataW H)) (before : List MemPlace), W.ShapedOpen C.prog →
      (∀ (j : Nat) t v, fn.params[j]? = some t → args[j]? = some v → Value.okWide C.prog W .any base t v) →
      DataW.Whole enc C.prog fn.params.toList s.vars apart W args.toList ds gs before →
      (DataW.weightsEach C.prog (fn.params.toList ++ s.plain.varTypes C.prog) (ds ++ gs)).all (· ≤ reachBytes) = true → X W args →
      Calls C.prog f args W fun e W' => ∃ v, e = .returned v ∧ s.post enc C.prog fn apart fresh handsOn again W args v W') :
    ReturnsInHanded a C os f .any (fun w args => (s.pre enc C.prog fn conds apart w args ∧ X w args) ∧ sizedMet enc C.prog fn (OpenSpec.ofChange s) apart w args) (s.post enc C.prog fn apart fresh handsOn again) :=
  returnsInHanded_of_calls own started noInit witness fun w tape i _ hsh _ hok hpre _ => by
    obtain ⟨_, _, _, g, hg, _, _, _, _, hval⟩ := hok
    obtain rfl : g = fn := Option.some.inj (hg.symm.trans hfn)
    obtain ⟨⟨⟨ds, gs, before, hw, _⟩, hx⟩, hz⟩ := hpre
    have hw' := DataW.Whole.of_heap (w' := w.forCall tape i) (by rfl) hw
    refine (contract _ w.heap.size _ ds gs before hsh hval hw' (hz.weights hw) (hX _ _ _ (by rfl) hx)).mono ?_
    rintro e W' ⟨v, rfl, hp⟩
    exact ChangeSpec.post_blind hp
theorem maxLen_of_shaped {W : World} (h : W.ShapedOpen Tryz.prog) : ∃ M, W.cell? ⟨6, 0, none⟩ = some (.int .i64 M) := Tryz.laysM145.s1_3 W h
end HandSh
end Go.Proofs.YtjnfoocmilbdlaaGreatDoor
namespace Go.Proofs.YtjnfoocmilbdlaaGreatDoor.foldBase
set_option linter.unusedSimpArgs false
open Go.ChangeShapes Go.WideShapes Go.ChangeAt Go.RowKit
open Go.ChangeMaps (open_string shut_string)
open Go.Proofs.YtjnfoocmilbdlaaGreatDoor.FoldL (laid ga_of_laid door_met own rowStart rowStart_os rowStart_shaped)
set_option linter.unusedVariables false
set_option maxRecDepth 100000 in
theorem lifted (os : Os) (started : os.Started) (H : Type) (enc : TypeId × Value → H) :
    ReturnsInHanded {} Tryz.checked os 10 .any (fun w args => (Rows.foldBaseSpec.pre enc Tryz.prog Tryz.f10 [] false w args ∧ laidMetH Tryz.prog laid w) ∧ sizedMet enc Tryz.prog Tryz.f10 (OpenSpec.ofChange Rows.foldBaseSpec) false w args)
      (Rows.foldBaseSpec.post enc Tryz.prog Tryz.f10 false true false false) := by
  refine HandSh.handed_shaped (C := Tryz.checked) (X := fun w _ => laidMetH Tryz.prog laid w) (fun _ _ _ hh h => h.of_heap hh) own started (by kernel_rfl) Tryz.func10
    (ChangeSpec.witness_shaped (enc := enc) (C := Tryz.checked) (os := os) (X := fun w _ => laidMetH Tryz.prog laid w) false (rowStart os) #[.string ByteArray.empty, .string ByteArray.empty, .int .i64 0] 8 (rowStart_os os) (rowStart_shaped os _) (by kernel_rfl) (by kernel_rfl) (by kernel_rfl) (door_met os _)) ?_
  intro W base args ds gs before hsh hval0 hW hsz0 hL
  have hsz : (DataW.weightsEach Tryz.prog (Tryz.f10.params.toList ++ Rows.foldBaseSpec.plain.varTypes Tryz.prog) (ds ++ gs)).all (· ≤ reachBytes) = true := hsz0
  have hval : ∀ (j : Nat) t v, Tryz.f10.params[j]? = some t → args[j]? = some v → Value.okWide Tryz.prog W .any base t v := hval0
  have hW' := hW
  obtain ⟨p, q, hA0, hV, rfl, hfz, hnd⟩ := hW
  have hA : DataW.TrodAll enc Tryz.prog W 0 (fun _ => true) true Tryz.f10.params.toList args.toList ds p := hA0
  rw [Tryz.params10] at hA hval hsz
  obtain ⟨v0, vs0, d0, ds0, p0, q0, hargs, rfl, rfl, h0, r0⟩ := trodAll_cons hA
  obtain ⟨v1, vs1, d1, ds1, p1, q1, rfl, rfl, rfl, h1, r1⟩ := trodAll_cons r0
  obtain ⟨v2, vs2, d2, ds2, p2, q2, rfl, rfl, rfl, h2, r2⟩ := trodAll_cons r1
  obtain ⟨rfl, rfl, rfl⟩ := trodAll_nil r2
  obtain rfl : args = #[v0, v1, v2] := by cases args; simp_all
  obtain ⟨rfl, rfl⟩ := trodVars_none hV
  obtain ⟨a0, rfl, rfl, rfl, y0⟩ := open_string Tryz.underlying9 (hval 0 9 v0 rfl rfl) h0
  have w0 : a0.size ≤ 140737488351232 := by
    have z := sized_string hsz (j := 0) (t := 9) rfl rfl
    rw [Array.length_toList] at z
    exact z
  obtain ⟨a1, rfl, rfl, rfl, y1⟩ := open_string Tryz.underlying9 (hval 1 9 v1 rfl rfl) h1
  have w1 : a1.size ≤ 140737488351232 := by
    have z := sized_string hsz (j := 1) (t := 9) rfl rfl
    rw [Array.length_toList] at z
    exact z
  obtain ⟨a2, rfl, rfl, rfl, w2⟩ := open_int Tryz.underlying3 (hval 2 3 v2 rfl rfl) h2
  clear hA0 hval0 hsz0 hsz
  refine (LFold.latinerlaw15_FoldBase.walk Pure.FoldBase a0 a1 a2 W w0 w1 w2 (ga_of_laid hL (HandSh.maxLen_of_shaped hsh))).mono fun e W' ⟨he, bel⟩ => ?_
  subst he
  exact ⟨_, rfl, _, _, _, [], _, [], hW', trodAll_mk1 (shut_bool Tryz.underlying4 _), (trodAll_cons_mk (shut_string Tryz.underlying9 y0) (trodAll_cons_mk (shut_string Tryz.underlying9 y1) (trodAll_cons_mk (shut_int Tryz.underlying3 w2) trodAll_mk0))), rfl, bel.frame _, fun h => by cases h⟩
theorem said : Rows.FoldBaseSaid :=
  OpenClaim.holds_of_wide 10 Tryz.f10 rfl rfl rfl rfl rfl rfl rfl ⟨rfl, rfl, rfl, rfl, rfl⟩ rfl rfl rfl rfl rfl (by kernel_rfl) Tryz.func10 (by kernel_rfl)
    (of_decide_eq_true (by kernel_rfl)) (by unfold Func.isWrapper; first | (rw [if_pos (by decide +kernel)]; kernel_rfl) | (rw [if_neg (by decide +kernel)]; exact ⟨rfl, rfl⟩))
    (fun os started H enc _ => lifted os started H enc)
theorem plain (f : FuncId) (fn : Func) (hf : Tryz.pinned.checked.prog.funcNamed "latiner/latinerlaw15.FoldBase" = some f) (hfn : Tryz.pinned.checked.prog.funcs[f]? = some fn) :
    true = Tryz.pinned.checked.prog.looks [] ∧ ∀ (j : Nat) t, fn.params[j]? = some t → Tryz.pinned.checked.prog.wantsStandIn t = false := by
  obtain rfl : f = 10 := Option.some.inj ((show Tryz.prog.funcNamed "latiner/latinerlaw15.FoldBase" = some 10 by kernel_rfl).symm.trans hf) |>.symm
  obtain rfl : fn = Tryz.f10 := (Option.some.inj (Tryz.func10.symm.trans hfn)).symm
  refine ⟨by kernel_rfl, fun j t ht => ?_⟩
  rw [Tryz.params10] at ht
  have s_int : Tryz.prog.wantsStandIn 3 = false := by kernel_rfl
  have s_str : Tryz.prog.wantsStandIn 9 = false := by kernel_rfl
  have hm := Array.mem_of_getElem? ht
  simp at hm
  have hm2 : t = 9 ∨ t = 3 := by omega
  clear hm
  rcases hm2 with rfl | rfl
  · exact s_str
  · exact s_int
/-- The card. -/
theorem card : Rows.FoldBaseCardSaid :=
  Claim7.holds_tied_plain_at .later [] _ _ _ _ said (fun _ h => by cases h) (by kernel_rfl) (fun _ h => by cases h) foldBase_row_tie rfl ⟨rfl, rfl⟩ (by kernel_rfl) rfl plain (by kernel_rfl)
end Go.Proofs.YtjnfoocmilbdlaaGreatDoor.foldBase
namespace Go.Proofs.YtjnfoocmilbdlaaGreatDoor
theorem foldBase_holds : Rows.FoldBaseCardSaid := foldBase.card
end Go.Proofs.YtjnfoocmilbdlaaGreatDoor
