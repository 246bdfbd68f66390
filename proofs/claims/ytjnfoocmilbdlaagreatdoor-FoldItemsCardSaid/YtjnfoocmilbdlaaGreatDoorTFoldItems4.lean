/- TFoldItems4: own texts of this seat, laid as one. -/
import Derived.Test.YtjnfoocmilbdlaaGreatDoorTFoldItems3
-- Written by this repo's own program over the kit's printer: YtjnfoocmilbdlaaGreatDoor.LFold
namespace Go.Proofs.YtjnfoocmilbdlaaGreatDoor.LFold
open Go.Proofs.YtjnfoocmilbdlaaGreatDoor.ExtFold
open Go.RowKit Go.Proofs.YtjnfoocmilbdlaaGreatDoorW.PrintWords Go.Proofs.YtjnfoocmilbdlaaGreatDoorW.PrintLast Go.Proofs.YtjnfoocmilbdlaaGreatDoorW2
attribute [local go_sem] own_max2 own_min2 own_maxs own_mins
set_option linter.unusedVariables false
set_option linter.unusedSimpArgs false

/-! ### latinerref05_group: function 57 -/
mutual
def latinerref05_group.l0 : Nat → ByteArray → Int → Int → Option (ByteArray)
  | 0, _, _, _ => none
  | k + 1, x0, x3, x4 => if x4 < 3 then (if x4 < (x0.size : Int) then (if 0 ≤ x4 then (latinerref05_group.l0 k x0 (wrap64 ((wrap64 (256 * x3)) + (wrap64 (bt x0 x4)))) (wrap64 (x4 + 1))) else (none)) else (latinerref05_group.l0 k x0 (wrap64 (256 * x3)) (wrap64 (x4 + 1)))) else (latinerref05_group.l1 k x0 x3 (⟨#[]⟩ : ByteArray) 0)
def latinerref05_group.l1 : Nat → ByteArray → Int → ByteArray → Int → Option (ByteArray)
  | 0, _, _, _, _ => none
  | k + 1, x0, x3, x5, x6 => if x6 < 4 then (if 0 ≤ (wrap64 (18 - (wrap64 (6 * x6)))) then (if x6 ≤ (x0.size : Int) then (if 0 ≤ (Int.tmod (shiftR .i64 x3 (wrap64 (18 - (wrap64 (6 * x6))))) 64) then (if (Int.tmod (shiftR .i64 x3 (wrap64 (18 - (wrap64 (6 * x6))))) 64) ≤ (wrap64 ((Int.tmod (shiftR .i64 x3 (wrap64 (18 - (wrap64 (6 * x6))))) 64) + 1)) then (if (wrap64 ((Int.tmod (shiftR .i64 x3 (wrap64 (18 - (wrap64 (6 * x6))))) 64) + 1)) ≤ 64 then (if x5.size + ((⟨#[65, 66, 67, 68, 69, 70, 71, 72, 73, 74, 75, 76, 77, 78, 79, 80, 81, 82, 83, 84, 85, 86, 87, 88, 89, 90, 97, 98, 99, 100, 101, 102, 103, 104, 105, 106, 107, 108, 109, 110, 111, 112, 113, 114, 115, 116, 117, 118, 119, 120, 121, 122, 48, 49, 50, 51, 52, 53, 54, 55, 56, 57, 43, 47]⟩ : ByteArray).extract ((Int.tmod (shiftR .i64 x3 (wrap64 (18 - (wrap64 (6 * x6))))) 64) : Int).toNat ((wrap64 ((Int.tmod (shiftR .i64 x3 (wrap64 (18 - (wrap64 (6 * x6))))) 64) + 1)) : Int).toNat).size ≤ 9223372036854775807 then (latinerref05_group.l1 k x0 x3 (x5 ++ ((⟨#[65, 66, 67, 68, 69, 70, 71, 72, 73, 74, 75, 76, 77, 78, 79, 80, 81, 82, 83, 84, 85, 86, 87, 88, 89, 90, 97, 98, 99, 100, 101, 102, 103, 104, 105, 106, 107, 108, 109, 110, 111, 112, 113, 114, 115, 116, 117, 118, 119, 120, 121, 122, 48, 49, 50, 51, 52, 53, 54, 55, 56, 57, 43, 47]⟩ : ByteArray).extract ((Int.tmod (shiftR .i64 x3 (wrap64 (18 - (wrap64 (6 * x6))))) 64) : Int).toNat ((wrap64 ((Int.tmod (shiftR .i64 x3 (wrap64 (18 - (wrap64 (6 * x6))))) 64) + 1)) : Int).toNat)) (wrap64 (x6 + 1))) else (none)) else (none)) else (none)) else (none)) else (if x5.size + 1 ≤ 9223372036854775807 then (latinerref05_group.l1 k x0 x3 (x5 ++ (⟨#[61]⟩ : ByteArray)) (wrap64 (x6 + 1))) else (none))) else (none)) else (some x5)
end
def latinerref05_group.f (k : Nat) (a0 : ByteArray) : Option (ByteArray) := latinerref05_group.l0 k a0 0 0
set_option maxHeartbeats 8000000 in
set_option maxRecDepth 100000 in
theorem latinerref05_group.calls (k : Nat) (a0 : ByteArray) (r : ByteArray) (w : World) (h : latinerref05_group.f k a0 = some r) :
    Calls Tryz.prog 57 #[.string a0] w fun e w' => e = .returned (.string r) ∧ Drawn0 w w' := by
  have H : (latinerref05_group.l0 k a0 0 0) = some r := h
  clear h
  have H' := Aside0.mk H
  clear H
  go_enter Tryz.func57, Tryz.ntmps57
  go_wp2
  go_loopg [3, 4] k (fun kq v3 v4 w' => ∃ (x3_1 : Int) (x4_1 : Int), v3 = .int .i64 x3_1 ∧ v4 = .int .i64 x4_1 ∧ Aside0 (latinerref05_group.l0 kq a0 x3_1 x4_1 = some r) ∧ Aside0 (kq ≤ k) ∧ Drawn0 w w')
  case atStart => exact ⟨(0), (0), (by first | rfl | (simp; done) | (simp [*]; done)), (by first | rfl | (simp; done) | (simp [*]; done)), H', ⟨Nat.le_refl _⟩, by repeat (first | exact Drawn0.refl _ | apply Drawn0.step)⟩
  case round =>
    clear H'
    obtain ⟨x3_1, x4_1, rfl, rfl, HA, HK1, ⟨m1, rfl⟩⟩ := hrel
    cases gk with
    | zero => exact absurd HA.out (by simp [latinerref05_group.l0])
    | succ k1 =>
      have H := HA.out
      clear HA
      simp only [latinerref05_group.l0] at H
      by_cases c2 : x4_1 < 3
      · rw [if_pos c2] at H
        have c2b0 : decide (x4_1 < 3) = true := decide_eq_true c2
        clear c2
        by_cases c3 : x4_1 < (a0.size : Int)
        · rw [if_pos c3] at H
          have c3b0 : decide (x4_1 < (a0.size : Int)) = true := decide_eq_true c3
          clear c3
          by_cases c4 : 0 ≤ x4_1
          · rw [if_pos c4] at H
            have c4b0 : decide (0 ≤ x4_1) = true := decide_eq_true c4
            clear c4
            have H' := Aside0.mk H
            clear H
            have p5 : 0 ≤ (x4_1 : Int) := of_decide_eq_true (by first | (with_reducible assumption) | assumption)
            have q5 : x4_1 < (a0.size : Int) := of_decide_eq_true (by first | (with_reducible assumption) | assumption)
            have hx5 := bt_at a0 x4_1
            replace p5 := eq_true p5
            replace q5 := eq_true q5
            go_wp2
            go_roundg k1
            case measure => have := HK1.out; omega
            case rel => exact ⟨(wrap64 ((wrap64 (256 * x3_1)) + (wrap64 (bt a0 x4_1)))), (wrap64 (x4_1 + 1)), (by first | rfl | (simp; done) | (simp [*]; done)), (by first | rfl | (simp; done) | (simp [*]; done)), H', ⟨by have := HK1.out; omega⟩, by repeat (first | exact Drawn0.refl _ | apply Drawn0.step)⟩
          · rw [if_neg c4] at H
            exact absurd H (by simp)
        · rw [if_neg c3] at H
          have c3b0 : decide (x4_1 < (a0.size : Int)) = false := decide_eq_false c3
          clear c3
          have H' := Aside0.mk H
          clear H
          go_wp2
          go_roundg k1
          case measure => have := HK1.out; omega
          case rel => exact ⟨(wrap64 (256 * x3_1)), (wrap64 (x4_1 + 1)), (by first | rfl | (simp; done) | (simp [*]; done)), (by first | rfl | (simp; done) | (simp [*]; done)), H', ⟨by have := HK1.out; omega⟩, by repeat (first | exact Drawn0.refl _ | apply Drawn0.step)⟩
      · rw [if_neg c2] at H
        have c2b0 : decide (x4_1 < 3) = false := decide_eq_false c2
        clear c2
        have H' := Aside0.mk H
        clear H
        go_wp2
        go_loopg [5, 6] k1 (fun kq v5 v6 w' => ∃ (x5_2 : ByteArray) (x6_2 : Int), v5 = .string x5_2 ∧ v6 = .int .i64 x6_2 ∧ Aside0 (latinerref05_group.l1 kq a0 x3_1 x5_2 x6_2 = some r) ∧ Aside0 (kq ≤ k1) ∧ Drawn0 w w')
        case atStart => exact ⟨((⟨#[]⟩ : ByteArray)), (0), (by first | rfl | (simp; done) | (simp [*]; done)), (by first | rfl | (simp; done) | (simp [*]; done)), H', ⟨Nat.le_refl _⟩, by repeat (first | exact Drawn0.refl _ | apply Drawn0.step)⟩
        case round =>
          clear H'
          try clear c2
          try clear c2b0
          try clear p2
          try clear c3
          try clear c3b0
          try clear c4
          try clear c4b0
          try clear c5
          try clear p5
          try clear q5
          try clear hx5
          try clear p5
          try clear q5
          obtain ⟨x5_2, x6_2, rfl, rfl, HA, HK2, ⟨m2, rfl⟩⟩ := hrel
          cases gk with
          | zero => exact absurd HA.out (by simp [latinerref05_group.l1])
          | succ k2 =>
            have H := HA.out
            clear HA
            simp only [latinerref05_group.l1] at H
            by_cases c6 : x6_2 < 4
            · rw [if_pos c6] at H
              have c6b0 : decide (x6_2 < 4) = true := decide_eq_true c6
              clear c6
              obtain ⟨ji7, hji7⟩ : ∃ j_ : Int, (wrap64 (18 - (wrap64 (6 * x6_2)))) = j_ := ⟨_, rfl⟩
              replace H : (if 0 ≤ (ji7) then (if x6_2 ≤ (a0.size : Int) then (if 0 ≤ (Int.tmod (shiftR .i64 x3_1 (ji7)) 64) then (if (Int.tmod (shiftR .i64 x3_1 (ji7)) 64) ≤ (wrap64 ((Int.tmod (shiftR .i64 x3_1 (ji7)) 64) + 1)) then (if (wrap64 ((Int.tmod (shiftR .i64 x3_1 (ji7)) 64) + 1)) ≤ 64 then (if x5_2.size + ((⟨#[65, 66, 67, 68, 69, 70, 71, 72, 73, 74, 75, 76, 77, 78, 79, 80, 81, 82, 83, 84, 85, 86, 87, 88, 89, 90, 97, 98, 99, 100, 101, 102, 103, 104, 105, 106, 107, 108, 109, 110, 111, 112, 113, 114, 115, 116, 117, 118, 119, 120, 121, 122, 48, 49, 50, 51, 52, 53, 54, 55, 56, 57, 43, 47]⟩ : ByteArray).extract ((Int.tmod (shiftR .i64 x3_1 (ji7)) 64) : Int).toNat ((wrap64 ((Int.tmod (shiftR .i64 x3_1 (ji7)) 64) + 1)) : Int).toNat).size ≤ 9223372036854775807 then (latinerref05_group.l1 k2 a0 x3_1 (x5_2 ++ ((⟨#[65, 66, 67, 68, 69, 70, 71, 72, 73, 74, 75, 76, 77, 78, 79, 80, 81, 82, 83, 84, 85, 86, 87, 88, 89, 90, 97, 98, 99, 100, 101, 102, 103, 104, 105, 106, 107, 108, 109, 110, 111, 112, 113, 114, 115, 116, 117, 118, 119, 120, 121, 122, 48, 49, 50, 51, 52, 53, 54, 55, 56, 57, 43, 47]⟩ : ByteArray).extract ((Int.tmod (shiftR .i64 x3_1 (ji7)) 64) : Int).toNat ((wrap64 ((Int.tmod (shiftR .i64 x3_1 (ji7)) 64) + 1)) : Int).toNat)) (wrap64 (x6_2 + 1))) else (none)) else (none)) else (none)) else (none)) else (if x5_2.size + 1 ≤ 9223372036854775807 then (latinerref05_group.l1 k2 a0 x3_1 (x5_2 ++ (⟨#[61]⟩ : ByteArray)) (wrap64 (x6_2 + 1))) else (none))) else (none)) = some r := by first | (rw [hji7] at H; exact H) | (simp only [hji7] at H ⊢; exact H)
              have hji7w : (IntKind.i64.wrap (18 - (wrap64 (6 * x6_2)))) = ji7 := (i64_w _).trans hji7
              by_cases c8 : 0 ≤ (ji7)
              · rw [if_pos c8] at H
                have c8b0 := eq_true c8
                have c8b1 : decide (0 ≤ (ji7)) = true := decide_eq_true c8
                clear c8
                obtain ⟨ji9, hji9⟩ : ∃ j_ : Int, (shiftR .i64 x3_1 (ji7)) = j_ := ⟨_, rfl⟩
                replace H : (if x6_2 ≤ (a0.size : Int) then (if 0 ≤ (Int.tmod (ji9) 64) then (if (Int.tmod (ji9) 64) ≤ (wrap64 ((Int.tmod (ji9) 64) + 1)) then (if (wrap64 ((Int.tmod (ji9) 64) + 1)) ≤ 64 then (if x5_2.size + ((⟨#[65, 66, 67, 68, 69, 70, 71, 72, 73, 74, 75, 76, 77, 78, 79, 80, 81, 82, 83, 84, 85, 86, 87, 88, 89, 90, 97, 98, 99, 100, 101, 102, 103, 104, 105, 106, 107, 108, 109, 110, 111, 112, 113, 114, 115, 116, 117, 118, 119, 120, 121, 122, 48, 49, 50, 51, 52, 53, 54, 55, 56, 57, 43, 47]⟩ : ByteArray).extract ((Int.tmod (ji9) 64) : Int).toNat ((wrap64 ((Int.tmod (ji9) 64) + 1)) : Int).toNat).size ≤ 9223372036854775807 then (latinerref05_group.l1 k2 a0 x3_1 (x5_2 ++ ((⟨#[65, 66, 67, 68, 69, 70, 71, 72, 73, 74, 75, 76, 77, 78, 79, 80, 81, 82, 83, 84, 85, 86, 87, 88, 89, 90, 97, 98, 99, 100, 101, 102, 103, 104, 105, 106, 107, 108, 109, 110, 111, 112, 113, 114, 115, 116, 117, 118, 119, 120, 121, 122, 48, 49, 50, 51, 52, 53, 54, 55, 56, 57, 43, 47]⟩ : ByteArray).extract ((Int.tmod (ji9) 64) : Int).toNat ((wrap64 ((Int.tmod (ji9) 64) + 1)) : Int).toNat)) (wrap64 (x6_2 + 1))) else (none)) else (none)) else (none)) else (none)) else (if x5_2.size + 1 ≤ 9223372036854775807 then (latinerref05_group.l1 k2 a0 x3_1 (x5_2 ++ (⟨#[61]⟩ : ByteArray)) (wrap64 (x6_2 + 1))) else (none))) = some r := by first | (rw [hji9] at H; exact H) | (simp only [hji9] at H ⊢; exact H)
                have hji9_ : (x3_1 / 2 ^ min (ji7).toNat 64) = ji9 := hji9
                have hji9z : (ji7) ≤ 64 → (x3_1 / 2 ^ (ji7).toNat) = ji9 := shiftR_small hji9
                by_cases c10 : x6_2 ≤ (a0.size : Int)
                · rw [if_pos c10] at H
                  have c10b0 : decide (x6_2 ≤ (a0.size : Int)) = true := decide_eq_true c10
                  clear c10
                  obtain ⟨ji11, hji11⟩ : ∃ j_ : Int, (Int.tmod (ji9) 64) = j_ := ⟨_, rfl⟩
                  replace H : (if 0 ≤ (ji11) then (if (ji11) ≤ (wrap64 ((ji11) + 1)) then (if (wrap64 ((ji11) + 1)) ≤ 64 then (if x5_2.size + ((⟨#[65, 66, 67, 68, 69, 70, 71, 72, 73, 74, 75, 76, 77, 78, 79, 80, 81, 82, 83, 84, 85, 86, 87, 88, 89, 90, 97, 98, 99, 100, 101, 102, 103, 104, 105, 106, 107, 108, 109, 110, 111, 112, 113, 114, 115, 116, 117, 118, 119, 120, 121, 122, 48, 49, 50, 51, 52, 53, 54, 55, 56, 57, 43, 47]⟩ : ByteArray).extract ((ji11) : Int).toNat ((wrap64 ((ji11) + 1)) : Int).toNat).size ≤ 9223372036854775807 then (latinerref05_group.l1 k2 a0 x3_1 (x5_2 ++ ((⟨#[65, 66, 67, 68, 69, 70, 71, 72, 73, 74, 75, 76, 77, 78, 79, 80, 81, 82, 83, 84, 85, 86, 87, 88, 89, 90, 97, 98, 99, 100, 101, 102, 103, 104, 105, 106, 107, 108, 109, 110, 111, 112, 113, 114, 115, 116, 117, 118, 119, 120, 121, 122, 48, 49, 50, 51, 52, 53, 54, 55, 56, 57, 43, 47]⟩ : ByteArray).extract ((ji11) : Int).toNat ((wrap64 ((ji11) + 1)) : Int).toNat)) (wrap64 (x6_2 + 1))) else (none)) else (none)) else (none)) else (none)) = some r := by first | (rw [hji11] at H; exact H) | (simp only [hji11] at H ⊢; exact H)
                  by_cases c12 : 0 ≤ (ji11)
                  · rw [if_pos c12] at H
                    have c12b0 := eq_true c12
                    have c12b1 : decide (0 ≤ (ji11)) = true := decide_eq_true c12
                    clear c12
                    by_cases c13 : (ji11) ≤ (wrap64 ((ji11) + 1))
                    · rw [if_pos c13] at H
                      have c13b0 := eq_true c13
                      have c13b1 : decide ((ji11) ≤ (wrap64 ((ji11) + 1))) = true := decide_eq_true c13
                      by_cases c14 : (wrap64 ((ji11) + 1)) ≤ 64
                      · rw [if_pos c14] at H
                        have c14b0 := eq_true c14
                        have c14b1 : decide ((wrap64 ((ji11) + 1)) ≤ 64) = true := decide_eq_true c14
                        by_cases c15 : x5_2.size + ((⟨#[65, 66, 67, 68, 69, 70, 71, 72, 73, 74, 75, 76, 77, 78, 79, 80, 81, 82, 83, 84, 85, 86, 87, 88, 89, 90, 97, 98, 99, 100, 101, 102, 103, 104, 105, 106, 107, 108, 109, 110, 111, 112, 113, 114, 115, 116, 117, 118, 119, 120, 121, 122, 48, 49, 50, 51, 52, 53, 54, 55, 56, 57, 43, 47]⟩ : ByteArray).extract ((ji11) : Int).toNat ((wrap64 ((ji11) + 1)) : Int).toNat).size ≤ 9223372036854775807
                        · rw [if_pos c15] at H
                          have c15b0 := eq_true c15
                          have c15b1 : decide (x5_2.size + ((⟨#[65, 66, 67, 68, 69, 70, 71, 72, 73, 74, 75, 76, 77, 78, 79, 80, 81, 82, 83, 84, 85, 86, 87, 88, 89, 90, 97, 98, 99, 100, 101, 102, 103, 104, 105, 106, 107, 108, 109, 110, 111, 112, 113, 114, 115, 116, 117, 118, 119, 120, 121, 122, 48, 49, 50, 51, 52, 53, 54, 55, 56, 57, 43, 47]⟩ : ByteArray).extract ((ji11) : Int).toNat ((wrap64 ((ji11) + 1)) : Int).toNat).size ≤ 9223372036854775807) = true := decide_eq_true c15
                          try have c15b2 : (9223372036854775807 < x5_2.size + ((⟨#[65, 66, 67, 68, 69, 70, 71, 72, 73, 74, 75, 76, 77, 78, 79, 80, 81, 82, 83, 84, 85, 86, 87, 88, 89, 90, 97, 98, 99, 100, 101, 102, 103, 104, 105, 106, 107, 108, 109, 110, 111, 112, 113, 114, 115, 116, 117, 118, 119, 120, 121, 122, 48, 49, 50, 51, 52, 53, 54, 55, 56, 57, 43, 47]⟩ : ByteArray).extract ((ji11) : Int).toNat ((wrap64 ((ji11) + 1)) : Int).toNat).size) = False := eq_false (Nat.not_lt.2 c15)
                          have H' := Aside0.mk H
                          clear H
                          go_wp2
                          all_goals first | (exfalso; have q_ := c15; have e0_ : (⟨#[65, 66, 67, 68, 69, 70, 71, 72, 73, 74, 75, 76, 77, 78, 79, 80, 81, 82, 83, 84, 85, 86, 87, 88, 89, 90, 97, 98, 99, 100, 101, 102, 103, 104, 105, 106, 107, 108, 109, 110, 111, 112, 113, 114, 115, 116, 117, 118, 119, 120, 121, 122, 48, 49, 50, 51, 52, 53, 54, 55, 56, 57, 43, 47]⟩ : ByteArray).size = 64 := rfl; simp at q_; have e_ : (⟨#[65, 66, 67, 68, 69, 70, 71, 72, 73, 74, 75, 76, 77, 78, 79, 80, 81, 82, 83, 84, 85, 86, 87, 88, 89, 90, 97, 98, 99, 100, 101, 102, 103, 104, 105, 106, 107, 108, 109, 110, 111, 112, 113, 114, 115, 116, 117, 118, 119, 120, 121, 122, 48, 49, 50, 51, 52, 53, 54, 55, 56, 57, 43, 47]⟩ : ByteArray).size = 64 := rfl; rw [e_] at q_; omega) | skip
                          go_roundg k2
                          case measure => have := HK1.out; have := HK2.out; omega
                          case rel => exact ⟨(x5_2 ++ ((⟨#[65, 66, 67, 68, 69, 70, 71, 72, 73, 74, 75, 76, 77, 78, 79, 80, 81, 82, 83, 84, 85, 86, 87, 88, 89, 90, 97, 98, 99, 100, 101, 102, 103, 104, 105, 106, 107, 108, 109, 110, 111, 112, 113, 114, 115, 116, 117, 118, 119, 120, 121, 122, 48, 49, 50, 51, 52, 53, 54, 55, 56, 57, 43, 47]⟩ : ByteArray).extract ((ji11) : Int).toNat ((wrap64 ((ji11) + 1)) : Int).toNat)), (wrap64 (x6_2 + 1)), (by first | rfl | (simp; done) | (simp only [← hji11] <;> (first | rfl | simp)) | (simp [*]; done)), (by first | rfl | (simp; done) | (simp [*]; done)), H', ⟨by have := HK1.out; have := HK2.out; omega⟩, by repeat (first | exact Drawn0.refl _ | apply Drawn0.step)⟩
                        · rw [if_neg c15] at H
                          exact absurd H (by simp)
                      · rw [if_neg c14] at H
                        exact absurd H (by simp)
                    · rw [if_neg c13] at H
                      exact absurd H (by simp)
                  · rw [if_neg c12] at H
                    exact absurd H (by simp)
                · rw [if_neg c10] at H
                  have c10b0 : decide (x6_2 ≤ (a0.size : Int)) = false := decide_eq_false c10
                  clear c10
                  by_cases c16 : x5_2.size + 1 ≤ 9223372036854775807
                  · rw [if_pos c16] at H
                    have c16b0 := eq_true c16
                    have c16b1 : decide (x5_2.size + 1 ≤ 9223372036854775807) = true := decide_eq_true c16
                    try have c16b2 : (9223372036854775807 < x5_2.size + 1) = False := eq_false (Nat.not_lt.2 c16)
                    have H' := Aside0.mk H
                    clear H
                    go_wp2
                    all_goals first | (exfalso; have q_ := c16; simp at q_; omega) | (exfalso; have q_ := c15; have e0_ : (⟨#[65, 66, 67, 68, 69, 70, 71, 72, 73, 74, 75, 76, 77, 78, 79, 80, 81, 82, 83, 84, 85, 86, 87, 88, 89, 90, 97, 98, 99, 100, 101, 102, 103, 104, 105, 106, 107, 108, 109, 110, 111, 112, 113, 114, 115, 116, 117, 118, 119, 120, 121, 122, 48, 49, 50, 51, 52, 53, 54, 55, 56, 57, 43, 47]⟩ : ByteArray).size = 64 := rfl; simp at q_; have e_ : (⟨#[65, 66, 67, 68, 69, 70, 71, 72, 73, 74, 75, 76, 77, 78, 79, 80, 81, 82, 83, 84, 85, 86, 87, 88, 89, 90, 97, 98, 99, 100, 101, 102, 103, 104, 105, 106, 107, 108, 109, 110, 111, 112, 113, 114, 115, 116, 117, 118, 119, 120, 121, 122, 48, 49, 50, 51, 52, 53, 54, 55, 56, 57, 43, 47]⟩ : ByteArray).size = 64 := rfl; rw [e_] at q_; omega) | skip
                    go_roundg k2
                    case measure => have := HK1.out; have := HK2.out; omega
                    case rel => exact ⟨(x5_2 ++ (⟨#[61]⟩ : ByteArray)), (wrap64 (x6_2 + 1)), (by first | rfl | (simp; done) | (simp [*]; done)), (by first | rfl | (simp; done) | (simp [*]; done)), H', ⟨by have := HK1.out; have := HK2.out; omega⟩, by repeat (first | exact Drawn0.refl _ | apply Drawn0.step)⟩
                  · rw [if_neg c16] at H
                    exact absurd H (by simp)
              · rw [if_neg c8] at H
                exact absurd H (by simp)
            · rw [if_neg c6] at H
              have c6b0 : decide (x6_2 < 4) = false := decide_eq_false c6
              clear c6
              obtain rfl := Option.some.inj H
              go_wp2
              all_goals first | (exfalso; have q_ := c16; simp at q_; omega) | (exfalso; have q_ := c15; have e0_ : (⟨#[65, 66, 67, 68, 69, 70, 71, 72, 73, 74, 75, 76, 77, 78, 79, 80, 81, 82, 83, 84, 85, 86, 87, 88, 89, 90, 97, 98, 99, 100, 101, 102, 103, 104, 105, 106, 107, 108, 109, 110, 111, 112, 113, 114, 115, 116, 117, 118, 119, 120, 121, 122, 48, 49, 50, 51, 52, 53, 54, 55, 56, 57, 43, 47]⟩ : ByteArray).size = 64 := rfl; simp at q_; have e_ : (⟨#[65, 66, 67, 68, 69, 70, 71, 72, 73, 74, 75, 76, 77, 78, 79, 80, 81, 82, 83, 84, 85, 86, 87, 88, 89, 90, 97, 98, 99, 100, 101, 102, 103, 104, 105, 106, 107, 108, 109, 110, 111, 112, 113, 114, 115, 116, 117, 118, 119, 120, 121, 122, 48, 49, 50, 51, 52, 53, 54, 55, 56, 57, 43, 47]⟩ : ByteArray).size = 64 := rfl; rw [e_] at q_; omega) | skip
              go_ret
              exact ⟨by first | rfl | (simp; done) | (simp [*]; done), by repeat (first | exact Drawn0.refl _ | apply Drawn0.step)⟩

/-! ### latinerref05_Base: function 37 -/
def latinerref05_Base.l0 : Nat → ByteArray → ByteArray → Int → Option (ByteArray)
  | 0, _, _, _ => none
  | k + 1, x0, x3, x4 => if x4 < (x0.size : Int) then (if 0 ≤ x4 then (if x4 ≤ (lesser (wrap64 (x4 + 3)) (x0.size : Int)) then (if (lesser (wrap64 (x4 + 3)) (x0.size : Int)) ≤ (x0.size : Int) then ((latinerref05_group.f k (x0.extract (x4 : Int).toNat ((lesser (wrap64 (x4 + 3)) (x0.size : Int)) : Int).toNat)).bind fun t182 => (if x3.size + t182.size ≤ 9223372036854775807 then (latinerref05_Base.l0 k x0 (x3 ++ t182) (wrap64 (x4 + 3))) else (none))) else (none)) else (none)) else (none)) else (some x3)
def latinerref05_Base.f (k : Nat) (a0 : ByteArray) : Option (ByteArray) := latinerref05_Base.l0 k a0 (⟨#[]⟩ : ByteArray) 0
set_option maxHeartbeats 8000000 in
set_option maxRecDepth 100000 in
theorem latinerref05_Base.calls (k : Nat) (a0 : ByteArray) (r : ByteArray) (w : World) (h : latinerref05_Base.f k a0 = some r) :
    Calls Tryz.prog 37 #[.string a0] w fun e w' => e = .returned (.string r) ∧ Below w.heap.size w w' := by
  have HB := Aside0.mk (Below.refl w.heap.size w)
  have H : (latinerref05_Base.l0 k a0 (⟨#[]⟩ : ByteArray) 0) = some r := h
  clear h
  have H' := Aside0.mk H
  clear H
  go_enter Tryz.func37, Tryz.ntmps37
  go_wp2
  go_loopg [3, 4] k (fun kq v3 v4 w' => ∃ (x3_1 : ByteArray) (x4_1 : Int), v3 = .string x3_1 ∧ v4 = .int .i64 x4_1 ∧ Aside0 (latinerref05_Base.l0 kq a0 x3_1 x4_1 = some r) ∧ Aside0 (kq ≤ k) ∧ Aside0 (Below w.heap.size w w'))
  case atStart => exact ⟨((⟨#[]⟩ : ByteArray)), (0), (by first | rfl | (simp; done) | (simp [*]; done)), (by first | rfl | (simp; done) | (simp [*]; done)), H', ⟨Nat.le_refl _⟩, ⟨by repeat (first | (with_reducible first | exact HB.out | apply below_alloc | apply pw_below_drewN | apply below_drew1) | exact HB.out)⟩⟩
  case round =>
    clear H'
    obtain ⟨x3_1, x4_1, rfl, rfl, HA, HK1, HB⟩ := hrel
    cases gk with
    | zero => exact absurd HA.out (by simp [latinerref05_Base.l0])
    | succ k1 =>
      have H := HA.out
      clear HA
      simp only [latinerref05_Base.l0] at H
      by_cases c2 : x4_1 < (a0.size : Int)
      · rw [if_pos c2] at H
        have c2b0 : decide (x4_1 < (a0.size : Int)) = true := decide_eq_true c2
        clear c2
        obtain ⟨ji3, hji3⟩ : ∃ j_ : Int, (lesser (wrap64 (x4_1 + 3)) (a0.size : Int)) = j_ := ⟨_, rfl⟩
        replace H : (if 0 ≤ x4_1 then (if x4_1 ≤ (ji3) then (if (ji3) ≤ (a0.size : Int) then ((latinerref05_group.f k1 (a0.extract (x4_1 : Int).toNat ((ji3) : Int).toNat)).bind fun t182 => (if x3_1.size + t182.size ≤ 9223372036854775807 then (latinerref05_Base.l0 k1 a0 (x3_1 ++ t182) (wrap64 (x4_1 + 3))) else (none))) else (none)) else (none)) else (none)) = some r := by first | (rw [hji3] at H; exact H) | (simp only [hji3] at H ⊢; exact H)
        have hji3_ : (if (a0.size : Int) < (wrap64 (x4_1 + 3)) then (a0.size : Int) else (wrap64 (x4_1 + 3))) = ji3 := hji3
        by_cases c4 : 0 ≤ x4_1
        · rw [if_pos c4] at H
          have c4b0 := eq_true c4
          have c4b1 : decide (0 ≤ x4_1) = true := decide_eq_true c4
          clear c4
          by_cases c5 : x4_1 ≤ (ji3)
          · rw [if_pos c5] at H
            have c5b0 := eq_true c5
            have c5b1 : decide (x4_1 ≤ (ji3)) = true := decide_eq_true c5
            clear c5
            by_cases c6 : (ji3) ≤ (a0.size : Int)
            · rw [if_pos c6] at H
              have c6b0 := eq_true c6
              have c6b1 : decide ((ji3) ≤ (a0.size : Int)) = true := decide_eq_true c6
              clear c6
              replace H := Option.bind_eq_some_iff.mp H
              obtain ⟨t182, A70, H⟩ := H
              replace H : (if x3_1.size + t182.size ≤ 9223372036854775807 then (latinerref05_Base.l0 k1 a0 (x3_1 ++ t182) (wrap64 (x4_1 + 3))) else (none)) = some r := H
              have A7 := Aside0.mk A70
              clear A70
              by_cases c8 : x3_1.size + t182.size ≤ 9223372036854775807
              · rw [if_pos c8] at H
                have c8b0 := eq_true c8
                have c8b1 : decide (x3_1.size + t182.size ≤ 9223372036854775807) = true := decide_eq_true c8
                try have c8b2 : (9223372036854775807 < x3_1.size + t182.size) = False := eq_false (Nat.not_lt.2 c8)
                have H' := Aside0.mk H
                clear H
                go_wp2_with (first | ((with_reducible refine own_gate (f := 57) rfl ?_); refine goesL_ (some 20) rfl rfl Tryz.func57 (by kernel_rfl) rfl #[.string (a0.extract (x4_1 : Int).toNat ((ji3) : Int).toNat)] rfl (by (try simp only [List.map_toArray, List.map_cons, List.map_nil]); first | done | (simp only [hji3]; rfl) | rfl | (simp only [List.length_drop, List.length_take]; rfl)) ?_; (with_reducible refine (latinerref05_group.calls k1 (a0.extract (x4_1 : Int).toNat ((ji3) : Int).toNat) t182 _ A7.out).mono ?_); rintro e w' ⟨rfl, ⟨nd, rfl⟩⟩; refine ⟨_, rfl, ?_⟩))
                all_goals first | (exfalso; have q_ := c8; simp at q_; omega) | skip
                go_roundg k1
                case measure => have := HK1.out; omega
                case rel => exact ⟨(x3_1 ++ t182), (wrap64 (x4_1 + 3)), (by first | rfl | (simp; done) | (simp [*]; done)), (by first | rfl | (simp; done) | (simp [*]; done)), H', ⟨by have := HK1.out; omega⟩, ⟨by repeat (first | (with_reducible first | exact HB.out | apply below_alloc | apply pw_below_drewN | apply below_drew1) | exact HB.out)⟩⟩
              · rw [if_neg c8] at H
                exact absurd H (by simp)
            · rw [if_neg c6] at H
              exact absurd H (by simp)
          · rw [if_neg c5] at H
            exact absurd H (by simp)
        · rw [if_neg c4] at H
          exact absurd H (by simp)
      · rw [if_neg c2] at H
        have c2b0 : decide (x4_1 < (a0.size : Int)) = false := decide_eq_false c2
        clear c2
        obtain rfl := Option.some.inj H
        go_wp2
        all_goals first | (exfalso; have q_ := c8; simp at q_; omega) | skip
        go_ret
        exact ⟨by first | rfl | (simp [errW_none, errW_some] <;> rfl) | (simp [*, errW_none, errW_some] <;> rfl), by repeat (first | (with_reducible first | exact HB.out | apply below_alloc | apply pw_below_drewN | apply below_drew1) | exact HB.out)⟩

/-! ### latinerref15_Item: function 20 -/
def latinerref15_Item.f (k : Nat) (a0 : ByteArray) (a1 : ByteArray) : Option (ByteArray × Int) := (latinerref15_name.f k a0).bind fun t183 => (if t183 = true then (if a1.toList = ([] : List UInt8) then (if a0.size + 1 ≤ 9223372036854775807 then (some (a0 ++ (⟨#[58]⟩ : ByteArray), 0)) else (none)) else ((latinerref04_IsSafe.f k a1).bind fun t184 => (if t184 = true then (if a0.size + 2 ≤ 9223372036854775807 then (if (a0 ++ (⟨#[58, 32]⟩ : ByteArray)).size + a1.size ≤ 9223372036854775807 then (some ((a0 ++ (⟨#[58, 32]⟩ : ByteArray)) ++ a1, 0)) else (none)) else (none)) else (if a0.size + 3 ≤ 9223372036854775807 then ((latinerref05_Base.f k a1).bind fun t185 => (if (a0 ++ (⟨#[58, 58, 32]⟩ : ByteArray)).size + t185.size ≤ 9223372036854775807 then (some ((a0 ++ (⟨#[58, 58, 32]⟩ : ByteArray)) ++ t185, 0)) else (none))) else (none))))) else (some ((⟨#[]⟩ : ByteArray), 151)))
set_option maxHeartbeats 8000000 in
set_option maxRecDepth 100000 in
theorem latinerref15_Item.calls (k : Nat) (a0 : ByteArray) (a1 : ByteArray) (r1 : ByteArray) (r2 : Int) (w : World) (h : latinerref15_Item.f k a0 a1 = some (r1, r2)) :
    Calls Tryz.prog 20 #[.string a0, .string a1] w fun e w' => e = .returned (.tuple #[.string r1, .int .i64 r2]) ∧ Below w.heap.size w w' := by
  have HB := Aside0.mk (Below.refl w.heap.size w)
  have H : ((latinerref15_name.f k a0).bind fun t183 => (if t183 = true then (if a1.toList = ([] : List UInt8) then (if a0.size + 1 ≤ 9223372036854775807 then (some (a0 ++ (⟨#[58]⟩ : ByteArray), 0)) else (none)) else ((latinerref04_IsSafe.f k a1).bind fun t184 => (if t184 = true then (if a0.size + 2 ≤ 9223372036854775807 then (if (a0 ++ (⟨#[58, 32]⟩ : ByteArray)).size + a1.size ≤ 9223372036854775807 then (some ((a0 ++ (⟨#[58, 32]⟩ : ByteArray)) ++ a1, 0)) else (none)) else (none)) else (if a0.size + 3 ≤ 9223372036854775807 then ((latinerref05_Base.f k a1).bind fun t185 => (if (a0 ++ (⟨#[58, 58, 32]⟩ : ByteArray)).size + t185.size ≤ 9223372036854775807 then (some ((a0 ++ (⟨#[58, 58, 32]⟩ : ByteArray)) ++ t185, 0)) else (none))) else (none))))) else (some ((⟨#[]⟩ : ByteArray), 151)))) = some (r1, r2) := h
  clear h
  replace H := Option.bind_eq_some_iff.mp H
  obtain ⟨t183, A30, H⟩ := H
  replace H : (if t183 = true then (if a1.toList = ([] : List UInt8) then (if a0.size + 1 ≤ 9223372036854775807 then (some (a0 ++ (⟨#[58]⟩ : ByteArray), 0)) else (none)) else ((latinerref04_IsSafe.f k a1).bind fun t184 => (if t184 = true then (if a0.size + 2 ≤ 9223372036854775807 then (if (a0 ++ (⟨#[58, 32]⟩ : ByteArray)).size + a1.size ≤ 9223372036854775807 then (some ((a0 ++ (⟨#[58, 32]⟩ : ByteArray)) ++ a1, 0)) else (none)) else (none)) else (if a0.size + 3 ≤ 9223372036854775807 then ((latinerref05_Base.f k a1).bind fun t185 => (if (a0 ++ (⟨#[58, 58, 32]⟩ : ByteArray)).size + t185.size ≤ 9223372036854775807 then (some ((a0 ++ (⟨#[58, 58, 32]⟩ : ByteArray)) ++ t185, 0)) else (none))) else (none))))) else (some ((⟨#[]⟩ : ByteArray), 151))) = some (r1, r2) := H
  have A3 := Aside0.mk A30
  clear A30
  by_cases c4 : t183 = true
  · subst c4
    have H1 : (if a1.toList = ([] : List UInt8) then (if a0.size + 1 ≤ 9223372036854775807 then (some (a0 ++ (⟨#[58]⟩ : ByteArray), 0)) else (none)) else ((latinerref04_IsSafe.f k a1).bind fun t184 => (if t184 = true then (if a0.size + 2 ≤ 9223372036854775807 then (if (a0 ++ (⟨#[58, 32]⟩ : ByteArray)).size + a1.size ≤ 9223372036854775807 then (some ((a0 ++ (⟨#[58, 32]⟩ : ByteArray)) ++ a1, 0)) else (none)) else (none)) else (if a0.size + 3 ≤ 9223372036854775807 then ((latinerref05_Base.f k a1).bind fun t185 => (if (a0 ++ (⟨#[58, 58, 32]⟩ : ByteArray)).size + t185.size ≤ 9223372036854775807 then (some ((a0 ++ (⟨#[58, 58, 32]⟩ : ByteArray)) ++ t185, 0)) else (none))) else (none))))) = some (r1, r2) := by rw [if_pos rfl] at H; exact H
    clear H
    have H := H1
    clear H1
    by_cases c5 : a1.toList = ([] : List UInt8)
    · rw [if_pos c5] at H
      have c5b0 : (a1.toList == ([] : List UInt8)) = true := beq_iff_eq.mpr c5
      have c5b1 : (a1.toList != ([] : List UInt8)) = false := bne_eq_false_iff_eq.mpr c5
      clear c5
      by_cases c6 : a0.size + 1 ≤ 9223372036854775807
      · rw [if_pos c6] at H
        have c6b0 := eq_true c6
        have c6b1 : decide (a0.size + 1 ≤ 9223372036854775807) = true := decide_eq_true c6
        try have c6b2 : (9223372036854775807 < a0.size + 1) = False := eq_false (Nat.not_lt.2 c6)
        simp only [Option.some.injEq, Prod.mk.injEq] at H
        obtain ⟨rfl, rfl⟩ := H
        go_enter Tryz.func20, Tryz.ntmps20
        go_wp2_with (first | ((with_reducible refine own_gate (f := 35) rfl ?_); refine goesL_ (some 8) rfl rfl Tryz.func35 (by kernel_rfl) rfl #[.string a0] rfl (by (try simp only [List.map_toArray, List.map_cons, List.map_nil]); first | done | rfl | (simp only [List.length_drop, List.length_take]; rfl)) ?_; (with_reducible refine (latinerref15_name.calls k a0 true _ A3.out).mono ?_); rintro e w' ⟨rfl, ⟨nd, rfl⟩⟩; refine ⟨_, rfl, ?_⟩))
        all_goals first | (exfalso; have q_ := c6; simp at q_; omega) | skip
        go_ret2
        exact ⟨by first | rfl | (simp [errW_none, errW_some] <;> rfl) | (simp [*, errW_none, errW_some] <;> rfl), by repeat (first | (with_reducible first | exact HB.out | apply below_alloc | apply pw_below_drewN | apply below_drew1) | exact HB.out)⟩
      · rw [if_neg c6] at H
        exact absurd H (by simp)
    · rw [if_neg c5] at H
      have c5b0 : (a1.toList == ([] : List UInt8)) = false := beq_eq_false_iff_ne.mpr c5
      have c5b1 : (a1.toList != ([] : List UInt8)) = true := bne_iff_ne.mpr c5
      replace H := Option.bind_eq_some_iff.mp H
      obtain ⟨t184, A70, H⟩ := H
      replace H : (if t184 = true then (if a0.size + 2 ≤ 9223372036854775807 then (if (a0 ++ (⟨#[58, 32]⟩ : ByteArray)).size + a1.size ≤ 9223372036854775807 then (some ((a0 ++ (⟨#[58, 32]⟩ : ByteArray)) ++ a1, 0)) else (none)) else (none)) else (if a0.size + 3 ≤ 9223372036854775807 then ((latinerref05_Base.f k a1).bind fun t185 => (if (a0 ++ (⟨#[58, 58, 32]⟩ : ByteArray)).size + t185.size ≤ 9223372036854775807 then (some ((a0 ++ (⟨#[58, 58, 32]⟩ : ByteArray)) ++ t185, 0)) else (none))) else (none))) = some (r1, r2) := H
      have A7 := Aside0.mk A70
      clear A70
      by_cases c8 : t184 = true
      · subst c8
        have H1 : (if a0.size + 2 ≤ 9223372036854775807 then (if (a0 ++ (⟨#[58, 32]⟩ : ByteArray)).size + a1.size ≤ 9223372036854775807 then (some ((a0 ++ (⟨#[58, 32]⟩ : ByteArray)) ++ a1, 0)) else (none)) else (none)) = some (r1, r2) := by rw [if_pos rfl] at H; exact H
        clear H
        have H := H1
        clear H1
        by_cases c9 : a0.size + 2 ≤ 9223372036854775807
        · rw [if_pos c9] at H
          have c9b0 := eq_true c9
          have c9b1 : decide (a0.size + 2 ≤ 9223372036854775807) = true := decide_eq_true c9
          try have c9b2 : (9223372036854775807 < a0.size + 2) = False := eq_false (Nat.not_lt.2 c9)
          by_cases c10 : (a0 ++ (⟨#[58, 32]⟩ : ByteArray)).size + a1.size ≤ 9223372036854775807
          · rw [if_pos c10] at H
            have c10b0 := eq_true c10
            have c10b1 : decide ((a0 ++ (⟨#[58, 32]⟩ : ByteArray)).size + a1.size ≤ 9223372036854775807) = true := decide_eq_true c10
            try have c10b2 : (9223372036854775807 < (a0 ++ (⟨#[58, 32]⟩ : ByteArray)).size + a1.size) = False := eq_false (Nat.not_lt.2 c10)
            simp only [Option.some.injEq, Prod.mk.injEq] at H
            obtain ⟨rfl, rfl⟩ := H
            go_enter Tryz.func20, Tryz.ntmps20
            go_wp2_with (first | ((with_reducible refine own_gate (f := 35) rfl ?_); refine goesL_ (some 8) rfl rfl Tryz.func35 (by kernel_rfl) rfl #[.string a0] rfl (by (try simp only [List.map_toArray, List.map_cons, List.map_nil]); first | done | rfl | (simp only [List.length_drop, List.length_take]; rfl)) ?_; (with_reducible refine (latinerref15_name.calls k a0 true _ A3.out).mono ?_); rintro e w' ⟨rfl, ⟨nd, rfl⟩⟩; refine ⟨_, rfl, ?_⟩) | ((with_reducible refine own_gate (f := 36) rfl ?_); refine goesL_ (some 17) rfl rfl Tryz.func36 (by kernel_rfl) rfl #[.string a1] rfl (by (try simp only [List.map_toArray, List.map_cons, List.map_nil]); first | done | rfl | (simp only [List.length_drop, List.length_take]; rfl)) ?_; (with_reducible refine (latinerref04_IsSafe.calls k a1 true _ A7.out).mono ?_); rintro e w' ⟨rfl, ⟨nd, rfl⟩⟩; refine ⟨_, rfl, ?_⟩))
            all_goals first | (exfalso; have q_ := c10; have e0_ : (⟨#[58, 32]⟩ : ByteArray).size = 2 := rfl; simp at q_; omega) | (exfalso; have q_ := c9; simp at q_; omega) | (exfalso; have q_ := c6; simp at q_; omega) | skip
            go_ret2
            exact ⟨by first | rfl | (simp [errW_none, errW_some] <;> rfl) | (simp [*, errW_none, errW_some] <;> rfl), by repeat (first | (with_reducible first | exact HB.out | apply below_alloc | apply pw_below_drewN | apply below_drew1) | exact HB.out)⟩
          · rw [if_neg c10] at H
            exact absurd H (by simp)
        · rw [if_neg c9] at H
          exact absurd H (by simp)
      · replace c8 := Bool.eq_false_iff.mpr c8
        subst c8
        have H1 : (if a0.size + 3 ≤ 9223372036854775807 then ((latinerref05_Base.f k a1).bind fun t185 => (if (a0 ++ (⟨#[58, 58, 32]⟩ : ByteArray)).size + t185.size ≤ 9223372036854775807 then (some ((a0 ++ (⟨#[58, 58, 32]⟩ : ByteArray)) ++ t185, 0)) else (none))) else (none)) = some (r1, r2) := by rw [if_neg (show ¬ (false = true) by decide)] at H; exact H
        clear H
        have H := H1
        clear H1
        by_cases c11 : a0.size + 3 ≤ 9223372036854775807
        · rw [if_pos c11] at H
          have c11b0 := eq_true c11
          have c11b1 : decide (a0.size + 3 ≤ 9223372036854775807) = true := decide_eq_true c11
          try have c11b2 : (9223372036854775807 < a0.size + 3) = False := eq_false (Nat.not_lt.2 c11)
          replace H := Option.bind_eq_some_iff.mp H
          obtain ⟨t185, A120, H⟩ := H
          replace H : (if (a0 ++ (⟨#[58, 58, 32]⟩ : ByteArray)).size + t185.size ≤ 9223372036854775807 then (some ((a0 ++ (⟨#[58, 58, 32]⟩ : ByteArray)) ++ t185, 0)) else (none)) = some (r1, r2) := H
          have A12 := Aside0.mk A120
          clear A120
          by_cases c13 : (a0 ++ (⟨#[58, 58, 32]⟩ : ByteArray)).size + t185.size ≤ 9223372036854775807
          · rw [if_pos c13] at H
            have c13b0 := eq_true c13
            have c13b1 : decide ((a0 ++ (⟨#[58, 58, 32]⟩ : ByteArray)).size + t185.size ≤ 9223372036854775807) = true := decide_eq_true c13
            try have c13b2 : (9223372036854775807 < (a0 ++ (⟨#[58, 58, 32]⟩ : ByteArray)).size + t185.size) = False := eq_false (Nat.not_lt.2 c13)
            simp only [Option.some.injEq, Prod.mk.injEq] at H
            obtain ⟨rfl, rfl⟩ := H
            go_enter Tryz.func20, Tryz.ntmps20
            go_wp2_with (first | ((with_reducible refine own_gate (f := 35) rfl ?_); refine goesL_ (some 8) rfl rfl Tryz.func35 (by kernel_rfl) rfl #[.string a0] rfl (by (try simp only [List.map_toArray, List.map_cons, List.map_nil]); first | done | rfl | (simp only [List.length_drop, List.length_take]; rfl)) ?_; (with_reducible refine (latinerref15_name.calls k a0 true _ A3.out).mono ?_); rintro e w' ⟨rfl, ⟨nd, rfl⟩⟩; refine ⟨_, rfl, ?_⟩) | ((with_reducible refine own_gate (f := 36) rfl ?_); refine goesL_ (some 17) rfl rfl Tryz.func36 (by kernel_rfl) rfl #[.string a1] rfl (by (try simp only [List.map_toArray, List.map_cons, List.map_nil]); first | done | rfl | (simp only [List.length_drop, List.length_take]; rfl)) ?_; (with_reducible refine (latinerref04_IsSafe.calls k a1 false _ A7.out).mono ?_); rintro e w' ⟨rfl, ⟨nd, rfl⟩⟩; refine ⟨_, rfl, ?_⟩) | ((with_reducible refine own_gate (f := 37) rfl ?_); refine goesL_ (some 25) rfl rfl Tryz.func37 (by kernel_rfl) rfl #[.string a1] rfl (by (try simp only [List.map_toArray, List.map_cons, List.map_nil]); first | done | rfl | (simp only [List.length_drop, List.length_take]; rfl)) ?_; (with_reducible refine (latinerref05_Base.calls k a1 t185 _ A12.out).mono ?_); rintro e w14 ⟨rfl, hb⟩; refine ⟨_, rfl, ?_⟩; have n0_ := Aside0.mk (below_step (by repeat (first | (with_reducible first | exact HB.out | apply below_alloc | apply pw_below_drewN | apply below_drew1) | exact HB.out)) hb); clear HB; have HB := n0_; clear n0_; (try clear hb); (try clear hb2); (try clear hk); (try clear hi)))
            all_goals first | (exfalso; have q_ := c13; have e0_ : (⟨#[58, 58, 32]⟩ : ByteArray).size = 3 := rfl; simp at q_; omega) | (exfalso; have q_ := c11; simp at q_; omega) | (exfalso; have q_ := c10; have e0_ : (⟨#[58, 32]⟩ : ByteArray).size = 2 := rfl; simp at q_; omega) | (exfalso; have q_ := c9; simp at q_; omega) | (exfalso; have q_ := c6; simp at q_; omega) | skip
            go_ret2
            exact ⟨by first | rfl | (simp [errW_none, errW_some] <;> rfl) | (simp [*, errW_none, errW_some] <;> rfl), by repeat (first | (with_reducible first | exact HB.out | apply below_alloc | apply pw_below_drewN | apply below_drew1) | exact HB.out)⟩
          · rw [if_neg c13] at H
            exact absurd H (by simp)
        · rw [if_neg c11] at H
          exact absurd H (by simp)
  · replace c4 := Bool.eq_false_iff.mpr c4
    subst c4
    have H1 : (some ((⟨#[]⟩ : ByteArray), 151)) = some (r1, r2) := by rw [if_neg (show ¬ (false = true) by decide)] at H; exact H
    clear H
    have H := H1
    clear H1
    simp only [Option.some.injEq, Prod.mk.injEq] at H
    obtain ⟨rfl, rfl⟩ := H
    go_enter Tryz.func20, Tryz.ntmps20
    go_wp2_with (first | ((with_reducible refine own_gate (f := 35) rfl ?_); refine goesL_ (some 8) rfl rfl Tryz.func35 (by kernel_rfl) rfl #[.string a0] rfl (by (try simp only [List.map_toArray, List.map_cons, List.map_nil]); first | done | rfl | (simp only [List.length_drop, List.length_take]; rfl)) ?_; (with_reducible refine (latinerref15_name.calls k a0 false _ A3.out).mono ?_); rintro e w' ⟨rfl, ⟨nd, rfl⟩⟩; refine ⟨_, rfl, ?_⟩))
    all_goals first | (exfalso; have q_ := c13; have e0_ : (⟨#[58, 58, 32]⟩ : ByteArray).size = 3 := rfl; simp at q_; omega) | (exfalso; have q_ := c11; simp at q_; omega) | (exfalso; have q_ := c10; have e0_ : (⟨#[58, 32]⟩ : ByteArray).size = 2 := rfl; simp at q_; omega) | (exfalso; have q_ := c9; simp at q_; omega) | (exfalso; have q_ := c6; simp at q_; omega) | skip
    go_ret2
    exact ⟨by first | rfl | (simp [errW_none, errW_some] <;> rfl) | (simp [*, errW_none, errW_some] <;> rfl), by repeat (first | (with_reducible first | exact HB.out | apply below_alloc | apply pw_below_drewN | apply below_drew1) | exact HB.out)⟩

/-! ### latinerref05_value: function 62 -/
def latinerref05_value.l0 : Nat → Int → Int → Option (Int)
  | 0, _, _ => none
  | k + 1, x0, x3 => if x3 < 64 then (if 0 ≤ x3 then (if (bt (⟨#[65, 66, 67, 68, 69, 70, 71, 72, 73, 74, 75, 76, 77, 78, 79, 80, 81, 82, 83, 84, 85, 86, 87, 88, 89, 90, 97, 98, 99, 100, 101, 102, 103, 104, 105, 106, 107, 108, 109, 110, 111, 112, 113, 114, 115, 116, 117, 118, 119, 120, 121, 122, 48, 49, 50, 51, 52, 53, 54, 55, 56, 57, 43, 47]⟩ : ByteArray) x3) = x0 then (some x3) else (latinerref05_value.l0 k x0 (wrap64 (x3 + 1)))) else (none)) else (some 0)
def latinerref05_value.f (k : Nat) (a0 : Int) : Option (Int) := latinerref05_value.l0 k a0 0
set_option maxHeartbeats 8000000 in
set_option maxRecDepth 100000 in
theorem latinerref05_value.calls (k : Nat) (a0 : Int) (r : Int) (w : World) (h : latinerref05_value.f k a0 = some r) :
    Calls Tryz.prog 62 #[.int .u8 a0] w fun e w' => e = .returned (.int .i64 r) ∧ Drawn0 w w' := by
  have H : (latinerref05_value.l0 k a0 0) = some r := h
  clear h
  have H' := Aside0.mk H
  clear H
  go_enter Tryz.func62, Tryz.ntmps62
  go_wp2
  go_loopg [3] k (fun kq v3 w' => ∃ (x3_1 : Int), v3 = .int .i64 x3_1 ∧ Aside0 (latinerref05_value.l0 kq a0 x3_1 = some r) ∧ Aside0 (kq ≤ k) ∧ Drawn0 w w')
  case atStart => exact ⟨(0), (by first | rfl | (simp; done) | (simp [*]; done)), H', ⟨Nat.le_refl _⟩, by repeat (first | exact Drawn0.refl _ | apply Drawn0.step)⟩
  case round =>
    clear H'
    obtain ⟨x3_1, rfl, HA, HK1, ⟨m1, rfl⟩⟩ := hrel
    cases gk with
    | zero => exact absurd HA.out (by simp [latinerref05_value.l0])
    | succ k1 =>
      have H := HA.out
      clear HA
      simp only [latinerref05_value.l0] at H
      by_cases c2 : x3_1 < 64
      · rw [if_pos c2] at H
        have c2b0 : decide (x3_1 < 64) = true := decide_eq_true c2
        clear c2
        by_cases c3 : 0 ≤ x3_1
        · rw [if_pos c3] at H
          have c3b0 : decide (0 ≤ x3_1) = true := decide_eq_true c3
          clear c3
          by_cases c5 : (bt (⟨#[65, 66, 67, 68, 69, 70, 71, 72, 73, 74, 75, 76, 77, 78, 79, 80, 81, 82, 83, 84, 85, 86, 87, 88, 89, 90, 97, 98, 99, 100, 101, 102, 103, 104, 105, 106, 107, 108, 109, 110, 111, 112, 113, 114, 115, 116, 117, 118, 119, 120, 121, 122, 48, 49, 50, 51, 52, 53, 54, 55, 56, 57, 43, 47]⟩ : ByteArray) x3_1) = a0
          · rw [if_pos c5] at H
            have c5b0 : ((bt (⟨#[65, 66, 67, 68, 69, 70, 71, 72, 73, 74, 75, 76, 77, 78, 79, 80, 81, 82, 83, 84, 85, 86, 87, 88, 89, 90, 97, 98, 99, 100, 101, 102, 103, 104, 105, 106, 107, 108, 109, 110, 111, 112, 113, 114, 115, 116, 117, 118, 119, 120, 121, 122, 48, 49, 50, 51, 52, 53, 54, 55, 56, 57, 43, 47]⟩ : ByteArray) x3_1) == a0) = true := beq_iff_eq.mpr c5
            have c5b1 : ((bt (⟨#[65, 66, 67, 68, 69, 70, 71, 72, 73, 74, 75, 76, 77, 78, 79, 80, 81, 82, 83, 84, 85, 86, 87, 88, 89, 90, 97, 98, 99, 100, 101, 102, 103, 104, 105, 106, 107, 108, 109, 110, 111, 112, 113, 114, 115, 116, 117, 118, 119, 120, 121, 122, 48, 49, 50, 51, 52, 53, 54, 55, 56, 57, 43, 47]⟩ : ByteArray) x3_1) != a0) = false := bne_eq_false_iff_eq.mpr c5
            clear c5
            obtain rfl := Option.some.inj H
            have p4 : 0 ≤ (x3_1 : Int) := of_decide_eq_true (by first | (with_reducible assumption) | assumption)
            have q4 : x3_1 < (64 : Int) := of_decide_eq_true (by first | (with_reducible assumption) | assumption)
            have hx4 := bt_at (⟨#[65, 66, 67, 68, 69, 70, 71, 72, 73, 74, 75, 76, 77, 78, 79, 80, 81, 82, 83, 84, 85, 86, 87, 88, 89, 90, 97, 98, 99, 100, 101, 102, 103, 104, 105, 106, 107, 108, 109, 110, 111, 112, 113, 114, 115, 116, 117, 118, 119, 120, 121, 122, 48, 49, 50, 51, 52, 53, 54, 55, 56, 57, 43, 47]⟩ : ByteArray) x3_1
            replace p4 := eq_true p4
            replace q4 := eq_true q4
            go_wp2
            go_ret
            exact ⟨by first | rfl | (simp; done) | (simp [*]; done), by repeat (first | exact Drawn0.refl _ | apply Drawn0.step)⟩
          · rw [if_neg c5] at H
            have c5b0 : ((bt (⟨#[65, 66, 67, 68, 69, 70, 71, 72, 73, 74, 75, 76, 77, 78, 79, 80, 81, 82, 83, 84, 85, 86, 87, 88, 89, 90, 97, 98, 99, 100, 101, 102, 103, 104, 105, 106, 107, 108, 109, 110, 111, 112, 113, 114, 115, 116, 117, 118, 119, 120, 121, 122, 48, 49, 50, 51, 52, 53, 54, 55, 56, 57, 43, 47]⟩ : ByteArray) x3_1) == a0) = false := beq_eq_false_iff_ne.mpr c5
            have c5b1 : ((bt (⟨#[65, 66, 67, 68, 69, 70, 71, 72, 73, 74, 75, 76, 77, 78, 79, 80, 81, 82, 83, 84, 85, 86, 87, 88, 89, 90, 97, 98, 99, 100, 101, 102, 103, 104, 105, 106, 107, 108, 109, 110, 111, 112, 113, 114, 115, 116, 117, 118, 119, 120, 121, 122, 48, 49, 50, 51, 52, 53, 54, 55, 56, 57, 43, 47]⟩ : ByteArray) x3_1) != a0) = true := bne_iff_ne.mpr c5
            have H' := Aside0.mk H
            clear H
            have p4 : 0 ≤ (x3_1 : Int) := of_decide_eq_true (by first | (with_reducible assumption) | assumption)
            have q4 : x3_1 < (64 : Int) := of_decide_eq_true (by first | (with_reducible assumption) | assumption)
            have hx4 := bt_at (⟨#[65, 66, 67, 68, 69, 70, 71, 72, 73, 74, 75, 76, 77, 78, 79, 80, 81, 82, 83, 84, 85, 86, 87, 88, 89, 90, 97, 98, 99, 100, 101, 102, 103, 104, 105, 106, 107, 108, 109, 110, 111, 112, 113, 114, 115, 116, 117, 118, 119, 120, 121, 122, 48, 49, 50, 51, 52, 53, 54, 55, 56, 57, 43, 47]⟩ : ByteArray) x3_1
            replace p4 := eq_true p4
            replace q4 := eq_true q4
            go_wp2
            go_roundg k1
            case measure => have := HK1.out; omega
            case rel => exact ⟨(wrap64 (x3_1 + 1)), (by first | rfl | (simp; done) | (simp [*]; done)), H', ⟨by have := HK1.out; omega⟩, by repeat (first | exact Drawn0.refl _ | apply Drawn0.step)⟩
        · rw [if_neg c3] at H
          exact absurd H (by simp)
      · rw [if_neg c2] at H
        have c2b0 : decide (x3_1 < 64) = false := decide_eq_false c2
        clear c2
        obtain rfl := Option.some.inj H
        go_wp2
        go_ret
        exact ⟨by first | rfl | (simp; done) | (simp [*]; done), by repeat (first | exact Drawn0.refl _ | apply Drawn0.step)⟩

end Go.Proofs.YtjnfoocmilbdlaaGreatDoor.LFold
-- Written by this repo's own program over the kit's printer: YtjnfoocmilbdlaaGreatDoor.LFold
namespace Go.Proofs.YtjnfoocmilbdlaaGreatDoor.LFold
open Go.Proofs.YtjnfoocmilbdlaaGreatDoor.ExtFold
open Go.RowKit Go.Proofs.YtjnfoocmilbdlaaGreatDoorW.PrintWords Go.Proofs.YtjnfoocmilbdlaaGreatDoorW.PrintLast Go.Proofs.YtjnfoocmilbdlaaGreatDoorW2
attribute [local go_sem] own_max2 own_min2 own_maxs own_mins
set_option linter.unusedVariables false
set_option linter.unusedSimpArgs false

/-! ### latinerref05_Unbase: function 39 -/
mutual
def latinerref05_Unbase.l0 : Nat → ByteArray → ByteArray → Int → Option (ByteArray × Int)
  | 0, _, _, _ => none
  | k + 1, x0, x4, x5 => if x5 < (x0.size : Int) then (if 0 ≤ x5 then ((latinerref05_value.f k (bt x0 x5)).bind fun t186 => (if 0 ≤ (wrap64 (x5 + 1)) then (if (wrap64 (x5 + 1)) < (x0.size : Int) then ((latinerref05_value.f k (bt x0 (wrap64 (x5 + 1)))).bind fun t187 => (if 0 ≤ (wrap64 (x5 + 2)) then (if (wrap64 (x5 + 2)) < (x0.size : Int) then ((latinerref05_value.f k (bt x0 (wrap64 (x5 + 2)))).bind fun t188 => (if 0 ≤ (wrap64 (x5 + 3)) then (if (wrap64 (x5 + 3)) < (x0.size : Int) then ((latinerref05_value.f k (bt x0 (wrap64 (x5 + 3)))).bind fun t189 => ((some (([(wrap64 (Int.tdiv (wrap64 ((wrap64 ((wrap64 ((wrap64 (262144 * t186)) + (wrap64 (4096 * t187)))) + (wrap64 (64 * t188)))) + t189)) 65536)) % 256, (Int.tmod (wrap64 (Int.tdiv (wrap64 ((wrap64 ((wrap64 ((wrap64 (262144 * t186)) + (wrap64 (4096 * t187)))) + (wrap64 (64 * t188)))) + t189)) 256)) 256) % 256, (Int.tmod (wrap64 ((wrap64 ((wrap64 ((wrap64 (262144 * t186)) + (wrap64 (4096 * t187)))) + (wrap64 (64 * t188)))) + t189)) 256) % 256] : List Int) : List Int)).bind fun y190 => (if x4.size + (strOfNums y190).size ≤ 9223372036854775807 then (latinerref05_Unbase.l0 k x0 (x4 ++ (strOfNums y190)) (wrap64 (x5 + 4))) else (none)))) else (none)) else (none))) else (none)) else (none))) else (none)) else (none))) else (none)) else (if (x0.size : Int) > 1 then (if 0 ≤ (wrap64 ((x0.size : Int) - 2)) then (if (wrap64 ((x0.size : Int) - 2)) ≤ (x0.size : Int) then (latinerref05_Unbase.j1 k x0 x4 ((x0.extract ((wrap64 ((x0.size : Int) - 2)) : Int).toNat x0.size).toList == ([61, 61] : List UInt8))) else (none)) else (none)) else (latinerref05_Unbase.j1 k x0 x4 false))
def latinerref05_Unbase.j1 : Nat → ByteArray → ByteArray → Bool → Option (ByteArray × Int)
  | 0, _, _, _ => none
  | k + 1, x0, x4, x66 => if x66 = true then (if 0 ≤ (wrap64 ((x4.size : Int) - 2)) then (if (wrap64 ((x4.size : Int) - 2)) ≤ (x4.size : Int) then ((latinerref05_Base.f k (x4.extract 0 ((wrap64 ((x4.size : Int) - 2)) : Int).toNat)).bind fun t193 => (if t193.toList = x0.toList then (some (x4.extract 0 ((wrap64 ((x4.size : Int) - 2)) : Int).toNat, 0)) else (some ((⟨#[]⟩ : ByteArray), 50)))) else (none)) else (none)) else (if (x0.size : Int) > 1 then (if 0 ≤ (wrap64 ((x0.size : Int) - 1)) then (if (wrap64 ((x0.size : Int) - 1)) < (x0.size : Int) then (latinerref05_Unbase.j2 k x0 x4 ((bt x0 (wrap64 ((x0.size : Int) - 1))) == 61)) else (none)) else (none)) else (latinerref05_Unbase.j2 k x0 x4 false))
def latinerref05_Unbase.j2 : Nat → ByteArray → ByteArray → Bool → Option (ByteArray × Int)
  | 0, _, _, _ => none
  | k + 1, x0, x4, x82 => if x82 = true then (if 0 ≤ (wrap64 ((x4.size : Int) - 1)) then (if (wrap64 ((x4.size : Int) - 1)) ≤ (x4.size : Int) then ((latinerref05_Base.f k (x4.extract 0 ((wrap64 ((x4.size : Int) - 1)) : Int).toNat)).bind fun t194 => (if t194.toList = x0.toList then (some (x4.extract 0 ((wrap64 ((x4.size : Int) - 1)) : Int).toNat, 0)) else (some ((⟨#[]⟩ : ByteArray), 50)))) else (none)) else (none)) else ((latinerref05_Base.f k x4).bind fun t195 => (if t195.toList = x0.toList then (some (x4, 0)) else (some ((⟨#[]⟩ : ByteArray), 50))))
end
def latinerref05_Unbase.f (k : Nat) (a0 : ByteArray) : Option (ByteArray × Int) := if ((a0.size : Int) % 4) = 0 then (latinerref05_Unbase.l0 k a0 (⟨#[]⟩ : ByteArray) 0) else (some ((⟨#[]⟩ : ByteArray), 50))
set_option maxHeartbeats 8000000 in
set_option maxRecDepth 100000 in
theorem latinerref05_Unbase.calls (k : Nat) (a0 : ByteArray) (r1 : ByteArray) (r2 : Int) (w : World) (h : latinerref05_Unbase.f k a0 = some (r1, r2)) :
    Calls Tryz.prog 39 #[.string a0] w fun e w' => e = .returned (.tuple #[.string r1, .int .i64 r2]) ∧ Below w.heap.size w w' := by
  have HB := Aside0.mk (Below.refl w.heap.size w)
  have H : (if ((a0.size : Int) % 4) = 0 then (latinerref05_Unbase.l0 k a0 (⟨#[]⟩ : ByteArray) 0) else (some ((⟨#[]⟩ : ByteArray), 50))) = some (r1, r2) := h
  clear h
  by_cases c2 : ((a0.size : Int) % 4) = 0
  · rw [if_pos c2] at H
    have c2b0 : (((a0.size : Int) % 4) == 0) = true := beq_iff_eq.mpr c2
    have c2b1 : (((a0.size : Int) % 4) != 0) = false := bne_eq_false_iff_eq.mpr c2
    clear c2
    have H' := Aside0.mk H
    clear H
    go_enter Tryz.func39, Tryz.ntmps39
    go_wp2
    repeat (go_quiet (fail); try go_wp2)
    go_loopg [4, 5] k (fun kq v4 v5 w' => ∃ (x4_1 : ByteArray) (x5_1 : Int), v4 = .string x4_1 ∧ v5 = .int .i64 x5_1 ∧ Aside0 (latinerref05_Unbase.l0 kq a0 x4_1 x5_1 = some (r1, r2)) ∧ Aside0 (kq ≤ k) ∧ Aside0 (Below w.heap.size w w'))
    case atStart => exact ⟨((⟨#[]⟩ : ByteArray)), (0), (by first | rfl | (simp; done) | (simp [*]; done)), (by first | rfl | (simp; done) | (simp [*]; done)), H', ⟨Nat.le_refl _⟩, ⟨by repeat (first | (with_reducible first | exact HB.out | apply below_alloc | apply pw_below_drewN | apply below_drew1) | exact HB.out)⟩⟩
    case round =>
      clear H'
      try clear c2
      try clear c2b0
      try clear c2b1
      try clear p2
      obtain ⟨x4_1, x5_1, rfl, rfl, HA, HK1, HB⟩ := hrel
      cases gk with
      | zero => exact absurd HA.out (by simp [latinerref05_Unbase.l0])
      | succ k1 =>
        have H := HA.out
        clear HA
        simp only [latinerref05_Unbase.l0] at H
        by_cases c3 : x5_1 < (a0.size : Int)
        · rw [if_pos c3] at H
          have c3b0 : decide (x5_1 < (a0.size : Int)) = true := decide_eq_true c3
          clear c3
          by_cases c4 : 0 ≤ x5_1
          · rw [if_pos c4] at H
            have c4b0 : decide (0 ≤ x5_1) = true := decide_eq_true c4
            clear c4
            replace H := Option.bind_eq_some_iff.mp H
            obtain ⟨t186, A60, H⟩ := H
            replace H : (if 0 ≤ (wrap64 (x5_1 + 1)) then (if (wrap64 (x5_1 + 1)) < (a0.size : Int) then ((latinerref05_value.f k1 (bt a0 (wrap64 (x5_1 + 1)))).bind fun t187 => (if 0 ≤ (wrap64 (x5_1 + 2)) then (if (wrap64 (x5_1 + 2)) < (a0.size : Int) then ((latinerref05_value.f k1 (bt a0 (wrap64 (x5_1 + 2)))).bind fun t188 => (if 0 ≤ (wrap64 (x5_1 + 3)) then (if (wrap64 (x5_1 + 3)) < (a0.size : Int) then ((latinerref05_value.f k1 (bt a0 (wrap64 (x5_1 + 3)))).bind fun t189 => ((some (([(wrap64 (Int.tdiv (wrap64 ((wrap64 ((wrap64 ((wrap64 (262144 * t186)) + (wrap64 (4096 * t187)))) + (wrap64 (64 * t188)))) + t189)) 65536)) % 256, (Int.tmod (wrap64 (Int.tdiv (wrap64 ((wrap64 ((wrap64 ((wrap64 (262144 * t186)) + (wrap64 (4096 * t187)))) + (wrap64 (64 * t188)))) + t189)) 256)) 256) % 256, (Int.tmod (wrap64 ((wrap64 ((wrap64 ((wrap64 (262144 * t186)) + (wrap64 (4096 * t187)))) + (wrap64 (64 * t188)))) + t189)) 256) % 256] : List Int) : List Int)).bind fun y190 => (if x4_1.size + (strOfNums y190).size ≤ 9223372036854775807 then (latinerref05_Unbase.l0 k1 a0 (x4_1 ++ (strOfNums y190)) (wrap64 (x5_1 + 4))) else (none)))) else (none)) else (none))) else (none)) else (none))) else (none)) else (none)) = some (r1, r2) := H
            have A6 := Aside0.mk A60
            clear A60
            obtain ⟨ji7, hji7⟩ : ∃ j_ : Int, (wrap64 (x5_1 + 1)) = j_ := ⟨_, rfl⟩
            replace H : (if 0 ≤ (ji7) then (if (ji7) < (a0.size : Int) then ((latinerref05_value.f k1 (bt a0 (ji7))).bind fun t187 => (if 0 ≤ (wrap64 (x5_1 + 2)) then (if (wrap64 (x5_1 + 2)) < (a0.size : Int) then ((latinerref05_value.f k1 (bt a0 (wrap64 (x5_1 + 2)))).bind fun t188 => (if 0 ≤ (wrap64 (x5_1 + 3)) then (if (wrap64 (x5_1 + 3)) < (a0.size : Int) then ((latinerref05_value.f k1 (bt a0 (wrap64 (x5_1 + 3)))).bind fun t189 => ((some (([(wrap64 (Int.tdiv (wrap64 ((wrap64 ((wrap64 ((wrap64 (262144 * t186)) + (wrap64 (4096 * t187)))) + (wrap64 (64 * t188)))) + t189)) 65536)) % 256, (Int.tmod (wrap64 (Int.tdiv (wrap64 ((wrap64 ((wrap64 ((wrap64 (262144 * t186)) + (wrap64 (4096 * t187)))) + (wrap64 (64 * t188)))) + t189)) 256)) 256) % 256, (Int.tmod (wrap64 ((wrap64 ((wrap64 ((wrap64 (262144 * t186)) + (wrap64 (4096 * t187)))) + (wrap64 (64 * t188)))) + t189)) 256) % 256] : List Int) : List Int)).bind fun y190 => (if x4_1.size + (strOfNums y190).size ≤ 9223372036854775807 then (latinerref05_Unbase.l0 k1 a0 (x4_1 ++ (strOfNums y190)) (wrap64 (x5_1 + 4))) else (none)))) else (none)) else (none))) else (none)) else (none))) else (none)) else (none)) = some (r1, r2) := by first | (rw [hji7] at H; exact H) | (simp only [hji7] at H ⊢; exact H)
            (try rw [hji7] at A6)
            have hji7w : (IntKind.i64.wrap (x5_1 + 1)) = ji7 := (i64_w _).trans hji7
            by_cases c8 : 0 ≤ (ji7)
            · rw [if_pos c8] at H
              have c8b0 : decide (0 ≤ (ji7)) = true := decide_eq_true c8
              clear c8
              by_cases c9 : (ji7) < (a0.size : Int)
              · rw [if_pos c9] at H
                have c9b0 : decide ((ji7) < (a0.size : Int)) = true := decide_eq_true c9
                clear c9
                replace H := Option.bind_eq_some_iff.mp H
                obtain ⟨t187, A110, H⟩ := H
                replace H : (if 0 ≤ (wrap64 (x5_1 + 2)) then (if (wrap64 (x5_1 + 2)) < (a0.size : Int) then ((latinerref05_value.f k1 (bt a0 (wrap64 (x5_1 + 2)))).bind fun t188 => (if 0 ≤ (wrap64 (x5_1 + 3)) then (if (wrap64 (x5_1 + 3)) < (a0.size : Int) then ((latinerref05_value.f k1 (bt a0 (wrap64 (x5_1 + 3)))).bind fun t189 => ((some (([(wrap64 (Int.tdiv (wrap64 ((wrap64 ((wrap64 ((wrap64 (262144 * t186)) + (wrap64 (4096 * t187)))) + (wrap64 (64 * t188)))) + t189)) 65536)) % 256, (Int.tmod (wrap64 (Int.tdiv (wrap64 ((wrap64 ((wrap64 ((wrap64 (262144 * t186)) + (wrap64 (4096 * t187)))) + (wrap64 (64 * t188)))) + t189)) 256)) 256) % 256, (Int.tmod (wrap64 ((wrap64 ((wrap64 ((wrap64 (262144 * t186)) + (wrap64 (4096 * t187)))) + (wrap64 (64 * t188)))) + t189)) 256) % 256] : List Int) : List Int)).bind fun y190 => (if x4_1.size + (strOfNums y190).size ≤ 9223372036854775807 then (latinerref05_Unbase.l0 k1 a0 (x4_1 ++ (strOfNums y190)) (wrap64 (x5_1 + 4))) else (none)))) else (none)) else (none))) else (none)) else (none)) = some (r1, r2) := H
                have A11 := Aside0.mk A110
                clear A110
                obtain ⟨ji12, hji12⟩ : ∃ j_ : Int, (wrap64 (x5_1 + 2)) = j_ := ⟨_, rfl⟩
                replace H : (if 0 ≤ (ji12) then (if (ji12) < (a0.size : Int) then ((latinerref05_value.f k1 (bt a0 (ji12))).bind fun t188 => (if 0 ≤ (wrap64 (x5_1 + 3)) then (if (wrap64 (x5_1 + 3)) < (a0.size : Int) then ((latinerref05_value.f k1 (bt a0 (wrap64 (x5_1 + 3)))).bind fun t189 => ((some (([(wrap64 (Int.tdiv (wrap64 ((wrap64 ((wrap64 ((wrap64 (262144 * t186)) + (wrap64 (4096 * t187)))) + (wrap64 (64 * t188)))) + t189)) 65536)) % 256, (Int.tmod (wrap64 (Int.tdiv (wrap64 ((wrap64 ((wrap64 ((wrap64 (262144 * t186)) + (wrap64 (4096 * t187)))) + (wrap64 (64 * t188)))) + t189)) 256)) 256) % 256, (Int.tmod (wrap64 ((wrap64 ((wrap64 ((wrap64 (262144 * t186)) + (wrap64 (4096 * t187)))) + (wrap64 (64 * t188)))) + t189)) 256) % 256] : List Int) : List Int)).bind fun y190 => (if x4_1.size + (strOfNums y190).size ≤ 9223372036854775807 then (latinerref05_Unbase.l0 k1 a0 (x4_1 ++ (strOfNums y190)) (wrap64 (x5_1 + 4))) else (none)))) else (none)) else (none))) else (none)) else (none)) = some (r1, r2) := by first | (rw [hji12] at H; exact H) | (simp only [hji12] at H ⊢; exact H)
                (try rw [hji12] at A6)
                (try rw [hji12] at A11)
                have hji12w : (IntKind.i64.wrap (x5_1 + 2)) = ji12 := (i64_w _).trans hji12
                by_cases c13 : 0 ≤ (ji12)
                · rw [if_pos c13] at H
                  have c13b0 : decide (0 ≤ (ji12)) = true := decide_eq_true c13
                  clear c13
                  by_cases c14 : (ji12) < (a0.size : Int)
                  · rw [if_pos c14] at H
                    have c14b0 : decide ((ji12) < (a0.size : Int)) = true := decide_eq_true c14
                    clear c14
                    replace H := Option.bind_eq_some_iff.mp H
                    obtain ⟨t188, A160, H⟩ := H
                    replace H : (if 0 ≤ (wrap64 (x5_1 + 3)) then (if (wrap64 (x5_1 + 3)) < (a0.size : Int) then ((latinerref05_value.f k1 (bt a0 (wrap64 (x5_1 + 3)))).bind fun t189 => ((some (([(wrap64 (Int.tdiv (wrap64 ((wrap64 ((wrap64 ((wrap64 (262144 * t186)) + (wrap64 (4096 * t187)))) + (wrap64 (64 * t188)))) + t189)) 65536)) % 256, (Int.tmod (wrap64 (Int.tdiv (wrap64 ((wrap64 ((wrap64 ((wrap64 (262144 * t186)) + (wrap64 (4096 * t187)))) + (wrap64 (64 * t188)))) + t189)) 256)) 256) % 256, (Int.tmod (wrap64 ((wrap64 ((wrap64 ((wrap64 (262144 * t186)) + (wrap64 (4096 * t187)))) + (wrap64 (64 * t188)))) + t189)) 256) % 256] : List Int) : List Int)).bind fun y190 => (if x4_1.size + (strOfNums y190).size ≤ 9223372036854775807 then (latinerref05_Unbase.l0 k1 a0 (x4_1 ++ (strOfNums y190)) (wrap64 (x5_1 + 4))) else (none)))) else (none)) else (none)) = some (r1, r2) := H
                    have A16 := Aside0.mk A160
                    clear A160
                    obtain ⟨ji17, hji17⟩ : ∃ j_ : Int, (wrap64 (x5_1 + 3)) = j_ := ⟨_, rfl⟩
                    replace H : (if 0 ≤ (ji17) then (if (ji17) < (a0.size : Int) then ((latinerref05_value.f k1 (bt a0 (ji17))).bind fun t189 => ((some (([(wrap64 (Int.tdiv (wrap64 ((wrap64 ((wrap64 ((wrap64 (262144 * t186)) + (wrap64 (4096 * t187)))) + (wrap64 (64 * t188)))) + t189)) 65536)) % 256, (Int.tmod (wrap64 (Int.tdiv (wrap64 ((wrap64 ((wrap64 ((wrap64 (262144 * t186)) + (wrap64 (4096 * t187)))) + (wrap64 (64 * t188)))) + t189)) 256)) 256) % 256, (Int.tmod (wrap64 ((wrap64 ((wrap64 ((wrap64 (262144 * t186)) + (wrap64 (4096 * t187)))) + (wrap64 (64 * t188)))) + t189)) 256) % 256] : List Int) : List Int)).bind fun y190 => (if x4_1.size + (strOfNums y190).size ≤ 9223372036854775807 then (latinerref05_Unbase.l0 k1 a0 (x4_1 ++ (strOfNums y190)) (wrap64 (x5_1 + 4))) else (none)))) else (none)) else (none)) = some (r1, r2) := by first | (rw [hji17] at H; exact H) | (simp only [hji17] at H ⊢; exact H)
                    (try rw [hji17] at A6)
                    (try rw [hji17] at A11)
                    (try rw [hji17] at A16)
                    have hji17w : (IntKind.i64.wrap (x5_1 + 3)) = ji17 := (i64_w _).trans hji17
                    by_cases c18 : 0 ≤ (ji17)
                    · rw [if_pos c18] at H
                      have c18b0 : decide (0 ≤ (ji17)) = true := decide_eq_true c18
                      clear c18
                      by_cases c19 : (ji17) < (a0.size : Int)
                      · rw [if_pos c19] at H
                        have c19b0 : decide ((ji17) < (a0.size : Int)) = true := decide_eq_true c19
                        clear c19
                        replace H := Option.bind_eq_some_iff.mp H
                        obtain ⟨t189, A210, H⟩ := H
                        replace H : ((some (([(wrap64 (Int.tdiv (wrap64 ((wrap64 ((wrap64 ((wrap64 (262144 * t186)) + (wrap64 (4096 * t187)))) + (wrap64 (64 * t188)))) + t189)) 65536)) % 256, (Int.tmod (wrap64 (Int.tdiv (wrap64 ((wrap64 ((wrap64 ((wrap64 (262144 * t186)) + (wrap64 (4096 * t187)))) + (wrap64 (64 * t188)))) + t189)) 256)) 256) % 256, (Int.tmod (wrap64 ((wrap64 ((wrap64 ((wrap64 (262144 * t186)) + (wrap64 (4096 * t187)))) + (wrap64 (64 * t188)))) + t189)) 256) % 256] : List Int) : List Int)).bind fun y190 => (if x4_1.size + (strOfNums y190).size ≤ 9223372036854775807 then (latinerref05_Unbase.l0 k1 a0 (x4_1 ++ (strOfNums y190)) (wrap64 (x5_1 + 4))) else (none))) = some (r1, r2) := H
                        have A21 := Aside0.mk A210
                        clear A210
                        obtain ⟨y190, hy190⟩ : ∃ y_ : List Int, y_ = (([(wrap64 (Int.tdiv (wrap64 ((wrap64 ((wrap64 ((wrap64 (262144 * t186)) + (wrap64 (4096 * t187)))) + (wrap64 (64 * t188)))) + t189)) 65536)) % 256, (Int.tmod (wrap64 (Int.tdiv (wrap64 ((wrap64 ((wrap64 ((wrap64 (262144 * t186)) + (wrap64 (4096 * t187)))) + (wrap64 (64 * t188)))) + t189)) 256)) 256) % 256, (Int.tmod (wrap64 ((wrap64 ((wrap64 ((wrap64 (262144 * t186)) + (wrap64 (4096 * t187)))) + (wrap64 (64 * t188)))) + t189)) 256) % 256] : List Int)) := ⟨_, rfl⟩
                        replace H : (if x4_1.size + (strOfNums y190).size ≤ 9223372036854775807 then (latinerref05_Unbase.l0 k1 a0 (x4_1 ++ (strOfNums y190)) (wrap64 (x5_1 + 4))) else (none)) = some (r1, r2) := by first | (rw [hy190]; with_reducible exact H) | (have H2_ := (Option.bind_some _ _).symm.trans H; rw [hy190]; with_reducible exact H2_) | (have H2_ := (Option.bind_some _ _).symm.trans H; with_reducible exact H2_) | with_reducible exact H | (rw [hy190]; exact H) | exact H
                        have Ny190 := Aside0.mk hy190
                        clear hy190
                        by_cases c22 : x4_1.size + (strOfNums y190).size ≤ 9223372036854775807
                        · rw [if_pos c22] at H
                          have c22b0 := eq_true c22
                          have c22b1 : decide (x4_1.size + (strOfNums y190).size ≤ 9223372036854775807) = true := decide_eq_true c22
                          try have c22b2 : (9223372036854775807 < x4_1.size + (strOfNums y190).size) = False := eq_false (Nat.not_lt.2 c22)
                          have H' := Aside0.mk H
                          clear H
                          have p5 : 0 ≤ (x5_1 : Int) := of_decide_eq_true (by first | (with_reducible assumption) | assumption)
                          have q5 : x5_1 < (a0.size : Int) := of_decide_eq_true (by first | (with_reducible assumption) | assumption)
                          have hx5 := bt_at a0 x5_1
                          replace p5 := eq_true p5
                          replace q5 := eq_true q5
                          go_wp2_with (first | (go_at_call 62; (with_reducible refine (latinerref05_value.calls k1 (bt a0 x5_1) t186 _ A6.out).mono ?_); rintro e w' ⟨rfl, ⟨nd, rfl⟩⟩; (try first | exact ⟨rfl, _, World.drewN_drewN _ _ _⟩ | exact ⟨rfl, _, Eq.trans (World.drewN_drewN _ _ _) (congrArg (World.drewN _) (Nat.add_assoc _ _ _))⟩); have p10 : 0 ≤ ((ji7) : Int) := of_decide_eq_true (by first | (with_reducible assumption) | assumption); have q10 : (ji7) < (a0.size : Int) := of_decide_eq_true (by first | (with_reducible assumption) | assumption); have hx10 := bt_at a0 (ji7); replace p10 := eq_true p10; replace q10 := eq_true q10) | (go_at_call 62; (with_reducible refine (latinerref05_value.calls k1 (bt a0 (ji7)) t187 _ A11.out).mono ?_); rintro e w' ⟨rfl, ⟨nd, rfl⟩⟩; (try first | exact ⟨rfl, _, World.drewN_drewN _ _ _⟩ | exact ⟨rfl, _, Eq.trans (World.drewN_drewN _ _ _) (congrArg (World.drewN _) (Nat.add_assoc _ _ _))⟩); have p15 : 0 ≤ ((ji12) : Int) := of_decide_eq_true (by first | (with_reducible assumption) | assumption); have q15 : (ji12) < (a0.size : Int) := of_decide_eq_true (by first | (with_reducible assumption) | assumption); have hx15 := bt_at a0 (ji12); replace p15 := eq_true p15; replace q15 := eq_true q15) | (go_at_call 62; (with_reducible refine (latinerref05_value.calls k1 (bt a0 (ji12)) t188 _ A16.out).mono ?_); rintro e w' ⟨rfl, ⟨nd, rfl⟩⟩; (try first | exact ⟨rfl, _, World.drewN_drewN _ _ _⟩ | exact ⟨rfl, _, Eq.trans (World.drewN_drewN _ _ _) (congrArg (World.drewN _) (Nat.add_assoc _ _ _))⟩); have p20 : 0 ≤ ((ji17) : Int) := of_decide_eq_true (by first | (with_reducible assumption) | assumption); have q20 : (ji17) < (a0.size : Int) := of_decide_eq_true (by first | (with_reducible assumption) | assumption); have hx20 := bt_at a0 (ji17); replace p20 := eq_true p20; replace q20 := eq_true q20) | (go_at_call 62; (with_reducible refine (latinerref05_value.calls k1 (bt a0 (ji17)) t189 _ A21.out).mono ?_); rintro e w' ⟨rfl, ⟨nd, rfl⟩⟩; (try first | exact ⟨rfl, _, World.drewN_drewN _ _ _⟩ | exact ⟨rfl, _, Eq.trans (World.drewN_drewN _ _ _) (congrArg (World.drewN _) (Nat.add_assoc _ _ _))⟩)) | ((with_reducible refine gate_dst (N := 53) rfl ?_); refine Kd.R_lit (Kd.int .u8) _ 5 ?hg (N := 53) ?hd (xs := ([(wrap64 (Int.tdiv (wrap64 ((wrap64 ((wrap64 ((wrap64 (262144 * t186)) + (wrap64 (4096 * t187)))) + (wrap64 (64 * t188)))) + t189)) 65536)) % 256, (Int.tmod (wrap64 (Int.tdiv (wrap64 ((wrap64 ((wrap64 ((wrap64 (262144 * t186)) + (wrap64 (4096 * t187)))) + (wrap64 (64 * t188)))) + t189)) 256)) 256) % 256, (Int.tmod (wrap64 ((wrap64 ((wrap64 ((wrap64 (262144 * t186)) + (wrap64 (4096 * t187)))) + (wrap64 (64 * t188)))) + t189)) 256) % 256] : List Int)) (inner := [.int .u8 ((wrap64 (Int.tdiv (wrap64 ((wrap64 ((wrap64 ((wrap64 (262144 * t186)) + (wrap64 (4096 * t187)))) + (wrap64 (64 * t188)))) + t189)) 65536)) % 256), .int .u8 ((Int.tmod (wrap64 (Int.tdiv (wrap64 ((wrap64 ((wrap64 ((wrap64 (262144 * t186)) + (wrap64 (4096 * t187)))) + (wrap64 (64 * t188)))) + t189)) 256)) 256) % 256), .int .u8 ((Int.tmod (wrap64 ((wrap64 ((wrap64 ((wrap64 (262144 * t186)) + (wrap64 (4096 * t187)))) + (wrap64 (64 * t188)))) + t189)) 256) % 256)]) (ok := fun _ => True) (okp := fun _ => True) ?hr ?hp (fun _ hk => hk) trivial (Below.refl _ _) (Nat.le_refl _) (by simp) ?_; (case hd => rfl); (case hg => rfl); (case hr => first | (go_simp; done) | (go_simp; rfl)); (case hp => exact (Reps.one (show Kd.M (Kd.int .u8) _ _ _ ((wrap64 (Int.tdiv (wrap64 ((wrap64 ((wrap64 ((wrap64 (262144 * t186)) + (wrap64 (4096 * t187)))) + (wrap64 (64 * t188)))) + t189)) 65536)) % 256) [.int .u8 ((wrap64 (Int.tdiv (wrap64 ((wrap64 ((wrap64 ((wrap64 (262144 * t186)) + (wrap64 (4096 * t187)))) + (wrap64 (64 * t188)))) + t189)) 65536)) % 256)] from rfl) (Reps.one (show Kd.M (Kd.int .u8) _ _ _ ((Int.tmod (wrap64 (Int.tdiv (wrap64 ((wrap64 ((wrap64 ((wrap64 (262144 * t186)) + (wrap64 (4096 * t187)))) + (wrap64 (64 * t188)))) + t189)) 256)) 256) % 256) [.int .u8 ((Int.tmod (wrap64 (Int.tdiv (wrap64 ((wrap64 ((wrap64 ((wrap64 (262144 * t186)) + (wrap64 (4096 * t187)))) + (wrap64 (64 * t188)))) + t189)) 256)) 256) % 256)] from rfl) (Reps.one (show Kd.M (Kd.int .u8) _ _ _ ((Int.tmod (wrap64 ((wrap64 ((wrap64 ((wrap64 (262144 * t186)) + (wrap64 (4096 * t187)))) + (wrap64 (64 * t188)))) + t189)) 256) % 256) [.int .u8 ((Int.tmod (wrap64 ((wrap64 ((wrap64 ((wrap64 (262144 * t186)) + (wrap64 (4096 * t187)))) + (wrap64 (64 * t188)))) + t189)) 256) % 256)] from rfl) (Reps.none _ _))))); intro v191 w23 ho24 hb hg_ hnew_; clear hg_ hnew_; (first | rw [← Ny190.out] at ho24 | (simp only [Int.reduceToNat] at ho24; rw [← Ny190.out] at ho24)); have n0_ := Aside0.mk (Kd.R_lower ho24 (below_size (by repeat (first | (with_reducible first | exact HB.out | apply below_alloc | apply pw_below_drewN | apply below_drew1) | exact HB.out)))); have n1_ := Aside0.mk (below_step (by repeat (first | (with_reducible first | exact HB.out | apply below_alloc | apply pw_below_drewN | apply below_drew1) | exact HB.out)) hb); clear HB; have HO192 := n0_; have HB := n1_; clear n0_ n1_; clear hb ho24; have hcv25 := own_string (P := Tryz.prog) Tryz.underlying37 Tryz.underlying5 Tryz.underlying9 (Kd.own_of_R HO192.out)))
                          repeat (go_quiet (first | (go_at_call 62; (with_reducible refine (latinerref05_value.calls k1 (bt a0 x5_1) t186 _ A6.out).mono ?_); rintro e w' ⟨rfl, ⟨nd, rfl⟩⟩; (try first | exact ⟨rfl, _, World.drewN_drewN _ _ _⟩ | exact ⟨rfl, _, Eq.trans (World.drewN_drewN _ _ _) (congrArg (World.drewN _) (Nat.add_assoc _ _ _))⟩); have p10 : 0 ≤ ((ji7) : Int) := of_decide_eq_true (by first | (with_reducible assumption) | assumption); have q10 : (ji7) < (a0.size : Int) := of_decide_eq_true (by first | (with_reducible assumption) | assumption); have hx10 := bt_at a0 (ji7); replace p10 := eq_true p10; replace q10 := eq_true q10) | (go_at_call 62; (with_reducible refine (latinerref05_value.calls k1 (bt a0 (ji7)) t187 _ A11.out).mono ?_); rintro e w' ⟨rfl, ⟨nd, rfl⟩⟩; (try first | exact ⟨rfl, _, World.drewN_drewN _ _ _⟩ | exact ⟨rfl, _, Eq.trans (World.drewN_drewN _ _ _) (congrArg (World.drewN _) (Nat.add_assoc _ _ _))⟩); have p15 : 0 ≤ ((ji12) : Int) := of_decide_eq_true (by first | (with_reducible assumption) | assumption); have q15 : (ji12) < (a0.size : Int) := of_decide_eq_true (by first | (with_reducible assumption) | assumption); have hx15 := bt_at a0 (ji12); replace p15 := eq_true p15; replace q15 := eq_true q15) | (go_at_call 62; (with_reducible refine (latinerref05_value.calls k1 (bt a0 (ji12)) t188 _ A16.out).mono ?_); rintro e w' ⟨rfl, ⟨nd, rfl⟩⟩; (try first | exact ⟨rfl, _, World.drewN_drewN _ _ _⟩ | exact ⟨rfl, _, Eq.trans (World.drewN_drewN _ _ _) (congrArg (World.drewN _) (Nat.add_assoc _ _ _))⟩); have p20 : 0 ≤ ((ji17) : Int) := of_decide_eq_true (by first | (with_reducible assumption) | assumption); have q20 : (ji17) < (a0.size : Int) := of_decide_eq_true (by first | (with_reducible assumption) | assumption); have hx20 := bt_at a0 (ji17); replace p20 := eq_true p20; replace q20 := eq_true q20) | (go_at_call 62; (with_reducible refine (latinerref05_value.calls k1 (bt a0 (ji17)) t189 _ A21.out).mono ?_); rintro e w' ⟨rfl, ⟨nd, rfl⟩⟩; (try first | exact ⟨rfl, _, World.drewN_drewN _ _ _⟩ | exact ⟨rfl, _, Eq.trans (World.drewN_drewN _ _ _) (congrArg (World.drewN _) (Nat.add_assoc _ _ _))⟩)) | ((with_reducible refine gate_dst (N := 53) rfl ?_); refine Kd.R_lit (Kd.int .u8) _ 5 ?hg (N := 53) ?hd (xs := ([(wrap64 (Int.tdiv (wrap64 ((wrap64 ((wrap64 ((wrap64 (262144 * t186)) + (wrap64 (4096 * t187)))) + (wrap64 (64 * t188)))) + t189)) 65536)) % 256, (Int.tmod (wrap64 (Int.tdiv (wrap64 ((wrap64 ((wrap64 ((wrap64 (262144 * t186)) + (wrap64 (4096 * t187)))) + (wrap64 (64 * t188)))) + t189)) 256)) 256) % 256, (Int.tmod (wrap64 ((wrap64 ((wrap64 ((wrap64 (262144 * t186)) + (wrap64 (4096 * t187)))) + (wrap64 (64 * t188)))) + t189)) 256) % 256] : List Int)) (inner := [.int .u8 ((wrap64 (Int.tdiv (wrap64 ((wrap64 ((wrap64 ((wrap64 (262144 * t186)) + (wrap64 (4096 * t187)))) + (wrap64 (64 * t188)))) + t189)) 65536)) % 256), .int .u8 ((Int.tmod (wrap64 (Int.tdiv (wrap64 ((wrap64 ((wrap64 ((wrap64 (262144 * t186)) + (wrap64 (4096 * t187)))) + (wrap64 (64 * t188)))) + t189)) 256)) 256) % 256), .int .u8 ((Int.tmod (wrap64 ((wrap64 ((wrap64 ((wrap64 (262144 * t186)) + (wrap64 (4096 * t187)))) + (wrap64 (64 * t188)))) + t189)) 256) % 256)]) (ok := fun _ => True) (okp := fun _ => True) ?hr ?hp (fun _ hk => hk) trivial (Below.refl _ _) (Nat.le_refl _) (by simp) ?_; (case hd => rfl); (case hg => rfl); (case hr => first | (go_simp; done) | (go_simp; rfl)); (case hp => exact (Reps.one (show Kd.M (Kd.int .u8) _ _ _ ((wrap64 (Int.tdiv (wrap64 ((wrap64 ((wrap64 ((wrap64 (262144 * t186)) + (wrap64 (4096 * t187)))) + (wrap64 (64 * t188)))) + t189)) 65536)) % 256) [.int .u8 ((wrap64 (Int.tdiv (wrap64 ((wrap64 ((wrap64 ((wrap64 (262144 * t186)) + (wrap64 (4096 * t187)))) + (wrap64 (64 * t188)))) + t189)) 65536)) % 256)] from rfl) (Reps.one (show Kd.M (Kd.int .u8) _ _ _ ((Int.tmod (wrap64 (Int.tdiv (wrap64 ((wrap64 ((wrap64 ((wrap64 (262144 * t186)) + (wrap64 (4096 * t187)))) + (wrap64 (64 * t188)))) + t189)) 256)) 256) % 256) [.int .u8 ((Int.tmod (wrap64 (Int.tdiv (wrap64 ((wrap64 ((wrap64 ((wrap64 (262144 * t186)) + (wrap64 (4096 * t187)))) + (wrap64 (64 * t188)))) + t189)) 256)) 256) % 256)] from rfl) (Reps.one (show Kd.M (Kd.int .u8) _ _ _ ((Int.tmod (wrap64 ((wrap64 ((wrap64 ((wrap64 (262144 * t186)) + (wrap64 (4096 * t187)))) + (wrap64 (64 * t188)))) + t189)) 256) % 256) [.int .u8 ((Int.tmod (wrap64 ((wrap64 ((wrap64 ((wrap64 (262144 * t186)) + (wrap64 (4096 * t187)))) + (wrap64 (64 * t188)))) + t189)) 256) % 256)] from rfl) (Reps.none _ _))))); intro v191 w23 ho24 hb hg_ hnew_; clear hg_ hnew_; (first | rw [← Ny190.out] at ho24 | (simp only [Int.reduceToNat] at ho24; rw [← Ny190.out] at ho24)); have n0_ := Aside0.mk (Kd.R_lower ho24 (below_size (by repeat (first | (with_reducible first | exact HB.out | apply below_alloc | apply pw_below_drewN | apply below_drew1) | exact HB.out)))); have n1_ := Aside0.mk (below_step (by repeat (first | (with_reducible first | exact HB.out | apply below_alloc | apply pw_below_drewN | apply below_drew1) | exact HB.out)) hb); clear HB; have HO192 := n0_; have HB := n1_; clear n0_ n1_; clear hb ho24; have hcv25 := own_string (P := Tryz.prog) Tryz.underlying37 Tryz.underlying5 Tryz.underlying9 (Kd.own_of_R HO192.out))); try go_wp2_with (first | (go_at_call 62; (with_reducible refine (latinerref05_value.calls k1 (bt a0 x5_1) t186 _ A6.out).mono ?_); rintro e w' ⟨rfl, ⟨nd, rfl⟩⟩; (try first | exact ⟨rfl, _, World.drewN_drewN _ _ _⟩ | exact ⟨rfl, _, Eq.trans (World.drewN_drewN _ _ _) (congrArg (World.drewN _) (Nat.add_assoc _ _ _))⟩); have p10 : 0 ≤ ((ji7) : Int) := of_decide_eq_true (by first | (with_reducible assumption) | assumption); have q10 : (ji7) < (a0.size : Int) := of_decide_eq_true (by first | (with_reducible assumption) | assumption); have hx10 := bt_at a0 (ji7); replace p10 := eq_true p10; replace q10 := eq_true q10) | (go_at_call 62; (with_reducible refine (latinerref05_value.calls k1 (bt a0 (ji7)) t187 _ A11.out).mono ?_); rintro e w' ⟨rfl, ⟨nd, rfl⟩⟩; (try first | exact ⟨rfl, _, World.drewN_drewN _ _ _⟩ | exact ⟨rfl, _, Eq.trans (World.drewN_drewN _ _ _) (congrArg (World.drewN _) (Nat.add_assoc _ _ _))⟩); have p15 : 0 ≤ ((ji12) : Int) := of_decide_eq_true (by first | (with_reducible assumption) | assumption); have q15 : (ji12) < (a0.size : Int) := of_decide_eq_true (by first | (with_reducible assumption) | assumption); have hx15 := bt_at a0 (ji12); replace p15 := eq_true p15; replace q15 := eq_true q15) | (go_at_call 62; (with_reducible refine (latinerref05_value.calls k1 (bt a0 (ji12)) t188 _ A16.out).mono ?_); rintro e w' ⟨rfl, ⟨nd, rfl⟩⟩; (try first | exact ⟨rfl, _, World.drewN_drewN _ _ _⟩ | exact ⟨rfl, _, Eq.trans (World.drewN_drewN _ _ _) (congrArg (World.drewN _) (Nat.add_assoc _ _ _))⟩); have p20 : 0 ≤ ((ji17) : Int) := of_decide_eq_true (by first | (with_reducible assumption) | assumption); have q20 : (ji17) < (a0.size : Int) := of_decide_eq_true (by first | (with_reducible assumption) | assumption); have hx20 := bt_at a0 (ji17); replace p20 := eq_true p20; replace q20 := eq_true q20) | (go_at_call 62; (with_reducible refine (latinerref05_value.calls k1 (bt a0 (ji17)) t189 _ A21.out).mono ?_); rintro e w' ⟨rfl, ⟨nd, rfl⟩⟩; (try first | exact ⟨rfl, _, World.drewN_drewN _ _ _⟩ | exact ⟨rfl, _, Eq.trans (World.drewN_drewN _ _ _) (congrArg (World.drewN _) (Nat.add_assoc _ _ _))⟩)) | ((with_reducible refine gate_dst (N := 53) rfl ?_); refine Kd.R_lit (Kd.int .u8) _ 5 ?hg (N := 53) ?hd (xs := ([(wrap64 (Int.tdiv (wrap64 ((wrap64 ((wrap64 ((wrap64 (262144 * t186)) + (wrap64 (4096 * t187)))) + (wrap64 (64 * t188)))) + t189)) 65536)) % 256, (Int.tmod (wrap64 (Int.tdiv (wrap64 ((wrap64 ((wrap64 ((wrap64 (262144 * t186)) + (wrap64 (4096 * t187)))) + (wrap64 (64 * t188)))) + t189)) 256)) 256) % 256, (Int.tmod (wrap64 ((wrap64 ((wrap64 ((wrap64 (262144 * t186)) + (wrap64 (4096 * t187)))) + (wrap64 (64 * t188)))) + t189)) 256) % 256] : List Int)) (inner := [.int .u8 ((wrap64 (Int.tdiv (wrap64 ((wrap64 ((wrap64 ((wrap64 (262144 * t186)) + (wrap64 (4096 * t187)))) + (wrap64 (64 * t188)))) + t189)) 65536)) % 256), .int .u8 ((Int.tmod (wrap64 (Int.tdiv (wrap64 ((wrap64 ((wrap64 ((wrap64 (262144 * t186)) + (wrap64 (4096 * t187)))) + (wrap64 (64 * t188)))) + t189)) 256)) 256) % 256), .int .u8 ((Int.tmod (wrap64 ((wrap64 ((wrap64 ((wrap64 (262144 * t186)) + (wrap64 (4096 * t187)))) + (wrap64 (64 * t188)))) + t189)) 256) % 256)]) (ok := fun _ => True) (okp := fun _ => True) ?hr ?hp (fun _ hk => hk) trivial (Below.refl _ _) (Nat.le_refl _) (by simp) ?_; (case hd => rfl); (case hg => rfl); (case hr => first | (go_simp; done) | (go_simp; rfl)); (case hp => exact (Reps.one (show Kd.M (Kd.int .u8) _ _ _ ((wrap64 (Int.tdiv (wrap64 ((wrap64 ((wrap64 ((wrap64 (262144 * t186)) + (wrap64 (4096 * t187)))) + (wrap64 (64 * t188)))) + t189)) 65536)) % 256) [.int .u8 ((wrap64 (Int.tdiv (wrap64 ((wrap64 ((wrap64 ((wrap64 (262144 * t186)) + (wrap64 (4096 * t187)))) + (wrap64 (64 * t188)))) + t189)) 65536)) % 256)] from rfl) (Reps.one (show Kd.M (Kd.int .u8) _ _ _ ((Int.tmod (wrap64 (Int.tdiv (wrap64 ((wrap64 ((wrap64 ((wrap64 (262144 * t186)) + (wrap64 (4096 * t187)))) + (wrap64 (64 * t188)))) + t189)) 256)) 256) % 256) [.int .u8 ((Int.tmod (wrap64 (Int.tdiv (wrap64 ((wrap64 ((wrap64 ((wrap64 (262144 * t186)) + (wrap64 (4096 * t187)))) + (wrap64 (64 * t188)))) + t189)) 256)) 256) % 256)] from rfl) (Reps.one (show Kd.M (Kd.int .u8) _ _ _ ((Int.tmod (wrap64 ((wrap64 ((wrap64 ((wrap64 (262144 * t186)) + (wrap64 (4096 * t187)))) + (wrap64 (64 * t188)))) + t189)) 256) % 256) [.int .u8 ((Int.tmod (wrap64 ((wrap64 ((wrap64 ((wrap64 (262144 * t186)) + (wrap64 (4096 * t187)))) + (wrap64 (64 * t188)))) + t189)) 256) % 256)] from rfl) (Reps.none _ _))))); intro v191 w23 ho24 hb hg_ hnew_; clear hg_ hnew_; (first | rw [← Ny190.out] at ho24 | (simp only [Int.reduceToNat] at ho24; rw [← Ny190.out] at ho24)); have n0_ := Aside0.mk (Kd.R_lower ho24 (below_size (by repeat (first | (with_reducible first | exact HB.out | apply below_alloc | apply pw_below_drewN | apply below_drew1) | exact HB.out)))); have n1_ := Aside0.mk (below_step (by repeat (first | (with_reducible first | exact HB.out | apply below_alloc | apply pw_below_drewN | apply below_drew1) | exact HB.out)) hb); clear HB; have HO192 := n0_; have HB := n1_; clear n0_ n1_; clear hb ho24; have hcv25 := own_string (P := Tryz.prog) Tryz.underlying37 Tryz.underlying5 Tryz.underlying9 (Kd.own_of_R HO192.out))))
                          go_roundg k1
                          case measure => have := HK1.out; omega
                          case rel => exact ⟨(x4_1 ++ (strOfNums y190)), (wrap64 (x5_1 + 4)), (by first | rfl | (simp; done) | (simp [*]; done)), (by first | rfl | (simp; done) | (simp [*]; done)), H', ⟨by have := HK1.out; omega⟩, ⟨by repeat (first | (with_reducible first | exact HB.out | apply below_alloc | apply pw_below_drewN | apply below_drew1) | exact HB.out)⟩⟩
                        · rw [if_neg c22] at H
                          exact absurd H (by simp)
                      · rw [if_neg c19] at H
                        exact absurd H (by simp)
                    · rw [if_neg c18] at H
                      exact absurd H (by simp)
                  · rw [if_neg c14] at H
                    exact absurd H (by simp)
                · rw [if_neg c13] at H
                  exact absurd H (by simp)
              · rw [if_neg c9] at H
                exact absurd H (by simp)
            · rw [if_neg c8] at H
              exact absurd H (by simp)
          · rw [if_neg c4] at H
            exact absurd H (by simp)
        · rw [if_neg c3] at H
          have c3b0 : decide (x5_1 < (a0.size : Int)) = false := decide_eq_false c3
          clear c3
          have HC26 := Aside0.mk H
          clear H
          go_upto_region 9 with (fail)
          repeat (go_quiet (fail); go_upto_region 9 with (fail))
          go_cut [66] (fun v66 wc => ∃ (kq : Nat) (x66_25 : Bool), v66 = .bool x66_25 ∧ Aside0 (latinerref05_Unbase.j1 kq a0 x4_1 x66_25 = some (r1, r2)) ∧ Aside0 (kq ≤ k1) ∧ Aside0 (Below w.heap.size w wc))
          case first =>
            have H := HC26.out
            clear HC26
            by_cases c27 : (a0.size : Int) > 1
            · rw [if_pos c27] at H
              have c27b0 : decide (1 < (a0.size : Int)) = true := decide_eq_true c27
              have c27b1 : decide (1 < a0.size) = true := decide_eq_true (by omega)
              clear c27
              (first | rw [c27b0] | (simp only [i64_w, i32_w]; rw [c27b0]) | skip)
              obtain ⟨ji28, hji28⟩ : ∃ j_ : Int, (wrap64 ((a0.size : Int) - 2)) = j_ := ⟨_, rfl⟩
              replace H : (if 0 ≤ (ji28) then (if (ji28) ≤ (a0.size : Int) then (latinerref05_Unbase.j1 k1 a0 x4_1 ((a0.extract ((ji28) : Int).toNat a0.size).toList == ([61, 61] : List UInt8))) else (none)) else (none)) = some (r1, r2) := by first | (rw [hji28] at H; exact H) | (simp only [hji28] at H ⊢; exact H)
              have hji28w : (IntKind.i64.wrap ((a0.size : Int) - 2)) = ji28 := (i64_w _).trans hji28
              by_cases c29 : 0 ≤ (ji28)
              · rw [if_pos c29] at H
                have c29b0 := eq_true c29
                have c29b1 : decide (0 ≤ (ji28)) = true := decide_eq_true c29
                clear c29
                by_cases c30 : (ji28) ≤ (a0.size : Int)
                · rw [if_pos c30] at H
                  have c30b0 := eq_true c30
                  have c30b1 : decide ((ji28) ≤ (a0.size : Int)) = true := decide_eq_true c30
                  clear c30
                  have H' := Aside0.mk H
                  clear H
                  go_wp2
                  repeat (go_quiet (fail); try go_wp2)
                  go_meet
                  case rel => exact ⟨_, (((a0.extract ((ji28) : Int).toNat a0.size).toList == ([61, 61] : List UInt8))), (by first | rfl | (simp; done) | (simp only [← hji28] <;> (first | rfl | simp)) | (simp [*]; done)), H', ⟨by have := HK1.out; first | omega | exact Nat.le_refl _⟩, ⟨by repeat (first | (with_reducible first | exact HB.out | apply below_alloc | apply pw_below_drewN | apply below_drew1) | exact HB.out)⟩⟩
                · rw [if_neg c30] at H
                  exact absurd H (by simp)
              · rw [if_neg c29] at H
                exact absurd H (by simp)
            · rw [if_neg c27] at H
              have c27b0 : decide (1 < (a0.size : Int)) = false := decide_eq_false c27
              have c27b1 : decide (1 < a0.size) = false := decide_eq_false (by omega)
              clear c27
              (first | rw [c27b0] | (simp only [i64_w, i32_w]; rw [c27b0]) | skip)
              have H' := Aside0.mk H
              clear H
              go_wp2
              repeat (go_quiet (fail); try go_wp2)
              go_meet
              case rel => exact ⟨_, (false), (by first | rfl | (simp; done) | (simp [*]; done)), H', ⟨by have := HK1.out; first | omega | exact Nat.le_refl _⟩, ⟨by repeat (first | (with_reducible first | exact HB.out | apply below_alloc | apply pw_below_drewN | apply below_drew1) | exact HB.out)⟩⟩
          case rest =>
            clear HC26
            try clear c1
            try clear p1
            try clear q1
            try clear hx1
            try clear c2
            try clear c2b0
            try clear c2b1
            try clear p2
            try clear q2
            try clear hx2
            try clear hcv2
            try clear c3
            try clear c3b0
            try clear c4
            try clear c4b0
            try clear p5
            try clear q5
            try clear hx5
            try clear p6
            try clear c8
            try clear c8b0
            try clear c9
            try clear c9b0
            try clear p10
            try clear q10
            try clear hx10
            try clear c13
            try clear c13b0
            try clear c14
            try clear c14b0
            try clear p15
            try clear q15
            try clear hx15
            try clear c18
            try clear c18b0
            try clear c19
            try clear c19b0
            try clear p20
            try clear q20
            try clear hx20
            try clear c22
            try clear c22b0
            try clear c22b1
            try clear c22b2
            try clear hcv25
            try clear c27
            try clear c27b0
            try clear c27b1
            try clear c29
            try clear c29b0
            try clear c29b1
            try clear c30
            try clear c30b0
            try clear c30b1
            try clear p10
            try clear p15
            try clear p2
            try clear p20
            try clear p5
            try clear q10
            try clear q15
            try clear q20
            try clear q5
            obtain ⟨kq, x66_25, rfl, HA, HJ25, HB⟩ := hcut
            cases kq with
            | zero => exact absurd HA.out (by simp [latinerref05_Unbase.j1])
            | succ kj25 =>
              have H := HA.out
              clear HA
              simp only [latinerref05_Unbase.j1] at H
              by_cases c31 : x66_25 = true
              · subst c31
                have H1 : (if 0 ≤ (wrap64 ((x4_1.size : Int) - 2)) then (if (wrap64 ((x4_1.size : Int) - 2)) ≤ (x4_1.size : Int) then ((latinerref05_Base.f kj25 (x4_1.extract 0 ((wrap64 ((x4_1.size : Int) - 2)) : Int).toNat)).bind fun t193 => (if t193.toList = a0.toList then (some (x4_1.extract 0 ((wrap64 ((x4_1.size : Int) - 2)) : Int).toNat, 0)) else (some ((⟨#[]⟩ : ByteArray), 50)))) else (none)) else (none)) = some (r1, r2) := by rw [if_pos rfl] at H; exact H
                clear H
                have H := H1
                clear H1
                obtain ⟨ji32, hji32⟩ : ∃ j_ : Int, (wrap64 ((x4_1.size : Int) - 2)) = j_ := ⟨_, rfl⟩
                replace H : (if 0 ≤ (ji32) then (if (ji32) ≤ (x4_1.size : Int) then ((latinerref05_Base.f kj25 (x4_1.extract 0 ((ji32) : Int).toNat)).bind fun t193 => (if t193.toList = a0.toList then (some (x4_1.extract 0 ((ji32) : Int).toNat, 0)) else (some ((⟨#[]⟩ : ByteArray), 50)))) else (none)) else (none)) = some (r1, r2) := by first | (rw [hji32] at H; exact H) | (simp only [hji32] at H ⊢; exact H)
                have hji32w : (IntKind.i64.wrap ((x4_1.size : Int) - 2)) = ji32 := (i64_w _).trans hji32
                by_cases c33 : 0 ≤ (ji32)
                · rw [if_pos c33] at H
                  have c33b0 := eq_true c33
                  have c33b1 : decide (0 ≤ (ji32)) = true := decide_eq_true c33
                  clear c33
                  by_cases c34 : (ji32) ≤ (x4_1.size : Int)
                  · rw [if_pos c34] at H
                    have c34b0 := eq_true c34
                    have c34b1 : decide ((ji32) ≤ (x4_1.size : Int)) = true := decide_eq_true c34
                    clear c34
                    replace H := Option.bind_eq_some_iff.mp H
                    obtain ⟨t193, A350, H⟩ := H
                    replace H : (if t193.toList = a0.toList then (some (x4_1.extract 0 ((ji32) : Int).toNat, 0)) else (some ((⟨#[]⟩ : ByteArray), 50))) = some (r1, r2) := H
                    have A35 := Aside0.mk A350
                    clear A350
                    by_cases c36 : t193.toList = a0.toList
                    · rw [if_pos c36] at H
                      have c36b0 : (t193.toList == a0.toList) = true := beq_iff_eq.mpr c36
                      have c36b1 : (t193.toList != a0.toList) = false := bne_eq_false_iff_eq.mpr c36
                      clear c36
                      simp only [Option.some.injEq, Prod.mk.injEq] at H
                      obtain ⟨rfl, rfl⟩ := H
                      go_wp2_with (first | (go_at_call 37; (with_reducible refine (latinerref05_Base.calls kj25 (x4_1.extract 0 ((ji32) : Int).toNat) t193 _ A35.out).mono ?_); rintro e w37 ⟨rfl, hb⟩; have n0_ := Aside0.mk (below_step (by repeat (first | (with_reducible first | exact HB.out | apply below_alloc | apply pw_below_drewN | apply below_drew1) | exact HB.out)) hb); clear HB; have HB := n0_; clear n0_; (try clear hb); (try clear hb2); (try clear hk); (try clear hi)))
                      repeat (go_quiet (first | (go_at_call 37; (with_reducible refine (latinerref05_Base.calls kj25 (x4_1.extract 0 ((ji32) : Int).toNat) t193 _ A35.out).mono ?_); rintro e w37 ⟨rfl, hb⟩; have n0_ := Aside0.mk (below_step (by repeat (first | (with_reducible first | exact HB.out | apply below_alloc | apply pw_below_drewN | apply below_drew1) | exact HB.out)) hb); clear HB; have HB := n0_; clear n0_; (try clear hb); (try clear hb2); (try clear hk); (try clear hi))); try go_wp2_with (first | (go_at_call 37; (with_reducible refine (latinerref05_Base.calls kj25 (x4_1.extract 0 ((ji32) : Int).toNat) t193 _ A35.out).mono ?_); rintro e w37 ⟨rfl, hb⟩; have n0_ := Aside0.mk (below_step (by repeat (first | (with_reducible first | exact HB.out | apply below_alloc | apply pw_below_drewN | apply below_drew1) | exact HB.out)) hb); clear HB; have HB := n0_; clear n0_; (try clear hb); (try clear hb2); (try clear hk); (try clear hi))))
                      go_ret2
                      exact ⟨by first | rfl | (simp [errW_none, errW_some] <;> rfl) | (simp only [← hji32]; first | rfl | (simp [errW_none, errW_some] <;> rfl)) | (simp [*, errW_none, errW_some] <;> rfl), by repeat (first | (with_reducible first | exact HB.out | apply below_alloc | apply pw_below_drewN | apply below_drew1) | exact HB.out)⟩
                    · rw [if_neg c36] at H
                      have c36b0 : (t193.toList == a0.toList) = false := beq_eq_false_iff_ne.mpr c36
                      have c36b1 : (t193.toList != a0.toList) = true := bne_iff_ne.mpr c36
                      simp only [Option.some.injEq, Prod.mk.injEq] at H
                      obtain ⟨rfl, rfl⟩ := H
                      go_wp2_with (first | (go_at_call 37; (with_reducible refine (latinerref05_Base.calls kj25 (x4_1.extract 0 ((ji32) : Int).toNat) t193 _ A35.out).mono ?_); rintro e w38 ⟨rfl, hb⟩; have n0_ := Aside0.mk (below_step (by repeat (first | (with_reducible first | exact HB.out | apply below_alloc | apply pw_below_drewN | apply below_drew1) | exact HB.out)) hb); clear HB; have HB := n0_; clear n0_; (try clear hb); (try clear hb2); (try clear hk); (try clear hi)))
                      repeat (go_quiet (first | (go_at_call 37; (with_reducible refine (latinerref05_Base.calls kj25 (x4_1.extract 0 ((ji32) : Int).toNat) t193 _ A35.out).mono ?_); rintro e w38 ⟨rfl, hb⟩; have n0_ := Aside0.mk (below_step (by repeat (first | (with_reducible first | exact HB.out | apply below_alloc | apply pw_below_drewN | apply below_drew1) | exact HB.out)) hb); clear HB; have HB := n0_; clear n0_; (try clear hb); (try clear hb2); (try clear hk); (try clear hi))); try go_wp2_with (first | (go_at_call 37; (with_reducible refine (latinerref05_Base.calls kj25 (x4_1.extract 0 ((ji32) : Int).toNat) t193 _ A35.out).mono ?_); rintro e w38 ⟨rfl, hb⟩; have n0_ := Aside0.mk (below_step (by repeat (first | (with_reducible first | exact HB.out | apply below_alloc | apply pw_below_drewN | apply below_drew1) | exact HB.out)) hb); clear HB; have HB := n0_; clear n0_; (try clear hb); (try clear hb2); (try clear hk); (try clear hi))))
                      go_ret2
                      exact ⟨by first | rfl | (simp [errW_none, errW_some] <;> rfl) | (simp only [← hji32]; first | rfl | (simp [errW_none, errW_some] <;> rfl)) | (simp [*, errW_none, errW_some] <;> rfl), by repeat (first | (with_reducible first | exact HB.out | apply below_alloc | apply pw_below_drewN | apply below_drew1) | exact HB.out)⟩
                  · rw [if_neg c34] at H
                    exact absurd H (by simp)
                · rw [if_neg c33] at H
                  exact absurd H (by simp)
              · replace c31 := Bool.eq_false_iff.mpr c31
                subst c31
                have H1 : (if (a0.size : Int) > 1 then (if 0 ≤ (wrap64 ((a0.size : Int) - 1)) then (if (wrap64 ((a0.size : Int) - 1)) < (a0.size : Int) then (latinerref05_Unbase.j2 kj25 a0 x4_1 ((bt a0 (wrap64 ((a0.size : Int) - 1))) == 61)) else (none)) else (none)) else (latinerref05_Unbase.j2 kj25 a0 x4_1 false)) = some (r1, r2) := by rw [if_neg (show ¬ (false = true) by decide)] at H; exact H
                clear H
                have H := H1
                clear H1
                have HC39 := Aside0.mk H
                clear H
                go_upto_region 11 with (fail)
                repeat (go_quiet (fail); go_upto_region 11 with (fail))
                go_cut [82] (fun v82 wc => ∃ (kq : Nat) (x82_38 : Bool), v82 = .bool x82_38 ∧ Aside0 (latinerref05_Unbase.j2 kq a0 x4_1 x82_38 = some (r1, r2)) ∧ Aside0 (kq ≤ kj25) ∧ Aside0 (Below w.heap.size w wc))
                case first =>
                  have H := HC39.out
                  clear HC39
                  by_cases c40 : (a0.size : Int) > 1
                  · rw [if_pos c40] at H
                    have c40b0 : decide (1 < (a0.size : Int)) = true := decide_eq_true c40
                    have c40b1 : decide (1 < a0.size) = true := decide_eq_true (by omega)
                    clear c40
                    (first | rw [c40b0] | (simp only [i64_w, i32_w]; rw [c40b0]) | skip)
                    obtain ⟨ji41, hji41⟩ : ∃ j_ : Int, (wrap64 ((a0.size : Int) - 1)) = j_ := ⟨_, rfl⟩
                    replace H : (if 0 ≤ (ji41) then (if (ji41) < (a0.size : Int) then (latinerref05_Unbase.j2 kj25 a0 x4_1 ((bt a0 (ji41)) == 61)) else (none)) else (none)) = some (r1, r2) := by first | (rw [hji41] at H; exact H) | (simp only [hji41] at H ⊢; exact H)
                    have hji41w : (IntKind.i64.wrap ((a0.size : Int) - 1)) = ji41 := (i64_w _).trans hji41
                    by_cases c42 : 0 ≤ (ji41)
                    · rw [if_pos c42] at H
                      have c42b0 : decide (0 ≤ (ji41)) = true := decide_eq_true c42
                      clear c42
                      by_cases c43 : (ji41) < (a0.size : Int)
                      · rw [if_pos c43] at H
                        have c43b0 : decide ((ji41) < (a0.size : Int)) = true := decide_eq_true c43
                        clear c43
                        have H' := Aside0.mk H
                        clear H
                        have p44 : 0 ≤ ((ji41) : Int) := of_decide_eq_true (by first | (with_reducible assumption) | assumption)
                        have q44 : (ji41) < (a0.size : Int) := of_decide_eq_true (by first | (with_reducible assumption) | assumption)
                        have hx44 := bt_at a0 (ji41)
                        replace p44 := eq_true p44
                        replace q44 := eq_true q44
                        go_wp2
                        repeat (go_quiet (fail); try go_wp2)
                        go_meet
                        case rel => exact ⟨_, (((bt a0 (ji41)) == 61)), (by first | rfl | (simp; done) | (simp only [← hji41] <;> (first | rfl | simp)) | (simp [*]; done)), H', ⟨by have := HK1.out; have := HJ25.out; first | omega | exact Nat.le_refl _⟩, ⟨by repeat (first | (with_reducible first | exact HB.out | apply below_alloc | apply pw_below_drewN | apply below_drew1) | exact HB.out)⟩⟩
                      · rw [if_neg c43] at H
                        exact absurd H (by simp)
                    · rw [if_neg c42] at H
                      exact absurd H (by simp)
                  · rw [if_neg c40] at H
                    have c40b0 : decide (1 < (a0.size : Int)) = false := decide_eq_false c40
                    have c40b1 : decide (1 < a0.size) = false := decide_eq_false (by omega)
                    clear c40
                    (first | rw [c40b0] | (simp only [i64_w, i32_w]; rw [c40b0]) | skip)
                    have H' := Aside0.mk H
                    clear H
                    go_wp2
                    repeat (go_quiet (fail); try go_wp2)
                    go_meet
                    case rel => exact ⟨_, (false), (by first | rfl | (simp; done) | (simp [*]; done)), H', ⟨by have := HK1.out; have := HJ25.out; first | omega | exact Nat.le_refl _⟩, ⟨by repeat (first | (with_reducible first | exact HB.out | apply below_alloc | apply pw_below_drewN | apply below_drew1) | exact HB.out)⟩⟩
                case rest =>
                  clear HC39
                  try clear c1
                  try clear p1
                  try clear q1
                  try clear hx1
                  try clear c2
                  try clear c2b0
                  try clear c2b1
                  try clear p2
                  try clear q2
                  try clear hx2
                  try clear hcv2
                  try clear c3
                  try clear c3b0
                  try clear c4
                  try clear c4b0
                  try clear p4
                  try clear q4
                  try clear hx4
                  try clear p5
                  try clear q5
                  try clear hx5
                  try clear p6
                  try clear c8
                  try clear c8b0
                  try clear c9
                  try clear c9b0
                  try clear p10
                  try clear q10
                  try clear hx10
                  try clear c13
                  try clear c13b0
                  try clear c14
                  try clear c14b0
                  try clear p15
                  try clear q15
                  try clear hx15
                  try clear c18
                  try clear c18b0
                  try clear c19
                  try clear c19b0
                  try clear p20
                  try clear q20
                  try clear hx20
                  try clear c22
                  try clear c22b0
                  try clear c22b1
                  try clear c22b2
                  try clear hcv25
                  try clear c27
                  try clear c27b0
                  try clear c27b1
                  try clear c29
                  try clear c29b0
                  try clear c29b1
                  try clear c30
                  try clear c30b0
                  try clear c30b1
                  try clear c31
                  try clear c33
                  try clear c33b0
                  try clear c33b1
                  try clear c34
                  try clear c34b0
                  try clear c34b1
                  try clear c36
                  try clear c36b0
                  try clear c36b1
                  try clear c39
                  try clear c40
                  try clear c40b0
                  try clear c40b1
                  try clear c42
                  try clear c42b0
                  try clear c43
                  try clear c43b0
                  try clear p44
                  try clear q44
                  try clear hx44
                  try clear p1
                  try clear p10
                  try clear p15
                  try clear p2
                  try clear p20
                  try clear p44
                  try clear p5
                  try clear p6
                  try clear q1
                  try clear q10
                  try clear q15
                  try clear q2
                  try clear q20
                  try clear q44
                  try clear q5
                  obtain ⟨kq, x82_38, rfl, HA, HJ38, HB⟩ := hcut
                  cases kq with
                  | zero => exact absurd HA.out (by simp [latinerref05_Unbase.j2])
                  | succ kj38 =>
                    have H := HA.out
                    clear HA
                    simp only [latinerref05_Unbase.j2] at H
                    by_cases c45 : x82_38 = true
                    · subst c45
                      have H1 : (if 0 ≤ (wrap64 ((x4_1.size : Int) - 1)) then (if (wrap64 ((x4_1.size : Int) - 1)) ≤ (x4_1.size : Int) then ((latinerref05_Base.f kj38 (x4_1.extract 0 ((wrap64 ((x4_1.size : Int) - 1)) : Int).toNat)).bind fun t194 => (if t194.toList = a0.toList then (some (x4_1.extract 0 ((wrap64 ((x4_1.size : Int) - 1)) : Int).toNat, 0)) else (some ((⟨#[]⟩ : ByteArray), 50)))) else (none)) else (none)) = some (r1, r2) := by rw [if_pos rfl] at H; exact H
                      clear H
                      have H := H1
                      clear H1
                      obtain ⟨ji46, hji46⟩ : ∃ j_ : Int, (wrap64 ((x4_1.size : Int) - 1)) = j_ := ⟨_, rfl⟩
                      replace H : (if 0 ≤ (ji46) then (if (ji46) ≤ (x4_1.size : Int) then ((latinerref05_Base.f kj38 (x4_1.extract 0 ((ji46) : Int).toNat)).bind fun t194 => (if t194.toList = a0.toList then (some (x4_1.extract 0 ((ji46) : Int).toNat, 0)) else (some ((⟨#[]⟩ : ByteArray), 50)))) else (none)) else (none)) = some (r1, r2) := by first | (rw [hji46] at H; exact H) | (simp only [hji46] at H ⊢; exact H)
                      have hji46w : (IntKind.i64.wrap ((x4_1.size : Int) - 1)) = ji46 := (i64_w _).trans hji46
                      by_cases c47 : 0 ≤ (ji46)
                      · rw [if_pos c47] at H
                        have c47b0 := eq_true c47
                        have c47b1 : decide (0 ≤ (ji46)) = true := decide_eq_true c47
                        clear c47
                        by_cases c48 : (ji46) ≤ (x4_1.size : Int)
                        · rw [if_pos c48] at H
                          have c48b0 := eq_true c48
                          have c48b1 : decide ((ji46) ≤ (x4_1.size : Int)) = true := decide_eq_true c48
                          clear c48
                          replace H := Option.bind_eq_some_iff.mp H
                          obtain ⟨t194, A490, H⟩ := H
                          replace H : (if t194.toList = a0.toList then (some (x4_1.extract 0 ((ji46) : Int).toNat, 0)) else (some ((⟨#[]⟩ : ByteArray), 50))) = some (r1, r2) := H
                          have A49 := Aside0.mk A490
                          clear A490
                          by_cases c50 : t194.toList = a0.toList
                          · rw [if_pos c50] at H
                            have c50b0 : (t194.toList == a0.toList) = true := beq_iff_eq.mpr c50
                            have c50b1 : (t194.toList != a0.toList) = false := bne_eq_false_iff_eq.mpr c50
                            clear c50
                            simp only [Option.some.injEq, Prod.mk.injEq] at H
                            obtain ⟨rfl, rfl⟩ := H
                            go_wp2_with (first | (go_at_call 37; (with_reducible refine (latinerref05_Base.calls kj38 (x4_1.extract 0 ((ji46) : Int).toNat) t194 _ A49.out).mono ?_); rintro e w51 ⟨rfl, hb⟩; have n0_ := Aside0.mk (below_step (by repeat (first | (with_reducible first | exact HB.out | apply below_alloc | apply pw_below_drewN | apply below_drew1) | exact HB.out)) hb); clear HB; have HB := n0_; clear n0_; (try clear hb); (try clear hb2); (try clear hk); (try clear hi)))
                            repeat (go_quiet (first | (go_at_call 37; (with_reducible refine (latinerref05_Base.calls kj38 (x4_1.extract 0 ((ji46) : Int).toNat) t194 _ A49.out).mono ?_); rintro e w51 ⟨rfl, hb⟩; have n0_ := Aside0.mk (below_step (by repeat (first | (with_reducible first | exact HB.out | apply below_alloc | apply pw_below_drewN | apply below_drew1) | exact HB.out)) hb); clear HB; have HB := n0_; clear n0_; (try clear hb); (try clear hb2); (try clear hk); (try clear hi))); try go_wp2_with (first | (go_at_call 37; (with_reducible refine (latinerref05_Base.calls kj38 (x4_1.extract 0 ((ji46) : Int).toNat) t194 _ A49.out).mono ?_); rintro e w51 ⟨rfl, hb⟩; have n0_ := Aside0.mk (below_step (by repeat (first | (with_reducible first | exact HB.out | apply below_alloc | apply pw_below_drewN | apply below_drew1) | exact HB.out)) hb); clear HB; have HB := n0_; clear n0_; (try clear hb); (try clear hb2); (try clear hk); (try clear hi))))
                            go_ret2
                            exact ⟨by first | rfl | (simp [errW_none, errW_some] <;> rfl) | (simp only [← hji46]; first | rfl | (simp [errW_none, errW_some] <;> rfl)) | (simp [*, errW_none, errW_some] <;> rfl), by repeat (first | (with_reducible first | exact HB.out | apply below_alloc | apply pw_below_drewN | apply below_drew1) | exact HB.out)⟩
                          · rw [if_neg c50] at H
                            have c50b0 : (t194.toList == a0.toList) = false := beq_eq_false_iff_ne.mpr c50
                            have c50b1 : (t194.toList != a0.toList) = true := bne_iff_ne.mpr c50
                            simp only [Option.some.injEq, Prod.mk.injEq] at H
                            obtain ⟨rfl, rfl⟩ := H
                            go_wp2_with (first | (go_at_call 37; (with_reducible refine (latinerref05_Base.calls kj38 (x4_1.extract 0 ((ji46) : Int).toNat) t194 _ A49.out).mono ?_); rintro e w52 ⟨rfl, hb⟩; have n0_ := Aside0.mk (below_step (by repeat (first | (with_reducible first | exact HB.out | apply below_alloc | apply pw_below_drewN | apply below_drew1) | exact HB.out)) hb); clear HB; have HB := n0_; clear n0_; (try clear hb); (try clear hb2); (try clear hk); (try clear hi)))
                            repeat (go_quiet (first | (go_at_call 37; (with_reducible refine (latinerref05_Base.calls kj38 (x4_1.extract 0 ((ji46) : Int).toNat) t194 _ A49.out).mono ?_); rintro e w52 ⟨rfl, hb⟩; have n0_ := Aside0.mk (below_step (by repeat (first | (with_reducible first | exact HB.out | apply below_alloc | apply pw_below_drewN | apply below_drew1) | exact HB.out)) hb); clear HB; have HB := n0_; clear n0_; (try clear hb); (try clear hb2); (try clear hk); (try clear hi))); try go_wp2_with (first | (go_at_call 37; (with_reducible refine (latinerref05_Base.calls kj38 (x4_1.extract 0 ((ji46) : Int).toNat) t194 _ A49.out).mono ?_); rintro e w52 ⟨rfl, hb⟩; have n0_ := Aside0.mk (below_step (by repeat (first | (with_reducible first | exact HB.out | apply below_alloc | apply pw_below_drewN | apply below_drew1) | exact HB.out)) hb); clear HB; have HB := n0_; clear n0_; (try clear hb); (try clear hb2); (try clear hk); (try clear hi))))
                            go_ret2
                            exact ⟨by first | rfl | (simp [errW_none, errW_some] <;> rfl) | (simp only [← hji46]; first | rfl | (simp [errW_none, errW_some] <;> rfl)) | (simp [*, errW_none, errW_some] <;> rfl), by repeat (first | (with_reducible first | exact HB.out | apply below_alloc | apply pw_below_drewN | apply below_drew1) | exact HB.out)⟩
                        · rw [if_neg c48] at H
                          exact absurd H (by simp)
                      · rw [if_neg c47] at H
                        exact absurd H (by simp)
                    · replace c45 := Bool.eq_false_iff.mpr c45
                      subst c45
                      have H1 : ((latinerref05_Base.f kj38 x4_1).bind fun t195 => (if t195.toList = a0.toList then (some (x4_1, 0)) else (some ((⟨#[]⟩ : ByteArray), 50)))) = some (r1, r2) := by rw [if_neg (show ¬ (false = true) by decide)] at H; exact H
                      clear H
                      have H := H1
                      clear H1
                      replace H := Option.bind_eq_some_iff.mp H
                      obtain ⟨t195, A530, H⟩ := H
                      replace H : (if t195.toList = a0.toList then (some (x4_1, 0)) else (some ((⟨#[]⟩ : ByteArray), 50))) = some (r1, r2) := H
                      have A53 := Aside0.mk A530
                      clear A530
                      by_cases c54 : t195.toList = a0.toList
                      · rw [if_pos c54] at H
                        have c54b0 : (t195.toList == a0.toList) = true := beq_iff_eq.mpr c54
                        have c54b1 : (t195.toList != a0.toList) = false := bne_eq_false_iff_eq.mpr c54
                        clear c54
                        simp only [Option.some.injEq, Prod.mk.injEq] at H
                        obtain ⟨rfl, rfl⟩ := H
                        go_wp2_with (first | (go_at_call 37; (with_reducible refine (latinerref05_Base.calls kj38 x4_1 t195 _ A53.out).mono ?_); rintro e w55 ⟨rfl, hb⟩; have n0_ := Aside0.mk (below_step (by repeat (first | (with_reducible first | exact HB.out | apply below_alloc | apply pw_below_drewN | apply below_drew1) | exact HB.out)) hb); clear HB; have HB := n0_; clear n0_; (try clear hb); (try clear hb2); (try clear hk); (try clear hi)))
                        repeat (go_quiet (first | (go_at_call 37; (with_reducible refine (latinerref05_Base.calls kj38 x4_1 t195 _ A53.out).mono ?_); rintro e w55 ⟨rfl, hb⟩; have n0_ := Aside0.mk (below_step (by repeat (first | (with_reducible first | exact HB.out | apply below_alloc | apply pw_below_drewN | apply below_drew1) | exact HB.out)) hb); clear HB; have HB := n0_; clear n0_; (try clear hb); (try clear hb2); (try clear hk); (try clear hi))); try go_wp2_with (first | (go_at_call 37; (with_reducible refine (latinerref05_Base.calls kj38 x4_1 t195 _ A53.out).mono ?_); rintro e w55 ⟨rfl, hb⟩; have n0_ := Aside0.mk (below_step (by repeat (first | (with_reducible first | exact HB.out | apply below_alloc | apply pw_below_drewN | apply below_drew1) | exact HB.out)) hb); clear HB; have HB := n0_; clear n0_; (try clear hb); (try clear hb2); (try clear hk); (try clear hi))))
                        go_ret2
                        exact ⟨by first | rfl | (simp [errW_none, errW_some] <;> rfl) | (simp [*, errW_none, errW_some] <;> rfl), by repeat (first | (with_reducible first | exact HB.out | apply below_alloc | apply pw_below_drewN | apply below_drew1) | exact HB.out)⟩
                      · rw [if_neg c54] at H
                        have c54b0 : (t195.toList == a0.toList) = false := beq_eq_false_iff_ne.mpr c54
                        have c54b1 : (t195.toList != a0.toList) = true := bne_iff_ne.mpr c54
                        simp only [Option.some.injEq, Prod.mk.injEq] at H
                        obtain ⟨rfl, rfl⟩ := H
                        go_wp2_with (first | (go_at_call 37; (with_reducible refine (latinerref05_Base.calls kj38 x4_1 t195 _ A53.out).mono ?_); rintro e w56 ⟨rfl, hb⟩; have n0_ := Aside0.mk (below_step (by repeat (first | (with_reducible first | exact HB.out | apply below_alloc | apply pw_below_drewN | apply below_drew1) | exact HB.out)) hb); clear HB; have HB := n0_; clear n0_; (try clear hb); (try clear hb2); (try clear hk); (try clear hi)))
                        repeat (go_quiet (first | (go_at_call 37; (with_reducible refine (latinerref05_Base.calls kj38 x4_1 t195 _ A53.out).mono ?_); rintro e w56 ⟨rfl, hb⟩; have n0_ := Aside0.mk (below_step (by repeat (first | (with_reducible first | exact HB.out | apply below_alloc | apply pw_below_drewN | apply below_drew1) | exact HB.out)) hb); clear HB; have HB := n0_; clear n0_; (try clear hb); (try clear hb2); (try clear hk); (try clear hi))); try go_wp2_with (first | (go_at_call 37; (with_reducible refine (latinerref05_Base.calls kj38 x4_1 t195 _ A53.out).mono ?_); rintro e w56 ⟨rfl, hb⟩; have n0_ := Aside0.mk (below_step (by repeat (first | (with_reducible first | exact HB.out | apply below_alloc | apply pw_below_drewN | apply below_drew1) | exact HB.out)) hb); clear HB; have HB := n0_; clear n0_; (try clear hb); (try clear hb2); (try clear hk); (try clear hi))))
                        go_ret2
                        exact ⟨by first | rfl | (simp [errW_none, errW_some] <;> rfl) | (simp [*, errW_none, errW_some] <;> rfl), by repeat (first | (with_reducible first | exact HB.out | apply below_alloc | apply pw_below_drewN | apply below_drew1) | exact HB.out)⟩
  · rw [if_neg c2] at H
    have c2b0 : (((a0.size : Int) % 4) == 0) = false := beq_eq_false_iff_ne.mpr c2
    have c2b1 : (((a0.size : Int) % 4) != 0) = true := bne_iff_ne.mpr c2
    simp only [Option.some.injEq, Prod.mk.injEq] at H
    obtain ⟨rfl, rfl⟩ := H
    go_enter Tryz.func39, Tryz.ntmps39
    go_wp2
    repeat (go_quiet (fail); try go_wp2)
    go_ret2
    exact ⟨by first | rfl | (simp [errW_none, errW_some] <;> rfl) | (simp [*, errW_none, errW_some] <;> rfl), by repeat (first | (with_reducible first | exact HB.out | apply below_alloc | apply pw_below_drewN | apply below_drew1) | exact HB.out)⟩

/-! ### latinerref15_blanks: function 40 -/
def latinerref15_blanks.l0 : Nat → ByteArray → Option (ByteArray)
  | 0, _ => none
  | k + 1, x0 => if x0.toList = ([] : List UInt8) then (some x0) else (if 0 < (x0.size : Int) then (if (bt x0 0) = 32 then (if 1 ≤ (x0.size : Int) then (latinerref15_blanks.l0 k (x0.extract 1 x0.size)) else (none)) else (some x0)) else (none))
def latinerref15_blanks.f (k : Nat) (a0 : ByteArray) : Option (ByteArray) := latinerref15_blanks.l0 k a0
set_option maxHeartbeats 8000000 in
set_option maxRecDepth 100000 in
theorem latinerref15_blanks.calls (k : Nat) (a0 : ByteArray) (r : ByteArray) (w : World) (h : latinerref15_blanks.f k a0 = some r) :
    Calls Tryz.prog 40 #[.string a0] w fun e w' => e = .returned (.string r) ∧ Drawn0 w w' := by
  have H : (latinerref15_blanks.l0 k a0) = some r := h
  clear h
  have H' := Aside0.mk H
  clear H
  go_enter Tryz.func40, Tryz.ntmps40
  go_wp2
  go_loopg [0] k (fun kq v0 w' => ∃ (x0_1 : ByteArray), v0 = .string x0_1 ∧ Aside0 (latinerref15_blanks.l0 kq x0_1 = some r) ∧ Aside0 (kq ≤ k) ∧ Drawn0 w w')
  case atStart => exact ⟨(a0), (by first | rfl | (simp; done) | (simp [*]; done)), H', ⟨Nat.le_refl _⟩, by repeat (first | exact Drawn0.refl _ | apply Drawn0.step)⟩
  case round =>
    clear H'
    obtain ⟨x0_1, rfl, HA, HK1, ⟨m1, rfl⟩⟩ := hrel
    cases gk with
    | zero => exact absurd HA.out (by simp [latinerref15_blanks.l0])
    | succ k1 =>
      have H := HA.out
      clear HA
      simp only [latinerref15_blanks.l0] at H
      by_cases c2 : x0_1.toList = ([] : List UInt8)
      · rw [if_pos c2] at H
        have c2b0 : (x0_1.toList == ([] : List UInt8)) = true := beq_iff_eq.mpr c2
        have c2b1 : (x0_1.toList != ([] : List UInt8)) = false := bne_eq_false_iff_eq.mpr c2
        clear c2
        obtain rfl := Option.some.inj H
        go_wp2
        go_ret
        exact ⟨by first | rfl | (simp; done) | (simp [*]; done), by repeat (first | exact Drawn0.refl _ | apply Drawn0.step)⟩
      · rw [if_neg c2] at H
        have c2b0 : (x0_1.toList == ([] : List UInt8)) = false := beq_eq_false_iff_ne.mpr c2
        have c2b1 : (x0_1.toList != ([] : List UInt8)) = true := bne_iff_ne.mpr c2
        by_cases c3 : 0 < (x0_1.size : Int)
        · rw [if_pos c3] at H
          have c3b0 : decide (0 < (x0_1.size : Int)) = true := decide_eq_true c3
          have c3b1 : decide (0 < x0_1.size) = true := decide_eq_true (by omega)
          clear c3
          by_cases c5 : (bt x0_1 0) = 32
          · rw [if_pos c5] at H
            have c5b0 : ((bt x0_1 0) == 32) = true := beq_iff_eq.mpr c5
            have c5b1 : ((bt x0_1 0) != 32) = false := bne_eq_false_iff_eq.mpr c5
            clear c5
            by_cases c6 : 1 ≤ (x0_1.size : Int)
            · rw [if_pos c6] at H
              have c6b0 := eq_true c6
              have c6b1 : decide (1 ≤ (x0_1.size : Int)) = true := decide_eq_true c6
              clear c6
              have H' := Aside0.mk H
              clear H
              have p4 : 0 ≤ (0 : Int) := (by omega)
              have q4 : 0 < x0_1.size := (by have : (0 : Int) < (x0_1.size : Int) := of_decide_eq_true (by first | (with_reducible assumption) | assumption); omega)
              have hx4 : ∀ h : 0 < x0_1.size, ((x0_1[0]'h).toNat : Int) = bt x0_1 0 := bt_at x0_1 0
              clear p4
              have qi4 : (0 < (x0_1.size : Int)) = True := eq_true (of_decide_eq_true (by first | (with_reducible assumption) | assumption))
              replace q4 := eq_true q4
              go_wp2
              go_roundg k1
              case measure => have := HK1.out; omega
              case rel => exact ⟨(x0_1.extract 1 x0_1.size), (by first | rfl | (simp; done) | (simp [*]; done)), H', ⟨by have := HK1.out; omega⟩, by repeat (first | exact Drawn0.refl _ | apply Drawn0.step)⟩
            · rw [if_neg c6] at H
              exact absurd H (by simp)
          · rw [if_neg c5] at H
            have c5b0 : ((bt x0_1 0) == 32) = false := beq_eq_false_iff_ne.mpr c5
            have c5b1 : ((bt x0_1 0) != 32) = true := bne_iff_ne.mpr c5
            obtain rfl := Option.some.inj H
            have p4 : 0 ≤ (0 : Int) := (by omega)
            have q4 : 0 < x0_1.size := (by have : (0 : Int) < (x0_1.size : Int) := of_decide_eq_true (by first | (with_reducible assumption) | assumption); omega)
            have hx4 : ∀ h : 0 < x0_1.size, ((x0_1[0]'h).toNat : Int) = bt x0_1 0 := bt_at x0_1 0
            clear p4
            have qi4 : (0 < (x0_1.size : Int)) = True := eq_true (of_decide_eq_true (by first | (with_reducible assumption) | assumption))
            replace q4 := eq_true q4
            go_wp2
            go_ret
            exact ⟨by first | rfl | (simp; done) | (simp [*]; done), by repeat (first | exact Drawn0.refl _ | apply Drawn0.step)⟩
        · rw [if_neg c3] at H
          exact absurd H (by simp)

end Go.Proofs.YtjnfoocmilbdlaaGreatDoor.LFold
-- Written by this repo's own program over the kit's printer: YtjnfoocmilbdlaaGreatDoor.LFold
namespace Go.Proofs.YtjnfoocmilbdlaaGreatDoor.LFold
open Go.Proofs.YtjnfoocmilbdlaaGreatDoor.ExtFold
open Go.RowKit Go.Proofs.YtjnfoocmilbdlaaGreatDoorW.PrintWords Go.Proofs.YtjnfoocmilbdlaaGreatDoorW.PrintLast Go.Proofs.YtjnfoocmilbdlaaGreatDoorW2
attribute [local go_sem] own_max2 own_min2 own_maxs own_mins
set_option linter.unusedVariables false
set_option linter.unusedSimpArgs false

/-! ### latinerref15_ReadItem: function 22 -/
mutual
def latinerref15_ReadItem.j1 : Nat → ByteArray → Int → Option (ByteArray × ByteArray × Int)
  | 0, _, _ => none
  | k + 1, x0, x5 => if x5 = 0 then (latinerref15_ReadItem.j2 k x0 x5 true) else (latinerref15_ReadItem.j2 k x0 x5 (decide (x5 ≥ (x0.size : Int))))
def latinerref15_ReadItem.j2 : Nat → ByteArray → Int → Bool → Option (ByteArray × ByteArray × Int)
  | 0, _, _, _ => none
  | k + 1, x0, x5, x29 => if x29 = true then (some ((⟨#[]⟩ : ByteArray), (⟨#[]⟩ : ByteArray), 151)) else (if 0 ≤ (wrap64 (x5 + 1)) then (if (wrap64 (x5 + 1)) ≤ (x0.size : Int) then (if (x0.extract ((wrap64 (x5 + 1)) : Int).toNat x0.size).toList = ([] : List UInt8) then (latinerref15_ReadItem.j3 k x0 x5 (x0.extract ((wrap64 (x5 + 1)) : Int).toNat x0.size) false) else (if 0 < ((x0.extract ((wrap64 (x5 + 1)) : Int).toNat x0.size).size : Int) then (latinerref15_ReadItem.j3 k x0 x5 (x0.extract ((wrap64 (x5 + 1)) : Int).toNat x0.size) ((bt (x0.extract ((wrap64 (x5 + 1)) : Int).toNat x0.size) 0) == 60)) else (none))) else (none)) else (none))
def latinerref15_ReadItem.j3 : Nat → ByteArray → Int → ByteArray → Bool → Option (ByteArray × ByteArray × Int)
  | 0, _, _, _, _ => none
  | k + 1, x0, x5, x6, x40 => if x40 = true then (some ((⟨#[]⟩ : ByteArray), (⟨#[]⟩ : ByteArray), 152)) else (if x6.toList = ([] : List UInt8) then (latinerref15_ReadItem.j4 k x0 x5 x6 false) else (if 0 < (x6.size : Int) then (latinerref15_ReadItem.j4 k x0 x5 x6 ((bt x6 0) == 58)) else (none)))
def latinerref15_ReadItem.j4 : Nat → ByteArray → Int → ByteArray → Bool → Option (ByteArray × ByteArray × Int)
  | 0, _, _, _, _ => none
  | k + 1, x0, x5, x6, x47 => if x47 = true then (if 1 ≤ (x6.size : Int) then ((latinerref15_blanks.f k (x6.extract 1 x6.size)).bind fun t196 => ((latinerref05_Unbase.f k t196).bind fun bt197 => (if bt197.2 = 0 then (if 0 ≤ x5 then (if x5 ≤ (x0.size : Int) then (some (x0.extract 0 (x5 : Int).toNat, bt197.1, 0)) else (none)) else (none)) else (some ((⟨#[]⟩ : ByteArray), (⟨#[]⟩ : ByteArray), 151))))) else (none)) else ((latinerref15_blanks.f k x6).bind fun t199 => ((latinerref04_IsSafe.f k t199).bind fun t200 => (if t200 = true then (if 0 ≤ x5 then (if x5 ≤ (x0.size : Int) then (some (x0.extract 0 (x5 : Int).toNat, t199, 0)) else (none)) else (none)) else (some ((⟨#[]⟩ : ByteArray), (⟨#[]⟩ : ByteArray), 151)))))
def latinerref15_ReadItem.l0 : Nat → ByteArray → Int → Option (ByteArray × ByteArray × Int)
  | 0, _, _ => none
  | k + 1, x0, x5 => if x5 < (x0.size : Int) then (if 0 ≤ x5 then (if (bt x0 x5) = 58 then (latinerref15_ReadItem.j1 k x0 x5) else (latinerref15_ReadItem.l0 k x0 (wrap64 (x5 + 1)))) else (none)) else (latinerref15_ReadItem.j1 k x0 x5)
end
def latinerref15_ReadItem.f (k : Nat) (a0 : ByteArray) : Option (ByteArray × ByteArray × Int) := latinerref15_ReadItem.l0 k a0 0
set_option maxHeartbeats 8000000 in
set_option maxRecDepth 100000 in
theorem latinerref15_ReadItem.calls (k : Nat) (a0 : ByteArray) (r1 : ByteArray) (r2 : ByteArray) (r3 : Int) (w : World) (h : latinerref15_ReadItem.f k a0 = some (r1, r2, r3)) :
    Calls Tryz.prog 22 #[.string a0] w fun e w' => e = .returned (.tuple #[.string r1, .string r2, .int .i64 r3]) ∧ Below w.heap.size w w' := by
  have HB := Aside0.mk (Below.refl w.heap.size w)
  have H : (latinerref15_ReadItem.l0 k a0 0) = some (r1, r2, r3) := h
  clear h
  have HC2 := Aside0.mk H
  clear H
  go_enter Tryz.func22, Tryz.ntmps22
  go_upto_block 0 with (fail)
  go_cut [5] (fun v5 wc => ∃ (kq : Nat) (x5_1 : Int), v5 = .int .i64 x5_1 ∧ Aside0 (latinerref15_ReadItem.j1 kq a0 x5_1 = some (r1, r2, r3)) ∧ Aside0 (kq ≤ k) ∧ Aside0 (Below w.heap.size w wc))
  case first =>
    have H := HC2.out
    clear HC2
    have H' := Aside0.mk H
    clear H
    go_wp2
    go_loopg [5] k (fun kq v5 w' => ∃ (x5_1 : Int), v5 = .int .i64 x5_1 ∧ Aside0 (latinerref15_ReadItem.l0 kq a0 x5_1 = some (r1, r2, r3)) ∧ Aside0 (kq ≤ k) ∧ Aside0 (Below w.heap.size w w'))
    case atStart => exact ⟨(0), (by first | rfl | (simp; done) | (simp [*]; done)), H', ⟨Nat.le_refl _⟩, ⟨by repeat (first | (with_reducible first | exact HB.out | apply below_alloc | apply pw_below_drewN | apply below_drew1) | exact HB.out)⟩⟩
    case round =>
      clear H'
      try clear c2
      try clear p2
      obtain ⟨x5_1, rfl, HA, HK1, HB⟩ := hrel
      cases gk with
      | zero => exact absurd HA.out (by simp [latinerref15_ReadItem.l0])
      | succ k1 =>
        have H := HA.out
        clear HA
        simp only [latinerref15_ReadItem.l0] at H
        by_cases c3 : x5_1 < (a0.size : Int)
        · rw [if_pos c3] at H
          have c3b0 : decide (x5_1 < (a0.size : Int)) = true := decide_eq_true c3
          clear c3
          (first | rw [c3b0] | (simp only [i64_w, i32_w]; rw [c3b0]) | skip)
          by_cases c4 : 0 ≤ x5_1
          · rw [if_pos c4] at H
            have c4b0 : decide (0 ≤ x5_1) = true := decide_eq_true c4
            clear c4
            by_cases c6 : (bt a0 x5_1) = 58
            · rw [if_pos c6] at H
              have c6b0 : ((bt a0 x5_1) == 58) = true := beq_iff_eq.mpr c6
              have c6b1 : ((bt a0 x5_1) != 58) = false := bne_eq_false_iff_eq.mpr c6
              clear c6
              have H' := Aside0.mk H
              clear H
              have p5 : 0 ≤ (x5_1 : Int) := of_decide_eq_true (by first | (with_reducible assumption) | assumption)
              have q5 : x5_1 < (a0.size : Int) := of_decide_eq_true (by first | (with_reducible assumption) | assumption)
              have hx5 := bt_at a0 x5_1
              replace p5 := eq_true p5
              replace q5 := eq_true q5
              go_wp2
              go_meet
              case rel => exact ⟨_, (x5_1), (by first | rfl | (simp; done) | (simp [*]; done)), H', ⟨by have := HK1.out; first | omega | exact Nat.le_refl _⟩, ⟨by repeat (first | (with_reducible first | exact HB.out | apply below_alloc | apply pw_below_drewN | apply below_drew1) | exact HB.out)⟩⟩
            · rw [if_neg c6] at H
              have c6b0 : ((bt a0 x5_1) == 58) = false := beq_eq_false_iff_ne.mpr c6
              have c6b1 : ((bt a0 x5_1) != 58) = true := bne_iff_ne.mpr c6
              have H' := Aside0.mk H
              clear H
              have p5 : 0 ≤ (x5_1 : Int) := of_decide_eq_true (by first | (with_reducible assumption) | assumption)
              have q5 : x5_1 < (a0.size : Int) := of_decide_eq_true (by first | (with_reducible assumption) | assumption)
              have hx5 := bt_at a0 x5_1
              replace p5 := eq_true p5
              replace q5 := eq_true q5
              go_wp2
              go_roundg k1
              case measure => have := HK1.out; omega
              case rel => exact ⟨(wrap64 (x5_1 + 1)), (by first | rfl | (simp; done) | (simp [*]; done)), H', ⟨by have := HK1.out; omega⟩, ⟨by repeat (first | (with_reducible first | exact HB.out | apply below_alloc | apply pw_below_drewN | apply below_drew1) | exact HB.out)⟩⟩
          · rw [if_neg c4] at H
            exact absurd H (by simp)
        · rw [if_neg c3] at H
          have c3b0 : decide (x5_1 < (a0.size : Int)) = false := decide_eq_false c3
          clear c3
          (first | rw [c3b0] | (simp only [i64_w, i32_w]; rw [c3b0]) | skip)
          have H' := Aside0.mk H
          clear H
          go_wp2
          go_meet
          case rel => exact ⟨_, (x5_1), (by first | rfl | (simp; done) | (simp [*]; done)), H', ⟨by have := HK1.out; first | omega | exact Nat.le_refl _⟩, ⟨by repeat (first | (with_reducible first | exact HB.out | apply below_alloc | apply pw_below_drewN | apply below_drew1) | exact HB.out)⟩⟩
  case rest =>
    clear HC2
    try clear c2
    try clear p2
    try clear c3
    try clear c3b0
    try clear c4
    try clear c4b0
    try clear p5
    try clear q5
    try clear hx5
    try clear c6
    try clear c6b0
    try clear c6b1
    try clear p6
    try clear p2
    try clear p5
    try clear q5
    obtain ⟨kq, x5_1, rfl, HA, HJ1, HB⟩ := hcut
    cases kq with
    | zero => exact absurd HA.out (by simp [latinerref15_ReadItem.j1])
    | succ kj1 =>
      have H := HA.out
      clear HA
      simp only [latinerref15_ReadItem.j1] at H
      have HC7 := Aside0.mk H
      clear H
      go_upto_region 4 with (fail)
      go_cut [29] (fun v29 wc => ∃ (kq : Nat) (x29_6 : Bool), v29 = .bool x29_6 ∧ Aside0 (latinerref15_ReadItem.j2 kq a0 x5_1 x29_6 = some (r1, r2, r3)) ∧ Aside0 (kq ≤ kj1) ∧ Aside0 (Below w.heap.size w wc))
      case first =>
        have H := HC7.out
        clear HC7
        by_cases c8 : x5_1 = 0
        · rw [if_pos c8] at H
          have c8b0 : (x5_1 == 0) = true := beq_iff_eq.mpr c8
          have c8b1 : (x5_1 != 0) = false := bne_eq_false_iff_eq.mpr c8
          clear c8
          (first | rw [c8b0] | (simp only [i64_w, i32_w]; rw [c8b0]) | skip)
          have H' := Aside0.mk H
          clear H
          go_wp2
          go_meet
          case rel => exact ⟨_, (true), (by first | rfl | (simp; done) | (simp [*]; done)), H', ⟨by have := HJ1.out; first | omega | exact Nat.le_refl _⟩, ⟨by repeat (first | (with_reducible first | exact HB.out | apply below_alloc | apply pw_below_drewN | apply below_drew1) | exact HB.out)⟩⟩
        · rw [if_neg c8] at H
          have c8b0 : (x5_1 == 0) = false := beq_eq_false_iff_ne.mpr c8
          have c8b1 : (x5_1 != 0) = true := bne_iff_ne.mpr c8
          (first | rw [c8b0] | (simp only [i64_w, i32_w]; rw [c8b0]) | skip)
          have H' := Aside0.mk H
          clear H
          go_wp2
          go_meet
          case rel => exact ⟨_, (decide (x5_1 ≥ (a0.size : Int))), (by first | rfl | (simp; done) | (simp [*]; done)), H', ⟨by have := HJ1.out; first | omega | exact Nat.le_refl _⟩, ⟨by repeat (first | (with_reducible first | exact HB.out | apply below_alloc | apply pw_below_drewN | apply below_drew1) | exact HB.out)⟩⟩
      case rest =>
        clear HC7
        try clear c2
        try clear p2
        try clear c3
        try clear c3b0
        try clear c4
        try clear c4b0
        try clear p5
        try clear q5
        try clear hx5
        try clear c6
        try clear c6b0
        try clear c6b1
        try clear p6
        try clear c8
        try clear c8b0
        try clear c8b1
        try clear p2
        try clear p5
        try clear p6
        try clear q5
        obtain ⟨kq, x29_6, rfl, HA, HJ6, HB⟩ := hcut
        cases kq with
        | zero => exact absurd HA.out (by simp [latinerref15_ReadItem.j2])
        | succ kj6 =>
          have H := HA.out
          clear HA
          simp only [latinerref15_ReadItem.j2] at H
          by_cases c9 : x29_6 = true
          · subst c9
            have H1 : (some ((⟨#[]⟩ : ByteArray), (⟨#[]⟩ : ByteArray), 151)) = some (r1, r2, r3) := by rw [if_pos rfl] at H; exact H
            clear H
            have H := H1
            clear H1
            simp only [Option.some.injEq, Prod.mk.injEq] at H
            obtain ⟨rfl, rfl, rfl⟩ := H
            go_wp2
            go_ret3
            exact ⟨by first | rfl | (simp [errW_none, errW_some] <;> rfl) | (simp [*, errW_none, errW_some] <;> rfl), by repeat (first | (with_reducible first | exact HB.out | apply below_alloc | apply pw_below_drewN | apply below_drew1) | exact HB.out)⟩
          · replace c9 := Bool.eq_false_iff.mpr c9
            subst c9
            have H1 : (if 0 ≤ (wrap64 (x5_1 + 1)) then (if (wrap64 (x5_1 + 1)) ≤ (a0.size : Int) then (if (a0.extract ((wrap64 (x5_1 + 1)) : Int).toNat a0.size).toList = ([] : List UInt8) then (latinerref15_ReadItem.j3 kj6 a0 x5_1 (a0.extract ((wrap64 (x5_1 + 1)) : Int).toNat a0.size) false) else (if 0 < ((a0.extract ((wrap64 (x5_1 + 1)) : Int).toNat a0.size).size : Int) then (latinerref15_ReadItem.j3 kj6 a0 x5_1 (a0.extract ((wrap64 (x5_1 + 1)) : Int).toNat a0.size) ((bt (a0.extract ((wrap64 (x5_1 + 1)) : Int).toNat a0.size) 0) == 60)) else (none))) else (none)) else (none)) = some (r1, r2, r3) := by rw [if_neg (show ¬ (false = true) by decide)] at H; exact H
            clear H
            have H := H1
            clear H1
            obtain ⟨ji10, hji10⟩ : ∃ j_ : Int, (wrap64 (x5_1 + 1)) = j_ := ⟨_, rfl⟩
            replace H : (if 0 ≤ (ji10) then (if (ji10) ≤ (a0.size : Int) then (if (a0.extract ((ji10) : Int).toNat a0.size).toList = ([] : List UInt8) then (latinerref15_ReadItem.j3 kj6 a0 x5_1 (a0.extract ((ji10) : Int).toNat a0.size) false) else (if 0 < ((a0.extract ((ji10) : Int).toNat a0.size).size : Int) then (latinerref15_ReadItem.j3 kj6 a0 x5_1 (a0.extract ((ji10) : Int).toNat a0.size) ((bt (a0.extract ((ji10) : Int).toNat a0.size) 0) == 60)) else (none))) else (none)) else (none)) = some (r1, r2, r3) := by first | (rw [hji10] at H; exact H) | (simp only [hji10] at H ⊢; exact H)
            obtain ⟨sx10_0, hsx10_0⟩ : ∃ z_ : ByteArray, (a0.extract ((ji10) : Int).toNat a0.size) = z_ := ⟨_, rfl⟩
            rw [hsx10_0] at H
            have hji10w : (IntKind.i64.wrap (x5_1 + 1)) = ji10 := (i64_w _).trans hji10
            by_cases c11 : 0 ≤ (ji10)
            · rw [if_pos c11] at H
              have c11b0 := eq_true c11
              have c11b1 : decide (0 ≤ (ji10)) = true := decide_eq_true c11
              clear c11
              by_cases c12 : (ji10) ≤ (a0.size : Int)
              · rw [if_pos c12] at H
                have c12b0 := eq_true c12
                have c12b1 : decide ((ji10) ≤ (a0.size : Int)) = true := decide_eq_true c12
                clear c12
                have HC13 := Aside0.mk H
                clear H
                go_upto_region 7 with (fail)
                go_cut [40] (fun v40 wc => ∃ (kq : Nat) (x40_12 : Bool), v40 = .bool x40_12 ∧ Aside0 (latinerref15_ReadItem.j3 kq a0 x5_1 sx10_0 x40_12 = some (r1, r2, r3)) ∧ Aside0 (kq ≤ kj6) ∧ Aside0 (Below w.heap.size w wc))
                case first =>
                  have H := HC13.out
                  clear HC13
                  by_cases c14 : sx10_0.toList = ([] : List UInt8)
                  · rw [if_pos c14] at H
                    have c14b0 : (sx10_0.toList == ([] : List UInt8)) = true := beq_iff_eq.mpr c14
                    have c14b1 : (sx10_0.toList != ([] : List UInt8)) = false := bne_eq_false_iff_eq.mpr c14
                    clear c14
                    (first | rw [c14b0] | (simp only [i64_w, i32_w]; rw [c14b0]) | skip)
                    have H' := Aside0.mk H
                    clear H
                    go_wp2
                    go_meet
                    case rel => exact ⟨_, (false), (by first | rfl | (simp; done) | (simp [*]; done)), H', ⟨by have := HJ1.out; have := HJ6.out; first | omega | exact Nat.le_refl _⟩, ⟨by repeat (first | (with_reducible first | exact HB.out | apply below_alloc | apply pw_below_drewN | apply below_drew1) | exact HB.out)⟩⟩
                  · rw [if_neg c14] at H
                    have c14b0 : (sx10_0.toList == ([] : List UInt8)) = false := beq_eq_false_iff_ne.mpr c14
                    have c14b1 : (sx10_0.toList != ([] : List UInt8)) = true := bne_iff_ne.mpr c14
                    (first | rw [c14b0] | (simp only [i64_w, i32_w]; rw [c14b0]) | skip)
                    by_cases c15 : 0 < (sx10_0.size : Int)
                    · rw [if_pos c15] at H
                      have c15b0 : decide (0 < (sx10_0.size : Int)) = true := decide_eq_true c15
                      have c15b1 : decide (0 < sx10_0.size) = true := decide_eq_true (by omega)
                      clear c15
                      have H' := Aside0.mk H
                      clear H
                      have p16 : 0 ≤ (0 : Int) := (by omega)
                      have q16 : 0 < sx10_0.size := (by have : (0 : Int) < (sx10_0.size : Int) := of_decide_eq_true (by first | (with_reducible assumption) | assumption); omega)
                      have hx16 : ∀ h : 0 < sx10_0.size, ((sx10_0[0]'h).toNat : Int) = bt sx10_0 0 := bt_at sx10_0 0
                      clear p16
                      have qi16 : (0 < (sx10_0.size : Int)) = True := eq_true (of_decide_eq_true (by first | (with_reducible assumption) | assumption))
                      replace q16 := eq_true q16
                      go_wp2
                      go_meet
                      case rel => exact ⟨_, (((bt sx10_0 0) == 60)), (by first | rfl | (simp; done) | (simp only [← hji10] <;> (first | rfl | simp)) | (simp [*]; done)), H', ⟨by have := HJ1.out; have := HJ6.out; first | omega | exact Nat.le_refl _⟩, ⟨by repeat (first | (with_reducible first | exact HB.out | apply below_alloc | apply pw_below_drewN | apply below_drew1) | exact HB.out)⟩⟩
                    · rw [if_neg c15] at H
                      exact absurd H (by simp)
                case rest =>
                  clear HC13
                  try clear c1
                  try clear p1
                  try clear q1
                  try clear hx1
                  try clear qi1
                  try clear c2
                  try clear p2
                  try clear c3
                  try clear c3b0
                  try clear c4
                  try clear c4b0
                  try clear p5
                  try clear q5
                  try clear hx5
                  try clear c6
                  try clear c6b0
                  try clear c6b1
                  try clear p6
                  try clear c8
                  try clear c8b0
                  try clear c8b1
                  try clear c9
                  try clear c11
                  try clear c11b0
                  try clear c11b1
                  try clear c12
                  try clear c12b0
                  try clear c12b1
                  try clear c14
                  try clear c14b0
                  try clear c14b1
                  try clear c15
                  try clear c15b0
                  try clear c15b1
                  try clear p16
                  try clear q16
                  try clear hx16
                  try clear qi16
                  try clear p16
                  try clear p2
                  try clear p5
                  try clear p6
                  try clear q16
                  try clear q5
                  obtain ⟨kq, x40_12, rfl, HA, HJ12, HB⟩ := hcut
                  cases kq with
                  | zero => exact absurd HA.out (by simp [latinerref15_ReadItem.j3])
                  | succ kj12 =>
                    have H := HA.out
                    clear HA
                    simp only [latinerref15_ReadItem.j3] at H
                    by_cases c17 : x40_12 = true
                    · subst c17
                      have H1 : (some ((⟨#[]⟩ : ByteArray), (⟨#[]⟩ : ByteArray), 152)) = some (r1, r2, r3) := by rw [if_pos rfl] at H; exact H
                      clear H
                      have H := H1
                      clear H1
                      simp only [Option.some.injEq, Prod.mk.injEq] at H
                      obtain ⟨rfl, rfl, rfl⟩ := H
                      go_wp2
                      go_ret3
                      exact ⟨by first | rfl | (simp [errW_none, errW_some] <;> rfl) | (simp only [← hji10]; first | rfl | (simp [errW_none, errW_some] <;> rfl)) | (simp [*, errW_none, errW_some] <;> rfl), by repeat (first | (with_reducible first | exact HB.out | apply below_alloc | apply pw_below_drewN | apply below_drew1) | exact HB.out)⟩
                    · replace c17 := Bool.eq_false_iff.mpr c17
                      subst c17
                      have H1 : (if sx10_0.toList = ([] : List UInt8) then (latinerref15_ReadItem.j4 kj12 a0 x5_1 sx10_0 false) else (if 0 < (sx10_0.size : Int) then (latinerref15_ReadItem.j4 kj12 a0 x5_1 sx10_0 ((bt sx10_0 0) == 58)) else (none))) = some (r1, r2, r3) := by rw [if_neg (show ¬ (false = true) by decide)] at H; exact H
                      clear H
                      have H := H1
                      clear H1
                      have HC18 := Aside0.mk H
                      clear H
                      go_upto_region 9 with (fail)
                      go_cut [47] (fun v47 wc => ∃ (kq : Nat) (x47_17 : Bool), v47 = .bool x47_17 ∧ Aside0 (latinerref15_ReadItem.j4 kq a0 x5_1 sx10_0 x47_17 = some (r1, r2, r3)) ∧ Aside0 (kq ≤ kj12) ∧ Aside0 (Below w.heap.size w wc))
                      case first =>
                        have H := HC18.out
                        clear HC18
                        by_cases c19 : sx10_0.toList = ([] : List UInt8)
                        · rw [if_pos c19] at H
                          have c19b0 : (sx10_0.toList == ([] : List UInt8)) = true := beq_iff_eq.mpr c19
                          have c19b1 : (sx10_0.toList != ([] : List UInt8)) = false := bne_eq_false_iff_eq.mpr c19
                          clear c19
                          (first | rw [c19b0] | (simp only [i64_w, i32_w]; rw [c19b0]) | skip)
                          have H' := Aside0.mk H
                          clear H
                          go_wp2
                          go_meet
                          case rel => exact ⟨_, (false), (by first | rfl | (simp; done) | (simp [*]; done)), H', ⟨by have := HJ1.out; have := HJ6.out; have := HJ12.out; first | omega | exact Nat.le_refl _⟩, ⟨by repeat (first | (with_reducible first | exact HB.out | apply below_alloc | apply pw_below_drewN | apply below_drew1) | exact HB.out)⟩⟩
                        · rw [if_neg c19] at H
                          have c19b0 : (sx10_0.toList == ([] : List UInt8)) = false := beq_eq_false_iff_ne.mpr c19
                          have c19b1 : (sx10_0.toList != ([] : List UInt8)) = true := bne_iff_ne.mpr c19
                          (first | rw [c19b0] | (simp only [i64_w, i32_w]; rw [c19b0]) | skip)
                          by_cases c20 : 0 < (sx10_0.size : Int)
                          · rw [if_pos c20] at H
                            have c20b0 : decide (0 < (sx10_0.size : Int)) = true := decide_eq_true c20
                            have c20b1 : decide (0 < sx10_0.size) = true := decide_eq_true (by omega)
                            clear c20
                            have H' := Aside0.mk H
                            clear H
                            have p21 : 0 ≤ (0 : Int) := (by omega)
                            have q21 : 0 < sx10_0.size := (by have : (0 : Int) < (sx10_0.size : Int) := of_decide_eq_true (by first | (with_reducible assumption) | assumption); omega)
                            have hx21 : ∀ h : 0 < sx10_0.size, ((sx10_0[0]'h).toNat : Int) = bt sx10_0 0 := bt_at sx10_0 0
                            clear p21
                            have qi21 : (0 < (sx10_0.size : Int)) = True := eq_true (of_decide_eq_true (by first | (with_reducible assumption) | assumption))
                            replace q21 := eq_true q21
                            go_wp2
                            go_meet
                            case rel => exact ⟨_, (((bt sx10_0 0) == 58)), (by first | rfl | (simp; done) | (simp only [← hji10] <;> (first | rfl | simp)) | (simp [*]; done)), H', ⟨by have := HJ1.out; have := HJ6.out; have := HJ12.out; first | omega | exact Nat.le_refl _⟩, ⟨by repeat (first | (with_reducible first | exact HB.out | apply below_alloc | apply pw_below_drewN | apply below_drew1) | exact HB.out)⟩⟩
                          · rw [if_neg c20] at H
                            exact absurd H (by simp)
                      case rest =>
                        clear HC18
                        try clear c1
                        try clear p1
                        try clear q1
                        try clear hx1
                        try clear qi1
                        try clear c2
                        try clear p2
                        try clear q2
                        try clear hx2
                        try clear qi2
                        try clear c3
                        try clear c3b0
                        try clear c4
                        try clear c4b0
                        try clear p5
                        try clear q5
                        try clear hx5
                        try clear c6
                        try clear c6b0
                        try clear c6b1
                        try clear p6
                        try clear c8
                        try clear c8b0
                        try clear c8b1
                        try clear c9
                        try clear c11
                        try clear c11b0
                        try clear c11b1
                        try clear c12
                        try clear c12b0
                        try clear c12b1
                        try clear c14
                        try clear c14b0
                        try clear c14b1
                        try clear c15
                        try clear c15b0
                        try clear c15b1
                        try clear p16
                        try clear q16
                        try clear hx16
                        try clear qi16
                        try clear c17
                        try clear c19
                        try clear c19b0
                        try clear c19b1
                        try clear c20
                        try clear c20b0
                        try clear c20b1
                        try clear p21
                        try clear q21
                        try clear hx21
                        try clear qi21
                        try clear p1
                        try clear p16
                        try clear p2
                        try clear p21
                        try clear p5
                        try clear p6
                        try clear q1
                        try clear q16
                        try clear q21
                        try clear q5
                        obtain ⟨kq, x47_17, rfl, HA, HJ17, HB⟩ := hcut
                        cases kq with
                        | zero => exact absurd HA.out (by simp [latinerref15_ReadItem.j4])
                        | succ kj17 =>
                          have H := HA.out
                          clear HA
                          simp only [latinerref15_ReadItem.j4] at H
                          by_cases c22 : x47_17 = true
                          · subst c22
                            have H1 : (if 1 ≤ (sx10_0.size : Int) then ((latinerref15_blanks.f kj17 (sx10_0.extract 1 sx10_0.size)).bind fun t196 => ((latinerref05_Unbase.f kj17 t196).bind fun bt197 => (if bt197.2 = 0 then (if 0 ≤ x5_1 then (if x5_1 ≤ (a0.size : Int) then (some (a0.extract 0 (x5_1 : Int).toNat, bt197.1, 0)) else (none)) else (none)) else (some ((⟨#[]⟩ : ByteArray), (⟨#[]⟩ : ByteArray), 151))))) else (none)) = some (r1, r2, r3) := by rw [if_pos rfl] at H; exact H
                            clear H
                            have H := H1
                            clear H1
                            by_cases c23 : 1 ≤ (sx10_0.size : Int)
                            · rw [if_pos c23] at H
                              have c23b0 := eq_true c23
                              have c23b1 : decide (1 ≤ (sx10_0.size : Int)) = true := decide_eq_true c23
                              clear c23
                              replace H := Option.bind_eq_some_iff.mp H
                              obtain ⟨t196, A240, H⟩ := H
                              replace H : ((latinerref05_Unbase.f kj17 t196).bind fun bt197 => (if bt197.2 = 0 then (if 0 ≤ x5_1 then (if x5_1 ≤ (a0.size : Int) then (some (a0.extract 0 (x5_1 : Int).toNat, bt197.1, 0)) else (none)) else (none)) else (some ((⟨#[]⟩ : ByteArray), (⟨#[]⟩ : ByteArray), 151)))) = some (r1, r2, r3) := H
                              have A24 := Aside0.mk A240
                              clear A240
                              replace H := Option.bind_eq_some_iff.mp H
                              obtain ⟨⟨t197, t198⟩, A250, H⟩ := H
                              replace H : (if t198 = 0 then (if 0 ≤ x5_1 then (if x5_1 ≤ (a0.size : Int) then (some (a0.extract 0 (x5_1 : Int).toNat, t197, 0)) else (none)) else (none)) else (some ((⟨#[]⟩ : ByteArray), (⟨#[]⟩ : ByteArray), 151))) = some (r1, r2, r3) := H
                              have A25 := Aside0.mk A250
                              clear A250
                              by_cases c26 : t198 = 0
                              · rw [if_pos c26] at H
                                have c26b0 : (t198 == 0) = true := beq_iff_eq.mpr c26
                                have c26b1 : (t198 != 0) = false := bne_eq_false_iff_eq.mpr c26
                                clear c26
                                by_cases c27 : 0 ≤ x5_1
                                · rw [if_pos c27] at H
                                  have c27b0 := eq_true c27
                                  have c27b1 : decide (0 ≤ x5_1) = true := decide_eq_true c27
                                  clear c27
                                  by_cases c28 : x5_1 ≤ (a0.size : Int)
                                  · rw [if_pos c28] at H
                                    have c28b0 := eq_true c28
                                    have c28b1 : decide (x5_1 ≤ (a0.size : Int)) = true := decide_eq_true c28
                                    clear c28
                                    simp only [Option.some.injEq, Prod.mk.injEq] at H
                                    obtain ⟨rfl, rfl, rfl⟩ := H
                                    go_wp2_with (first | ((with_reducible refine own_gate (f := 40) rfl ?_); refine goesL_ (some 51) rfl rfl Tryz.func40 (by kernel_rfl) rfl #[.string (sx10_0.extract 1 sx10_0.size)] rfl (by (try simp only [List.map_toArray, List.map_cons, List.map_nil]); first | done | (simp only [hji10]; rfl) | rfl | (simp only [List.length_drop, List.length_take]; rfl)) ?_; (with_reducible refine (latinerref15_blanks.calls kj17 (sx10_0.extract 1 sx10_0.size) t196 _ A24.out).mono ?_); rintro e w' ⟨rfl, ⟨nd, rfl⟩⟩; refine ⟨_, rfl, ?_⟩) | ((with_reducible refine own_gate (f := 39) rfl ?_); refine goesL_ (some 52) rfl rfl Tryz.func39 (by kernel_rfl) rfl #[.string t196] rfl (by (try simp only [List.map_toArray, List.map_cons, List.map_nil]); first | done | rfl | (simp only [List.length_drop, List.length_take]; rfl)) ?_; (with_reducible refine (latinerref05_Unbase.calls kj17 t196 t197 t198 _ A25.out).mono ?_); rintro e w29 ⟨rfl, hb⟩; refine ⟨_, rfl, ?_⟩; have n0_ := Aside0.mk (below_step (by repeat (first | (with_reducible first | exact HB.out | apply below_alloc | apply pw_below_drewN | apply below_drew1) | exact HB.out)) hb); clear HB; have HB := n0_; clear n0_; (try clear hb); (try clear hb2); (try clear hk); (try clear hi)))
                                    go_ret3
                                    exact ⟨by first | rfl | (simp [errW_none, errW_some] <;> rfl) | (simp only [← hji10]; first | rfl | (simp [errW_none, errW_some] <;> rfl)) | (simp [*, errW_none, errW_some] <;> rfl), by repeat (first | (with_reducible first | exact HB.out | apply below_alloc | apply pw_below_drewN | apply below_drew1) | exact HB.out)⟩
                                  · rw [if_neg c28] at H
                                    exact absurd H (by simp)
                                · rw [if_neg c27] at H
                                  exact absurd H (by simp)
                              · rw [if_neg c26] at H
                                have c26b0 : (t198 == 0) = false := beq_eq_false_iff_ne.mpr c26
                                have c26b1 : (t198 != 0) = true := bne_iff_ne.mpr c26
                                simp only [Option.some.injEq, Prod.mk.injEq] at H
                                obtain ⟨rfl, rfl, rfl⟩ := H
                                go_wp2_with (first | ((with_reducible refine own_gate (f := 40) rfl ?_); refine goesL_ (some 51) rfl rfl Tryz.func40 (by kernel_rfl) rfl #[.string (sx10_0.extract 1 sx10_0.size)] rfl (by (try simp only [List.map_toArray, List.map_cons, List.map_nil]); first | done | (simp only [hji10]; rfl) | rfl | (simp only [List.length_drop, List.length_take]; rfl)) ?_; (with_reducible refine (latinerref15_blanks.calls kj17 (sx10_0.extract 1 sx10_0.size) t196 _ A24.out).mono ?_); rintro e w' ⟨rfl, ⟨nd, rfl⟩⟩; refine ⟨_, rfl, ?_⟩) | ((with_reducible refine own_gate (f := 39) rfl ?_); refine goesL_ (some 52) rfl rfl Tryz.func39 (by kernel_rfl) rfl #[.string t196] rfl (by (try simp only [List.map_toArray, List.map_cons, List.map_nil]); first | done | rfl | (simp only [List.length_drop, List.length_take]; rfl)) ?_; (with_reducible refine (latinerref05_Unbase.calls kj17 t196 t197 t198 _ A25.out).mono ?_); rintro e w30 ⟨rfl, hb⟩; refine ⟨_, rfl, ?_⟩; have n0_ := Aside0.mk (below_step (by repeat (first | (with_reducible first | exact HB.out | apply below_alloc | apply pw_below_drewN | apply below_drew1) | exact HB.out)) hb); clear HB; have HB := n0_; clear n0_; (try clear hb); (try clear hb2); (try clear hk); (try clear hi)))
                                go_ret3
                                exact ⟨by first | rfl | (simp [errW_none, errW_some] <;> rfl) | (simp only [← hji10]; first | rfl | (simp [errW_none, errW_some] <;> rfl)) | (simp [*, errW_none, errW_some] <;> rfl), by repeat (first | (with_reducible first | exact HB.out | apply below_alloc | apply pw_below_drewN | apply below_drew1) | exact HB.out)⟩
                            · rw [if_neg c23] at H
                              exact absurd H (by simp)
                          · replace c22 := Bool.eq_false_iff.mpr c22
                            subst c22
                            have H1 : ((latinerref15_blanks.f kj17 sx10_0).bind fun t199 => ((latinerref04_IsSafe.f kj17 t199).bind fun t200 => (if t200 = true then (if 0 ≤ x5_1 then (if x5_1 ≤ (a0.size : Int) then (some (a0.extract 0 (x5_1 : Int).toNat, t199, 0)) else (none)) else (none)) else (some ((⟨#[]⟩ : ByteArray), (⟨#[]⟩ : ByteArray), 151))))) = some (r1, r2, r3) := by rw [if_neg (show ¬ (false = true) by decide)] at H; exact H
                            clear H
                            have H := H1
                            clear H1
                            replace H := Option.bind_eq_some_iff.mp H
                            obtain ⟨t199, A310, H⟩ := H
                            replace H : ((latinerref04_IsSafe.f kj17 t199).bind fun t200 => (if t200 = true then (if 0 ≤ x5_1 then (if x5_1 ≤ (a0.size : Int) then (some (a0.extract 0 (x5_1 : Int).toNat, t199, 0)) else (none)) else (none)) else (some ((⟨#[]⟩ : ByteArray), (⟨#[]⟩ : ByteArray), 151)))) = some (r1, r2, r3) := H
                            have A31 := Aside0.mk A310
                            clear A310
                            replace H := Option.bind_eq_some_iff.mp H
                            obtain ⟨t200, A320, H⟩ := H
                            replace H : (if t200 = true then (if 0 ≤ x5_1 then (if x5_1 ≤ (a0.size : Int) then (some (a0.extract 0 (x5_1 : Int).toNat, t199, 0)) else (none)) else (none)) else (some ((⟨#[]⟩ : ByteArray), (⟨#[]⟩ : ByteArray), 151))) = some (r1, r2, r3) := H
                            have A32 := Aside0.mk A320
                            clear A320
                            by_cases c33 : t200 = true
                            · subst c33
                              have H1 : (if 0 ≤ x5_1 then (if x5_1 ≤ (a0.size : Int) then (some (a0.extract 0 (x5_1 : Int).toNat, t199, 0)) else (none)) else (none)) = some (r1, r2, r3) := by rw [if_pos rfl] at H; exact H
                              clear H
                              have H := H1
                              clear H1
                              by_cases c34 : 0 ≤ x5_1
                              · rw [if_pos c34] at H
                                have c34b0 := eq_true c34
                                have c34b1 : decide (0 ≤ x5_1) = true := decide_eq_true c34
                                clear c34
                                by_cases c35 : x5_1 ≤ (a0.size : Int)
                                · rw [if_pos c35] at H
                                  have c35b0 := eq_true c35
                                  have c35b1 : decide (x5_1 ≤ (a0.size : Int)) = true := decide_eq_true c35
                                  clear c35
                                  simp only [Option.some.injEq, Prod.mk.injEq] at H
                                  obtain ⟨rfl, rfl, rfl⟩ := H
                                  go_wp2_with (first | ((with_reducible refine own_gate (f := 40) rfl ?_); refine goesL_ (some 62) rfl rfl Tryz.func40 (by kernel_rfl) rfl #[.string sx10_0] rfl (by (try simp only [List.map_toArray, List.map_cons, List.map_nil]); first | done | (simp only [hji10]; rfl) | rfl | (simp only [List.length_drop, List.length_take]; rfl)) ?_; (with_reducible refine (latinerref15_blanks.calls kj17 sx10_0 t199 _ A31.out).mono ?_); rintro e w' ⟨rfl, ⟨nd, rfl⟩⟩; refine ⟨_, rfl, ?_⟩) | ((with_reducible refine own_gate (f := 36) rfl ?_); refine goesL_ (some 64) rfl rfl Tryz.func36 (by kernel_rfl) rfl #[.string t199] rfl (by (try simp only [List.map_toArray, List.map_cons, List.map_nil]); first | done | rfl | (simp only [List.length_drop, List.length_take]; rfl)) ?_; (with_reducible refine (latinerref04_IsSafe.calls kj17 t199 true _ A32.out).mono ?_); rintro e w' ⟨rfl, ⟨nd, rfl⟩⟩; refine ⟨_, rfl, ?_⟩))
                                  go_ret3
                                  exact ⟨by first | rfl | (simp [errW_none, errW_some] <;> rfl) | (simp only [← hji10]; first | rfl | (simp [errW_none, errW_some] <;> rfl)) | (simp [*, errW_none, errW_some] <;> rfl), by repeat (first | (with_reducible first | exact HB.out | apply below_alloc | apply pw_below_drewN | apply below_drew1) | exact HB.out)⟩
                                · rw [if_neg c35] at H
                                  exact absurd H (by simp)
                              · rw [if_neg c34] at H
                                exact absurd H (by simp)
                            · replace c33 := Bool.eq_false_iff.mpr c33
                              subst c33
                              have H1 : (some ((⟨#[]⟩ : ByteArray), (⟨#[]⟩ : ByteArray), 151)) = some (r1, r2, r3) := by rw [if_neg (show ¬ (false = true) by decide)] at H; exact H
                              clear H
                              have H := H1
                              clear H1
                              simp only [Option.some.injEq, Prod.mk.injEq] at H
                              obtain ⟨rfl, rfl, rfl⟩ := H
                              go_wp2_with (first | ((with_reducible refine own_gate (f := 40) rfl ?_); refine goesL_ (some 62) rfl rfl Tryz.func40 (by kernel_rfl) rfl #[.string sx10_0] rfl (by (try simp only [List.map_toArray, List.map_cons, List.map_nil]); first | done | (simp only [hji10]; rfl) | rfl | (simp only [List.length_drop, List.length_take]; rfl)) ?_; (with_reducible refine (latinerref15_blanks.calls kj17 sx10_0 t199 _ A31.out).mono ?_); rintro e w' ⟨rfl, ⟨nd, rfl⟩⟩; refine ⟨_, rfl, ?_⟩) | ((with_reducible refine own_gate (f := 36) rfl ?_); refine goesL_ (some 64) rfl rfl Tryz.func36 (by kernel_rfl) rfl #[.string t199] rfl (by (try simp only [List.map_toArray, List.map_cons, List.map_nil]); first | done | rfl | (simp only [List.length_drop, List.length_take]; rfl)) ?_; (with_reducible refine (latinerref04_IsSafe.calls kj17 t199 false _ A32.out).mono ?_); rintro e w' ⟨rfl, ⟨nd, rfl⟩⟩; refine ⟨_, rfl, ?_⟩))
                              go_ret3
                              exact ⟨by first | rfl | (simp [errW_none, errW_some] <;> rfl) | (simp only [← hji10]; first | rfl | (simp [errW_none, errW_some] <;> rfl)) | (simp [*, errW_none, errW_some] <;> rfl), by repeat (first | (with_reducible first | exact HB.out | apply below_alloc | apply pw_below_drewN | apply below_drew1) | exact HB.out)⟩
              · rw [if_neg c12] at H
                exact absurd H (by simp)
            · rw [if_neg c11] at H
              exact absurd H (by simp)

/-! ### latinerlaw15_FoldItems: function 4 -/
def latinerlaw15_FoldItems.f (k : Nat) (a0 : ByteArray) (a1 : ByteArray) (a2 : ByteArray) : Option (Bool) := (latinerlaw15_shown.f k).bind fun t201 => ((latinerlaw15_short.f a0).bind fun t202 => ((latinerlaw15_short.f a1).bind fun t203 => ((latinerlaw15_short.f a2).bind fun t204 => ((fold_Item.f t202 t203).bind fun bt205 => ((latinerref15_Item.f k t202 t203).bind fun bt207 => ((fold_ReadItem.f t204).bind fun bt209 => ((latinerref15_ReadItem.f k t204).bind fun bt212 => (if t201 = true then (if bt205.1.toList = bt207.1.toList then (if bt205.2 = bt207.2 then (if bt209.1.toList = bt212.1.toList then (if bt209.2.1.toList = bt212.2.1.toList then (some (bt209.2.2 == bt212.2.2)) else (some false)) else (some false)) else (some false)) else (some false)) else (some false)))))))))
set_option maxHeartbeats 8000000 in
set_option maxRecDepth 100000 in
theorem latinerlaw15_FoldItems.calls (k : Nat) (a0 : ByteArray) (a1 : ByteArray) (a2 : ByteArray) (r : Bool) (w : World) (hG : GW w) (h : latinerlaw15_FoldItems.f k a0 a1 a2 = some r) :
    Calls Tryz.prog 4 #[.string a0, .string a1, .string a2] w fun e w' => e = .returned (.bool r) ∧ Below w.heap.size w w' := by
  have HB := Aside0.mk (Below.refl w.heap.size w)
  have H : ((latinerlaw15_shown.f k).bind fun t201 => ((latinerlaw15_short.f a0).bind fun t202 => ((latinerlaw15_short.f a1).bind fun t203 => ((latinerlaw15_short.f a2).bind fun t204 => ((fold_Item.f t202 t203).bind fun bt205 => ((latinerref15_Item.f k t202 t203).bind fun bt207 => ((fold_ReadItem.f t204).bind fun bt209 => ((latinerref15_ReadItem.f k t204).bind fun bt212 => (if t201 = true then (if bt205.1.toList = bt207.1.toList then (if bt205.2 = bt207.2 then (if bt209.1.toList = bt212.1.toList then (if bt209.2.1.toList = bt212.2.1.toList then (some (bt209.2.2 == bt212.2.2)) else (some false)) else (some false)) else (some false)) else (some false)) else (some false)))))))))) = some r := h
  clear h
  replace H := Option.bind_eq_some_iff.mp H
  obtain ⟨t201, A40, H⟩ := H
  replace H : ((latinerlaw15_short.f a0).bind fun t202 => ((latinerlaw15_short.f a1).bind fun t203 => ((latinerlaw15_short.f a2).bind fun t204 => ((fold_Item.f t202 t203).bind fun bt205 => ((latinerref15_Item.f k t202 t203).bind fun bt207 => ((fold_ReadItem.f t204).bind fun bt209 => ((latinerref15_ReadItem.f k t204).bind fun bt212 => (if t201 = true then (if bt205.1.toList = bt207.1.toList then (if bt205.2 = bt207.2 then (if bt209.1.toList = bt212.1.toList then (if bt209.2.1.toList = bt212.2.1.toList then (some (bt209.2.2 == bt212.2.2)) else (some false)) else (some false)) else (some false)) else (some false)) else (some false))))))))) = some r := H
  have A4 := Aside0.mk A40
  clear A40
  replace H := Option.bind_eq_some_iff.mp H
  obtain ⟨t202, A50, H⟩ := H
  replace H : ((latinerlaw15_short.f a1).bind fun t203 => ((latinerlaw15_short.f a2).bind fun t204 => ((fold_Item.f t202 t203).bind fun bt205 => ((latinerref15_Item.f k t202 t203).bind fun bt207 => ((fold_ReadItem.f t204).bind fun bt209 => ((latinerref15_ReadItem.f k t204).bind fun bt212 => (if t201 = true then (if bt205.1.toList = bt207.1.toList then (if bt205.2 = bt207.2 then (if bt209.1.toList = bt212.1.toList then (if bt209.2.1.toList = bt212.2.1.toList then (some (bt209.2.2 == bt212.2.2)) else (some false)) else (some false)) else (some false)) else (some false)) else (some false)))))))) = some r := H
  have A5 := Aside0.mk A50
  clear A50
  replace H := Option.bind_eq_some_iff.mp H
  obtain ⟨t203, A60, H⟩ := H
  replace H : ((latinerlaw15_short.f a2).bind fun t204 => ((fold_Item.f t202 t203).bind fun bt205 => ((latinerref15_Item.f k t202 t203).bind fun bt207 => ((fold_ReadItem.f t204).bind fun bt209 => ((latinerref15_ReadItem.f k t204).bind fun bt212 => (if t201 = true then (if bt205.1.toList = bt207.1.toList then (if bt205.2 = bt207.2 then (if bt209.1.toList = bt212.1.toList then (if bt209.2.1.toList = bt212.2.1.toList then (some (bt209.2.2 == bt212.2.2)) else (some false)) else (some false)) else (some false)) else (some false)) else (some false))))))) = some r := H
  have A6 := Aside0.mk A60
  clear A60
  replace H := Option.bind_eq_some_iff.mp H
  obtain ⟨t204, A70, H⟩ := H
  replace H : ((fold_Item.f t202 t203).bind fun bt205 => ((latinerref15_Item.f k t202 t203).bind fun bt207 => ((fold_ReadItem.f t204).bind fun bt209 => ((latinerref15_ReadItem.f k t204).bind fun bt212 => (if t201 = true then (if bt205.1.toList = bt207.1.toList then (if bt205.2 = bt207.2 then (if bt209.1.toList = bt212.1.toList then (if bt209.2.1.toList = bt212.2.1.toList then (some (bt209.2.2 == bt212.2.2)) else (some false)) else (some false)) else (some false)) else (some false)) else (some false)))))) = some r := H
  have A7 := Aside0.mk A70
  clear A70
  replace H := Option.bind_eq_some_iff.mp H
  obtain ⟨⟨t205, t206⟩, A80, H⟩ := H
  replace H : ((latinerref15_Item.f k t202 t203).bind fun bt207 => ((fold_ReadItem.f t204).bind fun bt209 => ((latinerref15_ReadItem.f k t204).bind fun bt212 => (if t201 = true then (if t205.toList = bt207.1.toList then (if t206 = bt207.2 then (if bt209.1.toList = bt212.1.toList then (if bt209.2.1.toList = bt212.2.1.toList then (some (bt209.2.2 == bt212.2.2)) else (some false)) else (some false)) else (some false)) else (some false)) else (some false))))) = some r := H
  have A8 := Aside0.mk A80
  clear A80
  replace H := Option.bind_eq_some_iff.mp H
  obtain ⟨⟨t207, t208⟩, A90, H⟩ := H
  replace H : ((fold_ReadItem.f t204).bind fun bt209 => ((latinerref15_ReadItem.f k t204).bind fun bt212 => (if t201 = true then (if t205.toList = t207.toList then (if t206 = t208 then (if bt209.1.toList = bt212.1.toList then (if bt209.2.1.toList = bt212.2.1.toList then (some (bt209.2.2 == bt212.2.2)) else (some false)) else (some false)) else (some false)) else (some false)) else (some false)))) = some r := H
  have A9 := Aside0.mk A90
  clear A90
  replace H := Option.bind_eq_some_iff.mp H
  obtain ⟨⟨t209, t210, t211⟩, A100, H⟩ := H
  replace H : ((latinerref15_ReadItem.f k t204).bind fun bt212 => (if t201 = true then (if t205.toList = t207.toList then (if t206 = t208 then (if t209.toList = bt212.1.toList then (if t210.toList = bt212.2.1.toList then (some (t211 == bt212.2.2)) else (some false)) else (some false)) else (some false)) else (some false)) else (some false))) = some r := H
  have A10 := Aside0.mk A100
  clear A100
  replace H := Option.bind_eq_some_iff.mp H
  obtain ⟨⟨t212, t213, t214⟩, A110, H⟩ := H
  replace H : (if t201 = true then (if t205.toList = t207.toList then (if t206 = t208 then (if t209.toList = t212.toList then (if t210.toList = t213.toList then (some (t211 == t214)) else (some false)) else (some false)) else (some false)) else (some false)) else (some false)) = some r := H
  have A11 := Aside0.mk A110
  clear A110
  by_cases c12 : t201 = true
  · subst c12
    have H1 : (if t205.toList = t207.toList then (if t206 = t208 then (if t209.toList = t212.toList then (if t210.toList = t213.toList then (some (t211 == t214)) else (some false)) else (some false)) else (some false)) else (some false)) = some r := by rw [if_pos rfl] at H; exact H
    clear H
    have H := H1
    clear H1
    by_cases c13 : t205.toList = t207.toList
    · rw [if_pos c13] at H
      have c13b0 : (t205.toList == t207.toList) = true := beq_iff_eq.mpr c13
      have c13b1 : (t205.toList != t207.toList) = false := bne_eq_false_iff_eq.mpr c13
      clear c13
      by_cases c14 : t206 = t208
      · rw [if_pos c14] at H
        have c14b0 : (t206 == t208) = true := beq_iff_eq.mpr c14
        have c14b1 : (t206 != t208) = false := bne_eq_false_iff_eq.mpr c14
        clear c14
        by_cases c15 : t209.toList = t212.toList
        · rw [if_pos c15] at H
          have c15b0 : (t209.toList == t212.toList) = true := beq_iff_eq.mpr c15
          have c15b1 : (t209.toList != t212.toList) = false := bne_eq_false_iff_eq.mpr c15
          clear c15
          by_cases c16 : t210.toList = t213.toList
          · rw [if_pos c16] at H
            have c16b0 : (t210.toList == t213.toList) = true := beq_iff_eq.mpr c16
            have c16b1 : (t210.toList != t213.toList) = false := bne_eq_false_iff_eq.mpr c16
            clear c16
            obtain rfl := Option.some.inj H
            go_enter Tryz.func4, Tryz.ntmps4
            go_wp2_with (first | ((with_reducible refine own_gate (f := 11) rfl ?_); refine goesL_ (some 18) rfl rfl Tryz.func11 (by kernel_rfl) rfl #[] rfl (by (try simp only [List.map_toArray, List.map_cons, List.map_nil]); first | done | rfl | (simp only [List.length_drop, List.length_take]; rfl)) ?_; (with_reducible refine (latinerlaw15_shown.calls k  true _ ?side1 A4.out).mono ?_); (case side1 => exact GW.below hG (by repeat (first | (with_reducible first | exact HB.out | apply below_alloc | apply pw_below_drewN | apply below_drew1) | exact HB.out))); rintro e w17 ⟨rfl, hb⟩; refine ⟨_, rfl, ?_⟩; have n0_ := Aside0.mk (below_step (by repeat (first | (with_reducible first | exact HB.out | apply below_alloc | apply pw_below_drewN | apply below_drew1) | exact HB.out)) hb); clear HB; have HB := n0_; clear n0_; (try clear hb); (try clear hb2); (try clear hk); (try clear hi)) | ((with_reducible refine own_gate (f := 18) rfl ?_); refine goesL_ (some 20) rfl rfl Tryz.func18 (by kernel_rfl) rfl #[.string a0] rfl (by (try simp only [List.map_toArray, List.map_cons, List.map_nil]); first | done | rfl | (simp only [List.length_drop, List.length_take]; rfl)) ?_; (with_reducible refine (latinerlaw15_short.calls a0 t202 _ A5.out).mono ?_); rintro e w18 ⟨rfl, hb⟩; refine ⟨_, rfl, ?_⟩; have n0_ := Aside0.mk (below_step (by repeat (first | (with_reducible first | exact HB.out | apply below_alloc | apply pw_below_drewN | apply below_drew1) | exact HB.out)) hb); clear HB; have HB := n0_; clear n0_; (try clear hb); (try clear hb2); (try clear hk); (try clear hi)) | ((with_reducible refine own_gate (f := 18) rfl ?_); refine goesL_ (some 22) rfl rfl Tryz.func18 (by kernel_rfl) rfl #[.string a1] rfl (by (try simp only [List.map_toArray, List.map_cons, List.map_nil]); first | done | rfl | (simp only [List.length_drop, List.length_take]; rfl)) ?_; (with_reducible refine (latinerlaw15_short.calls a1 t203 _ A6.out).mono ?_); rintro e w19 ⟨rfl, hb⟩; refine ⟨_, rfl, ?_⟩; have n0_ := Aside0.mk (below_step (by repeat (first | (with_reducible first | exact HB.out | apply below_alloc | apply pw_below_drewN | apply below_drew1) | exact HB.out)) hb); clear HB; have HB := n0_; clear n0_; (try clear hb); (try clear hb2); (try clear hk); (try clear hi)) | ((with_reducible refine own_gate (f := 18) rfl ?_); refine goesL_ (some 24) rfl rfl Tryz.func18 (by kernel_rfl) rfl #[.string a2] rfl (by (try simp only [List.map_toArray, List.map_cons, List.map_nil]); first | done | rfl | (simp only [List.length_drop, List.length_take]; rfl)) ?_; (with_reducible refine (latinerlaw15_short.calls a2 t204 _ A7.out).mono ?_); rintro e w20 ⟨rfl, hb⟩; refine ⟨_, rfl, ?_⟩; have n0_ := Aside0.mk (below_step (by repeat (first | (with_reducible first | exact HB.out | apply below_alloc | apply pw_below_drewN | apply below_drew1) | exact HB.out)) hb); clear HB; have HB := n0_; clear n0_; (try clear hb); (try clear hb2); (try clear hk); (try clear hi)) | ((with_reducible refine own_gate (f := 19) rfl ?_); refine goesL_ (some 28) rfl rfl Tryz.func19 (by kernel_rfl) rfl #[.string t202, .string t203] rfl (by (try simp only [List.map_toArray, List.map_cons, List.map_nil]); first | done | rfl | (simp only [List.length_drop, List.length_take]; rfl)) ?_; (with_reducible refine (fold_Item.calls t202 t203 t205 t206 _ ?side1 A8.out).mono ?_); (case side1 => exact GW.below hG (by repeat (first | (with_reducible first | exact HB.out | apply below_alloc | apply pw_below_drewN | apply below_drew1) | exact HB.out))); rintro e w21 ⟨rfl, hb⟩; refine ⟨_, rfl, ?_⟩; have n0_ := Aside0.mk (below_step (by repeat (first | (with_reducible first | exact HB.out | apply below_alloc | apply pw_below_drewN | apply below_drew1) | exact HB.out)) hb); clear HB; have HB := n0_; clear n0_; (try clear hb); (try clear hb2); (try clear hk); (try clear hi)) | ((with_reducible refine own_gate (f := 20) rfl ?_); refine goesL_ (some 34) rfl rfl Tryz.func20 (by kernel_rfl) rfl #[.string t202, .string t203] rfl (by (try simp only [List.map_toArray, List.map_cons, List.map_nil]); first | done | rfl | (simp only [List.length_drop, List.length_take]; rfl)) ?_; (with_reducible refine (latinerref15_Item.calls k t202 t203 t207 t208 _ A9.out).mono ?_); rintro e w22 ⟨rfl, hb⟩; refine ⟨_, rfl, ?_⟩; have n0_ := Aside0.mk (below_step (by repeat (first | (with_reducible first | exact HB.out | apply below_alloc | apply pw_below_drewN | apply below_drew1) | exact HB.out)) hb); clear HB; have HB := n0_; clear n0_; (try clear hb); (try clear hb2); (try clear hk); (try clear hi)) | ((with_reducible refine own_gate (f := 21) rfl ?_); refine goesL_ (some 39) rfl rfl Tryz.func21 (by kernel_rfl) rfl #[.string t204] rfl (by (try simp only [List.map_toArray, List.map_cons, List.map_nil]); first | done | rfl | (simp only [List.length_drop, List.length_take]; rfl)) ?_; (with_reducible refine (fold_ReadItem.calls t204 t209 t210 t211 _ ?side1 A10.out).mono ?_); (case side1 => exact GW.below hG (by repeat (first | (with_reducible first | exact HB.out | apply below_alloc | apply pw_below_drewN | apply below_drew1) | exact HB.out))); rintro e w23 ⟨rfl, hb⟩; refine ⟨_, rfl, ?_⟩; have n0_ := Aside0.mk (below_step (by repeat (first | (with_reducible first | exact HB.out | apply below_alloc | apply pw_below_drewN | apply below_drew1) | exact HB.out)) hb); clear HB; have HB := n0_; clear n0_; (try clear hb); (try clear hb2); (try clear hk); (try clear hi)) | ((with_reducible refine own_gate (f := 22) rfl ?_); refine goesL_ (some 45) rfl rfl Tryz.func22 (by kernel_rfl) rfl #[.string t204] rfl (by (try simp only [List.map_toArray, List.map_cons, List.map_nil]); first | done | rfl | (simp only [List.length_drop, List.length_take]; rfl)) ?_; (with_reducible refine (latinerref15_ReadItem.calls k t204 t212 t213 t214 _ A11.out).mono ?_); rintro e w24 ⟨rfl, hb⟩; refine ⟨_, rfl, ?_⟩; have n0_ := Aside0.mk (below_step (by repeat (first | (with_reducible first | exact HB.out | apply below_alloc | apply pw_below_drewN | apply below_drew1) | exact HB.out)) hb); clear HB; have HB := n0_; clear n0_; (try clear hb); (try clear hb2); (try clear hk); (try clear hi)))
            go_ret
            exact ⟨by first | rfl | (simp [errW_none, errW_some] <;> rfl) | (simp [*, errW_none, errW_some] <;> rfl), by repeat (first | (with_reducible first | exact HB.out | apply below_alloc | apply pw_below_drewN | apply below_drew1) | exact HB.out)⟩
          · rw [if_neg c16] at H
            have c16b0 : (t210.toList == t213.toList) = false := beq_eq_false_iff_ne.mpr c16
            have c16b1 : (t210.toList != t213.toList) = true := bne_iff_ne.mpr c16
            obtain rfl := Option.some.inj H
            go_enter Tryz.func4, Tryz.ntmps4
            go_wp2_with (first | ((with_reducible refine own_gate (f := 11) rfl ?_); refine goesL_ (some 18) rfl rfl Tryz.func11 (by kernel_rfl) rfl #[] rfl (by (try simp only [List.map_toArray, List.map_cons, List.map_nil]); first | done | rfl | (simp only [List.length_drop, List.length_take]; rfl)) ?_; (with_reducible refine (latinerlaw15_shown.calls k  true _ ?side1 A4.out).mono ?_); (case side1 => exact GW.below hG (by repeat (first | (with_reducible first | exact HB.out | apply below_alloc | apply pw_below_drewN | apply below_drew1) | exact HB.out))); rintro e w25 ⟨rfl, hb⟩; refine ⟨_, rfl, ?_⟩; have n0_ := Aside0.mk (below_step (by repeat (first | (with_reducible first | exact HB.out | apply below_alloc | apply pw_below_drewN | apply below_drew1) | exact HB.out)) hb); clear HB; have HB := n0_; clear n0_; (try clear hb); (try clear hb2); (try clear hk); (try clear hi)) | ((with_reducible refine own_gate (f := 18) rfl ?_); refine goesL_ (some 20) rfl rfl Tryz.func18 (by kernel_rfl) rfl #[.string a0] rfl (by (try simp only [List.map_toArray, List.map_cons, List.map_nil]); first | done | rfl | (simp only [List.length_drop, List.length_take]; rfl)) ?_; (with_reducible refine (latinerlaw15_short.calls a0 t202 _ A5.out).mono ?_); rintro e w26 ⟨rfl, hb⟩; refine ⟨_, rfl, ?_⟩; have n0_ := Aside0.mk (below_step (by repeat (first | (with_reducible first | exact HB.out | apply below_alloc | apply pw_below_drewN | apply below_drew1) | exact HB.out)) hb); clear HB; have HB := n0_; clear n0_; (try clear hb); (try clear hb2); (try clear hk); (try clear hi)) | ((with_reducible refine own_gate (f := 18) rfl ?_); refine goesL_ (some 22) rfl rfl Tryz.func18 (by kernel_rfl) rfl #[.string a1] rfl (by (try simp only [List.map_toArray, List.map_cons, List.map_nil]); first | done | rfl | (simp only [List.length_drop, List.length_take]; rfl)) ?_; (with_reducible refine (latinerlaw15_short.calls a1 t203 _ A6.out).mono ?_); rintro e w27 ⟨rfl, hb⟩; refine ⟨_, rfl, ?_⟩; have n0_ := Aside0.mk (below_step (by repeat (first | (with_reducible first | exact HB.out | apply below_alloc | apply pw_below_drewN | apply below_drew1) | exact HB.out)) hb); clear HB; have HB := n0_; clear n0_; (try clear hb); (try clear hb2); (try clear hk); (try clear hi)) | ((with_reducible refine own_gate (f := 18) rfl ?_); refine goesL_ (some 24) rfl rfl Tryz.func18 (by kernel_rfl) rfl #[.string a2] rfl (by (try simp only [List.map_toArray, List.map_cons, List.map_nil]); first | done | rfl | (simp only [List.length_drop, List.length_take]; rfl)) ?_; (with_reducible refine (latinerlaw15_short.calls a2 t204 _ A7.out).mono ?_); rintro e w28 ⟨rfl, hb⟩; refine ⟨_, rfl, ?_⟩; have n0_ := Aside0.mk (below_step (by repeat (first | (with_reducible first | exact HB.out | apply below_alloc | apply pw_below_drewN | apply below_drew1) | exact HB.out)) hb); clear HB; have HB := n0_; clear n0_; (try clear hb); (try clear hb2); (try clear hk); (try clear hi)) | ((with_reducible refine own_gate (f := 19) rfl ?_); refine goesL_ (some 28) rfl rfl Tryz.func19 (by kernel_rfl) rfl #[.string t202, .string t203] rfl (by (try simp only [List.map_toArray, List.map_cons, List.map_nil]); first | done | rfl | (simp only [List.length_drop, List.length_take]; rfl)) ?_; (with_reducible refine (fold_Item.calls t202 t203 t205 t206 _ ?side1 A8.out).mono ?_); (case side1 => exact GW.below hG (by repeat (first | (with_reducible first | exact HB.out | apply below_alloc | apply pw_below_drewN | apply below_drew1) | exact HB.out))); rintro e w29 ⟨rfl, hb⟩; refine ⟨_, rfl, ?_⟩; have n0_ := Aside0.mk (below_step (by repeat (first | (with_reducible first | exact HB.out | apply below_alloc | apply pw_below_drewN | apply below_drew1) | exact HB.out)) hb); clear HB; have HB := n0_; clear n0_; (try clear hb); (try clear hb2); (try clear hk); (try clear hi)) | ((with_reducible refine own_gate (f := 20) rfl ?_); refine goesL_ (some 34) rfl rfl Tryz.func20 (by kernel_rfl) rfl #[.string t202, .string t203] rfl (by (try simp only [List.map_toArray, List.map_cons, List.map_nil]); first | done | rfl | (simp only [List.length_drop, List.length_take]; rfl)) ?_; (with_reducible refine (latinerref15_Item.calls k t202 t203 t207 t208 _ A9.out).mono ?_); rintro e w30 ⟨rfl, hb⟩; refine ⟨_, rfl, ?_⟩; have n0_ := Aside0.mk (below_step (by repeat (first | (with_reducible first | exact HB.out | apply below_alloc | apply pw_below_drewN | apply below_drew1) | exact HB.out)) hb); clear HB; have HB := n0_; clear n0_; (try clear hb); (try clear hb2); (try clear hk); (try clear hi)) | ((with_reducible refine own_gate (f := 21) rfl ?_); refine goesL_ (some 39) rfl rfl Tryz.func21 (by kernel_rfl) rfl #[.string t204] rfl (by (try simp only [List.map_toArray, List.map_cons, List.map_nil]); first | done | rfl | (simp only [List.length_drop, List.length_take]; rfl)) ?_; (with_reducible refine (fold_ReadItem.calls t204 t209 t210 t211 _ ?side1 A10.out).mono ?_); (case side1 => exact GW.below hG (by repeat (first | (with_reducible first | exact HB.out | apply below_alloc | apply pw_below_drewN | apply below_drew1) | exact HB.out))); rintro e w31 ⟨rfl, hb⟩; refine ⟨_, rfl, ?_⟩; have n0_ := Aside0.mk (below_step (by repeat (first | (with_reducible first | exact HB.out | apply below_alloc | apply pw_below_drewN | apply below_drew1) | exact HB.out)) hb); clear HB; have HB := n0_; clear n0_; (try clear hb); (try clear hb2); (try clear hk); (try clear hi)) | ((with_reducible refine own_gate (f := 22) rfl ?_); refine goesL_ (some 45) rfl rfl Tryz.func22 (by kernel_rfl) rfl #[.string t204] rfl (by (try simp only [List.map_toArray, List.map_cons, List.map_nil]); first | done | rfl | (simp only [List.length_drop, List.length_take]; rfl)) ?_; (with_reducible refine (latinerref15_ReadItem.calls k t204 t212 t213 t214 _ A11.out).mono ?_); rintro e w32 ⟨rfl, hb⟩; refine ⟨_, rfl, ?_⟩; have n0_ := Aside0.mk (below_step (by repeat (first | (with_reducible first | exact HB.out | apply below_alloc | apply pw_below_drewN | apply below_drew1) | exact HB.out)) hb); clear HB; have HB := n0_; clear n0_; (try clear hb); (try clear hb2); (try clear hk); (try clear hi)))
            go_ret
            exact ⟨by first | rfl | (simp [errW_none, errW_some] <;> rfl) | (simp [*, errW_none, errW_some] <;> rfl), by repeat (first | (with_reducible first | exact HB.out | apply below_alloc | apply pw_below_drewN | apply below_drew1) | exact HB.out)⟩
        · rw [if_neg c15] at H
          have c15b0 : (t209.toList == t212.toList) = false := beq_eq_false_iff_ne.mpr c15
          have c15b1 : (t209.toList != t212.toList) = true := bne_iff_ne.mpr c15
          obtain rfl := Option.some.inj H
          go_enter Tryz.func4, Tryz.ntmps4
          go_wp2_with (first | ((with_reducible refine own_gate (f := 11) rfl ?_); refine goesL_ (some 18) rfl rfl Tryz.func11 (by kernel_rfl) rfl #[] rfl (by (try simp only [List.map_toArray, List.map_cons, List.map_nil]); first | done | rfl | (simp only [List.length_drop, List.length_take]; rfl)) ?_; (with_reducible refine (latinerlaw15_shown.calls k  true _ ?side1 A4.out).mono ?_); (case side1 => exact GW.below hG (by repeat (first | (with_reducible first | exact HB.out | apply below_alloc | apply pw_below_drewN | apply below_drew1) | exact HB.out))); rintro e w33 ⟨rfl, hb⟩; refine ⟨_, rfl, ?_⟩; have n0_ := Aside0.mk (below_step (by repeat (first | (with_reducible first | exact HB.out | apply below_alloc | apply pw_below_drewN | apply below_drew1) | exact HB.out)) hb); clear HB; have HB := n0_; clear n0_; (try clear hb); (try clear hb2); (try clear hk); (try clear hi)) | ((with_reducible refine own_gate (f := 18) rfl ?_); refine goesL_ (some 20) rfl rfl Tryz.func18 (by kernel_rfl) rfl #[.string a0] rfl (by (try simp only [List.map_toArray, List.map_cons, List.map_nil]); first | done | rfl | (simp only [List.length_drop, List.length_take]; rfl)) ?_; (with_reducible refine (latinerlaw15_short.calls a0 t202 _ A5.out).mono ?_); rintro e w34 ⟨rfl, hb⟩; refine ⟨_, rfl, ?_⟩; have n0_ := Aside0.mk (below_step (by repeat (first | (with_reducible first | exact HB.out | apply below_alloc | apply pw_below_drewN | apply below_drew1) | exact HB.out)) hb); clear HB; have HB := n0_; clear n0_; (try clear hb); (try clear hb2); (try clear hk); (try clear hi)) | ((with_reducible refine own_gate (f := 18) rfl ?_); refine goesL_ (some 22) rfl rfl Tryz.func18 (by kernel_rfl) rfl #[.string a1] rfl (by (try simp only [List.map_toArray, List.map_cons, List.map_nil]); first | done | rfl | (simp only [List.length_drop, List.length_take]; rfl)) ?_; (with_reducible refine (latinerlaw15_short.calls a1 t203 _ A6.out).mono ?_); rintro e w35 ⟨rfl, hb⟩; refine ⟨_, rfl, ?_⟩; have n0_ := Aside0.mk (below_step (by repeat (first | (with_reducible first | exact HB.out | apply below_alloc | apply pw_below_drewN | apply below_drew1) | exact HB.out)) hb); clear HB; have HB := n0_; clear n0_; (try clear hb); (try clear hb2); (try clear hk); (try clear hi)) | ((with_reducible refine own_gate (f := 18) rfl ?_); refine goesL_ (some 24) rfl rfl Tryz.func18 (by kernel_rfl) rfl #[.string a2] rfl (by (try simp only [List.map_toArray, List.map_cons, List.map_nil]); first | done | rfl | (simp only [List.length_drop, List.length_take]; rfl)) ?_; (with_reducible refine (latinerlaw15_short.calls a2 t204 _ A7.out).mono ?_); rintro e w36 ⟨rfl, hb⟩; refine ⟨_, rfl, ?_⟩; have n0_ := Aside0.mk (below_step (by repeat (first | (with_reducible first | exact HB.out | apply below_alloc | apply pw_below_drewN | apply below_drew1) | exact HB.out)) hb); clear HB; have HB := n0_; clear n0_; (try clear hb); (try clear hb2); (try clear hk); (try clear hi)) | ((with_reducible refine own_gate (f := 19) rfl ?_); refine goesL_ (some 28) rfl rfl Tryz.func19 (by kernel_rfl) rfl #[.string t202, .string t203] rfl (by (try simp only [List.map_toArray, List.map_cons, List.map_nil]); first | done | rfl | (simp only [List.length_drop, List.length_take]; rfl)) ?_; (with_reducible refine (fold_Item.calls t202 t203 t205 t206 _ ?side1 A8.out).mono ?_); (case side1 => exact GW.below hG (by repeat (first | (with_reducible first | exact HB.out | apply below_alloc | apply pw_below_drewN | apply below_drew1) | exact HB.out))); rintro e w37 ⟨rfl, hb⟩; refine ⟨_, rfl, ?_⟩; have n0_ := Aside0.mk (below_step (by repeat (first | (with_reducible first | exact HB.out | apply below_alloc | apply pw_below_drewN | apply below_drew1) | exact HB.out)) hb); clear HB; have HB := n0_; clear n0_; (try clear hb); (try clear hb2); (try clear hk); (try clear hi)) | ((with_reducible refine own_gate (f := 20) rfl ?_); refine goesL_ (some 34) rfl rfl Tryz.func20 (by kernel_rfl) rfl #[.string t202, .string t203] rfl (by (try simp only [List.map_toArray, List.map_cons, List.map_nil]); first | done | rfl | (simp only [List.length_drop, List.length_take]; rfl)) ?_; (with_reducible refine (latinerref15_Item.calls k t202 t203 t207 t208 _ A9.out).mono ?_); rintro e w38 ⟨rfl, hb⟩; refine ⟨_, rfl, ?_⟩; have n0_ := Aside0.mk (below_step (by repeat (first | (with_reducible first | exact HB.out | apply below_alloc | apply pw_below_drewN | apply below_drew1) | exact HB.out)) hb); clear HB; have HB := n0_; clear n0_; (try clear hb); (try clear hb2); (try clear hk); (try clear hi)) | ((with_reducible refine own_gate (f := 21) rfl ?_); refine goesL_ (some 39) rfl rfl Tryz.func21 (by kernel_rfl) rfl #[.string t204] rfl (by (try simp only [List.map_toArray, List.map_cons, List.map_nil]); first | done | rfl | (simp only [List.length_drop, List.length_take]; rfl)) ?_; (with_reducible refine (fold_ReadItem.calls t204 t209 t210 t211 _ ?side1 A10.out).mono ?_); (case side1 => exact GW.below hG (by repeat (first | (with_reducible first | exact HB.out | apply below_alloc | apply pw_below_drewN | apply below_drew1) | exact HB.out))); rintro e w39 ⟨rfl, hb⟩; refine ⟨_, rfl, ?_⟩; have n0_ := Aside0.mk (below_step (by repeat (first | (with_reducible first | exact HB.out | apply below_alloc | apply pw_below_drewN | apply below_drew1) | exact HB.out)) hb); clear HB; have HB := n0_; clear n0_; (try clear hb); (try clear hb2); (try clear hk); (try clear hi)) | ((with_reducible refine own_gate (f := 22) rfl ?_); refine goesL_ (some 45) rfl rfl Tryz.func22 (by kernel_rfl) rfl #[.string t204] rfl (by (try simp only [List.map_toArray, List.map_cons, List.map_nil]); first | done | rfl | (simp only [List.length_drop, List.length_take]; rfl)) ?_; (with_reducible refine (latinerref15_ReadItem.calls k t204 t212 t213 t214 _ A11.out).mono ?_); rintro e w40 ⟨rfl, hb⟩; refine ⟨_, rfl, ?_⟩; have n0_ := Aside0.mk (below_step (by repeat (first | (with_reducible first | exact HB.out | apply below_alloc | apply pw_below_drewN | apply below_drew1) | exact HB.out)) hb); clear HB; have HB := n0_; clear n0_; (try clear hb); (try clear hb2); (try clear hk); (try clear hi)))
          go_ret
          exact ⟨by first | rfl | (simp [errW_none, errW_some] <;> rfl) | (simp [*, errW_none, errW_some] <;> rfl), by repeat (first | (with_reducible first | exact HB.out | apply below_alloc | apply pw_below_drewN | apply below_drew1) | exact HB.out)⟩
      · rw [if_neg c14] at H
        have c14b0 : (t206 == t208) = false := beq_eq_false_iff_ne.mpr c14
        have c14b1 : (t206 != t208) = true := bne_iff_ne.mpr c14
        obtain rfl := Option.some.inj H
        go_enter Tryz.func4, Tryz.ntmps4
        go_wp2_with (first | ((with_reducible refine own_gate (f := 11) rfl ?_); refine goesL_ (some 18) rfl rfl Tryz.func11 (by kernel_rfl) rfl #[] rfl (by (try simp only [List.map_toArray, List.map_cons, List.map_nil]); first | done | rfl | (simp only [List.length_drop, List.length_take]; rfl)) ?_; (with_reducible refine (latinerlaw15_shown.calls k  true _ ?side1 A4.out).mono ?_); (case side1 => exact GW.below hG (by repeat (first | (with_reducible first | exact HB.out | apply below_alloc | apply pw_below_drewN | apply below_drew1) | exact HB.out))); rintro e w41 ⟨rfl, hb⟩; refine ⟨_, rfl, ?_⟩; have n0_ := Aside0.mk (below_step (by repeat (first | (with_reducible first | exact HB.out | apply below_alloc | apply pw_below_drewN | apply below_drew1) | exact HB.out)) hb); clear HB; have HB := n0_; clear n0_; (try clear hb); (try clear hb2); (try clear hk); (try clear hi)) | ((with_reducible refine own_gate (f := 18) rfl ?_); refine goesL_ (some 20) rfl rfl Tryz.func18 (by kernel_rfl) rfl #[.string a0] rfl (by (try simp only [List.map_toArray, List.map_cons, List.map_nil]); first | done | rfl | (simp only [List.length_drop, List.length_take]; rfl)) ?_; (with_reducible refine (latinerlaw15_short.calls a0 t202 _ A5.out).mono ?_); rintro e w42 ⟨rfl, hb⟩; refine ⟨_, rfl, ?_⟩; have n0_ := Aside0.mk (below_step (by repeat (first | (with_reducible first | exact HB.out | apply below_alloc | apply pw_below_drewN | apply below_drew1) | exact HB.out)) hb); clear HB; have HB := n0_; clear n0_; (try clear hb); (try clear hb2); (try clear hk); (try clear hi)) | ((with_reducible refine own_gate (f := 18) rfl ?_); refine goesL_ (some 22) rfl rfl Tryz.func18 (by kernel_rfl) rfl #[.string a1] rfl (by (try simp only [List.map_toArray, List.map_cons, List.map_nil]); first | done | rfl | (simp only [List.length_drop, List.length_take]; rfl)) ?_; (with_reducible refine (latinerlaw15_short.calls a1 t203 _ A6.out).mono ?_); rintro e w43 ⟨rfl, hb⟩; refine ⟨_, rfl, ?_⟩; have n0_ := Aside0.mk (below_step (by repeat (first | (with_reducible first | exact HB.out | apply below_alloc | apply pw_below_drewN | apply below_drew1) | exact HB.out)) hb); clear HB; have HB := n0_; clear n0_; (try clear hb); (try clear hb2); (try clear hk); (try clear hi)) | ((with_reducible refine own_gate (f := 18) rfl ?_); refine goesL_ (some 24) rfl rfl Tryz.func18 (by kernel_rfl) rfl #[.string a2] rfl (by (try simp only [List.map_toArray, List.map_cons, List.map_nil]); first | done | rfl | (simp only [List.length_drop, List.length_take]; rfl)) ?_; (with_reducible refine (latinerlaw15_short.calls a2 t204 _ A7.out).mono ?_); rintro e w44 ⟨rfl, hb⟩; refine ⟨_, rfl, ?_⟩; have n0_ := Aside0.mk (below_step (by repeat (first | (with_reducible first | exact HB.out | apply below_alloc | apply pw_below_drewN | apply below_drew1) | exact HB.out)) hb); clear HB; have HB := n0_; clear n0_; (try clear hb); (try clear hb2); (try clear hk); (try clear hi)) | ((with_reducible refine own_gate (f := 19) rfl ?_); refine goesL_ (some 28) rfl rfl Tryz.func19 (by kernel_rfl) rfl #[.string t202, .string t203] rfl (by (try simp only [List.map_toArray, List.map_cons, List.map_nil]); first | done | rfl | (simp only [List.length_drop, List.length_take]; rfl)) ?_; (with_reducible refine (fold_Item.calls t202 t203 t205 t206 _ ?side1 A8.out).mono ?_); (case side1 => exact GW.below hG (by repeat (first | (with_reducible first | exact HB.out | apply below_alloc | apply pw_below_drewN | apply below_drew1) | exact HB.out))); rintro e w45 ⟨rfl, hb⟩; refine ⟨_, rfl, ?_⟩; have n0_ := Aside0.mk (below_step (by repeat (first | (with_reducible first | exact HB.out | apply below_alloc | apply pw_below_drewN | apply below_drew1) | exact HB.out)) hb); clear HB; have HB := n0_; clear n0_; (try clear hb); (try clear hb2); (try clear hk); (try clear hi)) | ((with_reducible refine own_gate (f := 20) rfl ?_); refine goesL_ (some 34) rfl rfl Tryz.func20 (by kernel_rfl) rfl #[.string t202, .string t203] rfl (by (try simp only [List.map_toArray, List.map_cons, List.map_nil]); first | done | rfl | (simp only [List.length_drop, List.length_take]; rfl)) ?_; (with_reducible refine (latinerref15_Item.calls k t202 t203 t207 t208 _ A9.out).mono ?_); rintro e w46 ⟨rfl, hb⟩; refine ⟨_, rfl, ?_⟩; have n0_ := Aside0.mk (below_step (by repeat (first | (with_reducible first | exact HB.out | apply below_alloc | apply pw_below_drewN | apply below_drew1) | exact HB.out)) hb); clear HB; have HB := n0_; clear n0_; (try clear hb); (try clear hb2); (try clear hk); (try clear hi)) | ((with_reducible refine own_gate (f := 21) rfl ?_); refine goesL_ (some 39) rfl rfl Tryz.func21 (by kernel_rfl) rfl #[.string t204] rfl (by (try simp only [List.map_toArray, List.map_cons, List.map_nil]); first | done | rfl | (simp only [List.length_drop, List.length_take]; rfl)) ?_; (with_reducible refine (fold_ReadItem.calls t204 t209 t210 t211 _ ?side1 A10.out).mono ?_); (case side1 => exact GW.below hG (by repeat (first | (with_reducible first | exact HB.out | apply below_alloc | apply pw_below_drewN | apply below_drew1) | exact HB.out))); rintro e w47 ⟨rfl, hb⟩; refine ⟨_, rfl, ?_⟩; have n0_ := Aside0.mk (below_step (by repeat (first | (with_reducible first | exact HB.out | apply below_alloc | apply pw_below_drewN | apply below_drew1) | exact HB.out)) hb); clear HB; have HB := n0_; clear n0_; (try clear hb); (try clear hb2); (try clear hk); (try clear hi)) | ((with_reducible refine own_gate (f := 22) rfl ?_); refine goesL_ (some 45) rfl rfl Tryz.func22 (by kernel_rfl) rfl #[.string t204] rfl (by (try simp only [List.map_toArray, List.map_cons, List.map_nil]); first | done | rfl | (simp only [List.length_drop, List.length_take]; rfl)) ?_; (with_reducible refine (latinerref15_ReadItem.calls k t204 t212 t213 t214 _ A11.out).mono ?_); rintro e w48 ⟨rfl, hb⟩; refine ⟨_, rfl, ?_⟩; have n0_ := Aside0.mk (below_step (by repeat (first | (with_reducible first | exact HB.out | apply below_alloc | apply pw_below_drewN | apply below_drew1) | exact HB.out)) hb); clear HB; have HB := n0_; clear n0_; (try clear hb); (try clear hb2); (try clear hk); (try clear hi)))
        go_ret
        exact ⟨by first | rfl | (simp [errW_none, errW_some] <;> rfl) | (simp [*, errW_none, errW_some] <;> rfl), by repeat (first | (with_reducible first | exact HB.out | apply below_alloc | apply pw_below_drewN | apply below_drew1) | exact HB.out)⟩
    · rw [if_neg c13] at H
      have c13b0 : (t205.toList == t207.toList) = false := beq_eq_false_iff_ne.mpr c13
      have c13b1 : (t205.toList != t207.toList) = true := bne_iff_ne.mpr c13
      obtain rfl := Option.some.inj H
      go_enter Tryz.func4, Tryz.ntmps4
      go_wp2_with (first | ((with_reducible refine own_gate (f := 11) rfl ?_); refine goesL_ (some 18) rfl rfl Tryz.func11 (by kernel_rfl) rfl #[] rfl (by (try simp only [List.map_toArray, List.map_cons, List.map_nil]); first | done | rfl | (simp only [List.length_drop, List.length_take]; rfl)) ?_; (with_reducible refine (latinerlaw15_shown.calls k  true _ ?side1 A4.out).mono ?_); (case side1 => exact GW.below hG (by repeat (first | (with_reducible first | exact HB.out | apply below_alloc | apply pw_below_drewN | apply below_drew1) | exact HB.out))); rintro e w49 ⟨rfl, hb⟩; refine ⟨_, rfl, ?_⟩; have n0_ := Aside0.mk (below_step (by repeat (first | (with_reducible first | exact HB.out | apply below_alloc | apply pw_below_drewN | apply below_drew1) | exact HB.out)) hb); clear HB; have HB := n0_; clear n0_; (try clear hb); (try clear hb2); (try clear hk); (try clear hi)) | ((with_reducible refine own_gate (f := 18) rfl ?_); refine goesL_ (some 20) rfl rfl Tryz.func18 (by kernel_rfl) rfl #[.string a0] rfl (by (try simp only [List.map_toArray, List.map_cons, List.map_nil]); first | done | rfl | (simp only [List.length_drop, List.length_take]; rfl)) ?_; (with_reducible refine (latinerlaw15_short.calls a0 t202 _ A5.out).mono ?_); rintro e w50 ⟨rfl, hb⟩; refine ⟨_, rfl, ?_⟩; have n0_ := Aside0.mk (below_step (by repeat (first | (with_reducible first | exact HB.out | apply below_alloc | apply pw_below_drewN | apply below_drew1) | exact HB.out)) hb); clear HB; have HB := n0_; clear n0_; (try clear hb); (try clear hb2); (try clear hk); (try clear hi)) | ((with_reducible refine own_gate (f := 18) rfl ?_); refine goesL_ (some 22) rfl rfl Tryz.func18 (by kernel_rfl) rfl #[.string a1] rfl (by (try simp only [List.map_toArray, List.map_cons, List.map_nil]); first | done | rfl | (simp only [List.length_drop, List.length_take]; rfl)) ?_; (with_reducible refine (latinerlaw15_short.calls a1 t203 _ A6.out).mono ?_); rintro e w51 ⟨rfl, hb⟩; refine ⟨_, rfl, ?_⟩; have n0_ := Aside0.mk (below_step (by repeat (first | (with_reducible first | exact HB.out | apply below_alloc | apply pw_below_drewN | apply below_drew1) | exact HB.out)) hb); clear HB; have HB := n0_; clear n0_; (try clear hb); (try clear hb2); (try clear hk); (try clear hi)) | ((with_reducible refine own_gate (f := 18) rfl ?_); refine goesL_ (some 24) rfl rfl Tryz.func18 (by kernel_rfl) rfl #[.string a2] rfl (by (try simp only [List.map_toArray, List.map_cons, List.map_nil]); first | done | rfl | (simp only [List.length_drop, List.length_take]; rfl)) ?_; (with_reducible refine (latinerlaw15_short.calls a2 t204 _ A7.out).mono ?_); rintro e w52 ⟨rfl, hb⟩; refine ⟨_, rfl, ?_⟩; have n0_ := Aside0.mk (below_step (by repeat (first | (with_reducible first | exact HB.out | apply below_alloc | apply pw_below_drewN | apply below_drew1) | exact HB.out)) hb); clear HB; have HB := n0_; clear n0_; (try clear hb); (try clear hb2); (try clear hk); (try clear hi)) | ((with_reducible refine own_gate (f := 19) rfl ?_); refine goesL_ (some 28) rfl rfl Tryz.func19 (by kernel_rfl) rfl #[.string t202, .string t203] rfl (by (try simp only [List.map_toArray, List.map_cons, List.map_nil]); first | done | rfl | (simp only [List.length_drop, List.length_take]; rfl)) ?_; (with_reducible refine (fold_Item.calls t202 t203 t205 t206 _ ?side1 A8.out).mono ?_); (case side1 => exact GW.below hG (by repeat (first | (with_reducible first | exact HB.out | apply below_alloc | apply pw_below_drewN | apply below_drew1) | exact HB.out))); rintro e w53 ⟨rfl, hb⟩; refine ⟨_, rfl, ?_⟩; have n0_ := Aside0.mk (below_step (by repeat (first | (with_reducible first | exact HB.out | apply below_alloc | apply pw_below_drewN | apply below_drew1) | exact HB.out)) hb); clear HB; have HB := n0_; clear n0_; (try clear hb); (try clear hb2); (try clear hk); (try clear hi)) | ((with_reducible refine own_gate (f := 20) rfl ?_); refine goesL_ (some 34) rfl rfl Tryz.func20 (by kernel_rfl) rfl #[.string t202, .string t203] rfl (by (try simp only [List.map_toArray, List.map_cons, List.map_nil]); first | done | rfl | (simp only [List.length_drop, List.length_take]; rfl)) ?_; (with_reducible refine (latinerref15_Item.calls k t202 t203 t207 t208 _ A9.out).mono ?_); rintro e w54 ⟨rfl, hb⟩; refine ⟨_, rfl, ?_⟩; have n0_ := Aside0.mk (below_step (by repeat (first | (with_reducible first | exact HB.out | apply below_alloc | apply pw_below_drewN | apply below_drew1) | exact HB.out)) hb); clear HB; have HB := n0_; clear n0_; (try clear hb); (try clear hb2); (try clear hk); (try clear hi)) | ((with_reducible refine own_gate (f := 21) rfl ?_); refine goesL_ (some 39) rfl rfl Tryz.func21 (by kernel_rfl) rfl #[.string t204] rfl (by (try simp only [List.map_toArray, List.map_cons, List.map_nil]); first | done | rfl | (simp only [List.length_drop, List.length_take]; rfl)) ?_; (with_reducible refine (fold_ReadItem.calls t204 t209 t210 t211 _ ?side1 A10.out).mono ?_); (case side1 => exact GW.below hG (by repeat (first | (with_reducible first | exact HB.out | apply below_alloc | apply pw_below_drewN | apply below_drew1) | exact HB.out))); rintro e w55 ⟨rfl, hb⟩; refine ⟨_, rfl, ?_⟩; have n0_ := Aside0.mk (below_step (by repeat (first | (with_reducible first | exact HB.out | apply below_alloc | apply pw_below_drewN | apply below_drew1) | exact HB.out)) hb); clear HB; have HB := n0_; clear n0_; (try clear hb); (try clear hb2); (try clear hk); (try clear hi)) | ((with_reducible refine own_gate (f := 22) rfl ?_); refine goesL_ (some 45) rfl rfl Tryz.func22 (by kernel_rfl) rfl #[.string t204] rfl (by (try simp only [List.map_toArray, List.map_cons, List.map_nil]); first | done | rfl | (simp only [List.length_drop, List.length_take]; rfl)) ?_; (with_reducible refine (latinerref15_ReadItem.calls k t204 t212 t213 t214 _ A11.out).mono ?_); rintro e w56 ⟨rfl, hb⟩; refine ⟨_, rfl, ?_⟩; have n0_ := Aside0.mk (below_step (by repeat (first | (with_reducible first | exact HB.out | apply below_alloc | apply pw_below_drewN | apply below_drew1) | exact HB.out)) hb); clear HB; have HB := n0_; clear n0_; (try clear hb); (try clear hb2); (try clear hk); (try clear hi)))
      go_ret
      exact ⟨by first | rfl | (simp [errW_none, errW_some] <;> rfl) | (simp [*, errW_none, errW_some] <;> rfl), by repeat (first | (with_reducible first | exact HB.out | apply below_alloc | apply pw_below_drewN | apply below_drew1) | exact HB.out)⟩
  · replace c12 := Bool.eq_false_iff.mpr c12
    subst c12
    have H1 : (some false) = some r := by rw [if_neg (show ¬ (false = true) by decide)] at H; exact H
    clear H
    have H := H1
    clear H1
    obtain rfl := Option.some.inj H
    go_enter Tryz.func4, Tryz.ntmps4
    go_wp2_with (first | ((with_reducible refine own_gate (f := 11) rfl ?_); refine goesL_ (some 18) rfl rfl Tryz.func11 (by kernel_rfl) rfl #[] rfl (by (try simp only [List.map_toArray, List.map_cons, List.map_nil]); first | done | rfl | (simp only [List.length_drop, List.length_take]; rfl)) ?_; (with_reducible refine (latinerlaw15_shown.calls k  false _ ?side1 A4.out).mono ?_); (case side1 => exact GW.below hG (by repeat (first | (with_reducible first | exact HB.out | apply below_alloc | apply pw_below_drewN | apply below_drew1) | exact HB.out))); rintro e w57 ⟨rfl, hb⟩; refine ⟨_, rfl, ?_⟩; have n0_ := Aside0.mk (below_step (by repeat (first | (with_reducible first | exact HB.out | apply below_alloc | apply pw_below_drewN | apply below_drew1) | exact HB.out)) hb); clear HB; have HB := n0_; clear n0_; (try clear hb); (try clear hb2); (try clear hk); (try clear hi)) | ((with_reducible refine own_gate (f := 18) rfl ?_); refine goesL_ (some 20) rfl rfl Tryz.func18 (by kernel_rfl) rfl #[.string a0] rfl (by (try simp only [List.map_toArray, List.map_cons, List.map_nil]); first | done | rfl | (simp only [List.length_drop, List.length_take]; rfl)) ?_; (with_reducible refine (latinerlaw15_short.calls a0 t202 _ A5.out).mono ?_); rintro e w58 ⟨rfl, hb⟩; refine ⟨_, rfl, ?_⟩; have n0_ := Aside0.mk (below_step (by repeat (first | (with_reducible first | exact HB.out | apply below_alloc | apply pw_below_drewN | apply below_drew1) | exact HB.out)) hb); clear HB; have HB := n0_; clear n0_; (try clear hb); (try clear hb2); (try clear hk); (try clear hi)) | ((with_reducible refine own_gate (f := 18) rfl ?_); refine goesL_ (some 22) rfl rfl Tryz.func18 (by kernel_rfl) rfl #[.string a1] rfl (by (try simp only [List.map_toArray, List.map_cons, List.map_nil]); first | done | rfl | (simp only [List.length_drop, List.length_take]; rfl)) ?_; (with_reducible refine (latinerlaw15_short.calls a1 t203 _ A6.out).mono ?_); rintro e w59 ⟨rfl, hb⟩; refine ⟨_, rfl, ?_⟩; have n0_ := Aside0.mk (below_step (by repeat (first | (with_reducible first | exact HB.out | apply below_alloc | apply pw_below_drewN | apply below_drew1) | exact HB.out)) hb); clear HB; have HB := n0_; clear n0_; (try clear hb); (try clear hb2); (try clear hk); (try clear hi)) | ((with_reducible refine own_gate (f := 18) rfl ?_); refine goesL_ (some 24) rfl rfl Tryz.func18 (by kernel_rfl) rfl #[.string a2] rfl (by (try simp only [List.map_toArray, List.map_cons, List.map_nil]); first | done | rfl | (simp only [List.length_drop, List.length_take]; rfl)) ?_; (with_reducible refine (latinerlaw15_short.calls a2 t204 _ A7.out).mono ?_); rintro e w60 ⟨rfl, hb⟩; refine ⟨_, rfl, ?_⟩; have n0_ := Aside0.mk (below_step (by repeat (first | (with_reducible first | exact HB.out | apply below_alloc | apply pw_below_drewN | apply below_drew1) | exact HB.out)) hb); clear HB; have HB := n0_; clear n0_; (try clear hb); (try clear hb2); (try clear hk); (try clear hi)) | ((with_reducible refine own_gate (f := 19) rfl ?_); refine goesL_ (some 28) rfl rfl Tryz.func19 (by kernel_rfl) rfl #[.string t202, .string t203] rfl (by (try simp only [List.map_toArray, List.map_cons, List.map_nil]); first | done | rfl | (simp only [List.length_drop, List.length_take]; rfl)) ?_; (with_reducible refine (fold_Item.calls t202 t203 t205 t206 _ ?side1 A8.out).mono ?_); (case side1 => exact GW.below hG (by repeat (first | (with_reducible first | exact HB.out | apply below_alloc | apply pw_below_drewN | apply below_drew1) | exact HB.out))); rintro e w61 ⟨rfl, hb⟩; refine ⟨_, rfl, ?_⟩; have n0_ := Aside0.mk (below_step (by repeat (first | (with_reducible first | exact HB.out | apply below_alloc | apply pw_below_drewN | apply below_drew1) | exact HB.out)) hb); clear HB; have HB := n0_; clear n0_; (try clear hb); (try clear hb2); (try clear hk); (try clear hi)) | ((with_reducible refine own_gate (f := 20) rfl ?_); refine goesL_ (some 34) rfl rfl Tryz.func20 (by kernel_rfl) rfl #[.string t202, .string t203] rfl (by (try simp only [List.map_toArray, List.map_cons, List.map_nil]); first | done | rfl | (simp only [List.length_drop, List.length_take]; rfl)) ?_; (with_reducible refine (latinerref15_Item.calls k t202 t203 t207 t208 _ A9.out).mono ?_); rintro e w62 ⟨rfl, hb⟩; refine ⟨_, rfl, ?_⟩; have n0_ := Aside0.mk (below_step (by repeat (first | (with_reducible first | exact HB.out | apply below_alloc | apply pw_below_drewN | apply below_drew1) | exact HB.out)) hb); clear HB; have HB := n0_; clear n0_; (try clear hb); (try clear hb2); (try clear hk); (try clear hi)) | ((with_reducible refine own_gate (f := 21) rfl ?_); refine goesL_ (some 39) rfl rfl Tryz.func21 (by kernel_rfl) rfl #[.string t204] rfl (by (try simp only [List.map_toArray, List.map_cons, List.map_nil]); first | done | rfl | (simp only [List.length_drop, List.length_take]; rfl)) ?_; (with_reducible refine (fold_ReadItem.calls t204 t209 t210 t211 _ ?side1 A10.out).mono ?_); (case side1 => exact GW.below hG (by repeat (first | (with_reducible first | exact HB.out | apply below_alloc | apply pw_below_drewN | apply below_drew1) | exact HB.out))); rintro e w63 ⟨rfl, hb⟩; refine ⟨_, rfl, ?_⟩; have n0_ := Aside0.mk (below_step (by repeat (first | (with_reducible first | exact HB.out | apply below_alloc | apply pw_below_drewN | apply below_drew1) | exact HB.out)) hb); clear HB; have HB := n0_; clear n0_; (try clear hb); (try clear hb2); (try clear hk); (try clear hi)) | ((with_reducible refine own_gate (f := 22) rfl ?_); refine goesL_ (some 45) rfl rfl Tryz.func22 (by kernel_rfl) rfl #[.string t204] rfl (by (try simp only [List.map_toArray, List.map_cons, List.map_nil]); first | done | rfl | (simp only [List.length_drop, List.length_take]; rfl)) ?_; (with_reducible refine (latinerref15_ReadItem.calls k t204 t212 t213 t214 _ A11.out).mono ?_); rintro e w64 ⟨rfl, hb⟩; refine ⟨_, rfl, ?_⟩; have n0_ := Aside0.mk (below_step (by repeat (first | (with_reducible first | exact HB.out | apply below_alloc | apply pw_below_drewN | apply below_drew1) | exact HB.out)) hb); clear HB; have HB := n0_; clear n0_; (try clear hb); (try clear hb2); (try clear hk); (try clear hi)))
    go_ret
    exact ⟨by first | rfl | (simp [errW_none, errW_some] <;> rfl) | (simp [*, errW_none, errW_some] <;> rfl), by repeat (first | (with_reducible first | exact HB.out | apply below_alloc | apply pw_below_drewN | apply below_drew1) | exact HB.out)⟩

/-- THE ONE PURE STATEMENT of latinerlaw15_FoldItems: yours. -/
def latinerlaw15_FoldItems.Pure : Prop := ∀ (a0 : ByteArray) (a1 : ByteArray) (a2 : ByteArray), a0.size ≤ 140737488351232 → a1.size ≤ 140737488351232 → a2.size ≤ 140737488351232 → ∃ k, latinerlaw15_FoldItems.f k a0 a1 a2 = some true
theorem latinerlaw15_FoldItems.walk (P : latinerlaw15_FoldItems.Pure) (a0 : ByteArray) (a1 : ByteArray) (a2 : ByteArray) (w : World) (w0 : a0.size ≤ 140737488351232) (w1 : a1.size ≤ 140737488351232) (w2 : a2.size ≤ 140737488351232) (hG : GW w) :
    Calls Tryz.prog 4 #[.string a0, .string a1, .string a2] w fun e w' => e = .returned (.bool true) ∧ Below w.heap.size w w' := by
  obtain ⟨k, h⟩ := P a0 a1 a2 w0 w1 w2
  refine (latinerlaw15_FoldItems.calls k a0 a1 a2 true w hG h).mono ?_
  rintro e w' ⟨rfl, hd⟩
  exact ⟨rfl, hd⟩

end Go.Proofs.YtjnfoocmilbdlaaGreatDoor.LFold
/- What is unfolded of what is folded, of two texts, of a text behind a note, of one whose rows end with 0d 0a. No program in sight. -/
namespace Go.Proofs.YtjnfoocmilbdlaaGreatDoor
set_option linter.unusedSimpArgs false
set_option linter.unusedVariables false
namespace Fold
open Go.Proofs.YtjnfoocmilbdlaaGreatDoor.Code (Byt)
/-! Folded and unfolded. -/
/-! A line kept apart from what follows it. -/
/-! Rows that end with 0d 0a. -/
end Fold
end Go.Proofs.YtjnfoocmilbdlaaGreatDoor
/- What is read of an item's line, and of a line with a value's base64. No program in sight. -/
namespace Go.Proofs.YtjnfoocmilbdlaaGreatDoor
set_option linter.unusedSimpArgs false
set_option linter.unusedVariables false
namespace Fold
open Go.RowKit Go.Proofs.YtjnfoocmilbdlaaGreatDoorW.PrintWords Go.Proofs.YtjnfoocmilbdlaaGreatDoor.PureB Go.Proofs.YtjnfoocmilbdlaaGreatDoor.Utf
open Go.Proofs.YtjnfoocmilbdlaaGreatDoor.Code (bl bl_len bl_get bl_byte Byt bl_son son_bl bl_append baseL baseL_len unbL b64 b64_byte unb_base)
def okB (b : Int) : Prop := b ≠ 0 ∧ b ≤ 127 ∧ b ≠ 10 ∧ b ≠ 13
theorem idx_frm (s : ByteArray) : ∀ (f pos : Nat), s.size ≤ pos + f → (0 ≤ Lib.idxFuncFrom pOther true s f pos ↔ ∃ j : Nat, pos ≤ j ∧ j < s.size ∧ ¬ okB (bt s j))
  | 0, pos, h => ⟨fun q => by simp [Lib.idxFuncFrom] at q, fun ⟨j, h1, h2, _⟩ => by omega⟩
  | f + 1, pos, h => by
    unfold Lib.idxFuncFrom
    by_cases hp : pos < s.size
    · rw [if_pos hp]
      by_cases ha : (s[pos]'hp).toNat < 128
      · rw [decode_ascii s pos hp ha]
        have hb : bt s pos = ((s[pos]'hp).toNat : Int) := bt_nat s pos hp
        simp only
        have ih := idx_frm s f (pos + 1) (by omega)
        by_cases ho : okB (bt s pos)
        · rw [if_neg (by unfold okB at ho; rw [hb] at ho; simp [pOther]; omega), ih]
          constructor
          · rintro ⟨j, h1, h2⟩; exact ⟨j, by omega, h2⟩
          · rintro ⟨j, h1, h2, h3⟩
            refine ⟨j, ?_, h2, h3⟩
            rcases Nat.lt_or_ge pos j with h4 | h4
            · exact h4
            · obtain rfl : j = pos := by omega
              exact absurd ho h3
        · rw [if_pos (by unfold okB at ho; rw [hb] at ho; simp [pOther]; omega)]
          exact ⟨fun _ => ⟨pos, Nat.le_refl _, hp, ho⟩, fun _ => by omega⟩
      · have hd := decode_high s pos hp (by omega)
        have hb : bt s pos = ((s[pos]'hp).toNat : Int) := bt_nat s pos hp
        rw [if_pos (by simp [pOther]; omega)]
        exact ⟨fun _ => ⟨pos, Nat.le_refl _, hp, fun ho => by unfold okB at ho; omega⟩, fun _ => by omega⟩
    · rw [if_neg hp]
      exact ⟨fun q => by omega, fun ⟨j, h1, h2, _⟩ => by omega⟩
theorem pre_one (s : ByteArray) (b : UInt8) : Lib.hasPrefix s.data.toList [b] = true ↔ 0 < s.size ∧ bt s 0 = (b.toNat : Int) := by
  unfold Lib.hasPrefix
  rcases hs : s.data.toList with _ | ⟨x, r⟩
  · have : s.size = 0 := by have := congrArg List.length hs; rw [Array.length_toList] at this; exact this
    simp [List.isPrefixOf, this]
  · have hsz : 0 < s.size := by have := congrArg List.length hs; rw [Array.length_toList] at this; show 0 < s.data.size; rw [this, List.length_cons]; omega
    have hx : bt s ((0 : Nat) : Int) = (x.toNat : Int) := by
      rw [bt_nat s 0 hsz]
      have h0 : s.data.toList[0]? = some x := by rw [hs]; rfl
      have h1 : s.data[0]'hsz = x := by
        rw [Array.getElem?_toList, Array.getElem?_eq_getElem hsz] at h0
        exact Option.some.inj h0
      show ((s.data[0]'hsz).toNat : Int) = _
      rw [h1]
    simp only [List.isPrefixOf, Bool.and_true, beq_iff_eq]
    have hx' : bt s 0 = (x.toNat : Int) := hx
    rw [hx']
    constructor
    · rintro rfl; exact ⟨hsz, rfl⟩
    · rintro ⟨_, h⟩; exact UInt8.toNat_inj.1 (by omega)
theorem suf_one (s : ByteArray) (b : UInt8) : Lib.hasSuffix s.data.toList [b] = true ↔ 0 < s.size ∧ bt s ((s.size : Int) - 1) = (b.toNat : Int) := by
  unfold Lib.hasSuffix
  rw [List.isSuffixOf_iff_suffix]
  have hlen : s.data.toList.length = s.size := Array.length_toList
  have get : ∀ (j : Nat) (h : j < s.size), s.data.toList[j]? = some (s[j]'h) := fun j h => by rw [Array.getElem?_toList]; exact Array.getElem?_eq_getElem h
  constructor
  · rintro ⟨t, ht⟩
    have hl := congrArg List.length ht
    rw [hlen, List.length_append] at hl
    simp at hl
    have hsz : 0 < s.size := by omega
    refine ⟨hsz, ?_⟩
    rw [show (s.size : Int) - 1 = ((s.size - 1 : Nat) : Int) by omega, bt_nat s (s.size - 1) (by omega)]
    have h2 : ∀ (m : Nat) (hm : m < s.size), m = t.length → s[m]'hm = b := by
      rintro m hm rfl
      have h1 := get _ hm
      rw [← ht, List.getElem?_append_right (by omega)] at h1
      simpa using h1.symm
    rw [h2 (s.size - 1) (by omega) (by omega)]
  · rintro ⟨hsz, h⟩
    rw [show (s.size : Int) - 1 = ((s.size - 1 : Nat) : Int) by omega, bt_nat s (s.size - 1) (by omega)] at h
    have h2 : s[s.size - 1]'(by omega) = b := UInt8.toNat_inj.1 (by omega)
    refine ⟨s.data.toList.take (s.size - 1), ?_⟩
    apply List.ext_getElem?
    intro j
    by_cases hj : j < s.size - 1
    · rw [List.getElem?_append_left (by simp; omega), List.getElem?_take, if_pos hj]
    · rw [List.getElem?_append_right (by simp; omega)]
      have hll : (s.data.toList.take (s.size - 1)).length = s.size - 1 := by rw [List.length_take, hlen]; omega
      rw [hll]
      by_cases hj2 : j = s.size - 1
      · subst hj2
        rw [get _ (by omega), h2]
        simp
      · rw [List.getElem?_eq_none (by simp; omega), List.getElem?_eq_none (by rw [hlen]; omega)]
/-- What a safe text is. -/
def Safe (s : ByteArray) : Prop := (∀ j : Nat, j < s.size → okB (bt s j)) ∧ (0 < s.size → bt s 0 ≠ 32 ∧ bt s 0 ≠ 58 ∧ bt s 0 ≠ 60 ∧ bt s ((s.size : Int) - 1) ≠ 32)
theorem sfV_iff (s : ByteArray) : sfV s = true ↔ Safe s := by
  have h0 : decide (0 ≤ Lib.idxFunc pOther true s) = false ↔ ∀ j : Nat, j < s.size → okB (bt s j) := by
    rw [decide_eq_false_iff_not]
    have := idx_frm s s.size 0 (by omega)
    unfold Lib.idxFunc
    rw [this]
    constructor
    · intro h j hj
      by_cases ho : okB (bt s j)
      · exact ho
      · exact absurd ⟨j, Nat.zero_le _, hj, ho⟩ h
    · rintro h ⟨j, _, hj, ho⟩; exact ho (h j hj)
  have h1 := pre_one s 32
  have h2 := pre_one s 58
  have h3 := pre_one s 60
  have h4 := suf_one s 32
  have e1 : (((32 : UInt8).toNat : Nat) : Int) = 32 := rfl
  have e2 : (((58 : UInt8).toNat : Nat) : Int) = 58 := rfl
  have e3 : (((60 : UInt8).toNat : Nat) : Int) = 60 := rfl
  rw [e1] at h1 h4
  rw [e2] at h2
  rw [e3] at h3
  unfold sfV noneB Safe
  rw [Bool.not_eq_true', Bool.or_eq_false_iff, Bool.or_eq_false_iff, Bool.or_eq_false_iff, Bool.or_eq_false_iff, h0, Bool.eq_false_iff, Bool.eq_false_iff, Bool.eq_false_iff, Bool.eq_false_iff, Ne, Ne, Ne, Ne, h1, h2, h3, h4]
  constructor
  · rintro ⟨⟨⟨⟨a, b⟩, c⟩, d⟩, e⟩
    exact ⟨a, fun hs => ⟨fun q => b ⟨hs, q⟩, fun q => c ⟨hs, q⟩, fun q => d ⟨hs, q⟩, fun q => e ⟨hs, q⟩⟩⟩
  · rintro ⟨a, b⟩
    exact ⟨⟨⟨⟨a, fun q => (b q.1).1 q.2⟩, fun q => (b q.1).2.1 q.2⟩, fun q => (b q.1).2.2.1 q.2⟩, fun q => (b q.1).2.2.2 q.2⟩

end Fold
end Go.Proofs.YtjnfoocmilbdlaaGreatDoor
/- The reference's base64 and its safe texts (layers 4 and 5), as proved for those layers. -/
namespace Go.Proofs.YtjnfoocmilbdlaaGreatDoor.Pure.R
set_option linter.unusedSimpArgs false
set_option linter.unusedVariables false
open Go.RowKit Go.Proofs.YtjnfoocmilbdlaaGreatDoor.LFold Go.Proofs.YtjnfoocmilbdlaaGreatDoor.ExtFold Go.Proofs.YtjnfoocmilbdlaaGreatDoor.Code Go.Proofs.YtjnfoocmilbdlaaGreatDoorW.PrintWords Go.Proofs.YtjnfoocmilbdlaaGreatDoorW2 Go.Proofs.YtjnfoocmilbdlaaGreatDoorW.PrintLast Go.Proofs.YtjnfoocmilbdlaaGreatDoor.PureB
theorem son_app (a b : List Int) : strOfNums a ++ strOfNums b = strOfNums (a ++ b) := by apply ByteArray.ext; simp [strOfNums]
theorem byt (s : ByteArray) : Byt (bl s) := bl_byte s

theorem bl_base (s : ByteArray) : bl (strOfNums (baseL (bl s))) = baseL (bl s) := bl_son _ (baseL_byte _ (bl_byte s))

theorem tl_eq (s t : ByteArray) : s.toList = t.toList ↔ s = t := by
  rw [ByteArray.toList_eq, ByteArray.toList_eq]
  constructor
  · intro h; exact ByteArray.ext (Array.toList_inj.1 h)
  · rintro rfl; rfl
def SG : ByteArray := ⟨#[65, 66, 67, 68, 69, 70, 71, 72, 73, 74, 75, 76, 77, 78, 79, 80, 81, 82, 83, 84, 85, 86, 87, 88, 89, 90, 97, 98, 99, 100, 101, 102, 103, 104, 105, 106, 107, 108, 109, 110, 111, 112, 113, 114, 115, 116, 117, 118, 119, 120, 121, 122, 48, 49, 50, 51, 52, 53, 54, 55, 56, 57, 43, 47]⟩
set_option maxRecDepth 100000 in
theorem sg_at : ∀ k : Nat, k < 64 → SG.extract k (k + 1) = strOfNums [b64 k] := by decide
set_option maxRecDepth 100000 in
theorem sg_bt : ∀ k : Nat, k < 64 → bt SG k = b64 k := by decide
theorem sg_atI (i : Int) (h0 : 0 ≤ i) (h1 : i < 64) : SG.extract i.toNat (i + 1).toNat = strOfNums [b64 i] := by
  obtain ⟨k, rfl⟩ : ∃ k : Nat, i = k := ⟨i.toNat, by omega⟩
  have := sg_at k (by omega)
  rw [show ((k : Int) + 1).toNat = k + 1 by omega, Int.toNat_natCast]
  exact this
theorem g0_in (k : Nat) (g : ByteArray) (x i : Int) (hx : 0 ≤ x ∧ x ≤ 16777215) (hi : i < 3) (h0 : 0 ≤ i) (h1 : i < (g.size : Int)) :
    latinerref05_group.l0 (k + 1) g x i = latinerref05_group.l0 k g (256 * x + bt g i) (i + 1) := by
  have hb := bt_range g i
  conv => lhs; rw [latinerref05_group.l0]
  rw [if_pos hi, if_pos h1, if_pos h0, w64 (n := 256 * x) (by omega) (by omega), w64 (n := bt g i) (by omega) (by omega), w64 (by omega) (by omega), w64 (by omega) (by omega)]
theorem g0_out (k : Nat) (g : ByteArray) (x i : Int) (hx : 0 ≤ x ∧ x ≤ 16777215) (hi : i < 3) (h0 : 0 ≤ i) (h1 : ¬ i < (g.size : Int)) :
    latinerref05_group.l0 (k + 1) g x i = latinerref05_group.l0 k g (256 * x) (i + 1) := by
  conv => lhs; rw [latinerref05_group.l0]
  rw [if_pos hi, if_neg h1, w64 (n := 256 * x) (by omega) (by omega), w64 (by omega) (by omega)]
theorem g0_end (k : Nat) (g : ByteArray) (x : Int) : latinerref05_group.l0 (k + 1) g x 3 = latinerref05_group.l1 k g x ⟨#[]⟩ 0 := by
  conv => lhs; rw [latinerref05_group.l0]
  rw [if_neg (by omega)]
theorem g1_in (k : Nat) (g : ByteArray) (n : Int) (X : ByteArray) (i p : Int) (hn : 0 ≤ n ∧ n ≤ 16777215) (hX : X.size ≤ 1000) (hi : i < 4) (h0 : 0 ≤ i) (h1 : i ≤ (g.size : Int)) (hp : (2 : Int) ^ min (18 - 6 * i).toNat 64 = p) (hp0 : 0 < p) :
    latinerref05_group.l1 (k + 1) g n X i = latinerref05_group.l1 k g n (X ++ strOfNums [b64 (n / p % 64)]) (i + 1) := by
  have e1 : wrap64 (18 - wrap64 (6 * i)) = 18 - 6 * i := by rw [w64 (n := 6 * i) (by omega) (by omega), w64 (by omega) (by omega)]
  have e2 : shiftR .i64 n (18 - 6 * i) = n / p := by unfold shiftR; rw [← hp]; rfl
  have hq : 0 ≤ n / p := Int.ediv_nonneg hn.1 (by omega)
  have e3 : Int.tmod (n / p) 64 = n / p % 64 := Int.tmod_eq_emod_of_nonneg hq
  have e4 : wrap64 (n / p % 64 + 1) = n / p % 64 + 1 := w64 (by omega) (by omega)
  have e5 : wrap64 (i + 1) = i + 1 := w64 (by omega) (by omega)
  have e6 := sg_atI (n / p % 64) (by omega) (by omega)
  have e7 : (strOfNums [b64 (n / p % 64)]).size = 1 := son_size _
  conv => lhs; rw [latinerref05_group.l1]
  rw [e1, e2, e3, e4, e5, if_pos hi, if_pos (by omega), if_pos h1, if_pos (by omega), if_pos (by omega), if_pos (by omega)]
  rw [show ((⟨#[65, 66, 67, 68, 69, 70, 71, 72, 73, 74, 75, 76, 77, 78, 79, 80, 81, 82, 83, 84, 85, 86, 87, 88, 89, 90, 97, 98, 99, 100, 101, 102, 103, 104, 105, 106, 107, 108, 109, 110, 111, 112, 113, 114, 115, 116, 117, 118, 119, 120, 121, 122, 48, 49, 50, 51, 52, 53, 54, 55, 56, 57, 43, 47]⟩ : ByteArray).extract (n / p % 64).toNat (n / p % 64 + 1).toNat) = strOfNums [b64 (n / p % 64)] from e6, if_pos (by omega)]
theorem g1_out (k : Nat) (g : ByteArray) (n : Int) (X : ByteArray) (i : Int) (hX : X.size ≤ 1000) (hi : i < 4) (h0 : 0 ≤ i) (h3 : i ≤ 3) (h1 : ¬ i ≤ (g.size : Int)) :
    latinerref05_group.l1 (k + 1) g n X i = latinerref05_group.l1 k g n (X ++ strOfNums [61]) (i + 1) := by
  have e1 : wrap64 (18 - wrap64 (6 * i)) = 18 - 6 * i := by rw [w64 (n := 6 * i) (by omega) (by omega), w64 (by omega) (by omega)]
  have e5 : wrap64 (i + 1) = i + 1 := w64 (by omega) (by omega)
  conv => lhs; rw [latinerref05_group.l1]
  rw [e1, e5, if_pos hi, if_pos (by omega), if_neg h1, if_pos (by omega)]
  rfl
theorem g1_end (k : Nat) (g : ByteArray) (n : Int) (X : ByteArray) : latinerref05_group.l1 (k + 1) g n X 4 = some X := by
  conv => lhs; rw [latinerref05_group.l1]
  rw [if_neg (by omega)]
theorem app_nil (X : ByteArray) : X ++ (⟨#[]⟩ : ByteArray) = X := by
  apply ByteArray.ext
  simp [ByteArray.data_append]
theorem nil_app (a : List Int) : (⟨#[]⟩ : ByteArray) ++ strOfNums a = strOfNums a := by
  have := son_app [] a
  exact this
theorem ref_group (g : ByteArray) (h1 : 1 ≤ g.size) (h3 : g.size ≤ 3) (k : Nat) (hk : 9 ≤ k) : latinerref05_group.f k g = some (strOfNums (baseL (bl g))) := by
  obtain ⟨k, rfl⟩ : ∃ m, k = m + 9 := ⟨k - 9, by omega⟩
  have b0 := bt_range g 0
  have b1 := bt_range g 1
  have b2 := bt_range g 2
  have z1 : ∀ x : Int, (strOfNums [x]).size = 1 := fun x => son_size _
  have z2 : ∀ x y : Int, (strOfNums [x, y]).size = 2 := fun x y => son_size _
  have z3 : ∀ x y z : Int, (strOfNums [x, y, z]).size = 3 := fun x y z => son_size _
  unfold latinerref05_group.f
  rcases (show g.size = 1 ∨ g.size = 2 ∨ g.size = 3 by omega) with e | e | e
  · rw [bl_one g e]
    obtain ⟨x, hx⟩ : ∃ x, bt g 0 = x := ⟨_, rfl⟩
    rw [g0_in _ g 0 0 (by omega) (by omega) (by omega) (by omega), hx]
    rw [hx] at b0
    rw [show (0 : Int) + 1 = 1 from rfl, g0_out _ g _ 1 (by omega) (by omega) (by omega) (by omega), show (1 : Int) + 1 = 2 from rfl, g0_out _ g _ 2 (by omega) (by omega) (by omega) (by omega), show (2 : Int) + 1 = 3 from rfl, g0_end]
    obtain ⟨n, hn⟩ : ∃ n, 256 * (256 * (256 * 0 + x)) = n := ⟨_, rfl⟩
    rw [hn]
    rw [g1_in _ g n _ 0 262144 (by omega) (by decide) (by omega) (by omega) (by omega) (by decide) (by omega), nil_app, show (0 : Int) + 1 = 1 from rfl,
      g1_in _ g n _ 1 4096 (by omega) (by rw [z1]; omega) (by omega) (by omega) (by omega) (by decide) (by omega), son_app, show (1 : Int) + 1 = 2 from rfl]
    simp only [List.cons_append, List.nil_append]
    rw [g1_out _ g n _ 2 (by rw [z2]; omega) (by omega) (by omega) (by omega) (by omega), son_app, show (2 : Int) + 1 = 3 from rfl]
    simp only [List.cons_append, List.nil_append]
    rw [g1_out _ g n _ 3 (by rw [z3]; omega) (by omega) (by omega) (by omega) (by omega), son_app, show (3 : Int) + 1 = 4 from rfl, g1_end]
    simp only [List.cons_append, List.nil_append, baseL]
    have hx' : bt g ((0 : Nat) : Int) = x := hx
    rw [hx', show n / 262144 % 64 = x / 4 by omega, show n / 4096 % 64 = x % 4 * 16 by omega]
  · rw [bl_two g e]
    obtain ⟨x, hx⟩ : ∃ x, bt g 0 = x := ⟨_, rfl⟩
    obtain ⟨y, hy⟩ : ∃ y, bt g 1 = y := ⟨_, rfl⟩
    rw [g0_in _ g 0 0 (by omega) (by omega) (by omega) (by omega), hx]
    rw [hx] at b0
    rw [show (0 : Int) + 1 = 1 from rfl, g0_in _ g _ 1 (by omega) (by omega) (by omega) (by omega), hy]
    rw [hy] at b1
    rw [show (1 : Int) + 1 = 2 from rfl, g0_out _ g _ 2 (by omega) (by omega) (by omega) (by omega), show (2 : Int) + 1 = 3 from rfl, g0_end]
    obtain ⟨n, hn⟩ : ∃ n, 256 * (256 * (256 * 0 + x) + y) = n := ⟨_, rfl⟩
    rw [hn]
    rw [g1_in _ g n _ 0 262144 (by omega) (by decide) (by omega) (by omega) (by omega) (by decide) (by omega), nil_app, show (0 : Int) + 1 = 1 from rfl,
      g1_in _ g n _ 1 4096 (by omega) (by rw [z1]; omega) (by omega) (by omega) (by omega) (by decide) (by omega), son_app, show (1 : Int) + 1 = 2 from rfl]
    simp only [List.cons_append, List.nil_append]
    rw [g1_in _ g n _ 2 64 (by omega) (by rw [z2]; omega) (by omega) (by omega) (by omega) (by decide) (by omega), son_app, show (2 : Int) + 1 = 3 from rfl]
    simp only [List.cons_append, List.nil_append]
    rw [g1_out _ g n _ 3 (by rw [z3]; omega) (by omega) (by omega) (by omega) (by omega), son_app, show (3 : Int) + 1 = 4 from rfl, g1_end]
    simp only [List.cons_append, List.nil_append, baseL]
    have hx' : bt g ((0 : Nat) : Int) = x := hx
    have hy' : bt g ((1 : Nat) : Int) = y := hy
    rw [hx', hy', show n / 262144 % 64 = x / 4 by omega, show n / 4096 % 64 = x % 4 * 16 + y / 16 by omega, show n / 64 % 64 = y % 16 * 4 by omega]
  · rw [bl_three g e]
    obtain ⟨x, hx⟩ : ∃ x, bt g 0 = x := ⟨_, rfl⟩
    obtain ⟨y, hy⟩ : ∃ y, bt g 1 = y := ⟨_, rfl⟩
    obtain ⟨z, hz⟩ : ∃ z, bt g 2 = z := ⟨_, rfl⟩
    rw [g0_in _ g 0 0 (by omega) (by omega) (by omega) (by omega), hx]
    rw [hx] at b0
    rw [show (0 : Int) + 1 = 1 from rfl, g0_in _ g _ 1 (by omega) (by omega) (by omega) (by omega), hy]
    rw [hy] at b1
    rw [show (1 : Int) + 1 = 2 from rfl, g0_in _ g _ 2 (by omega) (by omega) (by omega) (by omega), hz]
    rw [hz] at b2
    rw [show (2 : Int) + 1 = 3 from rfl, g0_end]
    obtain ⟨n, hn⟩ : ∃ n, 256 * (256 * (256 * 0 + x) + y) + z = n := ⟨_, rfl⟩
    rw [hn]
    rw [g1_in _ g n _ 0 262144 (by omega) (by decide) (by omega) (by omega) (by omega) (by decide) (by omega), nil_app, show (0 : Int) + 1 = 1 from rfl,
      g1_in _ g n _ 1 4096 (by omega) (by rw [z1]; omega) (by omega) (by omega) (by omega) (by decide) (by omega), son_app, show (1 : Int) + 1 = 2 from rfl]
    simp only [List.cons_append, List.nil_append]
    rw [g1_in _ g n _ 2 64 (by omega) (by rw [z2]; omega) (by omega) (by omega) (by omega) (by decide) (by omega), son_app, show (2 : Int) + 1 = 3 from rfl]
    simp only [List.cons_append, List.nil_append]
    rw [g1_in _ g n _ 3 1 (by omega) (by rw [z3]; omega) (by omega) (by omega) (by omega) (by decide) (by omega), son_app, show (3 : Int) + 1 = 4 from rfl, g1_end]
    simp only [List.cons_append, List.nil_append, baseL]
    have hx' : bt g ((0 : Nat) : Int) = x := hx
    have hy' : bt g ((1 : Nat) : Int) = y := hy
    have hz' : bt g ((2 : Nat) : Int) = z := hz
    rw [hx', hy', hz', show n / 262144 % 64 = x / 4 by omega, show n / 4096 % 64 = x % 4 * 16 + y / 16 by omega, show n / 64 % 64 = y % 16 * 4 + z / 64 by omega, show n / 1 % 64 = z % 64 by omega]
theorem baseL_cut : ∀ l : List Int, baseL l = baseL (l.take 3) ++ baseL (l.drop 3)
  | [] => rfl
  | [a] => by simp [baseL]
  | [a, b] => by simp [baseL]
  | a :: b :: c :: r => by simp [baseL]
theorem ref_base_l0 (s : ByteArray) (hs : s.size ≤ 1000) : ∀ (d k j : Nat) (X : ByteArray), s.size ≤ 3 * j + 3 * d → d + 10 ≤ k → X.size ≤ 4 * j → 3 * j ≤ 1003 →
    latinerref05_Base.l0 k s X (3 * j : Nat) = some (X ++ strOfNums (baseL ((bl s).drop (3 * j)))) := by
  intro d
  induction d with
  | zero =>
    intro k j X h1 h2 h3 h4
    obtain ⟨k, rfl⟩ : ∃ m, k = m + 1 := ⟨k - 1, by omega⟩
    conv => lhs; rw [latinerref05_Base.l0]
    rw [if_neg (by omega), List.drop_eq_nil_of_le (by rw [bl_len]; omega)]
    exact congrArg some (app_nil X).symm
  | succ d ih =>
    intro k j X h1 h2 h3 h4
    obtain ⟨k, rfl⟩ : ∃ m, k = m + 1 := ⟨k - 1, by omega⟩
    conv => lhs; rw [latinerref05_Base.l0]
    by_cases hlt : 3 * j < s.size
    · have hm : lesser (wrap64 (((3 * j : Nat) : Int) + 3)) (s.size : Int) = ((min (3 * j + 3) s.size : Nat) : Int) := by
        rw [w64 (by omega) (by omega)]
        unfold lesser
        split <;> omega
      rw [hm, if_pos (by omega), if_pos (by omega), if_pos (by omega), if_pos (by omega), Int.toNat_natCast, Int.toNat_natCast]
      have hsz : (s.extract (3 * j) (min (3 * j + 3) s.size)).size = min 3 (s.size - 3 * j) := by rw [ByteArray.size_extract]; omega
      have hbl : bl (s.extract (3 * j) (min (3 * j + 3) s.size)) = ((bl s).drop (3 * j)).take 3 := by
        have := bl_piece s 3 j
        rw [Nat.mul_comm j 3] at this
        exact this
      rw [ref_group _ (by omega) (by omega) k (by omega), hbl, Option.bind_some]
      have hgs : (strOfNums (baseL (((bl s).drop (3 * j)).take 3))).size = 4 := by
        rw [son_size, baseL_len, List.length_take, List.length_drop, bl_len]; omega
      rw [if_pos (by omega), show wrap64 (((3 * j : Nat) : Int) + 3) = ((3 * (j + 1) : Nat) : Int) by rw [w64 (by omega) (by omega)]; omega]
      rw [ih k (j + 1) _ (by omega) (by omega) (by rw [ByteArray.size_append]; omega) (by omega), ByteArray.append_assoc, son_app, baseL_cut ((bl s).drop (3 * j)), List.drop_drop]
      rfl
    · rw [if_neg (by omega), List.drop_eq_nil_of_le (by rw [bl_len]; omega)]
      exact congrArg some (app_nil X).symm
theorem ref_base (s : ByteArray) (hs : s.size ≤ 1000) (k : Nat) (hk : 400 ≤ k) : latinerref05_Base.f k s = some (strOfNums (baseL (bl s))) := by
  unfold latinerref05_Base.f
  have := ref_base_l0 s hs 334 k 0 ⟨#[]⟩ (by omega) (by omega) (by decide) (by omega)
  rw [nil_app] at this
  exact this

def wv (c : Int) : Int := (worthL c).getD 0
theorem wv_rng (c : Int) : 0 ≤ wv c ∧ wv c < 64 := by
  unfold wv
  cases h : worthL c with
  | none => exact ⟨by decide, by decide⟩
  | some v => have := b64_worth c v h; exact ⟨this.1, this.2.1⟩
theorem wv_b64 (i : Int) (h0 : 0 ≤ i) (h1 : i < 64) : wv (b64 i) = i := by unfold wv; rw [worth_b64 i h0 h1]; rfl
theorem wv_pad : wv 61 = 0 := by decide
theorem value_l0 (c : Int) : ∀ (d k j : Nat), j + d = 64 → d < k → (∀ i : Nat, i < j → b64 i ≠ c) → latinerref05_value.l0 k c (j : Int) = some (wv c) := by
  intro d
  induction d with
  | zero =>
    intro k j hj hk hn
    obtain ⟨k, rfl⟩ : ∃ m, k = m + 1 := ⟨k - 1, by omega⟩
    conv => lhs; rw [latinerref05_value.l0]
    rw [if_neg (by omega)]
    have : worthL c = none := by
      cases e : worthL c with
      | none => rfl
      | some v =>
        obtain ⟨h0, h1, h2⟩ := b64_worth c v e
        exact absurd (by rw [show ((v.toNat : Nat) : Int) = v by omega]; exact h2) (hn v.toNat (by omega))
    unfold wv
    rw [this]
    rfl
  | succ d ih =>
    intro k j hj hk hn
    obtain ⟨k, rfl⟩ : ∃ m, k = m + 1 := ⟨k - 1, by omega⟩
    have hs : bt SG (j : Int) = b64 j := sg_bt j (by omega)
    conv => lhs; rw [latinerref05_value.l0]
    rw [if_pos (by omega), if_pos (by omega)]
    show (if bt SG (j : Int) = c then some (j : Int) else latinerref05_value.l0 k c (wrap64 ((j : Int) + 1))) = some (wv c)
    by_cases h : b64 j = c
    · rw [if_pos (show bt SG (j : Int) = c by rw [hs]; exact h), ← h, wv_b64 _ (by omega) (by omega)]
    · rw [if_neg (show ¬ bt SG (j : Int) = c by rw [hs]; exact h), show wrap64 ((j : Int) + 1) = ((j + 1 : Nat) : Int) by rw [w64 (by omega) (by omega)]; omega]
      refine ih k (j + 1) (by omega) (by omega) ?_
      intro i hi
      rcases Nat.lt_or_ge i j with h1 | h1
      · exact hn i h1
      · rw [show i = j by omega]; exact h
theorem ref_value (c : Int) (k : Nat) (hk : 65 ≤ k) : latinerref05_value.f k c = some (wv c) := by
  unfold latinerref05_value.f
  exact value_l0 c 64 k 0 rfl (by omega) (fun i hi => absurd hi (Nat.not_lt_zero _))
/-- four signs, read roughly -/
def dec3 (a b c d : Int) : List Int := [(262144 * wv a + 4096 * wv b + 64 * wv c + wv d) / 65536 % 256, (262144 * wv a + 4096 * wv b + 64 * wv c + wv d) / 256 % 256, (262144 * wv a + 4096 * wv b + 64 * wv c + wv d) % 256]
def decR : List Int → List Int
  | a :: b :: c :: d :: r => dec3 a b c d ++ decR r
  | _ => []
theorem dec3_byt (a b c d : Int) : Byt (dec3 a b c d) := by
  intro x hx
  simp [dec3] at hx
  rcases hx with rfl | rfl | rfl <;> omega
theorem decR_byt : ∀ l : List Int, Byt (decR l)
  | [] => by intro x hx; simp [decR] at hx
  | [_] => by intro x hx; simp [decR] at hx
  | [_, _] => by intro x hx; simp [decR] at hx
  | [_, _, _] => by intro x hx; simp [decR] at hx
  | a :: b :: c :: d :: r => by
    intro x hx
    simp only [decR] at hx
    rcases List.mem_append.1 hx with h | h
    · exact dec3_byt a b c d x h
    · exact decR_byt r x h
/-- how the reference ends -/
def fin (s X : ByteArray) : ByteArray × Int :=
  if 1 < s.size ∧ bl (s.extract (s.size - 2) s.size) = [61, 61] then (if strOfNums (baseL (bl (X.extract 0 (X.size - 2)))) = s then (X.extract 0 (X.size - 2), 0) else (⟨#[]⟩, 50))
  else if 1 < s.size ∧ bt s (s.size - 1 : Nat) = 61 then (if strOfNums (baseL (bl (X.extract 0 (X.size - 1)))) = s then (X.extract 0 (X.size - 1), 0) else (⟨#[]⟩, 50))
  else (if strOfNums (baseL (bl X)) = s then (X, 0) else (⟨#[]⟩, 50))
theorem pads_iff (g : ByteArray) : g.toList = ([61, 61] : List UInt8) ↔ bl g = [61, 61] := by
  constructor
  · intro h
    rw [ByteArray.toList_eq] at h
    unfold bl
    rw [h]
    rfl
  · intro h
    rw [← son_bl g, h, ByteArray.toList_eq]
    rfl
theorem ub_j2 (s X : ByteArray) (hX : X.size ≤ 800) (h2 : 1 < s.size → 1 ≤ X.size) (k : Nat) (hk : 402 ≤ k) (b : Bool) (hb : b = decide (1 < s.size ∧ bt s (s.size - 1 : Nat) = 61)) :
    latinerref05_Unbase.j2 k s X b = some (if 1 < s.size ∧ bt s (s.size - 1 : Nat) = 61 then (if strOfNums (baseL (bl (X.extract 0 (X.size - 1)))) = s then (X.extract 0 (X.size - 1), 0) else (⟨#[]⟩, 50)) else (if strOfNums (baseL (bl X)) = s then (X, 0) else (⟨#[]⟩, 50))) := by
  obtain ⟨k, rfl⟩ : ∃ m, k = m + 1 := ⟨k - 1, by omega⟩
  conv => lhs; rw [latinerref05_Unbase.j2]
  subst hb
  have tail : ∀ Y : ByteArray, Y.size ≤ 800 → ((latinerref05_Base.f k Y).bind fun t => (if t.toList = s.toList then (some (Y, (0 : Int))) else (some ((⟨#[]⟩ : ByteArray), 50)))) = some (if strOfNums (baseL (bl Y)) = s then (Y, 0) else (⟨#[]⟩, 50)) := by
    intro Y hY
    rw [ref_base Y (by omega) k (by omega), Option.bind_some]
    by_cases h : strOfNums (baseL (bl Y)) = s
    · rw [if_pos h, if_pos (by rw [h])]
    · rw [if_neg h, if_neg (fun e => h ((tl_eq _ _).1 e))]
  by_cases h : 1 < s.size ∧ bt s (s.size - 1 : Nat) = 61
  · have h1 := h2 h.1
    have e1 : wrap64 ((X.size : Int) - 1) = ((X.size - 1 : Nat) : Int) := by rw [w64 (by omega) (by omega)]; omega
    rw [if_pos (by simpa using h), if_pos h, e1, if_pos (by omega), if_pos (by omega), Int.toNat_natCast]
    exact tail _ (by rw [ByteArray.size_extract]; omega)
  · rw [if_neg (by simpa using h), if_neg h]
    exact tail _ hX
theorem ub_j1 (s X : ByteArray) (hs : s.size ≤ 1000) (hX : X.size ≤ 800) (h2 : 1 < s.size → 2 ≤ X.size) (k : Nat) (hk : 404 ≤ k) (b : Bool) (hb : b = decide (1 < s.size ∧ bl (s.extract (s.size - 2) s.size) = [61, 61])) :
    latinerref05_Unbase.j1 k s X b = some (fin s X) := by
  obtain ⟨k, rfl⟩ : ∃ m, k = m + 1 := ⟨k - 1, by omega⟩
  conv => lhs; rw [latinerref05_Unbase.j1]
  subst hb
  unfold fin
  by_cases h : 1 < s.size ∧ bl (s.extract (s.size - 2) s.size) = [61, 61]
  · have h1 := h2 h.1
    have e1 : wrap64 ((X.size : Int) - 2) = ((X.size - 2 : Nat) : Int) := by rw [w64 (by omega) (by omega)]; omega
    rw [if_pos (by simpa using h), if_pos h, e1, if_pos (by omega), if_pos (by omega), Int.toNat_natCast]
    rw [ref_base _ (by rw [ByteArray.size_extract]; omega) k (by omega), Option.bind_some]
    by_cases h3 : strOfNums (baseL (bl (X.extract 0 (X.size - 2)))) = s
    · rw [if_pos h3, if_pos (by rw [h3])]
    · rw [if_neg h3, if_neg (fun e => h3 ((tl_eq _ _).1 e))]
  · rw [if_neg (by simpa using h), if_neg h]
    by_cases h3 : 1 < s.size
    · have e1 : wrap64 ((s.size : Int) - 1) = ((s.size - 1 : Nat) : Int) := by rw [w64 (by omega) (by omega)]; omega
      rw [if_pos (by omega), e1, if_pos (by omega), if_pos (by omega)]
      refine ub_j2 s X hX (fun q => by have := h2 q; omega) k (by omega) _ ?_
      rw [Bool.eq_iff_iff, beq_iff_eq, decide_eq_true_eq]
      exact ⟨fun q => ⟨h3, q⟩, fun q => q.2⟩
    · rw [if_neg (by omega)]
      refine ub_j2 s X hX (fun q => by have := h2 q; omega) k (by omega) _ ?_
      symm; apply decide_eq_false; exact fun q => h3 q.1
theorem ub_l0 (s : ByteArray) (hs : s.size ≤ 1000) (h4 : s.size % 4 = 0) : ∀ (d k j : Nat) (X : ByteArray), s.size = 4 * j + 4 * d → d + 450 ≤ k → X.size = 3 * j →
    latinerref05_Unbase.l0 k s X (4 * j : Nat) = some (fin s (X ++ strOfNums (decR ((bl s).drop (4 * j))))) := by
  intro d
  induction d with
  | zero =>
    intro k j X h1 h2 h3
    obtain ⟨k, rfl⟩ : ∃ m, k = m + 1 := ⟨k - 1, by omega⟩
    conv => lhs; rw [latinerref05_Unbase.l0]
    rw [if_neg (by omega), List.drop_eq_nil_of_le (by rw [bl_len]; omega), show X ++ strOfNums (decR []) = X from app_nil X]
    by_cases h : 1 < s.size
    · have e1 : wrap64 ((s.size : Int) - 2) = ((s.size - 2 : Nat) : Int) := by rw [w64 (by omega) (by omega)]; omega
      rw [if_pos (by omega), e1, if_pos (by omega), if_pos (by omega), Int.toNat_natCast]
      refine ub_j1 s X hs (by omega) (fun _ => by omega) k (by omega) _ ?_
      rw [Bool.eq_iff_iff, beq_iff_eq, decide_eq_true_eq, pads_iff]
      exact ⟨fun q => ⟨h, q⟩, fun q => q.2⟩
    · rw [if_neg (by omega)]
      refine ub_j1 s X hs (by omega) (fun q => absurd q h) k (by omega) _ ?_
      symm; apply decide_eq_false; exact fun q => h q.1
  | succ d ih =>
    intro k j X h1 h2 h3
    obtain ⟨k, rfl⟩ : ∃ m, k = m + 1 := ⟨k - 1, by omega⟩
    have cons : ∀ i : Nat, i < s.size → (bl s).drop i = bt s i :: (bl s).drop (i + 1) := by
      intro i hi
      have h' : i < (bl s).length := by rw [bl_len]; exact hi
      rw [List.drop_eq_getElem_cons h']
      congr 1
      have := bl_get s i hi
      rw [List.getElem?_eq_getElem h'] at this
      exact Option.some.inj this
    have e1 : wrap64 (((4 * j : Nat) : Int) + 1) = ((4 * j + 1 : Nat) : Int) := by rw [w64 (by omega) (by omega)]; omega
    have e2 : wrap64 (((4 * j : Nat) : Int) + 2) = ((4 * j + 2 : Nat) : Int) := by rw [w64 (by omega) (by omega)]; omega
    have e3 : wrap64 (((4 * j : Nat) : Int) + 3) = ((4 * j + 3 : Nat) : Int) := by rw [w64 (by omega) (by omega)]; omega
    have e4 : wrap64 (((4 * j : Nat) : Int) + 4) = ((4 * (j + 1) : Nat) : Int) := by rw [w64 (by omega) (by omega)]; omega
    have c0 := cons (4 * j) (by omega)
    have c1 := cons (4 * j + 1) (by omega)
    have c2 := cons (4 * j + 2) (by omega)
    have c3 := cons (4 * j + 3) (by omega)
    conv => lhs; rw [latinerref05_Unbase.l0]
    rw [if_pos (by omega), if_pos (by omega), e1, e2, e3, e4, ref_value _ k (by omega), Option.bind_some, if_pos (by omega), if_pos (by omega), ref_value _ k (by omega), Option.bind_some, if_pos (by omega), if_pos (by omega), ref_value _ k (by omega), Option.bind_some, if_pos (by omega), if_pos (by omega), ref_value _ k (by omega), Option.bind_some]
    obtain ⟨a, ha⟩ : ∃ a, bt s (4 * j : Nat) = a := ⟨_, rfl⟩
    obtain ⟨b, hb⟩ : ∃ b, bt s (4 * j + 1 : Nat) = b := ⟨_, rfl⟩
    obtain ⟨c, hc⟩ : ∃ c, bt s (4 * j + 2 : Nat) = c := ⟨_, rfl⟩
    obtain ⟨e, he⟩ : ∃ e, bt s (4 * j + 3 : Nat) = e := ⟨_, rfl⟩
    rw [ha] at c0; rw [hb] at c1; rw [hc] at c2; rw [he] at c3
    rw [ha, hb, hc, he]
    have ra := wv_rng a
    have rb := wv_rng b
    have rc := wv_rng c
    have re := wv_rng e
    have hn : wrap64 (wrap64 (wrap64 (wrap64 (262144 * wv a) + wrap64 (4096 * wv b)) + wrap64 (64 * wv c)) + wv e) = 262144 * wv a + 4096 * wv b + 64 * wv c + wv e := by
      rw [w64 (n := 262144 * wv a) (by omega) (by omega), w64 (n := 4096 * wv b) (by omega) (by omega), w64 (n := 64 * wv c) (by omega) (by omega), w64 (n := 262144 * wv a + 4096 * wv b) (by omega) (by omega), w64 (n := 262144 * wv a + 4096 * wv b + 64 * wv c) (by omega) (by omega), w64 (by omega) (by omega)]
    have hdec : decR ((bl s).drop (4 * j)) = dec3 a b c e ++ decR ((bl s).drop (4 * (j + 1))) := by
      rw [c0, c1, c2, c3]; rfl
    rw [hn]
    obtain ⟨n, hnn⟩ : ∃ n, 262144 * wv a + 4096 * wv b + 64 * wv c + wv e = n := ⟨_, rfl⟩
    rw [hnn]
    have t1 : wrap64 (Int.tdiv n 65536) % 256 = n / 65536 % 256 := by rw [Int.tdiv_eq_ediv_of_nonneg (by omega), w64 (by omega) (by omega)]
    have t2 : Int.tmod (wrap64 (Int.tdiv n 256)) 256 % 256 = n / 256 % 256 := by rw [Int.tdiv_eq_ediv_of_nonneg (by omega), w64 (by omega) (by omega), Int.tmod_eq_emod_of_nonneg (by omega)]; omega
    have t3 : Int.tmod n 256 % 256 = n % 256 := by rw [Int.tmod_eq_emod_of_nonneg (by omega)]; omega
    have hw : wrap64 n = n := w64 (by omega) (by omega)
    rw [Option.bind_some]
    have hd3 : dec3 a b c e = [n / 65536 % 256, n / 256 % 256, n % 256] := by unfold dec3; rw [hnn]
    have z : (strOfNums (dec3 a b c e)).size = 3 := son_size _
    simp only [t1, t2, t3, hw]
    rw [← hd3, if_pos (by omega), ih k (j + 1) _ (by omega) (by omega) (by rw [ByteArray.size_append]; omega), ByteArray.append_assoc, son_app, ← hdec]

theorem dec_app : ∀ (u m : List Int), u.length % 3 = 0 → Byt u → decR (baseL u ++ m) = u ++ decR m
  | [], m, _, _ => rfl
  | [_], _, h, _ => by simp at h
  | [_, _], _, h, _ => by simp at h
  | a :: b :: c :: r, m, h, hb => by
    have ha := hb a (by simp)
    have hbb := hb b (by simp)
    have hc := hb c (by simp)
    simp only [List.length_cons] at h
    simp only [baseL, List.cons_append, List.nil_append, decR, dec_app r m (by omega) (fun x hx => hb x (by simp [hx]))]
    have : dec3 (b64 (a / 4)) (b64 (a % 4 * 16 + b / 16)) (b64 (b % 16 * 4 + c / 64)) (b64 (c % 64)) = [a, b, c] := by
      unfold dec3
      rw [wv_b64 _ (by omega) (by omega), wv_b64 _ (by omega) (by omega), wv_b64 _ (by omega) (by omega), wv_b64 _ (by omega) (by omega)]
      simp
      omega
    rw [this]
    rfl
theorem dec_one (a : Int) (ha : 0 ≤ a ∧ a < 256) : decR (baseL [a]) = [a, 0, 0] := by
  show dec3 (b64 (a / 4)) (b64 (a % 4 * 16)) 61 61 ++ [] = _
  unfold dec3
  rw [wv_b64 _ (by omega) (by omega), wv_b64 _ (by omega) (by omega), wv_pad]
  simp
  omega
theorem dec_two (a b : Int) (ha : 0 ≤ a ∧ a < 256) (hb : 0 ≤ b ∧ b < 256) : decR (baseL [a, b]) = [a, b, 0] := by
  show dec3 (b64 (a / 4)) (b64 (a % 4 * 16 + b / 16)) (b64 (b % 16 * 4)) 61 ++ [] = _
  unfold dec3
  rw [wv_b64 _ (by omega) (by omega), wv_b64 _ (by omega) (by omega), wv_b64 _ (by omega) (by omega), wv_pad]
  simp
  omega
theorem base_last : ∀ (u : List Int), u.length % 3 = 0 → Byt u → u ≠ [] → ∃ m x, baseL u = m ++ [x] ∧ x ≠ 61
  | [], _, _, h => absurd rfl h
  | [_], h, _, _ => by simp at h
  | [_, _], h, _, _ => by simp at h
  | a :: b :: c :: r, h, hb, _ => by
    have hc := hb c (by simp)
    by_cases hr : r = []
    · subst hr
      refine ⟨[b64 (a / 4), b64 (a % 4 * 16 + b / 16), b64 (b % 16 * 4 + c / 64)], b64 (c % 64), by simp [baseL], (b64_byte _ (by omega) (by omega)).2.2⟩
    · obtain ⟨m, x, h1, h2⟩ := base_last r (by simp only [List.length_cons] at h; omega) (fun x hx => hb x (by simp [hx])) hr
      exact ⟨_ ++ m, x, by simp only [baseL]; rw [h1, ← List.append_assoc], h2⟩
theorem bl_sub (s : ByteArray) (L m : List Int) (h : bl s = L ++ m) (k : Nat) (hk : m.length = k) : bl (s.extract (s.size - k) s.size) = m ∧ s.size = L.length + k := by
  have hl := congrArg List.length h
  rw [bl_len, List.length_append, hk] at hl
  refine ⟨?_, hl⟩
  rw [bl_extract, List.take_of_length_le (by rw [bl_len]; omega), h, hl, show L.length + k - k = L.length by omega, List.drop_left]
theorem bt_last (s : ByteArray) (L : List Int) (x : Int) (h : bl s = L ++ [x]) : bt s (s.size - 1 : Nat) = x := by
  have hl := congrArg List.length h
  rw [bl_len, List.length_append] at hl
  simp only [List.length_cons, List.length_nil] at hl
  have := bl_get s (s.size - 1) (by omega)
  rw [h, List.getElem?_append_right (by omega), show s.size - 1 - L.length = 0 by omega] at this
  exact (Option.some.inj this).symm
theorem cut_end (X : ByteArray) (u m : List Int) (k : Nat) (h : bl X = u ++ m) (hk : m.length = k) : bl (X.extract 0 (X.size - k)) = u := by
  have hl := congrArg List.length h
  rw [bl_len, List.length_append, hk] at hl
  rw [bl_extract, List.drop_zero, h, hl, show u.length + k - k = u.length by omega, List.take_left]
/-- what was written is read -/
theorem fin_base (s : ByteArray) (t : List Int) (ht : Byt t) (h : baseL t = bl s) : fin s (strOfNums (decR (bl s))) = (strOfNums t, 0) := by
  have hX : bl (strOfNums (decR (bl s))) = decR (bl s) := bl_son _ (decR_byt _)
  obtain ⟨X, hXe⟩ : ∃ X, strOfNums (decR (bl s)) = X := ⟨_, rfl⟩
  rw [hXe] at hX ⊢
  have hs : strOfNums (baseL t) = s := by rw [h, son_bl]
  have done : ∀ Y : ByteArray, bl Y = t → (if strOfNums (baseL (bl Y)) = s then (Y, (0 : Int)) else (⟨#[]⟩, 50)) = (strOfNums t, 0) := by
    intro Y hY
    rw [hY, if_pos hs, ← hY, son_bl]
  obtain ⟨u, v, rfl, hu, hv⟩ : ∃ u v, t = u ++ v ∧ u.length % 3 = 0 ∧ v.length < 3 :=
    ⟨t.take (3 * (t.length / 3)), t.drop (3 * (t.length / 3)), (List.take_append_drop _ _).symm, by rw [List.length_take]; omega, by rw [List.length_drop]; omega⟩
  have hub : Byt u := fun x hx => ht x (by simp [hx])
  have hvb : Byt v := fun x hx => ht x (by simp [hx])
  rw [baseL_append _ _ hu] at h
  rw [← h, dec_app u _ hu hub] at hX
  unfold fin
  match v, hv, hvb, h, hX with
  | [], _, _, h, hX =>
    have hX' : bl X = u ++ [] := hX
    by_cases hu0 : u = []
    · subst hu0
      have hs0 : s.size = 0 := by rw [← bl_len, ← h]; rfl
      rw [if_neg (by omega), if_neg (by omega)]
      exact done X hX'
    · obtain ⟨m, x, h1, h2⟩ := base_last u hu hub hu0
      have hbs : bl s = m ++ [x] := by rw [← h, ← h1]; simp [baseL]
      have hl := bt_last s m x hbs
      rw [if_neg, if_neg (fun q => h2 (by rw [← hl]; exact q.2))]
      · exact done X hX'
      · rintro ⟨q1, q2⟩
        have q3 : bl s = (bl s).take (s.size - 2) ++ [61, 61] := by
          rw [bl_extract, List.take_of_length_le (by rw [bl_len]; omega)] at q2
          conv => lhs; rw [← List.take_append_drop (s.size - 2) (bl s), q2]
        have := bt_last s ((bl s).take (s.size - 2) ++ [61]) 61 (by rw [List.append_assoc]; exact q3)
        exact h2 (by rw [← hl]; exact this)
  | [a], _, hvb, h, hX =>
    have ha := hvb a (by simp)
    rw [dec_one a ha] at hX
    have hbs : bl s = (baseL u ++ [b64 (a / 4), b64 (a % 4 * 16)]) ++ [61, 61] := by rw [← h]; simp [baseL]
    obtain ⟨e1, e2⟩ := bl_sub s _ _ hbs 2 rfl
    rw [if_pos ⟨by rw [e2, List.length_append]; simp, e1⟩]
    exact done _ (cut_end X (u ++ [a]) [0, 0] 2 (by rw [hX]; simp) rfl)
  | [a, b], _, hvb, h, hX =>
    have ha := hvb a (by simp)
    have hb := hvb b (by simp)
    rw [dec_two a b ha hb] at hX
    have hbs : bl s = (baseL u ++ [b64 (a / 4), b64 (a % 4 * 16 + b / 16)]) ++ [b64 (b % 16 * 4), 61] := by rw [← h]; simp [baseL]
    obtain ⟨e1, e2⟩ := bl_sub s _ _ hbs 2 rfl
    have hl := bt_last s ((baseL u ++ [b64 (a / 4), b64 (a % 4 * 16 + b / 16)]) ++ [b64 (b % 16 * 4)]) 61 (by rw [hbs]; simp)
    rw [if_neg, if_pos ⟨by rw [e2, List.length_append]; simp, hl⟩]
    · exact done _ (cut_end X (u ++ [a, b]) [0] 1 (by rw [hX]; simp) rfl)
    · rintro ⟨_, q⟩
      rw [e1] at q
      simp at q
      exact (b64_byte (b % 16 * 4) (by omega) (by omega)).2.2 q
  | _ :: _ :: _ :: _, hv, _, _, _ => simp only [List.length_cons] at hv; omega
theorem ref_unbase (s : ByteArray) (hs : s.size ≤ 1000) (k : Nat) (hk : 1000 ≤ k) : latinerref05_Unbase.f k s = some (ubT (unbL (bl s)), ubN (unbL (bl s))) := by
  unfold latinerref05_Unbase.f
  by_cases h4 : (s.size : Int) % 4 = 0
  · rw [if_pos h4]
    have := ub_l0 s hs (by omega) (s.size / 4) k 0 ⟨#[]⟩ (by omega) (by omega) (by decide)
    refine this.trans ?_
    rw [Nat.mul_zero, List.drop_zero, nil_app]
    congr 1
    cases e : unbL (bl s) with
    | some t =>
      obtain ⟨h1, h2⟩ := unb_some _ _ e
      exact fin_base s t h2 h1
    | none =>
      have no : ∀ Y : ByteArray, ¬ strOfNums (baseL (bl Y)) = s := by
        intro Y hY
        have : bl s = baseL (bl Y) := by rw [← hY, bl_base]
        rw [this, unb_base _ (byt Y)] at e
        cases e
      unfold fin
      rw [if_neg (no _), if_neg (no _), if_neg (no _)]
      split
      · rfl
      · split <;> rfl
  · rw [if_neg h4]
    cases e : unbL (bl s) with
    | some t =>
      obtain ⟨h1, _⟩ := unb_some _ _ e
      have := congrArg List.length h1
      rw [baseL_len, bl_len] at this
      omega
    | none => rfl

end Go.Proofs.YtjnfoocmilbdlaaGreatDoor.Pure.R
namespace Go.Proofs.YtjnfoocmilbdlaaGreatDoor.Pure.R
open Go.RowKit Go.Proofs.YtjnfoocmilbdlaaGreatDoor.LFold Go.Proofs.YtjnfoocmilbdlaaGreatDoor.Fold Go.Proofs.YtjnfoocmilbdlaaGreatDoor.Utf Go.Proofs.YtjnfoocmilbdlaaGreatDoorW.PrintWords Go.Proofs.YtjnfoocmilbdlaaGreatDoorW.PrintLast Go.Proofs.YtjnfoocmilbdlaaGreatDoor.PureB
theorem safe_l0 (s : ByteArray) (hs : s.size ≤ 1000) (d : Nat) : ∀ (k j : Nat), s.size = j + d → d < k → (∀ i : Nat, i < j → okB (bt s i)) → latinerref04_IsSafe.l0 k s j = some (sfV s) := by
  have fin : ∀ b : Bool, (b = true ↔ Fold.Safe s) → b = sfV s := fun b h => by rw [Bool.eq_iff_iff, h, sfV_iff]
  induction d with
  | zero =>
    intro k j h hk hall
    obtain ⟨m, rfl⟩ : ∃ m, k = m + 1 := ⟨k - 1, by omega⟩
    simp only [latinerref04_IsSafe.l0]
    rw [if_neg (by omega)]
    have hall' : ∀ i : Nat, i < s.size → okB (bt s i) := fun i hi => hall i (by omega)
    by_cases hz : s.size = 0
    · rw [if_pos (toList_nil.2 hz), fin true ⟨fun _ => ⟨hall', fun q => by omega⟩, fun _ => rfl⟩]
    rw [if_neg (fun q => hz (toList_nil.1 q)), if_pos (by omega)]
    have no : ∀ x : Int, (x = 32 ∨ x = 58 ∨ x = 60) → bt s 0 = x → ¬ Fold.Safe s := fun x hx hb hS => by
      have := hS.2 (by omega)
      omega
    by_cases c1 : bt s 0 = 32
    · rw [if_pos c1, fin false ⟨fun q => (by cases q), fun q => absurd q (no 32 (by omega) c1)⟩]
    by_cases c2 : bt s 0 = 58
    · rw [if_neg c1, if_pos c2, fin false ⟨fun q => (by cases q), fun q => absurd q (no 58 (by omega) c2)⟩]
    by_cases c3 : bt s 0 = 60
    · rw [if_neg c1, if_neg c2, if_pos c3, fin false ⟨fun q => (by cases q), fun q => absurd q (no 60 (by omega) c3)⟩]
    rw [if_neg c1, if_neg c2, if_neg c3, w64 (by omega) (by omega), if_pos (by omega), if_pos (by omega)]
    congr 1
    refine fin _ ?_
    rw [bne_iff_ne]
    exact ⟨fun q => ⟨hall', fun _ => ⟨c1, c2, c3, q⟩⟩, fun q => (q.2 (by omega)).2.2.2⟩
  | succ d ih =>
    intro k j h hk hall
    obtain ⟨m, rfl⟩ : ∃ m, k = m + 1 := ⟨k - 1, by omega⟩
    simp only [latinerref04_IsSafe.l0]
    rw [if_pos (by omega), if_pos (by omega)]
    have no : ¬ okB (bt s j) → false = sfV s := fun q => fin false ⟨fun q => (by cases q), fun hS => absurd (hS.1 j (by omega)) q⟩
    unfold okB at no
    by_cases c1 : bt s j = 0
    · rw [if_pos c1, no (by omega)]
    by_cases c2 : bt s j > 127
    · rw [if_neg c1, if_pos c2, no (by omega)]
    by_cases c3 : bt s j = 10
    · rw [if_neg c1, if_neg c2, if_pos c3, no (by omega)]
    by_cases c4 : bt s j = 13
    · rw [if_neg c1, if_neg c2, if_neg c3, if_pos c4, no (by omega)]
    rw [if_neg c1, if_neg c2, if_neg c3, if_neg c4, w64 (by omega) (by omega), show ((j : Int) + 1) = ((j + 1 : Nat) : Int) by omega]
    refine ih m (j + 1) (by omega) (by omega) (fun i hi => ?_)
    rcases Nat.lt_or_ge i j with q | q
    · exact hall i q
    · obtain rfl : i = j := by omega
      exact ⟨c1, by omega, c3, c4⟩
theorem ref_safe (s : ByteArray) (hs : s.size ≤ 1000) (k : Nat) (hk : s.size < k) : latinerref04_IsSafe.f k s = some (sfV s) := safe_l0 s hs s.size k 0 (by omega) hk (fun i hi => by omega)

end Go.Proofs.YtjnfoocmilbdlaaGreatDoor.Pure.R
-- Written by this repo's own program over the kit's printer: YtjnfoocmilbdlaaGreatDoor.LFold
namespace Go.Proofs.YtjnfoocmilbdlaaGreatDoor.LFold
open Go.Proofs.YtjnfoocmilbdlaaGreatDoor.ExtFold
open Go.RowKit Go.Proofs.YtjnfoocmilbdlaaGreatDoorW.PrintWords Go.Proofs.YtjnfoocmilbdlaaGreatDoorW.PrintLast Go.Proofs.YtjnfoocmilbdlaaGreatDoorW2
attribute [local go_sem] own_max2 own_min2 own_maxs own_mins
set_option linter.unusedVariables false
set_option linter.unusedSimpArgs false

/-! ### latinerlaw15_FoldBack: function 5 -/
/-! ### latinerlaw15_FoldRead: function 6 -/
end Go.Proofs.YtjnfoocmilbdlaaGreatDoor.LFold
namespace Go.Proofs.YtjnfoocmilbdlaaGreatDoor.Pure
set_option linter.unusedSimpArgs false
set_option linter.unusedVariables false
open Go.RowKit Go.Proofs.YtjnfoocmilbdlaaGreatDoor.LFold Go.Proofs.YtjnfoocmilbdlaaGreatDoor.ExtFold Go.Proofs.YtjnfoocmilbdlaaGreatDoor.Fold Go.Proofs.YtjnfoocmilbdlaaGreatDoorW.PrintWords Go.Proofs.YtjnfoocmilbdlaaGreatDoorW2 Go.Proofs.YtjnfoocmilbdlaaGreatDoorW.PrintLast Go.Proofs.YtjnfoocmilbdlaaGreatDoor.PureB
open Go.Proofs.YtjnfoocmilbdlaaGreatDoor.Code (bl bl_len bl_get bl_byte Byt bl_son son_bl bl_append)
set_option maxRecDepth 100000 in
theorem shown_10 : latinerlaw15_shown.f 10 = some true := by decide +kernel
theorem shown_true : ∀ n : Nat, latinerlaw15_shown.f (10 + n) = some true
  | 0 => shown_10
  | n + 1 => latinerlaw15_shown.mono (10 + n) _ (shown_true n)
theorem shown_k (k : Nat) (h : 10 ≤ k) : latinerlaw15_shown.f k = some true := by
  have := shown_true (k - 10)
  rwa [show 10 + (k - 10) = k by omega] at this
theorem item_f (n v : ByteArray) (h1 : n.size ≤ 100000) (h2 : v.size ≤ 100000) : fold_Item.f n v = some (itS n v, itE n) := if_pos ⟨h1, h2⟩
theorem read_f (s : ByteArray) (h : s.size ≤ 100000) : fold_ReadItem.f s = some (rdName (riR (bl s)), rdVal (riR (bl s)), rdErr (riR (bl s))) := if_pos h
theorem cut_of (s : ByteArray) (m : Int) (h0 : 0 ≤ m) : 0 ≤ lesser (s.size : Int) m ∧ lesser (s.size : Int) m ≤ s.size ∧ lesser (s.size : Int) m ≤ m := by
  unfold lesser; split <;> omega
theorem cut_sz (s : ByteArray) (m : Nat) : (s.extract 0 (lesser (s.size : Int) m).toNat).size ≤ m := by
  have := cut_of s m (by omega)
  rw [ByteArray.size_extract]
  omega
end Go.Proofs.YtjnfoocmilbdlaaGreatDoor.Pure
namespace Go.Proofs.YtjnfoocmilbdlaaGreatDoor.Pure
set_option linter.unusedSimpArgs false
set_option linter.unusedVariables false
open Go.RowKit Go.Proofs.YtjnfoocmilbdlaaGreatDoor.LFold Go.Proofs.YtjnfoocmilbdlaaGreatDoor.ExtFold Go.Proofs.YtjnfoocmilbdlaaGreatDoor.Fold Go.Proofs.YtjnfoocmilbdlaaGreatDoorW.PrintWords Go.Proofs.YtjnfoocmilbdlaaGreatDoorW2 Go.Proofs.YtjnfoocmilbdlaaGreatDoorW.PrintLast Go.Proofs.YtjnfoocmilbdlaaGreatDoor.PureB
open Go.Proofs.YtjnfoocmilbdlaaGreatDoor.Code (bl bl_len bl_get bl_byte Byt bl_son son_bl bl_append)
theorem short_400 (s : ByteArray) : ∃ t, latinerlaw15_short.f s = some t ∧ t.size ≤ 400 := by
  have c := cut_of s 400 (by omega)
  have z : (s.extract 0 (lesser (s.size : Int) 400).toNat).size ≤ 400 := cut_sz s 400
  unfold latinerlaw15_short.f
  rw [if_pos c.1, if_pos c.2.1]
  exact ⟨_, rfl, z⟩
end Go.Proofs.YtjnfoocmilbdlaaGreatDoor.Pure
/- The reference's Fold. -/
namespace Go.Proofs.YtjnfoocmilbdlaaGreatDoor.Pure
set_option linter.unusedSimpArgs false
set_option linter.unusedVariables false
open Go.RowKit Go.Proofs.YtjnfoocmilbdlaaGreatDoor.LFold Go.Proofs.YtjnfoocmilbdlaaGreatDoor.ExtFold Go.Proofs.YtjnfoocmilbdlaaGreatDoor.Fold Go.Proofs.YtjnfoocmilbdlaaGreatDoorW.PrintWords Go.Proofs.YtjnfoocmilbdlaaGreatDoorW.PrintLast Go.Proofs.YtjnfoocmilbdlaaGreatDoor.PureB
open Go.Proofs.YtjnfoocmilbdlaaGreatDoor.Code (bl bl_len bl_get bl_byte Byt bl_son son_bl bl_append bl_extract)
theorem drop_at (s : ByteArray) (j : Nat) (h : j < s.size) : (bl s).drop j = bt s (j : Int) :: (bl s).drop (j + 1) := by
  have hg := bl_get s j h
  rw [List.drop_eq_getElem_cons (by rw [bl_len]; omega)]
  congr 1
  exact (List.getElem?_eq_some_iff.1 hg).2
end Go.Proofs.YtjnfoocmilbdlaaGreatDoor.Pure
namespace Go.Proofs.YtjnfoocmilbdlaaGreatDoor.Pure
set_option linter.unusedSimpArgs false
set_option linter.unusedVariables false
open Go.RowKit Go.Proofs.YtjnfoocmilbdlaaGreatDoor.LFold Go.Proofs.YtjnfoocmilbdlaaGreatDoor.ExtFold Go.Proofs.YtjnfoocmilbdlaaGreatDoor.Fold Go.Proofs.YtjnfoocmilbdlaaGreatDoorW.PrintWords Go.Proofs.YtjnfoocmilbdlaaGreatDoorW.PrintLast Go.Proofs.YtjnfoocmilbdlaaGreatDoor.PureB
open Go.Proofs.YtjnfoocmilbdlaaGreatDoor.Code (bl bl_len bl_get bl_byte Byt bl_son son_bl bl_append bl_extract baseL baseL_len unbL ubT ubN)
open Go.Proofs.YtjnfoocmilbdlaaGreatDoor.Utf (sfV)
def nmc (x : Int) : Bool := decide (33 ≤ x ∧ x ≤ 126 ∧ x ≠ 58)
theorem nmB_two (l : List Int) : nmB l = (l.all nmc && (match l with | [] => false | c :: _ => decide (c ≠ 35))) := by
  cases l with
  | nil => rfl
  | cons c r => simp only [nmB]; rw [Bool.and_comm]; rfl
theorem name_go (s : ByteArray) (hs : s.size ≤ 1000) (d : Nat) : ∀ (k j : Nat), s.size = j + d → d < k → ((bl s).take j).all nmc = true → latinerref15_name.l0 k s (j : Int) = some (nmB (bl s)) := by
  induction d with
  | zero =>
    intro k j hj hk h
    obtain ⟨k, rfl⟩ : ∃ m, k = m + 1 := ⟨k - 1, by omega⟩
    rw [List.take_of_length_le (by rw [bl_len]; omega)] at h
    conv => lhs; rw [latinerref15_name.l0]
    rw [if_neg (by omega), nmB_two, h, Bool.true_and]
    by_cases h0 : bl s = []
    · rw [if_pos (toList_nil.2 (by rw [← bl_len, h0]; rfl)), h0]
    · have hp : 0 < s.size := by have := List.length_pos_iff.2 h0; rw [bl_len] at this; exact this
      have hd := drop_at s 0 hp
      rw [List.drop_zero] at hd
      rw [if_neg (show ¬ s.toList = ([] : List UInt8) from fun e => by rw [toList_nil] at e; omega), if_pos (by omega), hd]
      congr 1
      rw [Bool.eq_iff_iff]
      simp
  | succ d ih =>
    intro k j hj hk h
    obtain ⟨k, rfl⟩ : ∃ m, k = m + 1 := ⟨k - 1, by omega⟩
    have hd := drop_at s j (by omega)
    have hsp := List.take_append_drop j (bl s)
    have no : nmc (bt s (j : Int)) = false → some false = some (nmB (bl s)) := fun q => by
      rw [nmB_two]
      rw [show (bl s).all nmc = false by rw [← hsp, hd, List.all_append, List.all_cons, q]; simp]
      rfl
    conv => lhs; rw [latinerref15_name.l0]
    rw [if_pos (by omega), if_pos (by omega)]
    by_cases h1 : bt s (j : Int) < 33
    · rw [if_pos h1]; exact no (decide_eq_false (by omega))
    · rw [if_neg h1]
      by_cases h2 : bt s (j : Int) > 126
      · rw [if_pos h2]; exact no (decide_eq_false (by omega))
      · rw [if_neg h2]
        by_cases h3 : bt s (j : Int) = 58
        · rw [if_pos h3]; exact no (decide_eq_false (by omega))
        · rw [if_neg h3, w64 (by omega) (by omega)]
          refine ih k (j + 1) (by omega) (by omega) ?_
          rw [List.take_add_one, bl_get s j (by omega), List.all_append, h]
          simp [nmc]
          omega
theorem ref_item (n v : ByteArray) (hn : n.size ≤ 400) (hv : v.size ≤ 400) (k : Nat) (hk : 2000 ≤ k) : latinerref15_Item.f k n v = some (itS n v, itE n) := by
  have h1 : latinerref15_name.f k n = some (nmB (bl n)) := name_go n (by omega) n.size k 0 (by omega) (by omega) (by simp)
  unfold latinerref15_Item.f itS itE
  rw [h1, Option.bind_some]
  cases nmB (bl n) with
  | false => rfl
  | true =>
    rw [if_pos rfl, if_pos rfl, if_pos rfl]
    by_cases hz : v.size = 0
    · rw [if_pos (toList_nil.2 hz), if_pos (by omega), if_pos hz]
    · rw [if_neg (show ¬ v.toList = ([] : List UInt8) from fun e => hz (toList_nil.1 e)), R.ref_safe v (by omega) k (by omega), Option.bind_some, if_neg hz]
      have e2 : (n ++ (⟨#[58, 32]⟩ : ByteArray)).size = n.size + 2 := by rw [ByteArray.size_append]; rfl
      have e3 : (n ++ (⟨#[58, 58, 32]⟩ : ByteArray)).size = n.size + 3 := by rw [ByteArray.size_append]; rfl
      have hl := baseL_len (bl v)
      rw [bl_len] at hl
      by_cases hs : sfV v = true
      · rw [if_pos hs, if_pos hs, if_pos (by omega), if_pos (by omega)]
      · rw [if_neg hs, if_neg hs, if_pos (by omega), R.ref_base v (by omega) k (by omega), Option.bind_some, if_pos (by rw [e3, son_size]; omega)]
theorem ref_blanks : ∀ (n k : Nat) (s : ByteArray), s.size ≤ n → n < k → latinerref15_blanks.l0 k s = some (strOfNums (blanks (bl s)))
  | n, k, s, hn, hk => by
    obtain ⟨k, rfl⟩ : ∃ m, k = m + 1 := ⟨k - 1, by omega⟩
    conv => lhs; rw [latinerref15_blanks.l0]
    by_cases h0 : bl s = []
    · rw [if_pos (toList_nil.2 (by rw [← bl_len, h0]; rfl)), h0]
      exact congrArg some (by rw [← son_bl s, h0]; rfl)
    · have hp : 0 < s.size := by have := List.length_pos_iff.2 h0; rw [bl_len] at this; exact this
      have hd := drop_at s 0 hp
      rw [List.drop_zero] at hd
      rw [if_neg (show ¬ s.toList = ([] : List UInt8) from fun e => by rw [toList_nil] at e; omega), if_pos (by omega)]
      by_cases h32 : bt s 0 = 32
      · rw [if_pos h32, if_pos (by omega)]
        have hx : bl (s.extract 1 s.size) = (bl s).drop 1 := by rw [bl_extract, List.take_of_length_le (by rw [bl_len]; exact Nat.le_refl _)]
        obtain ⟨n, rfl⟩ : ∃ m, n = m + 1 := ⟨n - 1, by omega⟩
        rw [ref_blanks n k _ (by rw [ByteArray.size_extract]; omega) (by omega), hx]
        conv => rhs; rw [hd]
        have h32' : bt s ((0 : Nat) : Int) = 32 := h32
        simp only [blanks, h32', if_true]
      · rw [if_neg h32]
        have : blanks (bl s) = bl s := by
          rw [hd]
          have h32' : ¬ bt s ((0 : Nat) : Int) = 32 := h32
          simp only [blanks, h32', if_false]
        rw [this, son_bl]
def rdP (l : List Int) : ByteArray × ByteArray × Int := (rdName (riR l), rdVal (riR l), rdErr (riR l))
theorem ri_l0 (s : ByteArray) (hs : s.size ≤ 1000) (K d : Nat) : ∀ (j : Nat), s.size = j + d → (58 : Int) ∉ (bl s).take j →
    ∃ k', K ≤ k' ∧ latinerref15_ReadItem.l0 (K + d + 1) s (j : Int) = latinerref15_ReadItem.j1 k' s ((cutL 58 (bl s)).1.length : Int) := by
  induction d with
  | zero =>
    intro j hj h
    rw [List.take_of_length_le (by rw [bl_len]; omega)] at h
    refine ⟨K, Nat.le_refl _, ?_⟩
    conv => lhs; rw [latinerref15_ReadItem.l0]
    rw [if_neg (by omega), cutL_none 58 _ h, bl_len, show s.size = j by omega]
  | succ d ih =>
    intro j hj h
    have hd := drop_at s j (by omega)
    have hsp := List.take_append_drop j (bl s)
    by_cases h58 : bt s (j : Int) = 58
    · refine ⟨K + d + 1, by omega, ?_⟩
      rw [show K + (d + 1) + 1 = (K + d + 1) + 1 by omega]
      conv => lhs; rw [latinerref15_ReadItem.l0]
      rw [if_pos (by omega), if_pos (by omega), if_pos h58]
      rw [hd, h58] at hsp
      have hc := cutL_app 58 _ ((bl s).drop (j + 1)) h
      rw [hsp] at hc
      rw [hc, List.length_take, bl_len, Nat.min_eq_left (by omega)]
    · obtain ⟨k', h1, h2⟩ := ih (j + 1) (by omega) (fun q => by
        rw [List.take_add_one, bl_get s j (by omega)] at q
        rcases List.mem_append.1 q with q | q
        · exact h q
        · simp at q; exact h58 q.symm)
      refine ⟨k', h1, ?_⟩
      rw [show K + (d + 1) + 1 = (K + d + 1) + 1 by omega]
      conv => lhs; rw [latinerref15_ReadItem.l0]
      rw [if_pos (by omega), if_pos (by omega), if_neg h58, w64 (by omega) (by omega)]
      exact h2
theorem ref_read (s : ByteArray) (hs : s.size ≤ 400) (k : Nat) (hk : 5000 ≤ k) : latinerref15_ReadItem.f k s = some (rdP (bl s)) := by
  obtain ⟨k1, hk1, h1⟩ := ri_l0 s (by omega) (k - s.size - 1) s.size 0 (by omega) (by simp)
  rw [show k - s.size - 1 + s.size + 1 = k by omega] at h1
  have h1 : latinerref15_ReadItem.l0 k s 0 = _ := h1
  unfold latinerref15_ReadItem.f
  rw [h1]
  clear h1
  obtain ⟨⟨a, b, f⟩, hc⟩ : ∃ q, cutL 58 (bl s) = q := ⟨_, rfl⟩
  have hln := cutL_len 58 (bl s)
  have hby := cutL_byt 58 (bl s) (bl_byte s)
  rw [hc, bl_len] at hln
  rw [hc] at hby
  have hrP : rdP (bl s) = rdP (bl s) := rfl
  have hri : riR (bl s) = if f = false ∨ a = [] then .error 151 else if st60 b = true then .error 152 else if (unC b).2 = true then (match unbL (blanks (unC b).1) with | none => .error 151 | some t => .ok (a, t)) else if sfV (strOfNums (blanks b)) = true then .ok (a, blanks b) else .error 151 := by
    unfold riR; rw [hc]; all_goals rfl
  rw [hc]
  simp only at hln hby ⊢
  obtain ⟨k2, rfl⟩ : ∃ m, k1 = m + 4 := ⟨k1 - 4, by omega⟩
  have j1e : latinerref15_ReadItem.j1 (k2 + 4) s (a.length : Int) = latinerref15_ReadItem.j2 (k2 + 3) s (a.length : Int) (decide (f = false ∨ a = [])) := by
    conv => lhs; rw [latinerref15_ReadItem.j1]
    by_cases ha : a = []
    · rw [if_pos (by rw [ha]; rfl), decide_eq_true (Or.inr ha)]
    · have h0 : 0 < a.length := List.length_pos_iff.2 ha
      rw [if_neg (by omega)]
      congr 1
      rw [decide_eq_decide]
      constructor
      · intro h
        cases f with
        | false => exact .inl rfl
        | true => have := hln.2.2 rfl; omega
      · rintro (h | h)
        · have := (hln.2.1 h).2; rw [this, bl_len]; omega
        · exact absurd h ha
  rw [j1e]
  unfold rdP
  rw [hri]
  by_cases hg : f = false ∨ a = []
  · rw [decide_eq_true hg, if_pos hg]
    conv => lhs; rw [latinerref15_ReadItem.j2]
    rw [if_pos rfl]
    rfl
  · rw [decide_eq_false hg, if_neg hg]
    have hf : f = true := by cases f with | true => rfl | false => exact absurd (Or.inl rfl) hg
    have hlen := hln.2.2 hf
    have hbs : bl s = a ++ 58 :: b := by
      have : ∀ l : List Int, (cutL 58 l).2.2 = true → l = (cutL 58 l).1 ++ 58 :: (cutL 58 l).2.1 := fun l => by
        induction l with
        | nil => intro h; cases h
        | cons c r ih =>
          simp only [cutL]
          by_cases hcc : c = 58
          · rw [if_pos hcc]; intro _; simp [hcc]
          · rw [if_neg hcc]; intro h
            simp only [List.cons_append]
            rw [← ih h]
      have h2 := this (bl s) (by rw [hc]; exact hf)
      rw [hc] at h2
      exact h2
    have hw : wrap64 ((a.length : Int) + 1) = ((a.length + 1 : Nat) : Int) := by rw [w64 (by omega) (by omega)]; rfl
    have hre : bl (s.extract (a.length + 1) s.size) = b := by
      rw [bl_extract, List.take_of_length_le (by rw [bl_len]; exact Nat.le_refl _), hbs, show a.length + 1 = (a ++ [58]).length by simp, show a ++ 58 :: b = (a ++ [58]) ++ b by simp, List.drop_left]
    have hna : s.extract 0 a.length = strOfNums a := by
      rw [← son_bl (s.extract 0 a.length), bl_extract, List.drop_zero, hbs, List.take_left]
    have e9 : ((a.length + 1 : Nat) : Int).toNat = a.length + 1 := rfl
    have e8 : ((a.length : Nat) : Int).toNat = a.length := rfl
    have hrz : (s.extract (a.length + 1) s.size).size = b.length := by rw [← bl_len, hre]
    have j2e : latinerref15_ReadItem.j2 (k2 + 3) s (a.length : Int) false = latinerref15_ReadItem.j3 (k2 + 2) s (a.length : Int) (s.extract (a.length + 1) s.size) (st60 b) := by
      conv => lhs; rw [latinerref15_ReadItem.j2]
      rw [hw, e9, if_neg (by decide), if_pos (by omega), if_pos (by omega)]
      generalize s.extract (a.length + 1) s.size = r at hre hrz ⊢
      cases hb : b with
      | nil => rw [if_pos (toList_nil.2 (by rw [hrz, hb]; rfl))]; rfl
      | cons c t =>
        have hp : 0 < r.size := by rw [hrz, hb]; simp
        have hd := drop_at r 0 hp
        rw [List.drop_zero, hre, hb] at hd
        rw [if_neg (show ¬ r.toList = ([] : List UInt8) from fun e => by rw [toList_nil] at e; omega), if_pos (by omega), show bt r 0 = c from (List.cons.inj hd).1.symm]
        rfl
    have j3e : st60 b = false → latinerref15_ReadItem.j3 (k2 + 2) s (a.length : Int) (s.extract (a.length + 1) s.size) false = latinerref15_ReadItem.j4 (k2 + 1) s (a.length : Int) (s.extract (a.length + 1) s.size) (unC b).2 := fun _ => by
      conv => lhs; rw [latinerref15_ReadItem.j3]
      rw [if_neg (by decide)]
      generalize s.extract (a.length + 1) s.size = r at hre hrz ⊢
      cases hb : b with
      | nil => rw [if_pos (toList_nil.2 (by rw [hrz, hb]; rfl))]; rfl
      | cons c t =>
        have hp : 0 < r.size := by rw [hrz, hb]; simp
        have hd := drop_at r 0 hp
        rw [List.drop_zero, hre, hb] at hd
        rw [if_neg (show ¬ r.toList = ([] : List UInt8) from fun e => by rw [toList_nil] at e; omega), if_pos (by omega), show bt r 0 = c from (List.cons.inj hd).1.symm]
        congr 1
        unfold unC
        by_cases hcc : c = 58 <;> simp [hcc]
    rw [j2e]
    cases h60 : st60 b with
    | true =>
      conv => lhs; rw [latinerref15_ReadItem.j3]
      rw [if_pos rfl, if_pos rfl]
      rfl
    | false =>
      rw [j3e h60, if_neg (by decide)]
      conv => lhs; rw [latinerref15_ReadItem.j4]
      rw [e8, hna]
      generalize s.extract (a.length + 1) s.size = r at hre hrz ⊢
      cases hu : (unC b).2 with
      | true =>
        obtain ⟨t, rfl⟩ : ∃ t, b = 58 :: t := by
          unfold unC at hu
          cases b with
          | nil => cases hu
          | cons c t =>
            by_cases hcc : c = 58
            · exact ⟨t, by rw [hcc]⟩
            · simp [hcc] at hu
        have hx : bl (r.extract 1 r.size) = t := by rw [bl_extract, List.take_of_length_le (by rw [bl_len]; exact Nat.le_refl _), hre]; rfl
        have hun : (unC (58 :: t)).1 = t := rfl
        have hbt : Byt (blanks t) := blanks_byt t (fun x hx => hby.2 x (by simp [hx]))
        have hzt : (strOfNums (blanks t)).size ≤ 1000 := by rw [son_size]; have := blanks_len t; simp only [List.length_cons] at hlen; omega
        have hbl : latinerref15_blanks.f k2 (r.extract 1 r.size) = some (strOfNums (blanks t)) := by
          have := ref_blanks 1000 k2 (r.extract 1 r.size) (by rw [← bl_len, hx]; simp only [List.length_cons] at hlen; omega) (by omega)
          rw [hx] at this
          exact this
        rw [if_pos rfl, if_pos (by rw [hrz]; simp only [List.length_cons]; omega), hbl, Option.bind_some, R.ref_unbase _ hzt k2 (by omega), Option.bind_some, bl_son _ hbt, if_pos rfl, hun]
        cases unbL (blanks t) with
        | none => rfl
        | some v =>
          show (if (0 : Int) = 0 then _ else _) = _
          rw [if_pos rfl, if_pos (by omega), if_pos (by omega)]
          rfl
      | false =>
        have hbt : Byt (blanks b) := blanks_byt b hby.2
        have hzt : (strOfNums (blanks b)).size ≤ 1000 := by rw [son_size]; have := blanks_len b; omega
        have hbl : latinerref15_blanks.f k2 r = some (strOfNums (blanks b)) := by
          have := ref_blanks 1000 k2 r (by omega) (by omega)
          rw [hre] at this
          exact this
        rw [if_neg (by decide), hbl, Option.bind_some, R.ref_safe _ hzt k2 (by omega), Option.bind_some]
        by_cases hsf : sfV (strOfNums (blanks b)) = true
        · simp only [hsf, if_true, Bool.false_eq_true, if_false]
          rw [if_pos (by omega), if_pos (by omega)]
          rfl
        · simp only [hsf, Bool.false_eq_true, if_false]
          rfl
theorem FoldItems : latinerlaw15_FoldItems.Pure := by
  intro a0 a1 a2 _ _ _
  obtain ⟨n, hn, zn⟩ := short_400 a0
  obtain ⟨v, hv, zv⟩ := short_400 a1
  obtain ⟨s, hs, zs⟩ := short_400 a2
  refine ⟨10000, ?_⟩
  unfold latinerlaw15_FoldItems.f
  rw [shown_k _ (by omega), Option.bind_some, hn, Option.bind_some, hv, Option.bind_some, hs, Option.bind_some, item_f _ _ (by omega) (by omega), Option.bind_some, ref_item n v zn zv _ (by omega), Option.bind_some, read_f _ (by omega), Option.bind_some, ref_read s zs _ (by omega), Option.bind_some]
  unfold rdP
  rw [if_pos rfl, if_pos rfl, if_pos rfl, if_pos rfl, if_pos rfl]
  simp
end Go.Proofs.YtjnfoocmilbdlaaGreatDoor.Pure
/- A claim's hand-over whose walk may also use that the start is shaped: the cell of a package-level variable that the rows do not list is still of its type. -/
namespace Go.Proofs.YtjnfoocmilbdlaaGreatDoor
set_option linter.unusedSimpArgs false
set_option linter.unusedVariables false
namespace HandSh
open Go.RowKit Go.ChangeShapes Go.WideShapes Go.ChangeAt
theorem handed_shaped {H : Type} {enc : TypeId × Value → H} {a : Assume} {C : Checked} {os : Os} {f : FuncId} {fn : Func} {s : ChangeSpec} {conds : List PathCond} {apart fresh handsOn again : Bool} {X : World → Array Value → Prop}
    (hX : ∀ (w w' : World) (args : Array Value), w.heap = w'.heap → X w args → X w' args)
    (own : ownKnob C.prog.godebug = none) (started : os.Started) (noInit : C.prog.inits.idxOf? f = none) (hfn : C.prog.funcs[f]? = some fn)
    (witness : ∃ (w : World) (tape : Tape) (i : Input), w.os = os ∧ (w.forCall tape i).Shaped C.prog ∧ i.vars = [] ∧ Input.okWide C.prog (w.forCall tape i) .any w.heap.size f i ∧
      ((s.pre enc C.prog fn conds apart (w.forCall tape i).memory i.args ∧ X (w.forCall tape i).memory i.args) ∧ sizedMet enc C.prog fn (OpenSpec.ofChange s) apart (w.forCall tape i).memory i.args) ∧ a.holds C.prog (lone (Frame.enter C.prog f i.args .normal) [] (w.forCall tape i)))
    (contract : ∀ (W : World) (base : Nat) (args : Array Value) (ds gs : List (DataW H)) (before : List MemPlace), W.ShapedOpen C.prog →
      (∀ (j : Nat) t v, fn.params[j]? = some t → args[j]? = some v → Value.okWide C.prog W .any base t v) →
      DataW.Whole enc C.prog fn.params.toList s.vars apart W args.toList ds gs before →
      (DataW.weightsEach C.prog (fn.params.toList ++ s.plain.varTypes C.prog) (ds ++ gs)).all (· ≤ reachBytes) = true → X W args →
      Calls C.prog f args W fun e W' => ∃ v, e = .returned v ∧ s.post enc C.prog fn apart fresh handsOn again W args v W') :
    ReturnsInHanded a C os f .any (fun w args => (s.pre enc C.prog fn conds apart w args ∧ X w args) ∧ sizedMet enc C.prog fn (OpenSpec.ofChange s) apart w args) (s.post enc C.prog fn apart fresh handsOn again) :=
  returnsInHanded_of_calls own started noInit witness fun w tape i _ hsh _ hok hpre _ => by
    obtain ⟨_, _, _, g, hg, _, _, _, _, hval⟩ := hok
    obtain rfl : g = fn := Option.some.inj (hg.symm.trans hfn)
    obtain ⟨⟨⟨ds, gs, before, hw, _⟩, hx⟩, hz⟩ := hpre
    have hw' := DataW.Whole.of_heap (w' := w.forCall tape i) (by rfl) hw
    refine (contract _ w.heap.size _ ds gs before hsh hval hw' (hz.weights hw) (hX _ _ _ (by rfl) hx)).mono ?_
    rintro e W' ⟨v, rfl, hp⟩
    exact ChangeSpec.post_blind hp
theorem maxLen_of_shaped {W : World} (h : W.ShapedOpen Tryz.prog) : ∃ M, W.cell? ⟨6, 0, none⟩ = some (.int .i64 M) := Tryz.laysM145.s1_3 W h
end HandSh
end Go.Proofs.YtjnfoocmilbdlaaGreatDoor
