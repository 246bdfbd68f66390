-- Written by this repo's own program over the kit's printer: YtckfglcihelofaaDoor.LCode
import Derived.Test.YtckfglcihelofaaDoorLCodex0
import Derived.Test.YtckfglcihelofaaDoorLCodex1
namespace Go.Proofs.YtckfglcihelofaaDoor.LCode
open Go.Proofs.YtckfglcihelofaaDoor.ExtCode
open Go.RowKit Go.Proofs.YtckfglcihelofaaDoorW.PrintWords Go.Proofs.YtckfglcihelofaaDoorW.PrintLast Go.Proofs.YtckfglcihelofaaDoorW.PrintMore
attribute [local go_sem] max2_int min2_int max_two min_two max_three min_three max_four min_four   -- for this text's walks alone
set_option linter.unusedVariables false
set_option linter.unusedSimpArgs false

/-! ### latinerref05_Unbase: function 29 -/
mutual
def latinerref05_Unbase.l0 : Nat → ByteArray → ByteArray → Int → Option (ByteArray × Int)
  | 0, _, _, _ => none
  | k + 1, x0, x4, x5 => if x5 < (x0.size : Int) then (if 0 ≤ x5 then ((latinerref05_value.f k (bt x0 x5)).bind fun t115 => (if 0 ≤ (wrap64 (x5 + 1)) then (if (wrap64 (x5 + 1)) < (x0.size : Int) then ((latinerref05_value.f k (bt x0 (wrap64 (x5 + 1)))).bind fun t116 => (if 0 ≤ (wrap64 (x5 + 2)) then (if (wrap64 (x5 + 2)) < (x0.size : Int) then ((latinerref05_value.f k (bt x0 (wrap64 (x5 + 2)))).bind fun t117 => (if 0 ≤ (wrap64 (x5 + 3)) then (if (wrap64 (x5 + 3)) < (x0.size : Int) then ((latinerref05_value.f k (bt x0 (wrap64 (x5 + 3)))).bind fun t118 => ((some (([(wrap64 (Int.tdiv (wrap64 ((wrap64 ((wrap64 ((wrap64 (262144 * t115)) + (wrap64 (4096 * t116)))) + (wrap64 (64 * t117)))) + t118)) 65536)) % 256, (Int.tmod (wrap64 (Int.tdiv (wrap64 ((wrap64 ((wrap64 ((wrap64 (262144 * t115)) + (wrap64 (4096 * t116)))) + (wrap64 (64 * t117)))) + t118)) 256)) 256) % 256, (Int.tmod (wrap64 ((wrap64 ((wrap64 ((wrap64 (262144 * t115)) + (wrap64 (4096 * t116)))) + (wrap64 (64 * t117)))) + t118)) 256) % 256] : List Int) : List Int)).bind fun y119 => (if x4.size + (strOfNums y119).size ≤ 9223372036854775807 then (latinerref05_Unbase.l0 k x0 (x4 ++ (strOfNums y119)) (wrap64 (x5 + 4))) else (none)))) else (none)) else (none))) else (none)) else (none))) else (none)) else (none))) else (none)) else (if (x0.size : Int) > 1 then (if 0 ≤ (wrap64 ((x0.size : Int) - 2)) then (if (wrap64 ((x0.size : Int) - 2)) ≤ (x0.size : Int) then (latinerref05_Unbase.j1 k x0 x4 ((x0.extract ((wrap64 ((x0.size : Int) - 2)) : Int).toNat x0.size).toList == ([61, 61] : List UInt8))) else (none)) else (none)) else (latinerref05_Unbase.j1 k x0 x4 false))
def latinerref05_Unbase.j1 : Nat → ByteArray → ByteArray → Bool → Option (ByteArray × Int)
  | 0, _, _, _ => none
  | k + 1, x0, x4, x66 => if x66 = true then (if 0 ≤ (wrap64 ((x4.size : Int) - 2)) then (if (wrap64 ((x4.size : Int) - 2)) ≤ (x4.size : Int) then ((latinerref05_Base.f k (x4.extract 0 ((wrap64 ((x4.size : Int) - 2)) : Int).toNat)).bind fun t122 => (if t122.toList = x0.toList then (some (x4.extract 0 ((wrap64 ((x4.size : Int) - 2)) : Int).toNat, 0)) else (some ((⟨#[]⟩ : ByteArray), 50)))) else (none)) else (none)) else (if (x0.size : Int) > 1 then (if 0 ≤ (wrap64 ((x0.size : Int) - 1)) then (if (wrap64 ((x0.size : Int) - 1)) < (x0.size : Int) then (latinerref05_Unbase.j2 k x0 x4 ((bt x0 (wrap64 ((x0.size : Int) - 1))) == 61)) else (none)) else (none)) else (latinerref05_Unbase.j2 k x0 x4 false))
def latinerref05_Unbase.j2 : Nat → ByteArray → ByteArray → Bool → Option (ByteArray × Int)
  | 0, _, _, _ => none
  | k + 1, x0, x4, x82 => if x82 = true then (if 0 ≤ (wrap64 ((x4.size : Int) - 1)) then (if (wrap64 ((x4.size : Int) - 1)) ≤ (x4.size : Int) then ((latinerref05_Base.f k (x4.extract 0 ((wrap64 ((x4.size : Int) - 1)) : Int).toNat)).bind fun t123 => (if t123.toList = x0.toList then (some (x4.extract 0 ((wrap64 ((x4.size : Int) - 1)) : Int).toNat, 0)) else (some ((⟨#[]⟩ : ByteArray), 50)))) else (none)) else (none)) else ((latinerref05_Base.f k x4).bind fun t124 => (if t124.toList = x0.toList then (some (x4, 0)) else (some ((⟨#[]⟩ : ByteArray), 50))))
end
def latinerref05_Unbase.f (k : Nat) (a0 : ByteArray) : Option (ByteArray × Int) := if ((a0.size : Int) % 4) = 0 then (latinerref05_Unbase.l0 k a0 (⟨#[]⟩ : ByteArray) 0) else (some ((⟨#[]⟩ : ByteArray), 50))
theorem latinerref05_Unbase.mono_l : ∀ k, (∀ y0 y1 y2, LeO (latinerref05_Unbase.l0 k y0 y1 y2) (latinerref05_Unbase.l0 (k + 1) y0 y1 y2)) ∧ (∀ y0 y1 y2, LeO (latinerref05_Unbase.j1 k y0 y1 y2) (latinerref05_Unbase.j1 (k + 1) y0 y1 y2)) ∧ (∀ y0 y1 y2, LeO (latinerref05_Unbase.j2 k y0 y1 y2) (latinerref05_Unbase.j2 (k + 1) y0 y1 y2))
  | 0 => ⟨fun _ _ _ r h => by simp [latinerref05_Unbase.l0] at h, fun _ _ _ r h => by simp [latinerref05_Unbase.j1] at h, fun _ _ _ r h => by simp [latinerref05_Unbase.j2] at h⟩
  | k + 1 => by
    obtain ⟨ih0, ih1, ih2⟩ := latinerref05_Unbase.mono_l k
    refine ⟨?_, ?_, ?_⟩
    · intro y0 y1 y2
      unfold latinerref05_Unbase.l0
      repeat' first
      | (with_reducible exact ih0 _ _ _)
      | (with_reducible exact ih1 _ _ _)
      | (with_reducible exact ih2 _ _ _)
      | (with_reducible exact latinerref05_Base.mono _ _)
      | (with_reducible exact latinerref05_value.mono _ _)
      | (with_reducible exact LeO.refl _)
      | (with_reducible exact LeO.none _)
      | (with_reducible refine LeO.ite ?_ ?_)
      | (with_reducible refine LeO.bind ?_ (fun _ => ?_))
      | exact ih0 _ _ _
      | exact ih1 _ _ _
      | exact ih2 _ _ _
      | exact latinerref05_Base.mono _ _
      | exact latinerref05_value.mono _ _
      | exact LeO.none _
      | refine LeO.ite ?_ ?_
      | refine LeO.bind ?_ (fun _ => ?_)
    · intro y0 y1 y2
      unfold latinerref05_Unbase.j1
      repeat' first
      | (with_reducible exact ih0 _ _ _)
      | (with_reducible exact ih1 _ _ _)
      | (with_reducible exact ih2 _ _ _)
      | (with_reducible exact latinerref05_Base.mono _ _)
      | (with_reducible exact latinerref05_value.mono _ _)
      | (with_reducible exact LeO.refl _)
      | (with_reducible exact LeO.none _)
      | (with_reducible refine LeO.ite ?_ ?_)
      | (with_reducible refine LeO.bind ?_ (fun _ => ?_))
      | exact ih0 _ _ _
      | exact ih1 _ _ _
      | exact ih2 _ _ _
      | exact latinerref05_Base.mono _ _
      | exact latinerref05_value.mono _ _
      | exact LeO.none _
      | refine LeO.ite ?_ ?_
      | refine LeO.bind ?_ (fun _ => ?_)
    · intro y0 y1 y2
      unfold latinerref05_Unbase.j2
      repeat' first
      | (with_reducible exact ih0 _ _ _)
      | (with_reducible exact ih1 _ _ _)
      | (with_reducible exact ih2 _ _ _)
      | (with_reducible exact latinerref05_Base.mono _ _)
      | (with_reducible exact latinerref05_value.mono _ _)
      | (with_reducible exact LeO.refl _)
      | (with_reducible exact LeO.none _)
      | (with_reducible refine LeO.ite ?_ ?_)
      | (with_reducible refine LeO.bind ?_ (fun _ => ?_))
      | exact ih0 _ _ _
      | exact ih1 _ _ _
      | exact ih2 _ _ _
      | exact latinerref05_Base.mono _ _
      | exact latinerref05_value.mono _ _
      | exact LeO.none _
      | refine LeO.ite ?_ ?_
      | refine LeO.bind ?_ (fun _ => ?_)
theorem latinerref05_Unbase.mono : ∀ a0 k, LeO (latinerref05_Unbase.f k a0) (latinerref05_Unbase.f (k + 1) a0) := by
  intro a0 k
  obtain ⟨ih0, ih1, ih2⟩ := latinerref05_Unbase.mono_l k
  unfold latinerref05_Unbase.f
  repeat' first
      | (with_reducible exact ih0 _ _ _)
      | (with_reducible exact ih1 _ _ _)
      | (with_reducible exact ih2 _ _ _)
      | (with_reducible exact latinerref05_Base.mono _ _)
      | (with_reducible exact latinerref05_value.mono _ _)
      | (with_reducible exact LeO.refl _)
      | (with_reducible exact LeO.none _)
      | (with_reducible refine LeO.ite ?_ ?_)
      | (with_reducible refine LeO.bind ?_ (fun _ => ?_))
      | exact ih0 _ _ _
      | exact ih1 _ _ _
      | exact ih2 _ _ _
      | exact latinerref05_Base.mono _ _
      | exact latinerref05_value.mono _ _
      | exact LeO.none _
      | refine LeO.ite ?_ ?_
      | refine LeO.bind ?_ (fun _ => ?_)
set_option maxHeartbeats 8000000 in
set_option maxRecDepth 100000 in
theorem latinerref05_Unbase.calls (k : Nat) (a0 : ByteArray) (r1 : ByteArray) (r2 : Int) (w : World) (h : latinerref05_Unbase.f k a0 = some (r1, r2)) :
    Calls Tryd.prog 29 #[.string a0] w fun e w' => e = .returned (.tuple #[.string r1, .int .i64 r2]) ∧ Below w.heap.size w w' := by
  have HB := Aside0.mk (Below.refl w.heap.size w)
  have H : (if ((a0.size : Int) % 4) = 0 then (latinerref05_Unbase.l0 k a0 (⟨#[]⟩ : ByteArray) 0) else (some ((⟨#[]⟩ : ByteArray), 50))) = some (r1, r2) := h
  clear h
  by_cases c2 : ((a0.size : Int) % 4) = 0
  · rw [if_pos c2] at H
    have c2b0 : (((a0.size : Int) % 4) == 0) = true := beq_iff_eq.mpr c2
    have c2b1 : (((a0.size : Int) % 4) != 0) = false := bne_eq_false_iff_eq.mpr c2
    clear c2
    have H' := Aside0.mk H
    clear H
    go_enter Tryd.func29, Tryd.ntmps29
    go_wp2
    repeat (go_quiet (fail); try go_wp2)
    go_loopg [4, 5] k (fun kq v4 v5 w' => ∃ (x4_1 : ByteArray) (x5_1 : Int), v4 = .string x4_1 ∧ v5 = .int .i64 x5_1 ∧ Aside0 (latinerref05_Unbase.l0 kq a0 x4_1 x5_1 = some (r1, r2)) ∧ Aside0 (kq ≤ k) ∧ Aside0 (Below w.heap.size w w'))
    case atStart => exact ⟨((⟨#[]⟩ : ByteArray)), (0), (by first | rfl | (simp; done) | (simp [*]; done)), (by first | rfl | (simp; done) | (simp [*]; done)), H', ⟨Nat.le_refl _⟩, ⟨by repeat (first | (with_reducible first | exact HB.out | apply below_alloc | apply pw_below_drewN | apply below_drew1) | exact HB.out)⟩⟩
    case round =>
      clear H'
      try clear c2
      try clear c2b0
      try clear c2b1
      try clear p2
      obtain ⟨x4_1, x5_1, rfl, rfl, HA, HK1, HB⟩ := hrel
      cases gk with
      | zero => exact absurd HA.out (by simp [latinerref05_Unbase.l0])
      | succ k1 =>
        have H := HA.out
        clear HA
        simp only [latinerref05_Unbase.l0] at H
        by_cases c3 : x5_1 < (a0.size : Int)
        · rw [if_pos c3] at H
          have c3b0 : decide (x5_1 < (a0.size : Int)) = true := decide_eq_true c3
          clear c3
          by_cases c4 : 0 ≤ x5_1
          · rw [if_pos c4] at H
            have c4b0 : decide (0 ≤ x5_1) = true := decide_eq_true c4
            clear c4
            replace H := Option.bind_eq_some_iff.mp H
            obtain ⟨t115, A60, H⟩ := H
            replace H : (if 0 ≤ (wrap64 (x5_1 + 1)) then (if (wrap64 (x5_1 + 1)) < (a0.size : Int) then ((latinerref05_value.f k1 (bt a0 (wrap64 (x5_1 + 1)))).bind fun t116 => (if 0 ≤ (wrap64 (x5_1 + 2)) then (if (wrap64 (x5_1 + 2)) < (a0.size : Int) then ((latinerref05_value.f k1 (bt a0 (wrap64 (x5_1 + 2)))).bind fun t117 => (if 0 ≤ (wrap64 (x5_1 + 3)) then (if (wrap64 (x5_1 + 3)) < (a0.size : Int) then ((latinerref05_value.f k1 (bt a0 (wrap64 (x5_1 + 3)))).bind fun t118 => ((some (([(wrap64 (Int.tdiv (wrap64 ((wrap64 ((wrap64 ((wrap64 (262144 * t115)) + (wrap64 (4096 * t116)))) + (wrap64 (64 * t117)))) + t118)) 65536)) % 256, (Int.tmod (wrap64 (Int.tdiv (wrap64 ((wrap64 ((wrap64 ((wrap64 (262144 * t115)) + (wrap64 (4096 * t116)))) + (wrap64 (64 * t117)))) + t118)) 256)) 256) % 256, (Int.tmod (wrap64 ((wrap64 ((wrap64 ((wrap64 (262144 * t115)) + (wrap64 (4096 * t116)))) + (wrap64 (64 * t117)))) + t118)) 256) % 256] : List Int) : List Int)).bind fun y119 => (if x4_1.size + (strOfNums y119).size ≤ 9223372036854775807 then (latinerref05_Unbase.l0 k1 a0 (x4_1 ++ (strOfNums y119)) (wrap64 (x5_1 + 4))) else (none)))) else (none)) else (none))) else (none)) else (none))) else (none)) else (none)) = some (r1, r2) := H
            have A6 := Aside0.mk A60
            clear A60
            obtain ⟨ji7, hji7⟩ : ∃ j_ : Int, (wrap64 (x5_1 + 1)) = j_ := ⟨_, rfl⟩
            replace H : (if 0 ≤ (ji7) then (if (ji7) < (a0.size : Int) then ((latinerref05_value.f k1 (bt a0 (ji7))).bind fun t116 => (if 0 ≤ (wrap64 (x5_1 + 2)) then (if (wrap64 (x5_1 + 2)) < (a0.size : Int) then ((latinerref05_value.f k1 (bt a0 (wrap64 (x5_1 + 2)))).bind fun t117 => (if 0 ≤ (wrap64 (x5_1 + 3)) then (if (wrap64 (x5_1 + 3)) < (a0.size : Int) then ((latinerref05_value.f k1 (bt a0 (wrap64 (x5_1 + 3)))).bind fun t118 => ((some (([(wrap64 (Int.tdiv (wrap64 ((wrap64 ((wrap64 ((wrap64 (262144 * t115)) + (wrap64 (4096 * t116)))) + (wrap64 (64 * t117)))) + t118)) 65536)) % 256, (Int.tmod (wrap64 (Int.tdiv (wrap64 ((wrap64 ((wrap64 ((wrap64 (262144 * t115)) + (wrap64 (4096 * t116)))) + (wrap64 (64 * t117)))) + t118)) 256)) 256) % 256, (Int.tmod (wrap64 ((wrap64 ((wrap64 ((wrap64 (262144 * t115)) + (wrap64 (4096 * t116)))) + (wrap64 (64 * t117)))) + t118)) 256) % 256] : List Int) : List Int)).bind fun y119 => (if x4_1.size + (strOfNums y119).size ≤ 9223372036854775807 then (latinerref05_Unbase.l0 k1 a0 (x4_1 ++ (strOfNums y119)) (wrap64 (x5_1 + 4))) else (none)))) else (none)) else (none))) else (none)) else (none))) else (none)) else (none)) = some (r1, r2) := by first | (rw [hji7] at H; exact H) | (simp only [hji7] at H ⊢; exact H)
            (try rw [hji7] at A6)
            have hji7w : (IntKind.i64.wrap (x5_1 + 1)) = ji7 := (i64_w _).trans hji7
            by_cases c8 : 0 ≤ (ji7)
            · rw [if_pos c8] at H
              have c8b0 : decide (0 ≤ (ji7)) = true := decide_eq_true c8
              clear c8
              by_cases c9 : (ji7) < (a0.size : Int)
              · rw [if_pos c9] at H
                have c9b0 : decide ((ji7) < (a0.size : Int)) = true := decide_eq_true c9
                clear c9
                replace H := Option.bind_eq_some_iff.mp H
                obtain ⟨t116, A110, H⟩ := H
                replace H : (if 0 ≤ (wrap64 (x5_1 + 2)) then (if (wrap64 (x5_1 + 2)) < (a0.size : Int) then ((latinerref05_value.f k1 (bt a0 (wrap64 (x5_1 + 2)))).bind fun t117 => (if 0 ≤ (wrap64 (x5_1 + 3)) then (if (wrap64 (x5_1 + 3)) < (a0.size : Int) then ((latinerref05_value.f k1 (bt a0 (wrap64 (x5_1 + 3)))).bind fun t118 => ((some (([(wrap64 (Int.tdiv (wrap64 ((wrap64 ((wrap64 ((wrap64 (262144 * t115)) + (wrap64 (4096 * t116)))) + (wrap64 (64 * t117)))) + t118)) 65536)) % 256, (Int.tmod (wrap64 (Int.tdiv (wrap64 ((wrap64 ((wrap64 ((wrap64 (262144 * t115)) + (wrap64 (4096 * t116)))) + (wrap64 (64 * t117)))) + t118)) 256)) 256) % 256, (Int.tmod (wrap64 ((wrap64 ((wrap64 ((wrap64 (262144 * t115)) + (wrap64 (4096 * t116)))) + (wrap64 (64 * t117)))) + t118)) 256) % 256] : List Int) : List Int)).bind fun y119 => (if x4_1.size + (strOfNums y119).size ≤ 9223372036854775807 then (latinerref05_Unbase.l0 k1 a0 (x4_1 ++ (strOfNums y119)) (wrap64 (x5_1 + 4))) else (none)))) else (none)) else (none))) else (none)) else (none)) = some (r1, r2) := H
                have A11 := Aside0.mk A110
                clear A110
                obtain ⟨ji12, hji12⟩ : ∃ j_ : Int, (wrap64 (x5_1 + 2)) = j_ := ⟨_, rfl⟩
                replace H : (if 0 ≤ (ji12) then (if (ji12) < (a0.size : Int) then ((latinerref05_value.f k1 (bt a0 (ji12))).bind fun t117 => (if 0 ≤ (wrap64 (x5_1 + 3)) then (if (wrap64 (x5_1 + 3)) < (a0.size : Int) then ((latinerref05_value.f k1 (bt a0 (wrap64 (x5_1 + 3)))).bind fun t118 => ((some (([(wrap64 (Int.tdiv (wrap64 ((wrap64 ((wrap64 ((wrap64 (262144 * t115)) + (wrap64 (4096 * t116)))) + (wrap64 (64 * t117)))) + t118)) 65536)) % 256, (Int.tmod (wrap64 (Int.tdiv (wrap64 ((wrap64 ((wrap64 ((wrap64 (262144 * t115)) + (wrap64 (4096 * t116)))) + (wrap64 (64 * t117)))) + t118)) 256)) 256) % 256, (Int.tmod (wrap64 ((wrap64 ((wrap64 ((wrap64 (262144 * t115)) + (wrap64 (4096 * t116)))) + (wrap64 (64 * t117)))) + t118)) 256) % 256] : List Int) : List Int)).bind fun y119 => (if x4_1.size + (strOfNums y119).size ≤ 9223372036854775807 then (latinerref05_Unbase.l0 k1 a0 (x4_1 ++ (strOfNums y119)) (wrap64 (x5_1 + 4))) else (none)))) else (none)) else (none))) else (none)) else (none)) = some (r1, r2) := by first | (rw [hji12] at H; exact H) | (simp only [hji12] at H ⊢; exact H)
                (try rw [hji12] at A6)
                (try rw [hji12] at A11)
                have hji12w : (IntKind.i64.wrap (x5_1 + 2)) = ji12 := (i64_w _).trans hji12
                by_cases c13 : 0 ≤ (ji12)
                · rw [if_pos c13] at H
                  have c13b0 : decide (0 ≤ (ji12)) = true := decide_eq_true c13
                  clear c13
                  by_cases c14 : (ji12) < (a0.size : Int)
                  · rw [if_pos c14] at H
                    have c14b0 : decide ((ji12) < (a0.size : Int)) = true := decide_eq_true c14
                    clear c14
                    replace H := Option.bind_eq_some_iff.mp H
                    obtain ⟨t117, A160, H⟩ := H
                    replace H : (if 0 ≤ (wrap64 (x5_1 + 3)) then (if (wrap64 (x5_1 + 3)) < (a0.size : Int) then ((latinerref05_value.f k1 (bt a0 (wrap64 (x5_1 + 3)))).bind fun t118 => ((some (([(wrap64 (Int.tdiv (wrap64 ((wrap64 ((wrap64 ((wrap64 (262144 * t115)) + (wrap64 (4096 * t116)))) + (wrap64 (64 * t117)))) + t118)) 65536)) % 256, (Int.tmod (wrap64 (Int.tdiv (wrap64 ((wrap64 ((wrap64 ((wrap64 (262144 * t115)) + (wrap64 (4096 * t116)))) + (wrap64 (64 * t117)))) + t118)) 256)) 256) % 256, (Int.tmod (wrap64 ((wrap64 ((wrap64 ((wrap64 (262144 * t115)) + (wrap64 (4096 * t116)))) + (wrap64 (64 * t117)))) + t118)) 256) % 256] : List Int) : List Int)).bind fun y119 => (if x4_1.size + (strOfNums y119).size ≤ 9223372036854775807 then (latinerref05_Unbase.l0 k1 a0 (x4_1 ++ (strOfNums y119)) (wrap64 (x5_1 + 4))) else (none)))) else (none)) else (none)) = some (r1, r2) := H
                    have A16 := Aside0.mk A160
                    clear A160
                    obtain ⟨ji17, hji17⟩ : ∃ j_ : Int, (wrap64 (x5_1 + 3)) = j_ := ⟨_, rfl⟩
                    replace H : (if 0 ≤ (ji17) then (if (ji17) < (a0.size : Int) then ((latinerref05_value.f k1 (bt a0 (ji17))).bind fun t118 => ((some (([(wrap64 (Int.tdiv (wrap64 ((wrap64 ((wrap64 ((wrap64 (262144 * t115)) + (wrap64 (4096 * t116)))) + (wrap64 (64 * t117)))) + t118)) 65536)) % 256, (Int.tmod (wrap64 (Int.tdiv (wrap64 ((wrap64 ((wrap64 ((wrap64 (262144 * t115)) + (wrap64 (4096 * t116)))) + (wrap64 (64 * t117)))) + t118)) 256)) 256) % 256, (Int.tmod (wrap64 ((wrap64 ((wrap64 ((wrap64 (262144 * t115)) + (wrap64 (4096 * t116)))) + (wrap64 (64 * t117)))) + t118)) 256) % 256] : List Int) : List Int)).bind fun y119 => (if x4_1.size + (strOfNums y119).size ≤ 9223372036854775807 then (latinerref05_Unbase.l0 k1 a0 (x4_1 ++ (strOfNums y119)) (wrap64 (x5_1 + 4))) else (none)))) else (none)) else (none)) = some (r1, r2) := by first | (rw [hji17] at H; exact H) | (simp only [hji17] at H ⊢; exact H)
                    (try rw [hji17] at A6)
                    (try rw [hji17] at A11)
                    (try rw [hji17] at A16)
                    have hji17w : (IntKind.i64.wrap (x5_1 + 3)) = ji17 := (i64_w _).trans hji17
                    by_cases c18 : 0 ≤ (ji17)
                    · rw [if_pos c18] at H
                      have c18b0 : decide (0 ≤ (ji17)) = true := decide_eq_true c18
                      clear c18
                      by_cases c19 : (ji17) < (a0.size : Int)
                      · rw [if_pos c19] at H
                        have c19b0 : decide ((ji17) < (a0.size : Int)) = true := decide_eq_true c19
                        clear c19
                        replace H := Option.bind_eq_some_iff.mp H
                        obtain ⟨t118, A210, H⟩ := H
                        replace H : ((some (([(wrap64 (Int.tdiv (wrap64 ((wrap64 ((wrap64 ((wrap64 (262144 * t115)) + (wrap64 (4096 * t116)))) + (wrap64 (64 * t117)))) + t118)) 65536)) % 256, (Int.tmod (wrap64 (Int.tdiv (wrap64 ((wrap64 ((wrap64 ((wrap64 (262144 * t115)) + (wrap64 (4096 * t116)))) + (wrap64 (64 * t117)))) + t118)) 256)) 256) % 256, (Int.tmod (wrap64 ((wrap64 ((wrap64 ((wrap64 (262144 * t115)) + (wrap64 (4096 * t116)))) + (wrap64 (64 * t117)))) + t118)) 256) % 256] : List Int) : List Int)).bind fun y119 => (if x4_1.size + (strOfNums y119).size ≤ 9223372036854775807 then (latinerref05_Unbase.l0 k1 a0 (x4_1 ++ (strOfNums y119)) (wrap64 (x5_1 + 4))) else (none))) = some (r1, r2) := H
                        have A21 := Aside0.mk A210
                        clear A210
                        obtain ⟨y119, hy119⟩ : ∃ y_ : List Int, y_ = (([(wrap64 (Int.tdiv (wrap64 ((wrap64 ((wrap64 ((wrap64 (262144 * t115)) + (wrap64 (4096 * t116)))) + (wrap64 (64 * t117)))) + t118)) 65536)) % 256, (Int.tmod (wrap64 (Int.tdiv (wrap64 ((wrap64 ((wrap64 ((wrap64 (262144 * t115)) + (wrap64 (4096 * t116)))) + (wrap64 (64 * t117)))) + t118)) 256)) 256) % 256, (Int.tmod (wrap64 ((wrap64 ((wrap64 ((wrap64 (262144 * t115)) + (wrap64 (4096 * t116)))) + (wrap64 (64 * t117)))) + t118)) 256) % 256] : List Int)) := ⟨_, rfl⟩
                        replace H : (if x4_1.size + (strOfNums y119).size ≤ 9223372036854775807 then (latinerref05_Unbase.l0 k1 a0 (x4_1 ++ (strOfNums y119)) (wrap64 (x5_1 + 4))) else (none)) = some (r1, r2) := by first | (rw [hy119]; with_reducible exact H) | (have H2_ := (Option.bind_some _ _).symm.trans H; rw [hy119]; with_reducible exact H2_) | (have H2_ := (Option.bind_some _ _).symm.trans H; with_reducible exact H2_) | with_reducible exact H | (rw [hy119]; exact H) | exact H
                        have Ny119 := Aside0.mk hy119
                        clear hy119
                        by_cases c22 : x4_1.size + (strOfNums y119).size ≤ 9223372036854775807
                        · rw [if_pos c22] at H
                          have c22b0 := eq_true c22
                          have c22b1 : decide (x4_1.size + (strOfNums y119).size ≤ 9223372036854775807) = true := decide_eq_true c22
                          try have c22b2 : (9223372036854775807 < x4_1.size + (strOfNums y119).size) = False := eq_false (Nat.not_lt.2 c22)
                          have H' := Aside0.mk H
                          clear H
                          have p5 : 0 ≤ (x5_1 : Int) := of_decide_eq_true (by first | (with_reducible assumption) | assumption)
                          have q5 : x5_1 < (a0.size : Int) := of_decide_eq_true (by first | (with_reducible assumption) | assumption)
                          have hx5 := bt_at a0 x5_1
                          replace p5 := eq_true p5
                          replace q5 := eq_true q5
                          go_wp2_with (first | (go_at_call 47; (with_reducible refine (latinerref05_value.calls k1 (bt a0 x5_1) t115 _ A6.out).mono ?_); rintro e w' ⟨rfl, ⟨nd, rfl⟩⟩; (try first | exact ⟨rfl, _, World.drewN_drewN _ _ _⟩ | exact ⟨rfl, _, Eq.trans (World.drewN_drewN _ _ _) (congrArg (World.drewN _) (Nat.add_assoc _ _ _))⟩); have p10 : 0 ≤ ((ji7) : Int) := of_decide_eq_true (by first | (with_reducible assumption) | assumption); have q10 : (ji7) < (a0.size : Int) := of_decide_eq_true (by first | (with_reducible assumption) | assumption); have hx10 := bt_at a0 (ji7); replace p10 := eq_true p10; replace q10 := eq_true q10) | (go_at_call 47; (with_reducible refine (latinerref05_value.calls k1 (bt a0 (ji7)) t116 _ A11.out).mono ?_); rintro e w' ⟨rfl, ⟨nd, rfl⟩⟩; (try first | exact ⟨rfl, _, World.drewN_drewN _ _ _⟩ | exact ⟨rfl, _, Eq.trans (World.drewN_drewN _ _ _) (congrArg (World.drewN _) (Nat.add_assoc _ _ _))⟩); have p15 : 0 ≤ ((ji12) : Int) := of_decide_eq_true (by first | (with_reducible assumption) | assumption); have q15 : (ji12) < (a0.size : Int) := of_decide_eq_true (by first | (with_reducible assumption) | assumption); have hx15 := bt_at a0 (ji12); replace p15 := eq_true p15; replace q15 := eq_true q15) | (go_at_call 47; (with_reducible refine (latinerref05_value.calls k1 (bt a0 (ji12)) t117 _ A16.out).mono ?_); rintro e w' ⟨rfl, ⟨nd, rfl⟩⟩; (try first | exact ⟨rfl, _, World.drewN_drewN _ _ _⟩ | exact ⟨rfl, _, Eq.trans (World.drewN_drewN _ _ _) (congrArg (World.drewN _) (Nat.add_assoc _ _ _))⟩); have p20 : 0 ≤ ((ji17) : Int) := of_decide_eq_true (by first | (with_reducible assumption) | assumption); have q20 : (ji17) < (a0.size : Int) := of_decide_eq_true (by first | (with_reducible assumption) | assumption); have hx20 := bt_at a0 (ji17); replace p20 := eq_true p20; replace q20 := eq_true q20) | (go_at_call 47; (with_reducible refine (latinerref05_value.calls k1 (bt a0 (ji17)) t118 _ A21.out).mono ?_); rintro e w' ⟨rfl, ⟨nd, rfl⟩⟩; (try first | exact ⟨rfl, _, World.drewN_drewN _ _ _⟩ | exact ⟨rfl, _, Eq.trans (World.drewN_drewN _ _ _) (congrArg (World.drewN _) (Nat.add_assoc _ _ _))⟩)) | ((with_reducible refine gate_dst (N := 53) rfl ?_); (try (refine gate_guard (by rfl) ?_; dsimp only)); refine Kd.R_lit (Kd.int .u8) _ 5 ?hg (N := 53) ?hd (xs := ([(wrap64 (Int.tdiv (wrap64 ((wrap64 ((wrap64 ((wrap64 (262144 * t115)) + (wrap64 (4096 * t116)))) + (wrap64 (64 * t117)))) + t118)) 65536)) % 256, (Int.tmod (wrap64 (Int.tdiv (wrap64 ((wrap64 ((wrap64 ((wrap64 (262144 * t115)) + (wrap64 (4096 * t116)))) + (wrap64 (64 * t117)))) + t118)) 256)) 256) % 256, (Int.tmod (wrap64 ((wrap64 ((wrap64 ((wrap64 (262144 * t115)) + (wrap64 (4096 * t116)))) + (wrap64 (64 * t117)))) + t118)) 256) % 256] : List Int)) (inner := [.int .u8 ((wrap64 (Int.tdiv (wrap64 ((wrap64 ((wrap64 ((wrap64 (262144 * t115)) + (wrap64 (4096 * t116)))) + (wrap64 (64 * t117)))) + t118)) 65536)) % 256), .int .u8 ((Int.tmod (wrap64 (Int.tdiv (wrap64 ((wrap64 ((wrap64 ((wrap64 (262144 * t115)) + (wrap64 (4096 * t116)))) + (wrap64 (64 * t117)))) + t118)) 256)) 256) % 256), .int .u8 ((Int.tmod (wrap64 ((wrap64 ((wrap64 ((wrap64 (262144 * t115)) + (wrap64 (4096 * t116)))) + (wrap64 (64 * t117)))) + t118)) 256) % 256)]) (ok := fun _ => True) (okp := fun _ => True) ?hr ?hp (fun _ hk => hk) trivial (Below.refl _ _) (Nat.le_refl _) (by simp) ?_; (case hd => rfl); (case hg => rfl); (case hr => first | (go_simp; done) | (go_simp; rfl)); (case hp => exact (Reps.one (show Kd.M (Kd.int .u8) _ _ _ ((wrap64 (Int.tdiv (wrap64 ((wrap64 ((wrap64 ((wrap64 (262144 * t115)) + (wrap64 (4096 * t116)))) + (wrap64 (64 * t117)))) + t118)) 65536)) % 256) [.int .u8 ((wrap64 (Int.tdiv (wrap64 ((wrap64 ((wrap64 ((wrap64 (262144 * t115)) + (wrap64 (4096 * t116)))) + (wrap64 (64 * t117)))) + t118)) 65536)) % 256)] from rfl) (Reps.one (show Kd.M (Kd.int .u8) _ _ _ ((Int.tmod (wrap64 (Int.tdiv (wrap64 ((wrap64 ((wrap64 ((wrap64 (262144 * t115)) + (wrap64 (4096 * t116)))) + (wrap64 (64 * t117)))) + t118)) 256)) 256) % 256) [.int .u8 ((Int.tmod (wrap64 (Int.tdiv (wrap64 ((wrap64 ((wrap64 ((wrap64 (262144 * t115)) + (wrap64 (4096 * t116)))) + (wrap64 (64 * t117)))) + t118)) 256)) 256) % 256)] from rfl) (Reps.one (show Kd.M (Kd.int .u8) _ _ _ ((Int.tmod (wrap64 ((wrap64 ((wrap64 ((wrap64 (262144 * t115)) + (wrap64 (4096 * t116)))) + (wrap64 (64 * t117)))) + t118)) 256) % 256) [.int .u8 ((Int.tmod (wrap64 ((wrap64 ((wrap64 ((wrap64 (262144 * t115)) + (wrap64 (4096 * t116)))) + (wrap64 (64 * t117)))) + t118)) 256) % 256)] from rfl) (Reps.none _ _))))); intro v120 w23 ho24 hb hg_ hnew_; clear hg_ hnew_; (first | rw [← Ny119.out] at ho24 | (simp only [Int.reduceToNat] at ho24; rw [← Ny119.out] at ho24)); have n0_ := Aside0.mk (Kd.R_lower ho24 (below_size (by repeat (first | (with_reducible first | exact HB.out | apply below_alloc | apply pw_below_drewN | apply below_drew1) | exact HB.out)))); have n1_ := Aside0.mk (below_step (by repeat (first | (with_reducible first | exact HB.out | apply below_alloc | apply pw_below_drewN | apply below_drew1) | exact HB.out)) hb); clear HB; have HO121 := n0_; have HB := n1_; clear n0_ n1_; clear hb ho24; have hcv25 := own_string (P := Tryd.prog) Tryd.underlying29 Tryd.underlying5 Tryd.underlying9 (Kd.own_of_R HO121.out)))
                          repeat (go_quiet (first | (go_at_call 47; (with_reducible refine (latinerref05_value.calls k1 (bt a0 x5_1) t115 _ A6.out).mono ?_); rintro e w' ⟨rfl, ⟨nd, rfl⟩⟩; (try first | exact ⟨rfl, _, World.drewN_drewN _ _ _⟩ | exact ⟨rfl, _, Eq.trans (World.drewN_drewN _ _ _) (congrArg (World.drewN _) (Nat.add_assoc _ _ _))⟩); have p10 : 0 ≤ ((ji7) : Int) := of_decide_eq_true (by first | (with_reducible assumption) | assumption); have q10 : (ji7) < (a0.size : Int) := of_decide_eq_true (by first | (with_reducible assumption) | assumption); have hx10 := bt_at a0 (ji7); replace p10 := eq_true p10; replace q10 := eq_true q10) | (go_at_call 47; (with_reducible refine (latinerref05_value.calls k1 (bt a0 (ji7)) t116 _ A11.out).mono ?_); rintro e w' ⟨rfl, ⟨nd, rfl⟩⟩; (try first | exact ⟨rfl, _, World.drewN_drewN _ _ _⟩ | exact ⟨rfl, _, Eq.trans (World.drewN_drewN _ _ _) (congrArg (World.drewN _) (Nat.add_assoc _ _ _))⟩); have p15 : 0 ≤ ((ji12) : Int) := of_decide_eq_true (by first | (with_reducible assumption) | assumption); have q15 : (ji12) < (a0.size : Int) := of_decide_eq_true (by first | (with_reducible assumption) | assumption); have hx15 := bt_at a0 (ji12); replace p15 := eq_true p15; replace q15 := eq_true q15) | (go_at_call 47; (with_reducible refine (latinerref05_value.calls k1 (bt a0 (ji12)) t117 _ A16.out).mono ?_); rintro e w' ⟨rfl, ⟨nd, rfl⟩⟩; (try first | exact ⟨rfl, _, World.drewN_drewN _ _ _⟩ | exact ⟨rfl, _, Eq.trans (World.drewN_drewN _ _ _) (congrArg (World.drewN _) (Nat.add_assoc _ _ _))⟩); have p20 : 0 ≤ ((ji17) : Int) := of_decide_eq_true (by first | (with_reducible assumption) | assumption); have q20 : (ji17) < (a0.size : Int) := of_decide_eq_true (by first | (with_reducible assumption) | assumption); have hx20 := bt_at a0 (ji17); replace p20 := eq_true p20; replace q20 := eq_true q20) | (go_at_call 47; (with_reducible refine (latinerref05_value.calls k1 (bt a0 (ji17)) t118 _ A21.out).mono ?_); rintro e w' ⟨rfl, ⟨nd, rfl⟩⟩; (try first | exact ⟨rfl, _, World.drewN_drewN _ _ _⟩ | exact ⟨rfl, _, Eq.trans (World.drewN_drewN _ _ _) (congrArg (World.drewN _) (Nat.add_assoc _ _ _))⟩)) | ((with_reducible refine gate_dst (N := 53) rfl ?_); (try (refine gate_guard (by rfl) ?_; dsimp only)); refine Kd.R_lit (Kd.int .u8) _ 5 ?hg (N := 53) ?hd (xs := ([(wrap64 (Int.tdiv (wrap64 ((wrap64 ((wrap64 ((wrap64 (262144 * t115)) + (wrap64 (4096 * t116)))) + (wrap64 (64 * t117)))) + t118)) 65536)) % 256, (Int.tmod (wrap64 (Int.tdiv (wrap64 ((wrap64 ((wrap64 ((wrap64 (262144 * t115)) + (wrap64 (4096 * t116)))) + (wrap64 (64 * t117)))) + t118)) 256)) 256) % 256, (Int.tmod (wrap64 ((wrap64 ((wrap64 ((wrap64 (262144 * t115)) + (wrap64 (4096 * t116)))) + (wrap64 (64 * t117)))) + t118)) 256) % 256] : List Int)) (inner := [.int .u8 ((wrap64 (Int.tdiv (wrap64 ((wrap64 ((wrap64 ((wrap64 (262144 * t115)) + (wrap64 (4096 * t116)))) + (wrap64 (64 * t117)))) + t118)) 65536)) % 256), .int .u8 ((Int.tmod (wrap64 (Int.tdiv (wrap64 ((wrap64 ((wrap64 ((wrap64 (262144 * t115)) + (wrap64 (4096 * t116)))) + (wrap64 (64 * t117)))) + t118)) 256)) 256) % 256), .int .u8 ((Int.tmod (wrap64 ((wrap64 ((wrap64 ((wrap64 (262144 * t115)) + (wrap64 (4096 * t116)))) + (wrap64 (64 * t117)))) + t118)) 256) % 256)]) (ok := fun _ => True) (okp := fun _ => True) ?hr ?hp (fun _ hk => hk) trivial (Below.refl _ _) (Nat.le_refl _) (by simp) ?_; (case hd => rfl); (case hg => rfl); (case hr => first | (go_simp; done) | (go_simp; rfl)); (case hp => exact (Reps.one (show Kd.M (Kd.int .u8) _ _ _ ((wrap64 (Int.tdiv (wrap64 ((wrap64 ((wrap64 ((wrap64 (262144 * t115)) + (wrap64 (4096 * t116)))) + (wrap64 (64 * t117)))) + t118)) 65536)) % 256) [.int .u8 ((wrap64 (Int.tdiv (wrap64 ((wrap64 ((wrap64 ((wrap64 (262144 * t115)) + (wrap64 (4096 * t116)))) + (wrap64 (64 * t117)))) + t118)) 65536)) % 256)] from rfl) (Reps.one (show Kd.M (Kd.int .u8) _ _ _ ((Int.tmod (wrap64 (Int.tdiv (wrap64 ((wrap64 ((wrap64 ((wrap64 (262144 * t115)) + (wrap64 (4096 * t116)))) + (wrap64 (64 * t117)))) + t118)) 256)) 256) % 256) [.int .u8 ((Int.tmod (wrap64 (Int.tdiv (wrap64 ((wrap64 ((wrap64 ((wrap64 (262144 * t115)) + (wrap64 (4096 * t116)))) + (wrap64 (64 * t117)))) + t118)) 256)) 256) % 256)] from rfl) (Reps.one (show Kd.M (Kd.int .u8) _ _ _ ((Int.tmod (wrap64 ((wrap64 ((wrap64 ((wrap64 (262144 * t115)) + (wrap64 (4096 * t116)))) + (wrap64 (64 * t117)))) + t118)) 256) % 256) [.int .u8 ((Int.tmod (wrap64 ((wrap64 ((wrap64 ((wrap64 (262144 * t115)) + (wrap64 (4096 * t116)))) + (wrap64 (64 * t117)))) + t118)) 256) % 256)] from rfl) (Reps.none _ _))))); intro v120 w23 ho24 hb hg_ hnew_; clear hg_ hnew_; (first | rw [← Ny119.out] at ho24 | (simp only [Int.reduceToNat] at ho24; rw [← Ny119.out] at ho24)); have n0_ := Aside0.mk (Kd.R_lower ho24 (below_size (by repeat (first | (with_reducible first | exact HB.out | apply below_alloc | apply pw_below_drewN | apply below_drew1) | exact HB.out)))); have n1_ := Aside0.mk (below_step (by repeat (first | (with_reducible first | exact HB.out | apply below_alloc | apply pw_below_drewN | apply below_drew1) | exact HB.out)) hb); clear HB; have HO121 := n0_; have HB := n1_; clear n0_ n1_; clear hb ho24; have hcv25 := own_string (P := Tryd.prog) Tryd.underlying29 Tryd.underlying5 Tryd.underlying9 (Kd.own_of_R HO121.out))); try go_wp2_with (first | (go_at_call 47; (with_reducible refine (latinerref05_value.calls k1 (bt a0 x5_1) t115 _ A6.out).mono ?_); rintro e w' ⟨rfl, ⟨nd, rfl⟩⟩; (try first | exact ⟨rfl, _, World.drewN_drewN _ _ _⟩ | exact ⟨rfl, _, Eq.trans (World.drewN_drewN _ _ _) (congrArg (World.drewN _) (Nat.add_assoc _ _ _))⟩); have p10 : 0 ≤ ((ji7) : Int) := of_decide_eq_true (by first | (with_reducible assumption) | assumption); have q10 : (ji7) < (a0.size : Int) := of_decide_eq_true (by first | (with_reducible assumption) | assumption); have hx10 := bt_at a0 (ji7); replace p10 := eq_true p10; replace q10 := eq_true q10) | (go_at_call 47; (with_reducible refine (latinerref05_value.calls k1 (bt a0 (ji7)) t116 _ A11.out).mono ?_); rintro e w' ⟨rfl, ⟨nd, rfl⟩⟩; (try first | exact ⟨rfl, _, World.drewN_drewN _ _ _⟩ | exact ⟨rfl, _, Eq.trans (World.drewN_drewN _ _ _) (congrArg (World.drewN _) (Nat.add_assoc _ _ _))⟩); have p15 : 0 ≤ ((ji12) : Int) := of_decide_eq_true (by first | (with_reducible assumption) | assumption); have q15 : (ji12) < (a0.size : Int) := of_decide_eq_true (by first | (with_reducible assumption) | assumption); have hx15 := bt_at a0 (ji12); replace p15 := eq_true p15; replace q15 := eq_true q15) | (go_at_call 47; (with_reducible refine (latinerref05_value.calls k1 (bt a0 (ji12)) t117 _ A16.out).mono ?_); rintro e w' ⟨rfl, ⟨nd, rfl⟩⟩; (try first | exact ⟨rfl, _, World.drewN_drewN _ _ _⟩ | exact ⟨rfl, _, Eq.trans (World.drewN_drewN _ _ _) (congrArg (World.drewN _) (Nat.add_assoc _ _ _))⟩); have p20 : 0 ≤ ((ji17) : Int) := of_decide_eq_true (by first | (with_reducible assumption) | assumption); have q20 : (ji17) < (a0.size : Int) := of_decide_eq_true (by first | (with_reducible assumption) | assumption); have hx20 := bt_at a0 (ji17); replace p20 := eq_true p20; replace q20 := eq_true q20) | (go_at_call 47; (with_reducible refine (latinerref05_value.calls k1 (bt a0 (ji17)) t118 _ A21.out).mono ?_); rintro e w' ⟨rfl, ⟨nd, rfl⟩⟩; (try first | exact ⟨rfl, _, World.drewN_drewN _ _ _⟩ | exact ⟨rfl, _, Eq.trans (World.drewN_drewN _ _ _) (congrArg (World.drewN _) (Nat.add_assoc _ _ _))⟩)) | ((with_reducible refine gate_dst (N := 53) rfl ?_); (try (refine gate_guard (by rfl) ?_; dsimp only)); refine Kd.R_lit (Kd.int .u8) _ 5 ?hg (N := 53) ?hd (xs := ([(wrap64 (Int.tdiv (wrap64 ((wrap64 ((wrap64 ((wrap64 (262144 * t115)) + (wrap64 (4096 * t116)))) + (wrap64 (64 * t117)))) + t118)) 65536)) % 256, (Int.tmod (wrap64 (Int.tdiv (wrap64 ((wrap64 ((wrap64 ((wrap64 (262144 * t115)) + (wrap64 (4096 * t116)))) + (wrap64 (64 * t117)))) + t118)) 256)) 256) % 256, (Int.tmod (wrap64 ((wrap64 ((wrap64 ((wrap64 (262144 * t115)) + (wrap64 (4096 * t116)))) + (wrap64 (64 * t117)))) + t118)) 256) % 256] : List Int)) (inner := [.int .u8 ((wrap64 (Int.tdiv (wrap64 ((wrap64 ((wrap64 ((wrap64 (262144 * t115)) + (wrap64 (4096 * t116)))) + (wrap64 (64 * t117)))) + t118)) 65536)) % 256), .int .u8 ((Int.tmod (wrap64 (Int.tdiv (wrap64 ((wrap64 ((wrap64 ((wrap64 (262144 * t115)) + (wrap64 (4096 * t116)))) + (wrap64 (64 * t117)))) + t118)) 256)) 256) % 256), .int .u8 ((Int.tmod (wrap64 ((wrap64 ((wrap64 ((wrap64 (262144 * t115)) + (wrap64 (4096 * t116)))) + (wrap64 (64 * t117)))) + t118)) 256) % 256)]) (ok := fun _ => True) (okp := fun _ => True) ?hr ?hp (fun _ hk => hk) trivial (Below.refl _ _) (Nat.le_refl _) (by simp) ?_; (case hd => rfl); (case hg => rfl); (case hr => first | (go_simp; done) | (go_simp; rfl)); (case hp => exact (Reps.one (show Kd.M (Kd.int .u8) _ _ _ ((wrap64 (Int.tdiv (wrap64 ((wrap64 ((wrap64 ((wrap64 (262144 * t115)) + (wrap64 (4096 * t116)))) + (wrap64 (64 * t117)))) + t118)) 65536)) % 256) [.int .u8 ((wrap64 (Int.tdiv (wrap64 ((wrap64 ((wrap64 ((wrap64 (262144 * t115)) + (wrap64 (4096 * t116)))) + (wrap64 (64 * t117)))) + t118)) 65536)) % 256)] from rfl) (Reps.one (show Kd.M (Kd.int .u8) _ _ _ ((Int.tmod (wrap64 (Int.tdiv (wrap64 ((wrap64 ((wrap64 ((wrap64 (262144 * t115)) + (wrap64 (4096 * t116)))) + (wrap64 (64 * t117)))) + t118)) 256)) 256) % 256) [.int .u8 ((Int.tmod (wrap64 (Int.tdiv (wrap64 ((wrap64 ((wrap64 ((wrap64 (262144 * t115)) + (wrap64 (4096 * t116)))) + (wrap64 (64 * t117)))) + t118)) 256)) 256) % 256)] from rfl) (Reps.one (show Kd.M (Kd.int .u8) _ _ _ ((Int.tmod (wrap64 ((wrap64 ((wrap64 ((wrap64 (262144 * t115)) + (wrap64 (4096 * t116)))) + (wrap64 (64 * t117)))) + t118)) 256) % 256) [.int .u8 ((Int.tmod (wrap64 ((wrap64 ((wrap64 ((wrap64 (262144 * t115)) + (wrap64 (4096 * t116)))) + (wrap64 (64 * t117)))) + t118)) 256) % 256)] from rfl) (Reps.none _ _))))); intro v120 w23 ho24 hb hg_ hnew_; clear hg_ hnew_; (first | rw [← Ny119.out] at ho24 | (simp only [Int.reduceToNat] at ho24; rw [← Ny119.out] at ho24)); have n0_ := Aside0.mk (Kd.R_lower ho24 (below_size (by repeat (first | (with_reducible first | exact HB.out | apply below_alloc | apply pw_below_drewN | apply below_drew1) | exact HB.out)))); have n1_ := Aside0.mk (below_step (by repeat (first | (with_reducible first | exact HB.out | apply below_alloc | apply pw_below_drewN | apply below_drew1) | exact HB.out)) hb); clear HB; have HO121 := n0_; have HB := n1_; clear n0_ n1_; clear hb ho24; have hcv25 := own_string (P := Tryd.prog) Tryd.underlying29 Tryd.underlying5 Tryd.underlying9 (Kd.own_of_R HO121.out))))
                          go_roundg k1
                          case measure => have := HK1.out; omega
                          case rel => exact ⟨(x4_1 ++ (strOfNums y119)), (wrap64 (x5_1 + 4)), (by first | rfl | (simp; done) | (simp [*]; done)), (by first | rfl | (simp; done) | (simp [*]; done)), H', ⟨by have := HK1.out; omega⟩, ⟨by repeat (first | (with_reducible first | exact HB.out | apply below_alloc | apply pw_below_drewN | apply below_drew1) | exact HB.out)⟩⟩
                        · rw [if_neg c22] at H
                          exact absurd H (by simp)
                      · rw [if_neg c19] at H
                        exact absurd H (by simp)
                    · rw [if_neg c18] at H
                      exact absurd H (by simp)
                  · rw [if_neg c14] at H
                    exact absurd H (by simp)
                · rw [if_neg c13] at H
                  exact absurd H (by simp)
              · rw [if_neg c9] at H
                exact absurd H (by simp)
            · rw [if_neg c8] at H
              exact absurd H (by simp)
          · rw [if_neg c4] at H
            exact absurd H (by simp)
        · rw [if_neg c3] at H
          have c3b0 : decide (x5_1 < (a0.size : Int)) = false := decide_eq_false c3
          clear c3
          have HC26 := Aside0.mk H
          clear H
          go_upto_region 9 with (fail)
          repeat (go_quiet (fail); go_upto_region 9 with (fail))
          go_cut [66] (fun v66 wc => ∃ (kq : Nat) (x66_25 : Bool), v66 = .bool x66_25 ∧ Aside0 (latinerref05_Unbase.j1 kq a0 x4_1 x66_25 = some (r1, r2)) ∧ Aside0 (kq ≤ k1) ∧ Aside0 (Below w.heap.size w wc))
          case first =>
            have H := HC26.out
            clear HC26
            by_cases c27 : (a0.size : Int) > 1
            · rw [if_pos c27] at H
              have c27b0 : decide (1 < (a0.size : Int)) = true := decide_eq_true c27
              have c27b1 : decide (1 < a0.size) = true := decide_eq_true (by omega)
              clear c27
              (first | rw [c27b0] | (simp only [i64_w, i32_w]; rw [c27b0]) | skip)
              obtain ⟨ji28, hji28⟩ : ∃ j_ : Int, (wrap64 ((a0.size : Int) - 2)) = j_ := ⟨_, rfl⟩
              replace H : (if 0 ≤ (ji28) then (if (ji28) ≤ (a0.size : Int) then (latinerref05_Unbase.j1 k1 a0 x4_1 ((a0.extract ((ji28) : Int).toNat a0.size).toList == ([61, 61] : List UInt8))) else (none)) else (none)) = some (r1, r2) := by first | (rw [hji28] at H; exact H) | (simp only [hji28] at H ⊢; exact H)
              have hji28w : (IntKind.i64.wrap ((a0.size : Int) - 2)) = ji28 := (i64_w _).trans hji28
              by_cases c29 : 0 ≤ (ji28)
              · rw [if_pos c29] at H
                have c29b0 := eq_true c29
                have c29b1 : decide (0 ≤ (ji28)) = true := decide_eq_true c29
                clear c29
                by_cases c30 : (ji28) ≤ (a0.size : Int)
                · rw [if_pos c30] at H
                  have c30b0 := eq_true c30
                  have c30b1 : decide ((ji28) ≤ (a0.size : Int)) = true := decide_eq_true c30
                  clear c30
                  have H' := Aside0.mk H
                  clear H
                  go_wp2
                  repeat (go_quiet (fail); try go_wp2)
                  go_meet
                  case rel => exact ⟨_, (((a0.extract ((ji28) : Int).toNat a0.size).toList == ([61, 61] : List UInt8))), (by first | rfl | (simp; done) | (simp only [← hji28] <;> (first | rfl | simp)) | (simp [*]; done)), H', ⟨by have := HK1.out; first | omega | exact Nat.le_refl _⟩, ⟨by repeat (first | (with_reducible first | exact HB.out | apply below_alloc | apply pw_below_drewN | apply below_drew1) | exact HB.out)⟩⟩
                · rw [if_neg c30] at H
                  exact absurd H (by simp)
              · rw [if_neg c29] at H
                exact absurd H (by simp)
            · rw [if_neg c27] at H
              have c27b0 : decide (1 < (a0.size : Int)) = false := decide_eq_false c27
              have c27b1 : decide (1 < a0.size) = false := decide_eq_false (by omega)
              clear c27
              (first | rw [c27b0] | (simp only [i64_w, i32_w]; rw [c27b0]) | skip)
              have H' := Aside0.mk H
              clear H
              go_wp2
              repeat (go_quiet (fail); try go_wp2)
              go_meet
              case rel => exact ⟨_, (false), (by first | rfl | (simp; done) | (simp [*]; done)), H', ⟨by have := HK1.out; first | omega | exact Nat.le_refl _⟩, ⟨by repeat (first | (with_reducible first | exact HB.out | apply below_alloc | apply pw_below_drewN | apply below_drew1) | exact HB.out)⟩⟩
          case rest =>
            clear HC26
            try clear c1
            try clear p1
            try clear q1
            try clear hx1
            try clear c2
            try clear c2b0
            try clear c2b1
            try clear p2
            try clear q2
            try clear hx2
            try clear hcv2
            try clear c3
            try clear c3b0
            try clear c4
            try clear c4b0
            try clear p5
            try clear q5
            try clear hx5
            try clear p6
            try clear c8
            try clear c8b0
            try clear c9
            try clear c9b0
            try clear p10
            try clear q10
            try clear hx10
            try clear c13
            try clear c13b0
            try clear c14
            try clear c14b0
            try clear p15
            try clear q15
            try clear hx15
            try clear c18
            try clear c18b0
            try clear c19
            try clear c19b0
            try clear p20
            try clear q20
            try clear hx20
            try clear c22
            try clear c22b0
            try clear c22b1
            try clear c22b2
            try clear hcv25
            try clear c27
            try clear c27b0
            try clear c27b1
            try clear c29
            try clear c29b0
            try clear c29b1
            try clear c30
            try clear c30b0
            try clear c30b1
            try clear p10
            try clear p15
            try clear p2
            try clear p20
            try clear p5
            try clear q10
            try clear q15
            try clear q20
            try clear q5
            obtain ⟨kq, x66_25, rfl, HA, HJ25, HB⟩ := hcut
            cases kq with
            | zero => exact absurd HA.out (by simp [latinerref05_Unbase.j1])
            | succ kj25 =>
              have H := HA.out
              clear HA
              simp only [latinerref05_Unbase.j1] at H
              by_cases c31 : x66_25 = true
              · subst c31
                have H1 : (if 0 ≤ (wrap64 ((x4_1.size : Int) - 2)) then (if (wrap64 ((x4_1.size : Int) - 2)) ≤ (x4_1.size : Int) then ((latinerref05_Base.f kj25 (x4_1.extract 0 ((wrap64 ((x4_1.size : Int) - 2)) : Int).toNat)).bind fun t122 => (if t122.toList = a0.toList then (some (x4_1.extract 0 ((wrap64 ((x4_1.size : Int) - 2)) : Int).toNat, 0)) else (some ((⟨#[]⟩ : ByteArray), 50)))) else (none)) else (none)) = some (r1, r2) := by rw [if_pos rfl] at H; exact H
                clear H
                have H := H1
                clear H1
                obtain ⟨ji32, hji32⟩ : ∃ j_ : Int, (wrap64 ((x4_1.size : Int) - 2)) = j_ := ⟨_, rfl⟩
                replace H : (if 0 ≤ (ji32) then (if (ji32) ≤ (x4_1.size : Int) then ((latinerref05_Base.f kj25 (x4_1.extract 0 ((ji32) : Int).toNat)).bind fun t122 => (if t122.toList = a0.toList then (some (x4_1.extract 0 ((ji32) : Int).toNat, 0)) else (some ((⟨#[]⟩ : ByteArray), 50)))) else (none)) else (none)) = some (r1, r2) := by first | (rw [hji32] at H; exact H) | (simp only [hji32] at H ⊢; exact H)
                have hji32w : (IntKind.i64.wrap ((x4_1.size : Int) - 2)) = ji32 := (i64_w _).trans hji32
                by_cases c33 : 0 ≤ (ji32)
                · rw [if_pos c33] at H
                  have c33b0 := eq_true c33
                  have c33b1 : decide (0 ≤ (ji32)) = true := decide_eq_true c33
                  clear c33
                  by_cases c34 : (ji32) ≤ (x4_1.size : Int)
                  · rw [if_pos c34] at H
                    have c34b0 := eq_true c34
                    have c34b1 : decide ((ji32) ≤ (x4_1.size : Int)) = true := decide_eq_true c34
                    clear c34
                    replace H := Option.bind_eq_some_iff.mp H
                    obtain ⟨t122, A350, H⟩ := H
                    replace H : (if t122.toList = a0.toList then (some (x4_1.extract 0 ((ji32) : Int).toNat, 0)) else (some ((⟨#[]⟩ : ByteArray), 50))) = some (r1, r2) := H
                    have A35 := Aside0.mk A350
                    clear A350
                    by_cases c36 : t122.toList = a0.toList
                    · rw [if_pos c36] at H
                      have c36b0 : (t122.toList == a0.toList) = true := beq_iff_eq.mpr c36
                      have c36b1 : (t122.toList != a0.toList) = false := bne_eq_false_iff_eq.mpr c36
                      clear c36
                      simp only [Option.some.injEq, Prod.mk.injEq] at H
                      obtain ⟨rfl, rfl⟩ := H
                      go_wp2_with (first | (go_at_call 33; (with_reducible refine (latinerref05_Base.calls kj25 (x4_1.extract 0 ((ji32) : Int).toNat) t122 _ A35.out).mono ?_); rintro e w37 ⟨rfl, hb⟩; have n0_ := Aside0.mk (below_step (by repeat (first | (with_reducible first | exact HB.out | apply below_alloc | apply pw_below_drewN | apply below_drew1) | exact HB.out)) hb); clear HB; have HB := n0_; clear n0_; (try clear hb); (try clear hb2); (try clear hk); (try clear hi)))
                      repeat (go_quiet (first | (go_at_call 33; (with_reducible refine (latinerref05_Base.calls kj25 (x4_1.extract 0 ((ji32) : Int).toNat) t122 _ A35.out).mono ?_); rintro e w37 ⟨rfl, hb⟩; have n0_ := Aside0.mk (below_step (by repeat (first | (with_reducible first | exact HB.out | apply below_alloc | apply pw_below_drewN | apply below_drew1) | exact HB.out)) hb); clear HB; have HB := n0_; clear n0_; (try clear hb); (try clear hb2); (try clear hk); (try clear hi))); try go_wp2_with (first | (go_at_call 33; (with_reducible refine (latinerref05_Base.calls kj25 (x4_1.extract 0 ((ji32) : Int).toNat) t122 _ A35.out).mono ?_); rintro e w37 ⟨rfl, hb⟩; have n0_ := Aside0.mk (below_step (by repeat (first | (with_reducible first | exact HB.out | apply below_alloc | apply pw_below_drewN | apply below_drew1) | exact HB.out)) hb); clear HB; have HB := n0_; clear n0_; (try clear hb); (try clear hb2); (try clear hk); (try clear hi))))
                      go_ret2
                      exact ⟨by first | rfl | (simp [errW_none, errW_some] <;> rfl) | (simp only [← hji32]; first | rfl | (simp [errW_none, errW_some] <;> rfl)) | (simp [*, errW_none, errW_some] <;> rfl), by repeat (first | (with_reducible first | exact HB.out | apply below_alloc | apply pw_below_drewN | apply below_drew1) | exact HB.out)⟩
                    · rw [if_neg c36] at H
                      have c36b0 : (t122.toList == a0.toList) = false := beq_eq_false_iff_ne.mpr c36
                      have c36b1 : (t122.toList != a0.toList) = true := bne_iff_ne.mpr c36
                      simp only [Option.some.injEq, Prod.mk.injEq] at H
                      obtain ⟨rfl, rfl⟩ := H
                      go_wp2_with (first | (go_at_call 33; (with_reducible refine (latinerref05_Base.calls kj25 (x4_1.extract 0 ((ji32) : Int).toNat) t122 _ A35.out).mono ?_); rintro e w38 ⟨rfl, hb⟩; have n0_ := Aside0.mk (below_step (by repeat (first | (with_reducible first | exact HB.out | apply below_alloc | apply pw_below_drewN | apply below_drew1) | exact HB.out)) hb); clear HB; have HB := n0_; clear n0_; (try clear hb); (try clear hb2); (try clear hk); (try clear hi)))
                      repeat (go_quiet (first | (go_at_call 33; (with_reducible refine (latinerref05_Base.calls kj25 (x4_1.extract 0 ((ji32) : Int).toNat) t122 _ A35.out).mono ?_); rintro e w38 ⟨rfl, hb⟩; have n0_ := Aside0.mk (below_step (by repeat (first | (with_reducible first | exact HB.out | apply below_alloc | apply pw_below_drewN | apply below_drew1) | exact HB.out)) hb); clear HB; have HB := n0_; clear n0_; (try clear hb); (try clear hb2); (try clear hk); (try clear hi))); try go_wp2_with (first | (go_at_call 33; (with_reducible refine (latinerref05_Base.calls kj25 (x4_1.extract 0 ((ji32) : Int).toNat) t122 _ A35.out).mono ?_); rintro e w38 ⟨rfl, hb⟩; have n0_ := Aside0.mk (below_step (by repeat (first | (with_reducible first | exact HB.out | apply below_alloc | apply pw_below_drewN | apply below_drew1) | exact HB.out)) hb); clear HB; have HB := n0_; clear n0_; (try clear hb); (try clear hb2); (try clear hk); (try clear hi))))
                      go_ret2
                      exact ⟨by first | rfl | (simp [errW_none, errW_some] <;> rfl) | (simp only [← hji32]; first | rfl | (simp [errW_none, errW_some] <;> rfl)) | (simp [*, errW_none, errW_some] <;> rfl), by repeat (first | (with_reducible first | exact HB.out | apply below_alloc | apply pw_below_drewN | apply below_drew1) | exact HB.out)⟩
                  · rw [if_neg c34] at H
                    exact absurd H (by simp)
                · rw [if_neg c33] at H
                  exact absurd H (by simp)
              · replace c31 := Bool.eq_false_iff.mpr c31
                subst c31
                have H1 : (if (a0.size : Int) > 1 then (if 0 ≤ (wrap64 ((a0.size : Int) - 1)) then (if (wrap64 ((a0.size : Int) - 1)) < (a0.size : Int) then (latinerref05_Unbase.j2 kj25 a0 x4_1 ((bt a0 (wrap64 ((a0.size : Int) - 1))) == 61)) else (none)) else (none)) else (latinerref05_Unbase.j2 kj25 a0 x4_1 false)) = some (r1, r2) := by rw [if_neg (show ¬ (false = true) by decide)] at H; exact H
                clear H
                have H := H1
                clear H1
                have HC39 := Aside0.mk H
                clear H
                go_upto_region 11 with (fail)
                repeat (go_quiet (fail); go_upto_region 11 with (fail))
                go_cut [82] (fun v82 wc => ∃ (kq : Nat) (x82_38 : Bool), v82 = .bool x82_38 ∧ Aside0 (latinerref05_Unbase.j2 kq a0 x4_1 x82_38 = some (r1, r2)) ∧ Aside0 (kq ≤ kj25) ∧ Aside0 (Below w.heap.size w wc))
                case first =>
                  have H := HC39.out
                  clear HC39
                  by_cases c40 : (a0.size : Int) > 1
                  · rw [if_pos c40] at H
                    have c40b0 : decide (1 < (a0.size : Int)) = true := decide_eq_true c40
                    have c40b1 : decide (1 < a0.size) = true := decide_eq_true (by omega)
                    clear c40
                    (first | rw [c40b0] | (simp only [i64_w, i32_w]; rw [c40b0]) | skip)
                    obtain ⟨ji41, hji41⟩ : ∃ j_ : Int, (wrap64 ((a0.size : Int) - 1)) = j_ := ⟨_, rfl⟩
                    replace H : (if 0 ≤ (ji41) then (if (ji41) < (a0.size : Int) then (latinerref05_Unbase.j2 kj25 a0 x4_1 ((bt a0 (ji41)) == 61)) else (none)) else (none)) = some (r1, r2) := by first | (rw [hji41] at H; exact H) | (simp only [hji41] at H ⊢; exact H)
                    have hji41w : (IntKind.i64.wrap ((a0.size : Int) - 1)) = ji41 := (i64_w _).trans hji41
                    by_cases c42 : 0 ≤ (ji41)
                    · rw [if_pos c42] at H
                      have c42b0 : decide (0 ≤ (ji41)) = true := decide_eq_true c42
                      clear c42
                      by_cases c43 : (ji41) < (a0.size : Int)
                      · rw [if_pos c43] at H
                        have c43b0 : decide ((ji41) < (a0.size : Int)) = true := decide_eq_true c43
                        clear c43
                        have H' := Aside0.mk H
                        clear H
                        have p44 : 0 ≤ ((ji41) : Int) := of_decide_eq_true (by first | (with_reducible assumption) | assumption)
                        have q44 : (ji41) < (a0.size : Int) := of_decide_eq_true (by first | (with_reducible assumption) | assumption)
                        have hx44 := bt_at a0 (ji41)
                        replace p44 := eq_true p44
                        replace q44 := eq_true q44
                        go_wp2
                        repeat (go_quiet (fail); try go_wp2)
                        go_meet
                        case rel => exact ⟨_, (((bt a0 (ji41)) == 61)), (by first | rfl | (simp; done) | (simp only [← hji41] <;> (first | rfl | simp)) | (simp [*]; done)), H', ⟨by have := HK1.out; have := HJ25.out; first | omega | exact Nat.le_refl _⟩, ⟨by repeat (first | (with_reducible first | exact HB.out | apply below_alloc | apply pw_below_drewN | apply below_drew1) | exact HB.out)⟩⟩
                      · rw [if_neg c43] at H
                        exact absurd H (by simp)
                    · rw [if_neg c42] at H
                      exact absurd H (by simp)
                  · rw [if_neg c40] at H
                    have c40b0 : decide (1 < (a0.size : Int)) = false := decide_eq_false c40
                    have c40b1 : decide (1 < a0.size) = false := decide_eq_false (by omega)
                    clear c40
                    (first | rw [c40b0] | (simp only [i64_w, i32_w]; rw [c40b0]) | skip)
                    have H' := Aside0.mk H
                    clear H
                    go_wp2
                    repeat (go_quiet (fail); try go_wp2)
                    go_meet
                    case rel => exact ⟨_, (false), (by first | rfl | (simp; done) | (simp [*]; done)), H', ⟨by have := HK1.out; have := HJ25.out; first | omega | exact Nat.le_refl _⟩, ⟨by repeat (first | (with_reducible first | exact HB.out | apply below_alloc | apply pw_below_drewN | apply below_drew1) | exact HB.out)⟩⟩
                case rest =>
                  clear HC39
                  try clear c1
                  try clear p1
                  try clear q1
                  try clear hx1
                  try clear c2
                  try clear c2b0
                  try clear c2b1
                  try clear p2
                  try clear q2
                  try clear hx2
                  try clear hcv2
                  try clear c3
                  try clear c3b0
                  try clear c4
                  try clear c4b0
                  try clear p4
                  try clear q4
                  try clear hx4
                  try clear p5
                  try clear q5
                  try clear hx5
                  try clear p6
                  try clear c8
                  try clear c8b0
                  try clear c9
                  try clear c9b0
                  try clear p10
                  try clear q10
                  try clear hx10
                  try clear c13
                  try clear c13b0
                  try clear c14
                  try clear c14b0
                  try clear p15
                  try clear q15
                  try clear hx15
                  try clear c18
                  try clear c18b0
                  try clear c19
                  try clear c19b0
                  try clear p20
                  try clear q20
                  try clear hx20
                  try clear c22
                  try clear c22b0
                  try clear c22b1
                  try clear c22b2
                  try clear hcv25
                  try clear c27
                  try clear c27b0
                  try clear c27b1
                  try clear c29
                  try clear c29b0
                  try clear c29b1
                  try clear c30
                  try clear c30b0
                  try clear c30b1
                  try clear c31
                  try clear c33
                  try clear c33b0
                  try clear c33b1
                  try clear c34
                  try clear c34b0
                  try clear c34b1
                  try clear c36
                  try clear c36b0
                  try clear c36b1
                  try clear c40
                  try clear c40b0
                  try clear c40b1
                  try clear c42
                  try clear c42b0
                  try clear c43
                  try clear c43b0
                  try clear p44
                  try clear q44
                  try clear hx44
                  try clear p1
                  try clear p10
                  try clear p15
                  try clear p2
                  try clear p20
                  try clear p44
                  try clear p5
                  try clear p6
                  try clear q1
                  try clear q10
                  try clear q15
                  try clear q2
                  try clear q20
                  try clear q44
                  try clear q5
                  obtain ⟨kq, x82_38, rfl, HA, HJ38, HB⟩ := hcut
                  cases kq with
                  | zero => exact absurd HA.out (by simp [latinerref05_Unbase.j2])
                  | succ kj38 =>
                    have H := HA.out
                    clear HA
                    simp only [latinerref05_Unbase.j2] at H
                    by_cases c45 : x82_38 = true
                    · subst c45
                      have H1 : (if 0 ≤ (wrap64 ((x4_1.size : Int) - 1)) then (if (wrap64 ((x4_1.size : Int) - 1)) ≤ (x4_1.size : Int) then ((latinerref05_Base.f kj38 (x4_1.extract 0 ((wrap64 ((x4_1.size : Int) - 1)) : Int).toNat)).bind fun t123 => (if t123.toList = a0.toList then (some (x4_1.extract 0 ((wrap64 ((x4_1.size : Int) - 1)) : Int).toNat, 0)) else (some ((⟨#[]⟩ : ByteArray), 50)))) else (none)) else (none)) = some (r1, r2) := by rw [if_pos rfl] at H; exact H
                      clear H
                      have H := H1
                      clear H1
                      obtain ⟨ji46, hji46⟩ : ∃ j_ : Int, (wrap64 ((x4_1.size : Int) - 1)) = j_ := ⟨_, rfl⟩
                      replace H : (if 0 ≤ (ji46) then (if (ji46) ≤ (x4_1.size : Int) then ((latinerref05_Base.f kj38 (x4_1.extract 0 ((ji46) : Int).toNat)).bind fun t123 => (if t123.toList = a0.toList then (some (x4_1.extract 0 ((ji46) : Int).toNat, 0)) else (some ((⟨#[]⟩ : ByteArray), 50)))) else (none)) else (none)) = some (r1, r2) := by first | (rw [hji46] at H; exact H) | (simp only [hji46] at H ⊢; exact H)
                      have hji46w : (IntKind.i64.wrap ((x4_1.size : Int) - 1)) = ji46 := (i64_w _).trans hji46
                      by_cases c47 : 0 ≤ (ji46)
                      · rw [if_pos c47] at H
                        have c47b0 := eq_true c47
                        have c47b1 : decide (0 ≤ (ji46)) = true := decide_eq_true c47
                        clear c47
                        by_cases c48 : (ji46) ≤ (x4_1.size : Int)
                        · rw [if_pos c48] at H
                          have c48b0 := eq_true c48
                          have c48b1 : decide ((ji46) ≤ (x4_1.size : Int)) = true := decide_eq_true c48
                          clear c48
                          replace H := Option.bind_eq_some_iff.mp H
                          obtain ⟨t123, A490, H⟩ := H
                          replace H : (if t123.toList = a0.toList then (some (x4_1.extract 0 ((ji46) : Int).toNat, 0)) else (some ((⟨#[]⟩ : ByteArray), 50))) = some (r1, r2) := H
                          have A49 := Aside0.mk A490
                          clear A490
                          by_cases c50 : t123.toList = a0.toList
                          · rw [if_pos c50] at H
                            have c50b0 : (t123.toList == a0.toList) = true := beq_iff_eq.mpr c50
                            have c50b1 : (t123.toList != a0.toList) = false := bne_eq_false_iff_eq.mpr c50
                            clear c50
                            simp only [Option.some.injEq, Prod.mk.injEq] at H
                            obtain ⟨rfl, rfl⟩ := H
                            go_wp2_with (first | (go_at_call 33; (with_reducible refine (latinerref05_Base.calls kj38 (x4_1.extract 0 ((ji46) : Int).toNat) t123 _ A49.out).mono ?_); rintro e w51 ⟨rfl, hb⟩; have n0_ := Aside0.mk (below_step (by repeat (first | (with_reducible first | exact HB.out | apply below_alloc | apply pw_below_drewN | apply below_drew1) | exact HB.out)) hb); clear HB; have HB := n0_; clear n0_; (try clear hb); (try clear hb2); (try clear hk); (try clear hi)))
                            repeat (go_quiet (first | (go_at_call 33; (with_reducible refine (latinerref05_Base.calls kj38 (x4_1.extract 0 ((ji46) : Int).toNat) t123 _ A49.out).mono ?_); rintro e w51 ⟨rfl, hb⟩; have n0_ := Aside0.mk (below_step (by repeat (first | (with_reducible first | exact HB.out | apply below_alloc | apply pw_below_drewN | apply below_drew1) | exact HB.out)) hb); clear HB; have HB := n0_; clear n0_; (try clear hb); (try clear hb2); (try clear hk); (try clear hi))); try go_wp2_with (first | (go_at_call 33; (with_reducible refine (latinerref05_Base.calls kj38 (x4_1.extract 0 ((ji46) : Int).toNat) t123 _ A49.out).mono ?_); rintro e w51 ⟨rfl, hb⟩; have n0_ := Aside0.mk (below_step (by repeat (first | (with_reducible first | exact HB.out | apply below_alloc | apply pw_below_drewN | apply below_drew1) | exact HB.out)) hb); clear HB; have HB := n0_; clear n0_; (try clear hb); (try clear hb2); (try clear hk); (try clear hi))))
                            go_ret2
                            exact ⟨by first | rfl | (simp [errW_none, errW_some] <;> rfl) | (simp only [← hji46]; first | rfl | (simp [errW_none, errW_some] <;> rfl)) | (simp [*, errW_none, errW_some] <;> rfl), by repeat (first | (with_reducible first | exact HB.out | apply below_alloc | apply pw_below_drewN | apply below_drew1) | exact HB.out)⟩
                          · rw [if_neg c50] at H
                            have c50b0 : (t123.toList == a0.toList) = false := beq_eq_false_iff_ne.mpr c50
                            have c50b1 : (t123.toList != a0.toList) = true := bne_iff_ne.mpr c50
                            simp only [Option.some.injEq, Prod.mk.injEq] at H
                            obtain ⟨rfl, rfl⟩ := H
                            go_wp2_with (first | (go_at_call 33; (with_reducible refine (latinerref05_Base.calls kj38 (x4_1.extract 0 ((ji46) : Int).toNat) t123 _ A49.out).mono ?_); rintro e w52 ⟨rfl, hb⟩; have n0_ := Aside0.mk (below_step (by repeat (first | (with_reducible first | exact HB.out | apply below_alloc | apply pw_below_drewN | apply below_drew1) | exact HB.out)) hb); clear HB; have HB := n0_; clear n0_; (try clear hb); (try clear hb2); (try clear hk); (try clear hi)))
                            repeat (go_quiet (first | (go_at_call 33; (with_reducible refine (latinerref05_Base.calls kj38 (x4_1.extract 0 ((ji46) : Int).toNat) t123 _ A49.out).mono ?_); rintro e w52 ⟨rfl, hb⟩; have n0_ := Aside0.mk (below_step (by repeat (first | (with_reducible first | exact HB.out | apply below_alloc | apply pw_below_drewN | apply below_drew1) | exact HB.out)) hb); clear HB; have HB := n0_; clear n0_; (try clear hb); (try clear hb2); (try clear hk); (try clear hi))); try go_wp2_with (first | (go_at_call 33; (with_reducible refine (latinerref05_Base.calls kj38 (x4_1.extract 0 ((ji46) : Int).toNat) t123 _ A49.out).mono ?_); rintro e w52 ⟨rfl, hb⟩; have n0_ := Aside0.mk (below_step (by repeat (first | (with_reducible first | exact HB.out | apply below_alloc | apply pw_below_drewN | apply below_drew1) | exact HB.out)) hb); clear HB; have HB := n0_; clear n0_; (try clear hb); (try clear hb2); (try clear hk); (try clear hi))))
                            go_ret2
                            exact ⟨by first | rfl | (simp [errW_none, errW_some] <;> rfl) | (simp only [← hji46]; first | rfl | (simp [errW_none, errW_some] <;> rfl)) | (simp [*, errW_none, errW_some] <;> rfl), by repeat (first | (with_reducible first | exact HB.out | apply below_alloc | apply pw_below_drewN | apply below_drew1) | exact HB.out)⟩
                        · rw [if_neg c48] at H
                          exact absurd H (by simp)
                      · rw [if_neg c47] at H
                        exact absurd H (by simp)
                    · replace c45 := Bool.eq_false_iff.mpr c45
                      subst c45
                      have H1 : ((latinerref05_Base.f kj38 x4_1).bind fun t124 => (if t124.toList = a0.toList then (some (x4_1, 0)) else (some ((⟨#[]⟩ : ByteArray), 50)))) = some (r1, r2) := by rw [if_neg (show ¬ (false = true) by decide)] at H; exact H
                      clear H
                      have H := H1
                      clear H1
                      replace H := Option.bind_eq_some_iff.mp H
                      obtain ⟨t124, A530, H⟩ := H
                      replace H : (if t124.toList = a0.toList then (some (x4_1, 0)) else (some ((⟨#[]⟩ : ByteArray), 50))) = some (r1, r2) := H
                      have A53 := Aside0.mk A530
                      clear A530
                      by_cases c54 : t124.toList = a0.toList
                      · rw [if_pos c54] at H
                        have c54b0 : (t124.toList == a0.toList) = true := beq_iff_eq.mpr c54
                        have c54b1 : (t124.toList != a0.toList) = false := bne_eq_false_iff_eq.mpr c54
                        clear c54
                        simp only [Option.some.injEq, Prod.mk.injEq] at H
                        obtain ⟨rfl, rfl⟩ := H
                        go_wp2_with (first | (go_at_call 33; (with_reducible refine (latinerref05_Base.calls kj38 x4_1 t124 _ A53.out).mono ?_); rintro e w55 ⟨rfl, hb⟩; have n0_ := Aside0.mk (below_step (by repeat (first | (with_reducible first | exact HB.out | apply below_alloc | apply pw_below_drewN | apply below_drew1) | exact HB.out)) hb); clear HB; have HB := n0_; clear n0_; (try clear hb); (try clear hb2); (try clear hk); (try clear hi)))
                        repeat (go_quiet (first | (go_at_call 33; (with_reducible refine (latinerref05_Base.calls kj38 x4_1 t124 _ A53.out).mono ?_); rintro e w55 ⟨rfl, hb⟩; have n0_ := Aside0.mk (below_step (by repeat (first | (with_reducible first | exact HB.out | apply below_alloc | apply pw_below_drewN | apply below_drew1) | exact HB.out)) hb); clear HB; have HB := n0_; clear n0_; (try clear hb); (try clear hb2); (try clear hk); (try clear hi))); try go_wp2_with (first | (go_at_call 33; (with_reducible refine (latinerref05_Base.calls kj38 x4_1 t124 _ A53.out).mono ?_); rintro e w55 ⟨rfl, hb⟩; have n0_ := Aside0.mk (below_step (by repeat (first | (with_reducible first | exact HB.out | apply below_alloc | apply pw_below_drewN | apply below_drew1) | exact HB.out)) hb); clear HB; have HB := n0_; clear n0_; (try clear hb); (try clear hb2); (try clear hk); (try clear hi))))
                        go_ret2
                        exact ⟨by first | rfl | (simp [errW_none, errW_some] <;> rfl) | (simp [*, errW_none, errW_some] <;> rfl), by repeat (first | (with_reducible first | exact HB.out | apply below_alloc | apply pw_below_drewN | apply below_drew1) | exact HB.out)⟩
                      · rw [if_neg c54] at H
                        have c54b0 : (t124.toList == a0.toList) = false := beq_eq_false_iff_ne.mpr c54
                        have c54b1 : (t124.toList != a0.toList) = true := bne_iff_ne.mpr c54
                        simp only [Option.some.injEq, Prod.mk.injEq] at H
                        obtain ⟨rfl, rfl⟩ := H
                        go_wp2_with (first | (go_at_call 33; (with_reducible refine (latinerref05_Base.calls kj38 x4_1 t124 _ A53.out).mono ?_); rintro e w56 ⟨rfl, hb⟩; have n0_ := Aside0.mk (below_step (by repeat (first | (with_reducible first | exact HB.out | apply below_alloc | apply pw_below_drewN | apply below_drew1) | exact HB.out)) hb); clear HB; have HB := n0_; clear n0_; (try clear hb); (try clear hb2); (try clear hk); (try clear hi)))
                        repeat (go_quiet (first | (go_at_call 33; (with_reducible refine (latinerref05_Base.calls kj38 x4_1 t124 _ A53.out).mono ?_); rintro e w56 ⟨rfl, hb⟩; have n0_ := Aside0.mk (below_step (by repeat (first | (with_reducible first | exact HB.out | apply below_alloc | apply pw_below_drewN | apply below_drew1) | exact HB.out)) hb); clear HB; have HB := n0_; clear n0_; (try clear hb); (try clear hb2); (try clear hk); (try clear hi))); try go_wp2_with (first | (go_at_call 33; (with_reducible refine (latinerref05_Base.calls kj38 x4_1 t124 _ A53.out).mono ?_); rintro e w56 ⟨rfl, hb⟩; have n0_ := Aside0.mk (below_step (by repeat (first | (with_reducible first | exact HB.out | apply below_alloc | apply pw_below_drewN | apply below_drew1) | exact HB.out)) hb); clear HB; have HB := n0_; clear n0_; (try clear hb); (try clear hb2); (try clear hk); (try clear hi))))
                        go_ret2
                        exact ⟨by first | rfl | (simp [errW_none, errW_some] <;> rfl) | (simp [*, errW_none, errW_some] <;> rfl), by repeat (first | (with_reducible first | exact HB.out | apply below_alloc | apply pw_below_drewN | apply below_drew1) | exact HB.out)⟩
  · rw [if_neg c2] at H
    have c2b0 : (((a0.size : Int) % 4) == 0) = false := beq_eq_false_iff_ne.mpr c2
    have c2b1 : (((a0.size : Int) % 4) != 0) = true := bne_iff_ne.mpr c2
    simp only [Option.some.injEq, Prod.mk.injEq] at H
    obtain ⟨rfl, rfl⟩ := H
    go_enter Tryd.func29, Tryd.ntmps29
    go_wp2
    repeat (go_quiet (fail); try go_wp2)
    go_ret2
    exact ⟨by first | rfl | (simp [errW_none, errW_some] <;> rfl) | (simp [*, errW_none, errW_some] <;> rfl), by repeat (first | (with_reducible first | exact HB.out | apply below_alloc | apply pw_below_drewN | apply below_drew1) | exact HB.out)⟩

/-! ### latinerref05_Digit: function 49 -/
mutual
def latinerref05_Digit.j0 : Nat → Int → Bool → Option (Int)
  | 0, _, _ => none
  | k + 1, x0, x3 => if x3 = true then (some ((x0 - 48) % 256)) else (if x0 ≥ 97 then (latinerref05_Digit.j1 k x0 (decide (x0 ≤ 102))) else (latinerref05_Digit.j1 k x0 false))
def latinerref05_Digit.j1 : Nat → Int → Bool → Option (Int)
  | 0, _, _ => none
  | k + 1, x0, x13 => if x13 = true then (some (((x0 - 97) % 256) + 10)) else (if x0 ≥ 65 then (if x0 ≤ 70 then (some (((x0 - 65) % 256) + 10)) else (some (-1))) else (some (-1)))
end
def latinerref05_Digit.f (k : Nat) (a0 : Int) : Option (Int) := if a0 ≥ 48 then (latinerref05_Digit.j0 k a0 (decide (a0 ≤ 57))) else (latinerref05_Digit.j0 k a0 false)
theorem latinerref05_Digit.mono_l : ∀ k, (∀ y0 y1, LeO (latinerref05_Digit.j0 k y0 y1) (latinerref05_Digit.j0 (k + 1) y0 y1)) ∧ (∀ y0 y1, LeO (latinerref05_Digit.j1 k y0 y1) (latinerref05_Digit.j1 (k + 1) y0 y1))
  | 0 => ⟨fun _ _ r h => by simp [latinerref05_Digit.j0] at h, fun _ _ r h => by simp [latinerref05_Digit.j1] at h⟩
  | k + 1 => by
    obtain ⟨ih0, ih1⟩ := latinerref05_Digit.mono_l k
    refine ⟨?_, ?_⟩
    · intro y0 y1
      unfold latinerref05_Digit.j0
      repeat' first
      | (with_reducible exact ih0 _ _)
      | (with_reducible exact ih1 _ _)
      | (with_reducible exact LeO.refl _)
      | (with_reducible exact LeO.none _)
      | (with_reducible refine LeO.ite ?_ ?_)
      | (with_reducible refine LeO.bind ?_ (fun _ => ?_))
      | exact ih0 _ _
      | exact ih1 _ _
      | exact LeO.none _
      | refine LeO.ite ?_ ?_
      | refine LeO.bind ?_ (fun _ => ?_)
    · intro y0 y1
      unfold latinerref05_Digit.j1
      repeat' first
      | (with_reducible exact ih0 _ _)
      | (with_reducible exact ih1 _ _)
      | (with_reducible exact LeO.refl _)
      | (with_reducible exact LeO.none _)
      | (with_reducible refine LeO.ite ?_ ?_)
      | (with_reducible refine LeO.bind ?_ (fun _ => ?_))
      | exact ih0 _ _
      | exact ih1 _ _
      | exact LeO.none _
      | refine LeO.ite ?_ ?_
      | refine LeO.bind ?_ (fun _ => ?_)
theorem latinerref05_Digit.mono : ∀ a0 k, LeO (latinerref05_Digit.f k a0) (latinerref05_Digit.f (k + 1) a0) := by
  intro a0 k
  obtain ⟨ih0, ih1⟩ := latinerref05_Digit.mono_l k
  unfold latinerref05_Digit.f
  repeat' first
      | (with_reducible exact ih0 _ _)
      | (with_reducible exact ih1 _ _)
      | (with_reducible exact LeO.refl _)
      | (with_reducible exact LeO.none _)
      | (with_reducible refine LeO.ite ?_ ?_)
      | (with_reducible refine LeO.bind ?_ (fun _ => ?_))
      | exact ih0 _ _
      | exact ih1 _ _
      | exact LeO.none _
      | refine LeO.ite ?_ ?_
      | refine LeO.bind ?_ (fun _ => ?_)
set_option maxHeartbeats 8000000 in
set_option maxRecDepth 100000 in
theorem latinerref05_Digit.calls (k : Nat) (a0 : Int) (r : Int) (w : World) (h : latinerref05_Digit.f k a0 = some r) :
    Calls Tryd.prog 49 #[.int .u8 a0] w fun e w' => e = .returned (.int .i64 r) ∧ Drawn0 w w' := by
  have H : (if a0 ≥ 48 then (latinerref05_Digit.j0 k a0 (decide (a0 ≤ 57))) else (latinerref05_Digit.j0 k a0 false)) = some r := h
  clear h
  have HC2 := Aside0.mk H
  clear H
  go_enter Tryd.func49, Tryd.ntmps49
  go_upto_region 1 with (fail)
  go_cut [3] (fun v3 wc => ∃ (kq : Nat) (x3_1 : Bool), v3 = .bool x3_1 ∧ Aside0 (latinerref05_Digit.j0 kq a0 x3_1 = some r) ∧ Aside0 (kq ≤ k) ∧ Drawn0 w wc)
  case first =>
    have H := HC2.out
    clear HC2
    by_cases c3 : a0 ≥ 48
    · rw [if_pos c3] at H
      have c3b0 : decide (48 ≤ a0) = true := decide_eq_true c3
      clear c3
      (first | rw [c3b0] | (simp only [i64_w, i32_w]; rw [c3b0]) | skip)
      have H' := Aside0.mk H
      clear H
      go_wp2
      go_meet
      case rel => exact ⟨_, (decide (a0 ≤ 57)), (by first | rfl | (simp; done) | (simp [*]; done)), H', ⟨by first | omega | exact Nat.le_refl _⟩, by repeat (first | exact Drawn0.refl _ | apply Drawn0.step)⟩
    · rw [if_neg c3] at H
      have c3b0 : decide (48 ≤ a0) = false := decide_eq_false c3
      clear c3
      (first | rw [c3b0] | (simp only [i64_w, i32_w]; rw [c3b0]) | skip)
      have H' := Aside0.mk H
      clear H
      go_wp2
      go_meet
      case rel => exact ⟨_, (false), (by first | rfl | (simp; done) | (simp [*]; done)), H', ⟨by first | omega | exact Nat.le_refl _⟩, by repeat (first | exact Drawn0.refl _ | apply Drawn0.step)⟩
  case rest =>
    clear HC2
    try clear p2
    try clear c3
    try clear c3b0
    obtain ⟨kq, x3_1, rfl, HA, HJ1, ⟨mc1, rfl⟩⟩ := hcut
    cases kq with
    | zero => exact absurd HA.out (by simp [latinerref05_Digit.j0])
    | succ kj1 =>
      have H := HA.out
      clear HA
      simp only [latinerref05_Digit.j0] at H
      by_cases c4 : x3_1 = true
      · subst c4
        have H1 : (some ((a0 - 48) % 256)) = some r := by rw [if_pos rfl] at H; exact H
        clear H
        have H := H1
        clear H1
        obtain rfl := Option.some.inj H
        go_wp2
        go_ret
        exact ⟨by first | rfl | (simp; done) | (simp [*]; done), by repeat (first | exact Drawn0.refl _ | apply Drawn0.step)⟩
      · replace c4 := Bool.eq_false_iff.mpr c4
        subst c4
        have H1 : (if a0 ≥ 97 then (latinerref05_Digit.j1 kj1 a0 (decide (a0 ≤ 102))) else (latinerref05_Digit.j1 kj1 a0 false)) = some r := by rw [if_neg (show ¬ (false = true) by decide)] at H; exact H
        clear H
        have H := H1
        clear H1
        have HC5 := Aside0.mk H
        clear H
        go_upto_region 3 with (fail)
        go_cut [13] (fun v13 wc => ∃ (kq : Nat) (x13_4 : Bool), v13 = .bool x13_4 ∧ Aside0 (latinerref05_Digit.j1 kq a0 x13_4 = some r) ∧ Aside0 (kq ≤ kj1) ∧ Drawn0 w wc)
        case first =>
          have H := HC5.out
          clear HC5
          by_cases c6 : a0 ≥ 97
          · rw [if_pos c6] at H
            have c6b0 : decide (97 ≤ a0) = true := decide_eq_true c6
            clear c6
            (first | rw [c6b0] | (simp only [i64_w, i32_w]; rw [c6b0]) | skip)
            have H' := Aside0.mk H
            clear H
            go_wp2
            go_meet
            case rel => exact ⟨_, (decide (a0 ≤ 102)), (by first | rfl | (simp; done) | (simp [*]; done)), H', ⟨by have := HJ1.out; first | omega | exact Nat.le_refl _⟩, by repeat (first | exact Drawn0.refl _ | apply Drawn0.step)⟩
          · rw [if_neg c6] at H
            have c6b0 : decide (97 ≤ a0) = false := decide_eq_false c6
            clear c6
            (first | rw [c6b0] | (simp only [i64_w, i32_w]; rw [c6b0]) | skip)
            have H' := Aside0.mk H
            clear H
            go_wp2
            go_meet
            case rel => exact ⟨_, (false), (by first | rfl | (simp; done) | (simp [*]; done)), H', ⟨by have := HJ1.out; first | omega | exact Nat.le_refl _⟩, by repeat (first | exact Drawn0.refl _ | apply Drawn0.step)⟩
        case rest =>
          clear HC5
          try clear c1
          try clear p2
          try clear c3
          try clear c3b0
          try clear c4
          try clear c6
          try clear c6b0
          try clear p2
          obtain ⟨kq, x13_4, rfl, HA, HJ4, ⟨mc4, rfl⟩⟩ := hcut
          cases kq with
          | zero => exact absurd HA.out (by simp [latinerref05_Digit.j1])
          | succ kj4 =>
            have H := HA.out
            clear HA
            simp only [latinerref05_Digit.j1] at H
            by_cases c7 : x13_4 = true
            · subst c7
              have H1 : (some (((a0 - 97) % 256) + 10)) = some r := by rw [if_pos rfl] at H; exact H
              clear H
              have H := H1
              clear H1
              obtain rfl := Option.some.inj H
              go_wp2
              go_ret
              exact ⟨by first | rfl | (simp; done) | (simp [*]; done), by repeat (first | exact Drawn0.refl _ | apply Drawn0.step)⟩
            · replace c7 := Bool.eq_false_iff.mpr c7
              subst c7
              have H1 : (if a0 ≥ 65 then (if a0 ≤ 70 then (some (((a0 - 65) % 256) + 10)) else (some (-1))) else (some (-1))) = some r := by rw [if_neg (show ¬ (false = true) by decide)] at H; exact H
              clear H
              have H := H1
              clear H1
              by_cases c8 : a0 ≥ 65
              · rw [if_pos c8] at H
                have c8b0 : decide (65 ≤ a0) = true := decide_eq_true c8
                clear c8
                by_cases c9 : a0 ≤ 70
                · rw [if_pos c9] at H
                  have c9b0 : decide (a0 ≤ 70) = true := decide_eq_true c9
                  clear c9
                  obtain rfl := Option.some.inj H
                  go_wp2
                  go_ret
                  exact ⟨by first | rfl | (simp; done) | (simp [*]; done), by repeat (first | exact Drawn0.refl _ | apply Drawn0.step)⟩
                · rw [if_neg c9] at H
                  have c9b0 : decide (a0 ≤ 70) = false := decide_eq_false c9
                  clear c9
                  obtain rfl := Option.some.inj H
                  go_wp2
                  go_ret
                  exact ⟨by first | rfl | (simp; done) | (simp [*]; done), by repeat (first | exact Drawn0.refl _ | apply Drawn0.step)⟩
              · rw [if_neg c8] at H
                have c8b0 : decide (65 ≤ a0) = false := decide_eq_false c8
                clear c8
                obtain rfl := Option.some.inj H
                go_wp2
                go_ret
                exact ⟨by first | rfl | (simp; done) | (simp [*]; done), by repeat (first | exact Drawn0.refl _ | apply Drawn0.step)⟩

end Go.Proofs.YtckfglcihelofaaDoor.LCode
