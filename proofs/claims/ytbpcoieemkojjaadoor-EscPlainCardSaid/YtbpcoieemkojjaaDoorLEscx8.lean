-- Written by this repo's own program over the kit's printer: YtbpcoieemkojjaaDoor.LEsc
import Derived.Test.YtbpcoieemkojjaaDoorLEscx0
import Derived.Test.YtbpcoieemkojjaaDoorLEscx1
namespace Go.Proofs.YtbpcoieemkojjaaDoor.LEsc
open Go.Proofs.YtbpcoieemkojjaaDoor.ExtEsc
open Go.RowKit Go.Proofs.YtbpcoieemkojjaaDoorW.PrintWords Go.Proofs.YtbpcoieemkojjaaDoorW.PrintLast Go.Proofs.YtbpcoieemkojjaaDoorW.PrintMore
attribute [local go_sem] max2_int min2_int max_two min_two max_three min_three max_four min_four   -- for this text's walks alone
set_option linter.unusedVariables false
set_option linter.unusedSimpArgs false

/-! ### latinerlaw06_EscPlain: function 8 -/
mutual
def latinerlaw06_EscPlain.l0 : Nat → ByteArray → Bool → Int → Option (Bool)
  | 0, _, _, _ => none
  | k + 1, x0, x3, x4 => if x4 < (x0.size : Int) then (if 0 ≤ x4 then (if (bt x0 x4) ≥ 97 then (latinerlaw06_EscPlain.j1 k x0 x3 x4 (!(decide ((bt x0 x4) ≤ 122)))) else (latinerlaw06_EscPlain.j1 k x0 x3 x4 (!false))) else (none)) else ((esc_ReadFilter.f x0).bind fun bt213 => ((esc_ReadName.f x0).bind fun bt215 => (if x3 = true then ((esc_Filter.f x0).bind fun t217 => (if t217.toList = x0.toList then ((esc_Name.f x0).bind fun t218 => (if t218.toList = x0.toList then (if bt213.2 = 0 then (if bt213.1.toList = x0.toList then (if bt215.2 = 0 then (some (bt215.1.toList == x0.toList)) else (some false)) else (some false)) else (some false)) else (some false))) else (some false))) else (some false))))
def latinerlaw06_EscPlain.j1 : Nat → ByteArray → Bool → Int → Bool → Option (Bool)
  | 0, _, _, _, _ => none
  | k + 1, x0, x3, x4, x28 => if x28 = true then (if x3 = true then ((esc_Filter.f x0).bind fun t211 => (if t211.toList = ([] : List UInt8) then (some false) else ((esc_Name.f x0).bind fun t212 => (some (t212.toList != ([] : List UInt8)))))) else (some false)) else (latinerlaw06_EscPlain.l0 k x0 x3 (wrap64 (x4 + 1)))
end
def latinerlaw06_EscPlain.f (k : Nat) (a0 : ByteArray) : Option (Bool) := (latinerlaw06_shown.f).bind fun t209 => ((latinerlaw06_cut.f a0).bind fun t210 => (latinerlaw06_EscPlain.l0 k t210 t209 0))
theorem latinerlaw06_EscPlain.mono_l : ∀ k, (∀ y0 y1 y2, LeO (latinerlaw06_EscPlain.l0 k y0 y1 y2) (latinerlaw06_EscPlain.l0 (k + 1) y0 y1 y2)) ∧ (∀ y0 y1 y2 y3, LeO (latinerlaw06_EscPlain.j1 k y0 y1 y2 y3) (latinerlaw06_EscPlain.j1 (k + 1) y0 y1 y2 y3))
  | 0 => ⟨fun _ _ _ r h => by simp [latinerlaw06_EscPlain.l0] at h, fun _ _ _ _ r h => by simp [latinerlaw06_EscPlain.j1] at h⟩
  | k + 1 => by
    obtain ⟨ih0, ih1⟩ := latinerlaw06_EscPlain.mono_l k
    refine ⟨?_, ?_⟩
    · intro y0 y1 y2
      unfold latinerlaw06_EscPlain.l0
      repeat' first
      | (with_reducible exact ih0 _ _ _)
      | (with_reducible exact ih1 _ _ _ _)
      | (with_reducible exact LeO.refl _)
      | (with_reducible exact LeO.none _)
      | (with_reducible refine LeO.ite ?_ ?_)
      | (with_reducible refine LeO.bind ?_ (fun _ => ?_))
      | exact ih0 _ _ _
      | exact ih1 _ _ _ _
      | exact LeO.none _
      | refine LeO.ite ?_ ?_
      | refine LeO.bind ?_ (fun _ => ?_)
    · intro y0 y1 y2 y3
      unfold latinerlaw06_EscPlain.j1
      repeat' first
      | (with_reducible exact ih0 _ _ _)
      | (with_reducible exact ih1 _ _ _ _)
      | (with_reducible exact LeO.refl _)
      | (with_reducible exact LeO.none _)
      | (with_reducible refine LeO.ite ?_ ?_)
      | (with_reducible refine LeO.bind ?_ (fun _ => ?_))
      | exact ih0 _ _ _
      | exact ih1 _ _ _ _
      | exact LeO.none _
      | refine LeO.ite ?_ ?_
      | refine LeO.bind ?_ (fun _ => ?_)
theorem latinerlaw06_EscPlain.mono : ∀ a0 k, LeO (latinerlaw06_EscPlain.f k a0) (latinerlaw06_EscPlain.f (k + 1) a0) := by
  intro a0 k
  obtain ⟨ih0, ih1⟩ := latinerlaw06_EscPlain.mono_l k
  unfold latinerlaw06_EscPlain.f
  repeat' first
      | (with_reducible exact ih0 _ _ _)
      | (with_reducible exact ih1 _ _ _ _)
      | (with_reducible exact LeO.refl _)
      | (with_reducible exact LeO.none _)
      | (with_reducible refine LeO.ite ?_ ?_)
      | (with_reducible refine LeO.bind ?_ (fun _ => ?_))
      | exact ih0 _ _ _
      | exact ih1 _ _ _ _
      | exact LeO.none _
      | refine LeO.ite ?_ ?_
      | refine LeO.bind ?_ (fun _ => ?_)
set_option maxHeartbeats 8000000 in
set_option maxRecDepth 100000 in
theorem latinerlaw06_EscPlain.calls (k : Nat) (a0 : ByteArray) (r : Bool) (w : World) (hG : GW w) (h : latinerlaw06_EscPlain.f k a0 = some r) :
    Calls Tryd.prog 8 #[.string a0] w fun e w' => e = .returned (.bool r) ∧ Below w.heap.size w w' := by
  have HB := Aside0.mk (Below.refl w.heap.size w)
  have H : ((latinerlaw06_shown.f).bind fun t209 => ((latinerlaw06_cut.f a0).bind fun t210 => (latinerlaw06_EscPlain.l0 k t210 t209 0))) = some r := h
  clear h
  replace H := Option.bind_eq_some_iff.mp H
  obtain ⟨t209, A20, H⟩ := H
  replace H : ((latinerlaw06_cut.f a0).bind fun t210 => (latinerlaw06_EscPlain.l0 k t210 t209 0)) = some r := H
  have A2 := Aside0.mk A20
  clear A20
  replace H := Option.bind_eq_some_iff.mp H
  obtain ⟨t210, A30, H⟩ := H
  replace H : (latinerlaw06_EscPlain.l0 k t210 t209 0) = some r := H
  have A3 := Aside0.mk A30
  clear A30
  have H' := Aside0.mk H
  clear H
  go_enter Tryd.func8, Tryd.ntmps8
  go_wp2_with (first | ((with_reducible refine gate_callee (f := 9) rfl ?_); refine goesL_ (some 9) rfl rfl Tryd.func9 (by kernel_rfl) rfl #[] rfl (by (try simp only [List.map_toArray, List.map_cons, List.map_nil]); first | done | rfl | (simp only [List.length_drop, List.length_take]; rfl)) ?_; (with_reducible refine (latinerlaw06_shown.calls  t209 _ ?side1 A2.out).mono ?_); (case side1 => exact GW.below hG (by repeat (first | (with_reducible first | exact HB.out | apply below_alloc | apply pw_below_drewN | apply below_drew1) | exact HB.out))); rintro e w4 ⟨rfl, hb⟩; refine ⟨_, rfl, ?_⟩; have n0_ := Aside0.mk (below_step (by repeat (first | (with_reducible first | exact HB.out | apply below_alloc | apply pw_below_drewN | apply below_drew1) | exact HB.out)) hb); clear HB; have HB := n0_; clear n0_; (try clear hb); (try clear hb2); (try clear hk); (try clear hi)) | ((with_reducible refine gate_callee (f := 10) rfl ?_); refine goesL_ (some 11) rfl rfl Tryd.func10 (by kernel_rfl) rfl #[.string a0] rfl (by (try simp only [List.map_toArray, List.map_cons, List.map_nil]); first | done | rfl | (simp only [List.length_drop, List.length_take]; rfl)) ?_; (with_reducible refine (latinerlaw06_cut.calls a0 t210 _ A3.out).mono ?_); rintro e w5 ⟨rfl, hb⟩; refine ⟨_, rfl, ?_⟩; have n0_ := Aside0.mk (below_step (by repeat (first | (with_reducible first | exact HB.out | apply below_alloc | apply pw_below_drewN | apply below_drew1) | exact HB.out)) hb); clear HB; have HB := n0_; clear n0_; (try clear hb); (try clear hb2); (try clear hk); (try clear hi)))
  go_loopg [4] k (fun kq v4 w' => ∃ (x4_1 : Int), v4 = .int .i64 x4_1 ∧ Aside0 (latinerlaw06_EscPlain.l0 kq t210 t209 x4_1 = some r) ∧ Aside0 (kq ≤ k) ∧ Aside0 (Below w.heap.size w w'))
  case atStart => exact ⟨(0), (by first | rfl | (simp; done) | (simp [*]; done)), H', ⟨Nat.le_refl _⟩, ⟨by repeat (first | (with_reducible first | exact HB.out | apply below_alloc | apply pw_below_drewN | apply below_drew1) | exact HB.out)⟩⟩
  case round =>
    clear H'
    try clear c1
    try clear p2
    obtain ⟨x4_1, rfl, HA, HK1, HB⟩ := hrel
    cases gk with
    | zero => exact absurd HA.out (by simp [latinerlaw06_EscPlain.l0])
    | succ k1 =>
      have H := HA.out
      clear HA
      simp only [latinerlaw06_EscPlain.l0] at H
      by_cases c6 : x4_1 < (t210.size : Int)
      · rw [if_pos c6] at H
        have c6b0 : decide (x4_1 < (t210.size : Int)) = true := decide_eq_true c6
        clear c6
        have HC7 := Aside0.mk H
        clear H
        go_upto_region 6 with (fail)
        go_cut [28] (fun v28 wc => ∃ (kq : Nat) (x28_6 : Bool), v28 = .bool x28_6 ∧ Aside0 (latinerlaw06_EscPlain.j1 kq t210 t209 x4_1 x28_6 = some r) ∧ Aside0 (kq ≤ k1) ∧ Aside0 (Below w.heap.size w wc))
        case first =>
          have H := HC7.out
          clear HC7
          by_cases c8 : 0 ≤ x4_1
          · rw [if_pos c8] at H
            have c8b0 : decide (0 ≤ x4_1) = true := decide_eq_true c8
            clear c8
            (first | rw [c8b0] | (simp only [i64_w, i32_w]; rw [c8b0]) | skip)
            by_cases c10 : (bt t210 x4_1) ≥ 97
            · rw [if_pos c10] at H
              have c10b0 : decide (97 ≤ (bt t210 x4_1)) = true := decide_eq_true c10
              clear c10
              have H' := Aside0.mk H
              clear H
              have p9 : 0 ≤ (x4_1 : Int) := of_decide_eq_true (by first | (with_reducible assumption) | assumption)
              have q9 : x4_1 < (t210.size : Int) := of_decide_eq_true (by first | (with_reducible assumption) | assumption)
              have hx9 := bt_at t210 x4_1
              replace p9 := eq_true p9
              replace q9 := eq_true q9
              have p11 : 0 ≤ (x4_1 : Int) := of_decide_eq_true (by first | (with_reducible assumption) | assumption)
              have q11 : x4_1 < (t210.size : Int) := of_decide_eq_true (by first | (with_reducible assumption) | assumption)
              have hx11 := bt_at t210 x4_1
              replace p11 := eq_true p11
              replace q11 := eq_true q11
              go_wp2
              go_meet
              case rel => exact ⟨_, (!(decide ((bt t210 x4_1) ≤ 122))), (by first | rfl | (simp; done) | (simp [*]; done)), H', ⟨by have := HK1.out; first | omega | exact Nat.le_refl _⟩, ⟨by repeat (first | (with_reducible first | exact HB.out | apply below_alloc | apply pw_below_drewN | apply below_drew1) | exact HB.out)⟩⟩
            · rw [if_neg c10] at H
              have c10b0 : decide (97 ≤ (bt t210 x4_1)) = false := decide_eq_false c10
              clear c10
              have H' := Aside0.mk H
              clear H
              have p9 : 0 ≤ (x4_1 : Int) := of_decide_eq_true (by first | (with_reducible assumption) | assumption)
              have q9 : x4_1 < (t210.size : Int) := of_decide_eq_true (by first | (with_reducible assumption) | assumption)
              have hx9 := bt_at t210 x4_1
              replace p9 := eq_true p9
              replace q9 := eq_true q9
              go_wp2
              go_meet
              case rel => exact ⟨_, (!false), (by first | rfl | (simp; done) | (simp [*]; done)), H', ⟨by have := HK1.out; first | omega | exact Nat.le_refl _⟩, ⟨by repeat (first | (with_reducible first | exact HB.out | apply below_alloc | apply pw_below_drewN | apply below_drew1) | exact HB.out)⟩⟩
          · rw [if_neg c8] at H
            exact absurd H (by simp)
        case rest =>
          clear HC7
          try clear c1
          try clear p1
          try clear q1
          try clear hx1
          try clear p2
          try clear c6
          try clear c6b0
          try clear c8
          try clear c8b0
          try clear c9
          try clear p9
          try clear q9
          try clear hx9
          try clear c10
          try clear c10b0
          try clear p11
          try clear q11
          try clear hx11
          try clear p11
          try clear p2
          try clear p9
          try clear q11
          try clear q9
          obtain ⟨kq, x28_6, rfl, HA, HJ6, HB⟩ := hcut
          cases kq with
          | zero => exact absurd HA.out (by simp [latinerlaw06_EscPlain.j1])
          | succ kj6 =>
            have H := HA.out
            clear HA
            simp only [latinerlaw06_EscPlain.j1] at H
            by_cases c12 : x28_6 = true
            · subst c12
              have H1 : (if t209 = true then ((esc_Filter.f t210).bind fun t211 => (if t211.toList = ([] : List UInt8) then (some false) else ((esc_Name.f t210).bind fun t212 => (some (t212.toList != ([] : List UInt8)))))) else (some false)) = some r := by rw [if_pos rfl] at H; exact H
              clear H
              have H := H1
              clear H1
              by_cases c13 : t209 = true
              · subst c13
                have H1 : ((esc_Filter.f t210).bind fun t211 => (if t211.toList = ([] : List UInt8) then (some false) else ((esc_Name.f t210).bind fun t212 => (some (t212.toList != ([] : List UInt8)))))) = some r := by rw [if_pos rfl] at H; exact H
                clear H
                have H := H1
                clear H1
                replace H := Option.bind_eq_some_iff.mp H
                obtain ⟨t211, A140, H⟩ := H
                replace H : (if t211.toList = ([] : List UInt8) then (some false) else ((esc_Name.f t210).bind fun t212 => (some (t212.toList != ([] : List UInt8))))) = some r := H
                have A14 := Aside0.mk A140
                clear A140
                by_cases c15 : t211.toList = ([] : List UInt8)
                · rw [if_pos c15] at H
                  have c15b0 : (t211.toList == ([] : List UInt8)) = true := beq_iff_eq.mpr c15
                  have c15b1 : (t211.toList != ([] : List UInt8)) = false := bne_eq_false_iff_eq.mpr c15
                  clear c15
                  obtain rfl := Option.some.inj H
                  go_wp2_with (first | (go_at_call 15; (with_reducible refine (esc_Filter.calls t210 t211 _ ?side1 A14.out).mono ?_); (case side1 => exact GW.below hG (by repeat (first | (with_reducible first | exact HB.out | apply below_alloc | apply pw_below_drewN | apply below_drew1) | exact HB.out))); rintro e w16 ⟨rfl, hb⟩; have n0_ := Aside0.mk (below_step (by repeat (first | (with_reducible first | exact HB.out | apply below_alloc | apply pw_below_drewN | apply below_drew1) | exact HB.out)) hb); clear HB; have HB := n0_; clear n0_; (try clear hb); (try clear hb2); (try clear hk); (try clear hi)))
                  all_goals first | (exfalso; simp only [decide_eq_true_eq, decide_eq_false_iff_not, decide_eq_decide, Bool.not_eq_true', Bool.not_eq_false', beq_iff_eq, beq_eq_false_iff_ne, bne_iff_ne, ne_eq, ByteArray.size_append, ByteArray.size_extract, lit1_size, Go.RowKit.wrap64] at *; omega) | (exfalso; simp_all; done) | (go_ret; exact ⟨by first | rfl | (simp [errW_none, errW_some] <;> rfl) | (simp [*, errW_none, errW_some] <;> rfl) | (simp [errW_none, errW_some]; rw [Bool.eq_iff_iff]; simp [List.isEmpty_iff]), by repeat (first | (with_reducible first | exact HB.out | apply below_alloc | apply pw_below_drewN | apply below_drew1) | exact HB.out)⟩)
                · rw [if_neg c15] at H
                  have c15b0 : (t211.toList == ([] : List UInt8)) = false := beq_eq_false_iff_ne.mpr c15
                  have c15b1 : (t211.toList != ([] : List UInt8)) = true := bne_iff_ne.mpr c15
                  replace H := Option.bind_eq_some_iff.mp H
                  obtain ⟨t212, A170, H⟩ := H
                  replace H : (some (t212.toList != ([] : List UInt8))) = some r := H
                  have A17 := Aside0.mk A170
                  clear A170
                  obtain rfl := Option.some.inj H
                  go_wp2_with (first | (go_at_call 15; (with_reducible refine (esc_Filter.calls t210 t211 _ ?side1 A14.out).mono ?_); (case side1 => exact GW.below hG (by repeat (first | (with_reducible first | exact HB.out | apply below_alloc | apply pw_below_drewN | apply below_drew1) | exact HB.out))); rintro e w18 ⟨rfl, hb⟩; have n0_ := Aside0.mk (below_step (by repeat (first | (with_reducible first | exact HB.out | apply below_alloc | apply pw_below_drewN | apply below_drew1) | exact HB.out)) hb); clear HB; have HB := n0_; clear n0_; (try clear hb); (try clear hb2); (try clear hk); (try clear hi)) | (go_at_call 17; (with_reducible refine (esc_Name.calls t210 t212 _ ?side1 A17.out).mono ?_); (case side1 => exact GW.below hG (by repeat (first | (with_reducible first | exact HB.out | apply below_alloc | apply pw_below_drewN | apply below_drew1) | exact HB.out))); rintro e w19 ⟨rfl, hb⟩; have n0_ := Aside0.mk (below_step (by repeat (first | (with_reducible first | exact HB.out | apply below_alloc | apply pw_below_drewN | apply below_drew1) | exact HB.out)) hb); clear HB; have HB := n0_; clear n0_; (try clear hb); (try clear hb2); (try clear hk); (try clear hi)))
                  all_goals first | (exfalso; simp only [decide_eq_true_eq, decide_eq_false_iff_not, decide_eq_decide, Bool.not_eq_true', Bool.not_eq_false', beq_iff_eq, beq_eq_false_iff_ne, bne_iff_ne, ne_eq, ByteArray.size_append, ByteArray.size_extract, lit1_size, Go.RowKit.wrap64] at *; omega) | (exfalso; simp_all; done) | (go_ret; exact ⟨by first | rfl | (simp [errW_none, errW_some] <;> rfl) | (simp [*, errW_none, errW_some] <;> rfl) | (simp [errW_none, errW_some]; rw [Bool.eq_iff_iff]; simp [List.isEmpty_iff]), by repeat (first | (with_reducible first | exact HB.out | apply below_alloc | apply pw_below_drewN | apply below_drew1) | exact HB.out)⟩)
              · replace c13 := Bool.eq_false_iff.mpr c13
                subst c13
                have H1 : (some false) = some r := by rw [if_neg (show ¬ (false = true) by decide)] at H; exact H
                clear H
                have H := H1
                clear H1
                obtain rfl := Option.some.inj H
                go_wp2
                all_goals first | (exfalso; simp only [decide_eq_true_eq, decide_eq_false_iff_not, decide_eq_decide, Bool.not_eq_true', Bool.not_eq_false', beq_iff_eq, beq_eq_false_iff_ne, bne_iff_ne, ne_eq, ByteArray.size_append, ByteArray.size_extract, lit1_size, Go.RowKit.wrap64] at *; omega) | (exfalso; simp_all; done) | (go_ret; exact ⟨by first | rfl | (simp [errW_none, errW_some] <;> rfl) | (simp [*, errW_none, errW_some] <;> rfl) | (simp [errW_none, errW_some]; rw [Bool.eq_iff_iff]; simp [List.isEmpty_iff]), by repeat (first | (with_reducible first | exact HB.out | apply below_alloc | apply pw_below_drewN | apply below_drew1) | exact HB.out)⟩)
            · replace c12 := Bool.eq_false_iff.mpr c12
              subst c12
              have H1 : (latinerlaw06_EscPlain.l0 kj6 t210 t209 (wrap64 (x4_1 + 1))) = some r := by rw [if_neg (show ¬ (false = true) by decide)] at H; exact H
              clear H
              have H := H1
              clear H1
              have H' := Aside0.mk H
              clear H
              go_wp2
              go_roundg kj6
              case measure => have := HK1.out; have := HJ6.out; omega
              case rel => exact ⟨(wrap64 (x4_1 + 1)), (by first | rfl | (simp; done) | (simp [*]; done)), H', ⟨by have := HK1.out; have := HJ6.out; omega⟩, ⟨by repeat (first | (with_reducible first | exact HB.out | apply below_alloc | apply pw_below_drewN | apply below_drew1) | exact HB.out)⟩⟩
      · rw [if_neg c6] at H
        have c6b0 : decide (x4_1 < (t210.size : Int)) = false := decide_eq_false c6
        clear c6
        replace H := Option.bind_eq_some_iff.mp H
        obtain ⟨⟨t213, t214⟩, A200, H⟩ := H
        replace H : ((esc_ReadName.f t210).bind fun bt215 => (if t209 = true then ((esc_Filter.f t210).bind fun t217 => (if t217.toList = t210.toList then ((esc_Name.f t210).bind fun t218 => (if t218.toList = t210.toList then (if t214 = 0 then (if t213.toList = t210.toList then (if bt215.2 = 0 then (some (bt215.1.toList == t210.toList)) else (some false)) else (some false)) else (some false)) else (some false))) else (some false))) else (some false))) = some r := H
        have A20 := Aside0.mk A200
        clear A200
        replace H := Option.bind_eq_some_iff.mp H
        obtain ⟨⟨t215, t216⟩, A210, H⟩ := H
        replace H : (if t209 = true then ((esc_Filter.f t210).bind fun t217 => (if t217.toList = t210.toList then ((esc_Name.f t210).bind fun t218 => (if t218.toList = t210.toList then (if t214 = 0 then (if t213.toList = t210.toList then (if t216 = 0 then (some (t215.toList == t210.toList)) else (some false)) else (some false)) else (some false)) else (some false))) else (some false))) else (some false)) = some r := H
        have A21 := Aside0.mk A210
        clear A210
        by_cases c22 : t209 = true
        · subst c22
          have H1 : ((esc_Filter.f t210).bind fun t217 => (if t217.toList = t210.toList then ((esc_Name.f t210).bind fun t218 => (if t218.toList = t210.toList then (if t214 = 0 then (if t213.toList = t210.toList then (if t216 = 0 then (some (t215.toList == t210.toList)) else (some false)) else (some false)) else (some false)) else (some false))) else (some false))) = some r := by rw [if_pos rfl] at H; exact H
          clear H
          have H := H1
          clear H1
          replace H := Option.bind_eq_some_iff.mp H
          obtain ⟨t217, A230, H⟩ := H
          replace H : (if t217.toList = t210.toList then ((esc_Name.f t210).bind fun t218 => (if t218.toList = t210.toList then (if t214 = 0 then (if t213.toList = t210.toList then (if t216 = 0 then (some (t215.toList == t210.toList)) else (some false)) else (some false)) else (some false)) else (some false))) else (some false)) = some r := H
          have A23 := Aside0.mk A230
          clear A230
          by_cases c24 : t217.toList = t210.toList
          · rw [if_pos c24] at H
            have c24b0 : (t217.toList == t210.toList) = true := beq_iff_eq.mpr c24
            have c24b1 : (t217.toList != t210.toList) = false := bne_eq_false_iff_eq.mpr c24
            clear c24
            replace H := Option.bind_eq_some_iff.mp H
            obtain ⟨t218, A250, H⟩ := H
            replace H : (if t218.toList = t210.toList then (if t214 = 0 then (if t213.toList = t210.toList then (if t216 = 0 then (some (t215.toList == t210.toList)) else (some false)) else (some false)) else (some false)) else (some false)) = some r := H
            have A25 := Aside0.mk A250
            clear A250
            by_cases c26 : t218.toList = t210.toList
            · rw [if_pos c26] at H
              have c26b0 : (t218.toList == t210.toList) = true := beq_iff_eq.mpr c26
              have c26b1 : (t218.toList != t210.toList) = false := bne_eq_false_iff_eq.mpr c26
              clear c26
              by_cases c27 : t214 = 0
              · rw [if_pos c27] at H
                have c27b0 : (t214 == 0) = true := beq_iff_eq.mpr c27
                have c27b1 : (t214 != 0) = false := bne_eq_false_iff_eq.mpr c27
                clear c27
                by_cases c28 : t213.toList = t210.toList
                · rw [if_pos c28] at H
                  have c28b0 : (t213.toList == t210.toList) = true := beq_iff_eq.mpr c28
                  have c28b1 : (t213.toList != t210.toList) = false := bne_eq_false_iff_eq.mpr c28
                  clear c28
                  by_cases c29 : t216 = 0
                  · rw [if_pos c29] at H
                    have c29b0 : (t216 == 0) = true := beq_iff_eq.mpr c29
                    have c29b1 : (t216 != 0) = false := bne_eq_false_iff_eq.mpr c29
                    clear c29
                    obtain rfl := Option.some.inj H
                    go_wp2_with (first | ((with_reducible refine gate_callee (f := 11) rfl ?_); refine goesL_ (some 42) rfl rfl Tryd.func11 (by kernel_rfl) rfl #[.string t210] rfl (by (try simp only [List.map_toArray, List.map_cons, List.map_nil]); first | done | rfl | (simp only [List.length_drop, List.length_take]; rfl)) ?_; (with_reducible refine (esc_ReadFilter.calls t210 t213 t214 _ ?side1 A20.out).mono ?_); (case side1 => exact GW.below hG (by repeat (first | (with_reducible first | exact HB.out | apply below_alloc | apply pw_below_drewN | apply below_drew1) | exact HB.out))); rintro e w30 ⟨rfl, hb⟩; refine ⟨_, rfl, ?_⟩; have n0_ := Aside0.mk (below_step (by repeat (first | (with_reducible first | exact HB.out | apply below_alloc | apply pw_below_drewN | apply below_drew1) | exact HB.out)) hb); clear HB; have HB := n0_; clear n0_; (try clear hb); (try clear hb2); (try clear hk); (try clear hi)) | ((with_reducible refine gate_callee (f := 13) rfl ?_); refine goesL_ (some 47) rfl rfl Tryd.func13 (by kernel_rfl) rfl #[.string t210] rfl (by (try simp only [List.map_toArray, List.map_cons, List.map_nil]); first | done | rfl | (simp only [List.length_drop, List.length_take]; rfl)) ?_; (with_reducible refine (esc_ReadName.calls t210 t215 t216 _ ?side1 A21.out).mono ?_); (case side1 => exact GW.below hG (by repeat (first | (with_reducible first | exact HB.out | apply below_alloc | apply pw_below_drewN | apply below_drew1) | exact HB.out))); rintro e w31 ⟨rfl, hb⟩; refine ⟨_, rfl, ?_⟩; have n0_ := Aside0.mk (below_step (by repeat (first | (with_reducible first | exact HB.out | apply below_alloc | apply pw_below_drewN | apply below_drew1) | exact HB.out)) hb); clear HB; have HB := n0_; clear n0_; (try clear hb); (try clear hb2); (try clear hk); (try clear hi)) | (go_at_call 15; (with_reducible refine (esc_Filter.calls t210 t217 _ ?side1 A23.out).mono ?_); (case side1 => exact GW.below hG (by repeat (first | (with_reducible first | exact HB.out | apply below_alloc | apply pw_below_drewN | apply below_drew1) | exact HB.out))); rintro e w32 ⟨rfl, hb⟩; have n0_ := Aside0.mk (below_step (by repeat (first | (with_reducible first | exact HB.out | apply below_alloc | apply pw_below_drewN | apply below_drew1) | exact HB.out)) hb); clear HB; have HB := n0_; clear n0_; (try clear hb); (try clear hb2); (try clear hk); (try clear hi)) | (go_at_call 17; (with_reducible refine (esc_Name.calls t210 t218 _ ?side1 A25.out).mono ?_); (case side1 => exact GW.below hG (by repeat (first | (with_reducible first | exact HB.out | apply below_alloc | apply pw_below_drewN | apply below_drew1) | exact HB.out))); rintro e w33 ⟨rfl, hb⟩; have n0_ := Aside0.mk (below_step (by repeat (first | (with_reducible first | exact HB.out | apply below_alloc | apply pw_below_drewN | apply below_drew1) | exact HB.out)) hb); clear HB; have HB := n0_; clear n0_; (try clear hb); (try clear hb2); (try clear hk); (try clear hi)))
                    all_goals first | (exfalso; simp only [decide_eq_true_eq, decide_eq_false_iff_not, decide_eq_decide, Bool.not_eq_true', Bool.not_eq_false', beq_iff_eq, beq_eq_false_iff_ne, bne_iff_ne, ne_eq, ByteArray.size_append, ByteArray.size_extract, lit1_size, Go.RowKit.wrap64] at *; omega) | (exfalso; simp_all; done) | (go_ret; exact ⟨by first | rfl | (simp [errW_none, errW_some] <;> rfl) | (simp [*, errW_none, errW_some] <;> rfl) | (simp [errW_none, errW_some]; rw [Bool.eq_iff_iff]; simp [List.isEmpty_iff]), by repeat (first | (with_reducible first | exact HB.out | apply below_alloc | apply pw_below_drewN | apply below_drew1) | exact HB.out)⟩)
                  · rw [if_neg c29] at H
                    have c29b0 : (t216 == 0) = false := beq_eq_false_iff_ne.mpr c29
                    have c29b1 : (t216 != 0) = true := bne_iff_ne.mpr c29
                    obtain rfl := Option.some.inj H
                    go_wp2_with (first | ((with_reducible refine gate_callee (f := 11) rfl ?_); refine goesL_ (some 42) rfl rfl Tryd.func11 (by kernel_rfl) rfl #[.string t210] rfl (by (try simp only [List.map_toArray, List.map_cons, List.map_nil]); first | done | rfl | (simp only [List.length_drop, List.length_take]; rfl)) ?_; (with_reducible refine (esc_ReadFilter.calls t210 t213 t214 _ ?side1 A20.out).mono ?_); (case side1 => exact GW.below hG (by repeat (first | (with_reducible first | exact HB.out | apply below_alloc | apply pw_below_drewN | apply below_drew1) | exact HB.out))); rintro e w34 ⟨rfl, hb⟩; refine ⟨_, rfl, ?_⟩; have n0_ := Aside0.mk (below_step (by repeat (first | (with_reducible first | exact HB.out | apply below_alloc | apply pw_below_drewN | apply below_drew1) | exact HB.out)) hb); clear HB; have HB := n0_; clear n0_; (try clear hb); (try clear hb2); (try clear hk); (try clear hi)) | ((with_reducible refine gate_callee (f := 13) rfl ?_); refine goesL_ (some 47) rfl rfl Tryd.func13 (by kernel_rfl) rfl #[.string t210] rfl (by (try simp only [List.map_toArray, List.map_cons, List.map_nil]); first | done | rfl | (simp only [List.length_drop, List.length_take]; rfl)) ?_; (with_reducible refine (esc_ReadName.calls t210 t215 t216 _ ?side1 A21.out).mono ?_); (case side1 => exact GW.below hG (by repeat (first | (with_reducible first | exact HB.out | apply below_alloc | apply pw_below_drewN | apply below_drew1) | exact HB.out))); rintro e w35 ⟨rfl, hb⟩; refine ⟨_, rfl, ?_⟩; have n0_ := Aside0.mk (below_step (by repeat (first | (with_reducible first | exact HB.out | apply below_alloc | apply pw_below_drewN | apply below_drew1) | exact HB.out)) hb); clear HB; have HB := n0_; clear n0_; (try clear hb); (try clear hb2); (try clear hk); (try clear hi)) | (go_at_call 15; (with_reducible refine (esc_Filter.calls t210 t217 _ ?side1 A23.out).mono ?_); (case side1 => exact GW.below hG (by repeat (first | (with_reducible first | exact HB.out | apply below_alloc | apply pw_below_drewN | apply below_drew1) | exact HB.out))); rintro e w36 ⟨rfl, hb⟩; have n0_ := Aside0.mk (below_step (by repeat (first | (with_reducible first | exact HB.out | apply below_alloc | apply pw_below_drewN | apply below_drew1) | exact HB.out)) hb); clear HB; have HB := n0_; clear n0_; (try clear hb); (try clear hb2); (try clear hk); (try clear hi)) | (go_at_call 17; (with_reducible refine (esc_Name.calls t210 t218 _ ?side1 A25.out).mono ?_); (case side1 => exact GW.below hG (by repeat (first | (with_reducible first | exact HB.out | apply below_alloc | apply pw_below_drewN | apply below_drew1) | exact HB.out))); rintro e w37 ⟨rfl, hb⟩; have n0_ := Aside0.mk (below_step (by repeat (first | (with_reducible first | exact HB.out | apply below_alloc | apply pw_below_drewN | apply below_drew1) | exact HB.out)) hb); clear HB; have HB := n0_; clear n0_; (try clear hb); (try clear hb2); (try clear hk); (try clear hi)))
                    all_goals first | (exfalso; simp only [decide_eq_true_eq, decide_eq_false_iff_not, decide_eq_decide, Bool.not_eq_true', Bool.not_eq_false', beq_iff_eq, beq_eq_false_iff_ne, bne_iff_ne, ne_eq, ByteArray.size_append, ByteArray.size_extract, lit1_size, Go.RowKit.wrap64] at *; omega) | (exfalso; simp_all; done) | (go_ret; exact ⟨by first | rfl | (simp [errW_none, errW_some] <;> rfl) | (simp [*, errW_none, errW_some] <;> rfl) | (simp [errW_none, errW_some]; rw [Bool.eq_iff_iff]; simp [List.isEmpty_iff]), by repeat (first | (with_reducible first | exact HB.out | apply below_alloc | apply pw_below_drewN | apply below_drew1) | exact HB.out)⟩)
                · rw [if_neg c28] at H
                  have c28b0 : (t213.toList == t210.toList) = false := beq_eq_false_iff_ne.mpr c28
                  have c28b1 : (t213.toList != t210.toList) = true := bne_iff_ne.mpr c28
                  obtain rfl := Option.some.inj H
                  go_wp2_with (first | ((with_reducible refine gate_callee (f := 11) rfl ?_); refine goesL_ (some 42) rfl rfl Tryd.func11 (by kernel_rfl) rfl #[.string t210] rfl (by (try simp only [List.map_toArray, List.map_cons, List.map_nil]); first | done | rfl | (simp only [List.length_drop, List.length_take]; rfl)) ?_; (with_reducible refine (esc_ReadFilter.calls t210 t213 t214 _ ?side1 A20.out).mono ?_); (case side1 => exact GW.below hG (by repeat (first | (with_reducible first | exact HB.out | apply below_alloc | apply pw_below_drewN | apply below_drew1) | exact HB.out))); rintro e w38 ⟨rfl, hb⟩; refine ⟨_, rfl, ?_⟩; have n0_ := Aside0.mk (below_step (by repeat (first | (with_reducible first | exact HB.out | apply below_alloc | apply pw_below_drewN | apply below_drew1) | exact HB.out)) hb); clear HB; have HB := n0_; clear n0_; (try clear hb); (try clear hb2); (try clear hk); (try clear hi)) | ((with_reducible refine gate_callee (f := 13) rfl ?_); refine goesL_ (some 47) rfl rfl Tryd.func13 (by kernel_rfl) rfl #[.string t210] rfl (by (try simp only [List.map_toArray, List.map_cons, List.map_nil]); first | done | rfl | (simp only [List.length_drop, List.length_take]; rfl)) ?_; (with_reducible refine (esc_ReadName.calls t210 t215 t216 _ ?side1 A21.out).mono ?_); (case side1 => exact GW.below hG (by repeat (first | (with_reducible first | exact HB.out | apply below_alloc | apply pw_below_drewN | apply below_drew1) | exact HB.out))); rintro e w39 ⟨rfl, hb⟩; refine ⟨_, rfl, ?_⟩; have n0_ := Aside0.mk (below_step (by repeat (first | (with_reducible first | exact HB.out | apply below_alloc | apply pw_below_drewN | apply below_drew1) | exact HB.out)) hb); clear HB; have HB := n0_; clear n0_; (try clear hb); (try clear hb2); (try clear hk); (try clear hi)) | (go_at_call 15; (with_reducible refine (esc_Filter.calls t210 t217 _ ?side1 A23.out).mono ?_); (case side1 => exact GW.below hG (by repeat (first | (with_reducible first | exact HB.out | apply below_alloc | apply pw_below_drewN | apply below_drew1) | exact HB.out))); rintro e w40 ⟨rfl, hb⟩; have n0_ := Aside0.mk (below_step (by repeat (first | (with_reducible first | exact HB.out | apply below_alloc | apply pw_below_drewN | apply below_drew1) | exact HB.out)) hb); clear HB; have HB := n0_; clear n0_; (try clear hb); (try clear hb2); (try clear hk); (try clear hi)) | (go_at_call 17; (with_reducible refine (esc_Name.calls t210 t218 _ ?side1 A25.out).mono ?_); (case side1 => exact GW.below hG (by repeat (first | (with_reducible first | exact HB.out | apply below_alloc | apply pw_below_drewN | apply below_drew1) | exact HB.out))); rintro e w41 ⟨rfl, hb⟩; have n0_ := Aside0.mk (below_step (by repeat (first | (with_reducible first | exact HB.out | apply below_alloc | apply pw_below_drewN | apply below_drew1) | exact HB.out)) hb); clear HB; have HB := n0_; clear n0_; (try clear hb); (try clear hb2); (try clear hk); (try clear hi)))
                  all_goals first | (exfalso; simp only [decide_eq_true_eq, decide_eq_false_iff_not, decide_eq_decide, Bool.not_eq_true', Bool.not_eq_false', beq_iff_eq, beq_eq_false_iff_ne, bne_iff_ne, ne_eq, ByteArray.size_append, ByteArray.size_extract, lit1_size, Go.RowKit.wrap64] at *; omega) | (exfalso; simp_all; done) | (go_ret; exact ⟨by first | rfl | (simp [errW_none, errW_some] <;> rfl) | (simp [*, errW_none, errW_some] <;> rfl) | (simp [errW_none, errW_some]; rw [Bool.eq_iff_iff]; simp [List.isEmpty_iff]), by repeat (first | (with_reducible first | exact HB.out | apply below_alloc | apply pw_below_drewN | apply below_drew1) | exact HB.out)⟩)
              · rw [if_neg c27] at H
                have c27b0 : (t214 == 0) = false := beq_eq_false_iff_ne.mpr c27
                have c27b1 : (t214 != 0) = true := bne_iff_ne.mpr c27
                obtain rfl := Option.some.inj H
                go_wp2_with (first | ((with_reducible refine gate_callee (f := 11) rfl ?_); refine goesL_ (some 42) rfl rfl Tryd.func11 (by kernel_rfl) rfl #[.string t210] rfl (by (try simp only [List.map_toArray, List.map_cons, List.map_nil]); first | done | rfl | (simp only [List.length_drop, List.length_take]; rfl)) ?_; (with_reducible refine (esc_ReadFilter.calls t210 t213 t214 _ ?side1 A20.out).mono ?_); (case side1 => exact GW.below hG (by repeat (first | (with_reducible first | exact HB.out | apply below_alloc | apply pw_below_drewN | apply below_drew1) | exact HB.out))); rintro e w42 ⟨rfl, hb⟩; refine ⟨_, rfl, ?_⟩; have n0_ := Aside0.mk (below_step (by repeat (first | (with_reducible first | exact HB.out | apply below_alloc | apply pw_below_drewN | apply below_drew1) | exact HB.out)) hb); clear HB; have HB := n0_; clear n0_; (try clear hb); (try clear hb2); (try clear hk); (try clear hi)) | ((with_reducible refine gate_callee (f := 13) rfl ?_); refine goesL_ (some 47) rfl rfl Tryd.func13 (by kernel_rfl) rfl #[.string t210] rfl (by (try simp only [List.map_toArray, List.map_cons, List.map_nil]); first | done | rfl | (simp only [List.length_drop, List.length_take]; rfl)) ?_; (with_reducible refine (esc_ReadName.calls t210 t215 t216 _ ?side1 A21.out).mono ?_); (case side1 => exact GW.below hG (by repeat (first | (with_reducible first | exact HB.out | apply below_alloc | apply pw_below_drewN | apply below_drew1) | exact HB.out))); rintro e w43 ⟨rfl, hb⟩; refine ⟨_, rfl, ?_⟩; have n0_ := Aside0.mk (below_step (by repeat (first | (with_reducible first | exact HB.out | apply below_alloc | apply pw_below_drewN | apply below_drew1) | exact HB.out)) hb); clear HB; have HB := n0_; clear n0_; (try clear hb); (try clear hb2); (try clear hk); (try clear hi)) | (go_at_call 15; (with_reducible refine (esc_Filter.calls t210 t217 _ ?side1 A23.out).mono ?_); (case side1 => exact GW.below hG (by repeat (first | (with_reducible first | exact HB.out | apply below_alloc | apply pw_below_drewN | apply below_drew1) | exact HB.out))); rintro e w44 ⟨rfl, hb⟩; have n0_ := Aside0.mk (below_step (by repeat (first | (with_reducible first | exact HB.out | apply below_alloc | apply pw_below_drewN | apply below_drew1) | exact HB.out)) hb); clear HB; have HB := n0_; clear n0_; (try clear hb); (try clear hb2); (try clear hk); (try clear hi)) | (go_at_call 17; (with_reducible refine (esc_Name.calls t210 t218 _ ?side1 A25.out).mono ?_); (case side1 => exact GW.below hG (by repeat (first | (with_reducible first | exact HB.out | apply below_alloc | apply pw_below_drewN | apply below_drew1) | exact HB.out))); rintro e w45 ⟨rfl, hb⟩; have n0_ := Aside0.mk (below_step (by repeat (first | (with_reducible first | exact HB.out | apply below_alloc | apply pw_below_drewN | apply below_drew1) | exact HB.out)) hb); clear HB; have HB := n0_; clear n0_; (try clear hb); (try clear hb2); (try clear hk); (try clear hi)))
                all_goals first | (exfalso; simp only [decide_eq_true_eq, decide_eq_false_iff_not, decide_eq_decide, Bool.not_eq_true', Bool.not_eq_false', beq_iff_eq, beq_eq_false_iff_ne, bne_iff_ne, ne_eq, ByteArray.size_append, ByteArray.size_extract, lit1_size, Go.RowKit.wrap64] at *; omega) | (exfalso; simp_all; done) | (go_ret; exact ⟨by first | rfl | (simp [errW_none, errW_some] <;> rfl) | (simp [*, errW_none, errW_some] <;> rfl) | (simp [errW_none, errW_some]; rw [Bool.eq_iff_iff]; simp [List.isEmpty_iff]), by repeat (first | (with_reducible first | exact HB.out | apply below_alloc | apply pw_below_drewN | apply below_drew1) | exact HB.out)⟩)
            · rw [if_neg c26] at H
              have c26b0 : (t218.toList == t210.toList) = false := beq_eq_false_iff_ne.mpr c26
              have c26b1 : (t218.toList != t210.toList) = true := bne_iff_ne.mpr c26
              obtain rfl := Option.some.inj H
              go_wp2_with (first | ((with_reducible refine gate_callee (f := 11) rfl ?_); refine goesL_ (some 42) rfl rfl Tryd.func11 (by kernel_rfl) rfl #[.string t210] rfl (by (try simp only [List.map_toArray, List.map_cons, List.map_nil]); first | done | rfl | (simp only [List.length_drop, List.length_take]; rfl)) ?_; (with_reducible refine (esc_ReadFilter.calls t210 t213 t214 _ ?side1 A20.out).mono ?_); (case side1 => exact GW.below hG (by repeat (first | (with_reducible first | exact HB.out | apply below_alloc | apply pw_below_drewN | apply below_drew1) | exact HB.out))); rintro e w46 ⟨rfl, hb⟩; refine ⟨_, rfl, ?_⟩; have n0_ := Aside0.mk (below_step (by repeat (first | (with_reducible first | exact HB.out | apply below_alloc | apply pw_below_drewN | apply below_drew1) | exact HB.out)) hb); clear HB; have HB := n0_; clear n0_; (try clear hb); (try clear hb2); (try clear hk); (try clear hi)) | ((with_reducible refine gate_callee (f := 13) rfl ?_); refine goesL_ (some 47) rfl rfl Tryd.func13 (by kernel_rfl) rfl #[.string t210] rfl (by (try simp only [List.map_toArray, List.map_cons, List.map_nil]); first | done | rfl | (simp only [List.length_drop, List.length_take]; rfl)) ?_; (with_reducible refine (esc_ReadName.calls t210 t215 t216 _ ?side1 A21.out).mono ?_); (case side1 => exact GW.below hG (by repeat (first | (with_reducible first | exact HB.out | apply below_alloc | apply pw_below_drewN | apply below_drew1) | exact HB.out))); rintro e w47 ⟨rfl, hb⟩; refine ⟨_, rfl, ?_⟩; have n0_ := Aside0.mk (below_step (by repeat (first | (with_reducible first | exact HB.out | apply below_alloc | apply pw_below_drewN | apply below_drew1) | exact HB.out)) hb); clear HB; have HB := n0_; clear n0_; (try clear hb); (try clear hb2); (try clear hk); (try clear hi)) | (go_at_call 15; (with_reducible refine (esc_Filter.calls t210 t217 _ ?side1 A23.out).mono ?_); (case side1 => exact GW.below hG (by repeat (first | (with_reducible first | exact HB.out | apply below_alloc | apply pw_below_drewN | apply below_drew1) | exact HB.out))); rintro e w48 ⟨rfl, hb⟩; have n0_ := Aside0.mk (below_step (by repeat (first | (with_reducible first | exact HB.out | apply below_alloc | apply pw_below_drewN | apply below_drew1) | exact HB.out)) hb); clear HB; have HB := n0_; clear n0_; (try clear hb); (try clear hb2); (try clear hk); (try clear hi)) | (go_at_call 17; (with_reducible refine (esc_Name.calls t210 t218 _ ?side1 A25.out).mono ?_); (case side1 => exact GW.below hG (by repeat (first | (with_reducible first | exact HB.out | apply below_alloc | apply pw_below_drewN | apply below_drew1) | exact HB.out))); rintro e w49 ⟨rfl, hb⟩; have n0_ := Aside0.mk (below_step (by repeat (first | (with_reducible first | exact HB.out | apply below_alloc | apply pw_below_drewN | apply below_drew1) | exact HB.out)) hb); clear HB; have HB := n0_; clear n0_; (try clear hb); (try clear hb2); (try clear hk); (try clear hi)))
              all_goals first | (exfalso; simp only [decide_eq_true_eq, decide_eq_false_iff_not, decide_eq_decide, Bool.not_eq_true', Bool.not_eq_false', beq_iff_eq, beq_eq_false_iff_ne, bne_iff_ne, ne_eq, ByteArray.size_append, ByteArray.size_extract, lit1_size, Go.RowKit.wrap64] at *; omega) | (exfalso; simp_all; done) | (go_ret; exact ⟨by first | rfl | (simp [errW_none, errW_some] <;> rfl) | (simp [*, errW_none, errW_some] <;> rfl) | (simp [errW_none, errW_some]; rw [Bool.eq_iff_iff]; simp [List.isEmpty_iff]), by repeat (first | (with_reducible first | exact HB.out | apply below_alloc | apply pw_below_drewN | apply below_drew1) | exact HB.out)⟩)
          · rw [if_neg c24] at H
            have c24b0 : (t217.toList == t210.toList) = false := beq_eq_false_iff_ne.mpr c24
            have c24b1 : (t217.toList != t210.toList) = true := bne_iff_ne.mpr c24
            obtain rfl := Option.some.inj H
            go_wp2_with (first | ((with_reducible refine gate_callee (f := 11) rfl ?_); refine goesL_ (some 42) rfl rfl Tryd.func11 (by kernel_rfl) rfl #[.string t210] rfl (by (try simp only [List.map_toArray, List.map_cons, List.map_nil]); first | done | rfl | (simp only [List.length_drop, List.length_take]; rfl)) ?_; (with_reducible refine (esc_ReadFilter.calls t210 t213 t214 _ ?side1 A20.out).mono ?_); (case side1 => exact GW.below hG (by repeat (first | (with_reducible first | exact HB.out | apply below_alloc | apply pw_below_drewN | apply below_drew1) | exact HB.out))); rintro e w50 ⟨rfl, hb⟩; refine ⟨_, rfl, ?_⟩; have n0_ := Aside0.mk (below_step (by repeat (first | (with_reducible first | exact HB.out | apply below_alloc | apply pw_below_drewN | apply below_drew1) | exact HB.out)) hb); clear HB; have HB := n0_; clear n0_; (try clear hb); (try clear hb2); (try clear hk); (try clear hi)) | ((with_reducible refine gate_callee (f := 13) rfl ?_); refine goesL_ (some 47) rfl rfl Tryd.func13 (by kernel_rfl) rfl #[.string t210] rfl (by (try simp only [List.map_toArray, List.map_cons, List.map_nil]); first | done | rfl | (simp only [List.length_drop, List.length_take]; rfl)) ?_; (with_reducible refine (esc_ReadName.calls t210 t215 t216 _ ?side1 A21.out).mono ?_); (case side1 => exact GW.below hG (by repeat (first | (with_reducible first | exact HB.out | apply below_alloc | apply pw_below_drewN | apply below_drew1) | exact HB.out))); rintro e w51 ⟨rfl, hb⟩; refine ⟨_, rfl, ?_⟩; have n0_ := Aside0.mk (below_step (by repeat (first | (with_reducible first | exact HB.out | apply below_alloc | apply pw_below_drewN | apply below_drew1) | exact HB.out)) hb); clear HB; have HB := n0_; clear n0_; (try clear hb); (try clear hb2); (try clear hk); (try clear hi)) | (go_at_call 15; (with_reducible refine (esc_Filter.calls t210 t217 _ ?side1 A23.out).mono ?_); (case side1 => exact GW.below hG (by repeat (first | (with_reducible first | exact HB.out | apply below_alloc | apply pw_below_drewN | apply below_drew1) | exact HB.out))); rintro e w52 ⟨rfl, hb⟩; have n0_ := Aside0.mk (below_step (by repeat (first | (with_reducible first | exact HB.out | apply below_alloc | apply pw_below_drewN | apply below_drew1) | exact HB.out)) hb); clear HB; have HB := n0_; clear n0_; (try clear hb); (try clear hb2); (try clear hk); (try clear hi)))
            all_goals first | (exfalso; simp only [decide_eq_true_eq, decide_eq_false_iff_not, decide_eq_decide, Bool.not_eq_true', Bool.not_eq_false', beq_iff_eq, beq_eq_false_iff_ne, bne_iff_ne, ne_eq, ByteArray.size_append, ByteArray.size_extract, lit1_size, Go.RowKit.wrap64] at *; omega) | (exfalso; simp_all; done) | (go_ret; exact ⟨by first | rfl | (simp [errW_none, errW_some] <;> rfl) | (simp [*, errW_none, errW_some] <;> rfl) | (simp [errW_none, errW_some]; rw [Bool.eq_iff_iff]; simp [List.isEmpty_iff]), by repeat (first | (with_reducible first | exact HB.out | apply below_alloc | apply pw_below_drewN | apply below_drew1) | exact HB.out)⟩)
        · replace c22 := Bool.eq_false_iff.mpr c22
          subst c22
          have H1 : (some false) = some r := by rw [if_neg (show ¬ (false = true) by decide)] at H; exact H
          clear H
          have H := H1
          clear H1
          obtain rfl := Option.some.inj H
          go_wp2_with (first | ((with_reducible refine gate_callee (f := 11) rfl ?_); refine goesL_ (some 42) rfl rfl Tryd.func11 (by kernel_rfl) rfl #[.string t210] rfl (by (try simp only [List.map_toArray, List.map_cons, List.map_nil]); first | done | rfl | (simp only [List.length_drop, List.length_take]; rfl)) ?_; (with_reducible refine (esc_ReadFilter.calls t210 t213 t214 _ ?side1 A20.out).mono ?_); (case side1 => exact GW.below hG (by repeat (first | (with_reducible first | exact HB.out | apply below_alloc | apply pw_below_drewN | apply below_drew1) | exact HB.out))); rintro e w53 ⟨rfl, hb⟩; refine ⟨_, rfl, ?_⟩; have n0_ := Aside0.mk (below_step (by repeat (first | (with_reducible first | exact HB.out | apply below_alloc | apply pw_below_drewN | apply below_drew1) | exact HB.out)) hb); clear HB; have HB := n0_; clear n0_; (try clear hb); (try clear hb2); (try clear hk); (try clear hi)) | ((with_reducible refine gate_callee (f := 13) rfl ?_); refine goesL_ (some 47) rfl rfl Tryd.func13 (by kernel_rfl) rfl #[.string t210] rfl (by (try simp only [List.map_toArray, List.map_cons, List.map_nil]); first | done | rfl | (simp only [List.length_drop, List.length_take]; rfl)) ?_; (with_reducible refine (esc_ReadName.calls t210 t215 t216 _ ?side1 A21.out).mono ?_); (case side1 => exact GW.below hG (by repeat (first | (with_reducible first | exact HB.out | apply below_alloc | apply pw_below_drewN | apply below_drew1) | exact HB.out))); rintro e w54 ⟨rfl, hb⟩; refine ⟨_, rfl, ?_⟩; have n0_ := Aside0.mk (below_step (by repeat (first | (with_reducible first | exact HB.out | apply below_alloc | apply pw_below_drewN | apply below_drew1) | exact HB.out)) hb); clear HB; have HB := n0_; clear n0_; (try clear hb); (try clear hb2); (try clear hk); (try clear hi)))
          all_goals first | (exfalso; simp only [decide_eq_true_eq, decide_eq_false_iff_not, decide_eq_decide, Bool.not_eq_true', Bool.not_eq_false', beq_iff_eq, beq_eq_false_iff_ne, bne_iff_ne, ne_eq, ByteArray.size_append, ByteArray.size_extract, lit1_size, Go.RowKit.wrap64] at *; omega) | (exfalso; simp_all; done) | (go_ret; exact ⟨by first | rfl | (simp [errW_none, errW_some] <;> rfl) | (simp [*, errW_none, errW_some] <;> rfl) | (simp [errW_none, errW_some]; rw [Bool.eq_iff_iff]; simp [List.isEmpty_iff]), by repeat (first | (with_reducible first | exact HB.out | apply below_alloc | apply pw_below_drewN | apply below_drew1) | exact HB.out)⟩)

/-- THE ONE PURE STATEMENT of latinerlaw06_EscPlain: yours. -/
def latinerlaw06_EscPlain.Pure : Prop := ∀ (a0 : ByteArray), a0.size ≤ 140737488351232 → ∃ k, latinerlaw06_EscPlain.f k a0 = some true
theorem latinerlaw06_EscPlain.walk (P : latinerlaw06_EscPlain.Pure) (a0 : ByteArray) (w : World) (w0 : a0.size ≤ 140737488351232) (hG : GW w) :
    Calls Tryd.prog 8 #[.string a0] w fun e w' => e = .returned (.bool true) ∧ Below w.heap.size w w' := by
  obtain ⟨k, h⟩ := P a0 w0
  refine (latinerlaw06_EscPlain.calls k a0 true w hG h).mono ?_
  rintro e w' ⟨rfl, hd⟩
  exact ⟨rfl, hd⟩

end Go.Proofs.YtbpcoieemkojjaaDoor.LEsc
