-- Written by this repo's own program over the kit's printer: YtmfnenlinhljkaaDoor.LPrim
import Derived.Test.YtmfnenlinhljkaaDoorLPrimx0
import Derived.Test.YtmfnenlinhljkaaDoorLPrimx1
namespace Go.Proofs.YtmfnenlinhljkaaDoor.LPrim
open Go.Proofs.YtmfnenlinhljkaaDoor.ExtPrim
open Go.RowKit Go.Proofs.YtmfnenlinhljkaaDoorW.PrintWords Go.Proofs.YtmfnenlinhljkaaDoorW.PrintLast Go.Proofs.YtmfnenlinhljkaaDoorW.PrintMore
attribute [local go_sem] max2_int min2_int max_two min_two max_three min_three max_four min_four   -- for this text's walks alone
set_option linter.unusedVariables false
set_option linter.unusedSimpArgs false

/-! ### latinerref03_Bool: function 24 -/
def latinerref03_Bool.f (a0 : Bool) : Option (ByteArray) := if a0 = true then (some (⟨#[255]⟩ : ByteArray)) else (some (⟨#[0]⟩ : ByteArray))
set_option maxHeartbeats 8000000 in
set_option maxRecDepth 100000 in
theorem latinerref03_Bool.calls (a0 : Bool) (r : ByteArray) (w : World) (h : latinerref03_Bool.f a0 = some r) :
    Calls Tryd.prog 24 #[.bool a0] w fun e w' => e = .returned (.string r) ∧ Drawn0 w w' := by
  have H : (if a0 = true then (some (⟨#[255]⟩ : ByteArray)) else (some (⟨#[0]⟩ : ByteArray))) = some r := h
  clear h
  by_cases c2 : a0 = true
  · subst c2
    have H1 : (some (⟨#[255]⟩ : ByteArray)) = some r := by rw [if_pos rfl] at H; exact H
    clear H
    have H := H1
    clear H1
    obtain rfl := Option.some.inj H
    go_enter Tryd.func24, Tryd.ntmps24
    go_wp2
    go_ret
    exact ⟨by first | rfl | (simp; done) | (simp [*]; done), by repeat (first | exact Drawn0.refl _ | apply Drawn0.step)⟩
  · replace c2 := Bool.eq_false_iff.mpr c2
    subst c2
    have H1 : (some (⟨#[0]⟩ : ByteArray)) = some r := by rw [if_neg (show ¬ (false = true) by decide)] at H; exact H
    clear H
    have H := H1
    clear H1
    obtain rfl := Option.some.inj H
    go_enter Tryd.func24, Tryd.ntmps24
    go_wp2
    go_ret
    exact ⟨by first | rfl | (simp; done) | (simp [*]; done), by repeat (first | exact Drawn0.refl _ | apply Drawn0.step)⟩

/-! ### latinerlaw03_PrimCodes: function 3 -/
def latinerlaw03_PrimCodes.f (k : Nat) (a0 : Int) (a1 : ByteArray) (a2 : Bool) : Option (Bool) := (latinerlaw03_shown.f).bind fun t119 => ((latinerlaw03_cut.f a1).bind fun t120 => ((prim_Int.f a0).bind fun bt121 => ((latinerref03_Int.f k a0).bind fun bt123 => ((prim_ReadInt.f t120).bind fun bt125 => ((latinerref03_ReadInt.f k t120).bind fun bt127 => ((prim_ReadBool.f t120).bind fun bt129 => ((latinerref03_ReadBool.f t120).bind fun bt131 => (if t119 = true then (if bt121.1.toList = bt123.1.toList then (if bt121.2 = bt123.2 then (if bt125.1 = bt127.1 then (if bt125.2 = bt127.2 then (if (bt129.1 == bt131.1) = true then (if bt129.2 = bt131.2 then ((prim_Bool.f a2).bind fun t133 => ((latinerref03_Bool.f a2).bind fun t134 => (some (t133.toList == t134.toList)))) else (some false)) else (some false)) else (some false)) else (some false)) else (some false)) else (some false)) else (some false)))))))))
theorem latinerlaw03_PrimCodes.mono : ∀ a0 a1 a2 k, LeO (latinerlaw03_PrimCodes.f k a0 a1 a2) (latinerlaw03_PrimCodes.f (k + 1) a0 a1 a2) := by
  intro a0 a1 a2 k
  unfold latinerlaw03_PrimCodes.f
  repeat' first
      | (with_reducible exact latinerref03_Int.mono _ _)
      | (with_reducible exact latinerref03_ReadInt.mono _ _)
      | (with_reducible exact LeO.refl _)
      | (with_reducible exact LeO.none _)
      | (with_reducible refine LeO.ite ?_ ?_)
      | (with_reducible refine LeO.bind ?_ (fun _ => ?_))
      | exact latinerref03_Int.mono _ _
      | exact latinerref03_ReadInt.mono _ _
      | exact LeO.none _
      | refine LeO.ite ?_ ?_
      | refine LeO.bind ?_ (fun _ => ?_)
set_option maxHeartbeats 8000000 in
set_option maxRecDepth 100000 in
theorem latinerlaw03_PrimCodes.calls (k : Nat) (a0 : Int) (a1 : ByteArray) (a2 : Bool) (r : Bool) (w : World) (hG : GW w) (h : latinerlaw03_PrimCodes.f k a0 a1 a2 = some r) :
    Calls Tryd.prog 3 #[.int .i64 a0, .string a1, .bool a2] w fun e w' => e = .returned (.bool r) ∧ Below w.heap.size w w' := by
  have HB := Aside0.mk (Below.refl w.heap.size w)
  have H : ((latinerlaw03_shown.f).bind fun t119 => ((latinerlaw03_cut.f a1).bind fun t120 => ((prim_Int.f a0).bind fun bt121 => ((latinerref03_Int.f k a0).bind fun bt123 => ((prim_ReadInt.f t120).bind fun bt125 => ((latinerref03_ReadInt.f k t120).bind fun bt127 => ((prim_ReadBool.f t120).bind fun bt129 => ((latinerref03_ReadBool.f t120).bind fun bt131 => (if t119 = true then (if bt121.1.toList = bt123.1.toList then (if bt121.2 = bt123.2 then (if bt125.1 = bt127.1 then (if bt125.2 = bt127.2 then (if (bt129.1 == bt131.1) = true then (if bt129.2 = bt131.2 then ((prim_Bool.f a2).bind fun t133 => ((latinerref03_Bool.f a2).bind fun t134 => (some (t133.toList == t134.toList)))) else (some false)) else (some false)) else (some false)) else (some false)) else (some false)) else (some false)) else (some false)))))))))) = some r := h
  clear h
  replace H := Option.bind_eq_some_iff.mp H
  obtain ⟨t119, A40, H⟩ := H
  replace H : ((latinerlaw03_cut.f a1).bind fun t120 => ((prim_Int.f a0).bind fun bt121 => ((latinerref03_Int.f k a0).bind fun bt123 => ((prim_ReadInt.f t120).bind fun bt125 => ((latinerref03_ReadInt.f k t120).bind fun bt127 => ((prim_ReadBool.f t120).bind fun bt129 => ((latinerref03_ReadBool.f t120).bind fun bt131 => (if t119 = true then (if bt121.1.toList = bt123.1.toList then (if bt121.2 = bt123.2 then (if bt125.1 = bt127.1 then (if bt125.2 = bt127.2 then (if (bt129.1 == bt131.1) = true then (if bt129.2 = bt131.2 then ((prim_Bool.f a2).bind fun t133 => ((latinerref03_Bool.f a2).bind fun t134 => (some (t133.toList == t134.toList)))) else (some false)) else (some false)) else (some false)) else (some false)) else (some false)) else (some false)) else (some false))))))))) = some r := H
  have A4 := Aside0.mk A40
  clear A40
  replace H := Option.bind_eq_some_iff.mp H
  obtain ⟨t120, A50, H⟩ := H
  replace H : ((prim_Int.f a0).bind fun bt121 => ((latinerref03_Int.f k a0).bind fun bt123 => ((prim_ReadInt.f t120).bind fun bt125 => ((latinerref03_ReadInt.f k t120).bind fun bt127 => ((prim_ReadBool.f t120).bind fun bt129 => ((latinerref03_ReadBool.f t120).bind fun bt131 => (if t119 = true then (if bt121.1.toList = bt123.1.toList then (if bt121.2 = bt123.2 then (if bt125.1 = bt127.1 then (if bt125.2 = bt127.2 then (if (bt129.1 == bt131.1) = true then (if bt129.2 = bt131.2 then ((prim_Bool.f a2).bind fun t133 => ((latinerref03_Bool.f a2).bind fun t134 => (some (t133.toList == t134.toList)))) else (some false)) else (some false)) else (some false)) else (some false)) else (some false)) else (some false)) else (some false)))))))) = some r := H
  have A5 := Aside0.mk A50
  clear A50
  replace H := Option.bind_eq_some_iff.mp H
  obtain ⟨⟨t121, t122⟩, A60, H⟩ := H
  replace H : ((latinerref03_Int.f k a0).bind fun bt123 => ((prim_ReadInt.f t120).bind fun bt125 => ((latinerref03_ReadInt.f k t120).bind fun bt127 => ((prim_ReadBool.f t120).bind fun bt129 => ((latinerref03_ReadBool.f t120).bind fun bt131 => (if t119 = true then (if t121.toList = bt123.1.toList then (if t122 = bt123.2 then (if bt125.1 = bt127.1 then (if bt125.2 = bt127.2 then (if (bt129.1 == bt131.1) = true then (if bt129.2 = bt131.2 then ((prim_Bool.f a2).bind fun t133 => ((latinerref03_Bool.f a2).bind fun t134 => (some (t133.toList == t134.toList)))) else (some false)) else (some false)) else (some false)) else (some false)) else (some false)) else (some false)) else (some false))))))) = some r := H
  have A6 := Aside0.mk A60
  clear A60
  replace H := Option.bind_eq_some_iff.mp H
  obtain ⟨⟨t123, t124⟩, A70, H⟩ := H
  replace H : ((prim_ReadInt.f t120).bind fun bt125 => ((latinerref03_ReadInt.f k t120).bind fun bt127 => ((prim_ReadBool.f t120).bind fun bt129 => ((latinerref03_ReadBool.f t120).bind fun bt131 => (if t119 = true then (if t121.toList = t123.toList then (if t122 = t124 then (if bt125.1 = bt127.1 then (if bt125.2 = bt127.2 then (if (bt129.1 == bt131.1) = true then (if bt129.2 = bt131.2 then ((prim_Bool.f a2).bind fun t133 => ((latinerref03_Bool.f a2).bind fun t134 => (some (t133.toList == t134.toList)))) else (some false)) else (some false)) else (some false)) else (some false)) else (some false)) else (some false)) else (some false)))))) = some r := H
  have A7 := Aside0.mk A70
  clear A70
  replace H := Option.bind_eq_some_iff.mp H
  obtain ⟨⟨t125, t126⟩, A80, H⟩ := H
  replace H : ((latinerref03_ReadInt.f k t120).bind fun bt127 => ((prim_ReadBool.f t120).bind fun bt129 => ((latinerref03_ReadBool.f t120).bind fun bt131 => (if t119 = true then (if t121.toList = t123.toList then (if t122 = t124 then (if t125 = bt127.1 then (if t126 = bt127.2 then (if (bt129.1 == bt131.1) = true then (if bt129.2 = bt131.2 then ((prim_Bool.f a2).bind fun t133 => ((latinerref03_Bool.f a2).bind fun t134 => (some (t133.toList == t134.toList)))) else (some false)) else (some false)) else (some false)) else (some false)) else (some false)) else (some false)) else (some false))))) = some r := H
  have A8 := Aside0.mk A80
  clear A80
  replace H := Option.bind_eq_some_iff.mp H
  obtain ⟨⟨t127, t128⟩, A90, H⟩ := H
  replace H : ((prim_ReadBool.f t120).bind fun bt129 => ((latinerref03_ReadBool.f t120).bind fun bt131 => (if t119 = true then (if t121.toList = t123.toList then (if t122 = t124 then (if t125 = t127 then (if t126 = t128 then (if (bt129.1 == bt131.1) = true then (if bt129.2 = bt131.2 then ((prim_Bool.f a2).bind fun t133 => ((latinerref03_Bool.f a2).bind fun t134 => (some (t133.toList == t134.toList)))) else (some false)) else (some false)) else (some false)) else (some false)) else (some false)) else (some false)) else (some false)))) = some r := H
  have A9 := Aside0.mk A90
  clear A90
  replace H := Option.bind_eq_some_iff.mp H
  obtain ⟨⟨t129, t130⟩, A100, H⟩ := H
  replace H : ((latinerref03_ReadBool.f t120).bind fun bt131 => (if t119 = true then (if t121.toList = t123.toList then (if t122 = t124 then (if t125 = t127 then (if t126 = t128 then (if (t129 == bt131.1) = true then (if t130 = bt131.2 then ((prim_Bool.f a2).bind fun t133 => ((latinerref03_Bool.f a2).bind fun t134 => (some (t133.toList == t134.toList)))) else (some false)) else (some false)) else (some false)) else (some false)) else (some false)) else (some false)) else (some false))) = some r := H
  have A10 := Aside0.mk A100
  clear A100
  replace H := Option.bind_eq_some_iff.mp H
  obtain ⟨⟨t131, t132⟩, A110, H⟩ := H
  replace H : (if t119 = true then (if t121.toList = t123.toList then (if t122 = t124 then (if t125 = t127 then (if t126 = t128 then (if (t129 == t131) = true then (if t130 = t132 then ((prim_Bool.f a2).bind fun t133 => ((latinerref03_Bool.f a2).bind fun t134 => (some (t133.toList == t134.toList)))) else (some false)) else (some false)) else (some false)) else (some false)) else (some false)) else (some false)) else (some false)) = some r := H
  have A11 := Aside0.mk A110
  clear A110
  by_cases c12 : t119 = true
  · subst c12
    have H1 : (if t121.toList = t123.toList then (if t122 = t124 then (if t125 = t127 then (if t126 = t128 then (if (t129 == t131) = true then (if t130 = t132 then ((prim_Bool.f a2).bind fun t133 => ((latinerref03_Bool.f a2).bind fun t134 => (some (t133.toList == t134.toList)))) else (some false)) else (some false)) else (some false)) else (some false)) else (some false)) else (some false)) = some r := by rw [if_pos rfl] at H; exact H
    clear H
    have H := H1
    clear H1
    by_cases c13 : t121.toList = t123.toList
    · rw [if_pos c13] at H
      have c13b0 : (t121.toList == t123.toList) = true := beq_iff_eq.mpr c13
      have c13b1 : (t121.toList != t123.toList) = false := bne_eq_false_iff_eq.mpr c13
      clear c13
      by_cases c14 : t122 = t124
      · rw [if_pos c14] at H
        have c14b0 : (t122 == t124) = true := beq_iff_eq.mpr c14
        have c14b1 : (t122 != t124) = false := bne_eq_false_iff_eq.mpr c14
        clear c14
        by_cases c15 : t125 = t127
        · rw [if_pos c15] at H
          have c15b0 : (t125 == t127) = true := beq_iff_eq.mpr c15
          have c15b1 : (t125 != t127) = false := bne_eq_false_iff_eq.mpr c15
          clear c15
          by_cases c16 : t126 = t128
          · rw [if_pos c16] at H
            have c16b0 : (t126 == t128) = true := beq_iff_eq.mpr c16
            have c16b1 : (t126 != t128) = false := bne_eq_false_iff_eq.mpr c16
            clear c16
            by_cases c17 : (t129 == t131) = true
            · rw [if_pos c17] at H
              have c17b0 : (t129 == t131) = true := c17
              (try (have c17b1 : decide (t129 = t131) = true := by simpa using c17))
              (try (have c17b2 : (t129 == t131) = true := by simpa using c17))
              clear c17
              by_cases c18 : t130 = t132
              · rw [if_pos c18] at H
                have c18b0 : (t130 == t132) = true := beq_iff_eq.mpr c18
                have c18b1 : (t130 != t132) = false := bne_eq_false_iff_eq.mpr c18
                clear c18
                replace H := Option.bind_eq_some_iff.mp H
                obtain ⟨t133, A190, H⟩ := H
                replace H : ((latinerref03_Bool.f a2).bind fun t134 => (some (t133.toList == t134.toList))) = some r := H
                have A19 := Aside0.mk A190
                clear A190
                replace H := Option.bind_eq_some_iff.mp H
                obtain ⟨t134, A200, H⟩ := H
                replace H : (some (t133.toList == t134.toList)) = some r := H
                have A20 := Aside0.mk A200
                clear A200
                obtain rfl := Option.some.inj H
                go_enter Tryd.func3, Tryd.ntmps3
                go_wp2_with (first | ((with_reducible refine gate_callee (f := 15) rfl ?_); refine goesL_ (some 20) rfl rfl Tryd.func15 (by kernel_rfl) rfl #[] rfl (by (try simp only [List.map_toArray, List.map_cons, List.map_nil]); first | done | rfl | (simp only [List.length_drop, List.length_take]; rfl)) ?_; (with_reducible refine (latinerlaw03_shown.calls  true _ ?side1 A4.out).mono ?_); (case side1 => exact GW.below hG (by repeat (first | (with_reducible first | exact HB.out | apply below_alloc | apply pw_below_drewN | apply below_drew1) | exact HB.out))); rintro e w21 ⟨rfl, hb⟩; refine ⟨_, rfl, ?_⟩; have n0_ := Aside0.mk (below_step (by repeat (first | (with_reducible first | exact HB.out | apply below_alloc | apply pw_below_drewN | apply below_drew1) | exact HB.out)) hb); clear HB; have HB := n0_; clear n0_; (try clear hb); (try clear hb2); (try clear hk); (try clear hi)) | ((with_reducible refine gate_callee (f := 16) rfl ?_); refine goesL_ (some 22) rfl rfl Tryd.func16 (by kernel_rfl) rfl #[.string a1] rfl (by (try simp only [List.map_toArray, List.map_cons, List.map_nil]); first | done | rfl | (simp only [List.length_drop, List.length_take]; rfl)) ?_; (with_reducible refine (latinerlaw03_cut.calls a1 t120 _ A5.out).mono ?_); rintro e w22 ⟨rfl, hb⟩; refine ⟨_, rfl, ?_⟩; have n0_ := Aside0.mk (below_step (by repeat (first | (with_reducible first | exact HB.out | apply below_alloc | apply pw_below_drewN | apply below_drew1) | exact HB.out)) hb); clear HB; have HB := n0_; clear n0_; (try clear hb); (try clear hb2); (try clear hk); (try clear hi)) | ((with_reducible refine gate_callee (f := 17) rfl ?_); refine goesL_ (some 25) rfl rfl Tryd.func17 (by kernel_rfl) rfl #[.int .i64 a0] rfl (by (try simp only [List.map_toArray, List.map_cons, List.map_nil]); first | done | rfl | (simp only [List.length_drop, List.length_take]; rfl)) ?_; (with_reducible refine (prim_Int.calls a0 t121 t122 _ ?side1 A6.out).mono ?_); (case side1 => exact GW.below hG (by repeat (first | (with_reducible first | exact HB.out | apply below_alloc | apply pw_below_drewN | apply below_drew1) | exact HB.out))); rintro e w23 ⟨rfl, hb⟩; refine ⟨_, rfl, ?_⟩; have n0_ := Aside0.mk (below_step (by repeat (first | (with_reducible first | exact HB.out | apply below_alloc | apply pw_below_drewN | apply below_drew1) | exact HB.out)) hb); clear HB; have HB := n0_; clear n0_; (try clear hb); (try clear hb2); (try clear hk); (try clear hi)) | ((with_reducible refine gate_callee (f := 18) rfl ?_); refine goesL_ (some 30) rfl rfl Tryd.func18 (by kernel_rfl) rfl #[.int .i64 a0] rfl (by (try simp only [List.map_toArray, List.map_cons, List.map_nil]); first | done | rfl | (simp only [List.length_drop, List.length_take]; rfl)) ?_; (with_reducible refine (latinerref03_Int.calls k a0 t123 t124 _ A7.out).mono ?_); rintro e w24 ⟨rfl, hb⟩; refine ⟨_, rfl, ?_⟩; have n0_ := Aside0.mk (below_step (by repeat (first | (with_reducible first | exact HB.out | apply below_alloc | apply pw_below_drewN | apply below_drew1) | exact HB.out)) hb); clear HB; have HB := n0_; clear n0_; (try clear hb); (try clear hb2); (try clear hk); (try clear hi)) | ((with_reducible refine gate_callee (f := 19) rfl ?_); refine goesL_ (some 35) rfl rfl Tryd.func19 (by kernel_rfl) rfl #[.string t120] rfl (by (try simp only [List.map_toArray, List.map_cons, List.map_nil]); first | done | rfl | (simp only [List.length_drop, List.length_take]; rfl)) ?_; (with_reducible refine (prim_ReadInt.calls t120 t125 t126 _ ?side1 A8.out).mono ?_); (case side1 => exact GW.below hG (by repeat (first | (with_reducible first | exact HB.out | apply below_alloc | apply pw_below_drewN | apply below_drew1) | exact HB.out))); rintro e w25 ⟨rfl, hb⟩; refine ⟨_, rfl, ?_⟩; have n0_ := Aside0.mk (below_step (by repeat (first | (with_reducible first | exact HB.out | apply below_alloc | apply pw_below_drewN | apply below_drew1) | exact HB.out)) hb); clear HB; have HB := n0_; clear n0_; (try clear hb); (try clear hb2); (try clear hk); (try clear hi)) | ((with_reducible refine gate_callee (f := 20) rfl ?_); refine goesL_ (some 40) rfl rfl Tryd.func20 (by kernel_rfl) rfl #[.string t120] rfl (by (try simp only [List.map_toArray, List.map_cons, List.map_nil]); first | done | rfl | (simp only [List.length_drop, List.length_take]; rfl)) ?_; (with_reducible refine (latinerref03_ReadInt.calls k t120 t127 t128 _ A9.out).mono ?_); rintro e w26 ⟨rfl, hb⟩; refine ⟨_, rfl, ?_⟩; have n0_ := Aside0.mk (below_step (by repeat (first | (with_reducible first | exact HB.out | apply below_alloc | apply pw_below_drewN | apply below_drew1) | exact HB.out)) hb); clear HB; have HB := n0_; clear n0_; (try clear hb); (try clear hb2); (try clear hk); (try clear hi)) | ((with_reducible refine gate_callee (f := 21) rfl ?_); refine goesL_ (some 45) rfl rfl Tryd.func21 (by kernel_rfl) rfl #[.string t120] rfl (by (try simp only [List.map_toArray, List.map_cons, List.map_nil]); first | done | rfl | (simp only [List.length_drop, List.length_take]; rfl)) ?_; (with_reducible refine (prim_ReadBool.calls t120 t129 t130 _ ?side1 A10.out).mono ?_); (case side1 => exact GW.below hG (by repeat (first | (with_reducible first | exact HB.out | apply below_alloc | apply pw_below_drewN | apply below_drew1) | exact HB.out))); rintro e w27 ⟨rfl, hb⟩; refine ⟨_, rfl, ?_⟩; have n0_ := Aside0.mk (below_step (by repeat (first | (with_reducible first | exact HB.out | apply below_alloc | apply pw_below_drewN | apply below_drew1) | exact HB.out)) hb); clear HB; have HB := n0_; clear n0_; (try clear hb); (try clear hb2); (try clear hk); (try clear hi)) | ((with_reducible refine gate_callee (f := 22) rfl ?_); refine goesL_ (some 50) rfl rfl Tryd.func22 (by kernel_rfl) rfl #[.string t120] rfl (by (try simp only [List.map_toArray, List.map_cons, List.map_nil]); first | done | rfl | (simp only [List.length_drop, List.length_take]; rfl)) ?_; (with_reducible refine (latinerref03_ReadBool.calls t120 t131 t132 _ A11.out).mono ?_); rintro e w' ⟨rfl, ⟨nd, rfl⟩⟩; refine ⟨_, rfl, ?_⟩) | (go_at_call 23; (with_reducible refine (prim_Bool.calls a2 t133 _ A19.out).mono ?_); rintro e w' ⟨rfl, ⟨nd, rfl⟩⟩) | (go_at_call 24; (with_reducible refine (latinerref03_Bool.calls a2 t134 _ A20.out).mono ?_); rintro e w' ⟨rfl, ⟨nd, rfl⟩⟩))
                go_ret
                exact ⟨by first | rfl | (simp [errW_none, errW_some] <;> rfl) | (simp [*, errW_none, errW_some] <;> rfl), by repeat (first | (with_reducible first | exact HB.out | apply below_alloc | apply pw_below_drewN | apply below_drew1) | exact HB.out)⟩
              · rw [if_neg c18] at H
                have c18b0 : (t130 == t132) = false := beq_eq_false_iff_ne.mpr c18
                have c18b1 : (t130 != t132) = true := bne_iff_ne.mpr c18
                obtain rfl := Option.some.inj H
                go_enter Tryd.func3, Tryd.ntmps3
                go_wp2_with (first | ((with_reducible refine gate_callee (f := 15) rfl ?_); refine goesL_ (some 20) rfl rfl Tryd.func15 (by kernel_rfl) rfl #[] rfl (by (try simp only [List.map_toArray, List.map_cons, List.map_nil]); first | done | rfl | (simp only [List.length_drop, List.length_take]; rfl)) ?_; (with_reducible refine (latinerlaw03_shown.calls  true _ ?side1 A4.out).mono ?_); (case side1 => exact GW.below hG (by repeat (first | (with_reducible first | exact HB.out | apply below_alloc | apply pw_below_drewN | apply below_drew1) | exact HB.out))); rintro e w28 ⟨rfl, hb⟩; refine ⟨_, rfl, ?_⟩; have n0_ := Aside0.mk (below_step (by repeat (first | (with_reducible first | exact HB.out | apply below_alloc | apply pw_below_drewN | apply below_drew1) | exact HB.out)) hb); clear HB; have HB := n0_; clear n0_; (try clear hb); (try clear hb2); (try clear hk); (try clear hi)) | ((with_reducible refine gate_callee (f := 16) rfl ?_); refine goesL_ (some 22) rfl rfl Tryd.func16 (by kernel_rfl) rfl #[.string a1] rfl (by (try simp only [List.map_toArray, List.map_cons, List.map_nil]); first | done | rfl | (simp only [List.length_drop, List.length_take]; rfl)) ?_; (with_reducible refine (latinerlaw03_cut.calls a1 t120 _ A5.out).mono ?_); rintro e w29 ⟨rfl, hb⟩; refine ⟨_, rfl, ?_⟩; have n0_ := Aside0.mk (below_step (by repeat (first | (with_reducible first | exact HB.out | apply below_alloc | apply pw_below_drewN | apply below_drew1) | exact HB.out)) hb); clear HB; have HB := n0_; clear n0_; (try clear hb); (try clear hb2); (try clear hk); (try clear hi)) | ((with_reducible refine gate_callee (f := 17) rfl ?_); refine goesL_ (some 25) rfl rfl Tryd.func17 (by kernel_rfl) rfl #[.int .i64 a0] rfl (by (try simp only [List.map_toArray, List.map_cons, List.map_nil]); first | done | rfl | (simp only [List.length_drop, List.length_take]; rfl)) ?_; (with_reducible refine (prim_Int.calls a0 t121 t122 _ ?side1 A6.out).mono ?_); (case side1 => exact GW.below hG (by repeat (first | (with_reducible first | exact HB.out | apply below_alloc | apply pw_below_drewN | apply below_drew1) | exact HB.out))); rintro e w30 ⟨rfl, hb⟩; refine ⟨_, rfl, ?_⟩; have n0_ := Aside0.mk (below_step (by repeat (first | (with_reducible first | exact HB.out | apply below_alloc | apply pw_below_drewN | apply below_drew1) | exact HB.out)) hb); clear HB; have HB := n0_; clear n0_; (try clear hb); (try clear hb2); (try clear hk); (try clear hi)) | ((with_reducible refine gate_callee (f := 18) rfl ?_); refine goesL_ (some 30) rfl rfl Tryd.func18 (by kernel_rfl) rfl #[.int .i64 a0] rfl (by (try simp only [List.map_toArray, List.map_cons, List.map_nil]); first | done | rfl | (simp only [List.length_drop, List.length_take]; rfl)) ?_; (with_reducible refine (latinerref03_Int.calls k a0 t123 t124 _ A7.out).mono ?_); rintro e w31 ⟨rfl, hb⟩; refine ⟨_, rfl, ?_⟩; have n0_ := Aside0.mk (below_step (by repeat (first | (with_reducible first | exact HB.out | apply below_alloc | apply pw_below_drewN | apply below_drew1) | exact HB.out)) hb); clear HB; have HB := n0_; clear n0_; (try clear hb); (try clear hb2); (try clear hk); (try clear hi)) | ((with_reducible refine gate_callee (f := 19) rfl ?_); refine goesL_ (some 35) rfl rfl Tryd.func19 (by kernel_rfl) rfl #[.string t120] rfl (by (try simp only [List.map_toArray, List.map_cons, List.map_nil]); first | done | rfl | (simp only [List.length_drop, List.length_take]; rfl)) ?_; (with_reducible refine (prim_ReadInt.calls t120 t125 t126 _ ?side1 A8.out).mono ?_); (case side1 => exact GW.below hG (by repeat (first | (with_reducible first | exact HB.out | apply below_alloc | apply pw_below_drewN | apply below_drew1) | exact HB.out))); rintro e w32 ⟨rfl, hb⟩; refine ⟨_, rfl, ?_⟩; have n0_ := Aside0.mk (below_step (by repeat (first | (with_reducible first | exact HB.out | apply below_alloc | apply pw_below_drewN | apply below_drew1) | exact HB.out)) hb); clear HB; have HB := n0_; clear n0_; (try clear hb); (try clear hb2); (try clear hk); (try clear hi)) | ((with_reducible refine gate_callee (f := 20) rfl ?_); refine goesL_ (some 40) rfl rfl Tryd.func20 (by kernel_rfl) rfl #[.string t120] rfl (by (try simp only [List.map_toArray, List.map_cons, List.map_nil]); first | done | rfl | (simp only [List.length_drop, List.length_take]; rfl)) ?_; (with_reducible refine (latinerref03_ReadInt.calls k t120 t127 t128 _ A9.out).mono ?_); rintro e w33 ⟨rfl, hb⟩; refine ⟨_, rfl, ?_⟩; have n0_ := Aside0.mk (below_step (by repeat (first | (with_reducible first | exact HB.out | apply below_alloc | apply pw_below_drewN | apply below_drew1) | exact HB.out)) hb); clear HB; have HB := n0_; clear n0_; (try clear hb); (try clear hb2); (try clear hk); (try clear hi)) | ((with_reducible refine gate_callee (f := 21) rfl ?_); refine goesL_ (some 45) rfl rfl Tryd.func21 (by kernel_rfl) rfl #[.string t120] rfl (by (try simp only [List.map_toArray, List.map_cons, List.map_nil]); first | done | rfl | (simp only [List.length_drop, List.length_take]; rfl)) ?_; (with_reducible refine (prim_ReadBool.calls t120 t129 t130 _ ?side1 A10.out).mono ?_); (case side1 => exact GW.below hG (by repeat (first | (with_reducible first | exact HB.out | apply below_alloc | apply pw_below_drewN | apply below_drew1) | exact HB.out))); rintro e w34 ⟨rfl, hb⟩; refine ⟨_, rfl, ?_⟩; have n0_ := Aside0.mk (below_step (by repeat (first | (with_reducible first | exact HB.out | apply below_alloc | apply pw_below_drewN | apply below_drew1) | exact HB.out)) hb); clear HB; have HB := n0_; clear n0_; (try clear hb); (try clear hb2); (try clear hk); (try clear hi)) | ((with_reducible refine gate_callee (f := 22) rfl ?_); refine goesL_ (some 50) rfl rfl Tryd.func22 (by kernel_rfl) rfl #[.string t120] rfl (by (try simp only [List.map_toArray, List.map_cons, List.map_nil]); first | done | rfl | (simp only [List.length_drop, List.length_take]; rfl)) ?_; (with_reducible refine (latinerref03_ReadBool.calls t120 t131 t132 _ A11.out).mono ?_); rintro e w' ⟨rfl, ⟨nd, rfl⟩⟩; refine ⟨_, rfl, ?_⟩))
                go_ret
                exact ⟨by first | rfl | (simp [errW_none, errW_some] <;> rfl) | (simp [*, errW_none, errW_some] <;> rfl), by repeat (first | (with_reducible first | exact HB.out | apply below_alloc | apply pw_below_drewN | apply below_drew1) | exact HB.out)⟩
            · rw [if_neg c17] at H
              have c17b0 : (t129 == t131) = false := by simpa using c17
              (try (have c17b1 : decide (t129 = t131) = false := by simpa using c17))
              (try (have c17b2 : (t129 == t131) = false := by simpa using c17))
              (try (have c17b3 : ¬ (t129 = t131) := by simpa using c17))
              clear c17
              obtain rfl := Option.some.inj H
              go_enter Tryd.func3, Tryd.ntmps3
              go_wp2_with (first | ((with_reducible refine gate_callee (f := 15) rfl ?_); refine goesL_ (some 20) rfl rfl Tryd.func15 (by kernel_rfl) rfl #[] rfl (by (try simp only [List.map_toArray, List.map_cons, List.map_nil]); first | done | rfl | (simp only [List.length_drop, List.length_take]; rfl)) ?_; (with_reducible refine (latinerlaw03_shown.calls  true _ ?side1 A4.out).mono ?_); (case side1 => exact GW.below hG (by repeat (first | (with_reducible first | exact HB.out | apply below_alloc | apply pw_below_drewN | apply below_drew1) | exact HB.out))); rintro e w35 ⟨rfl, hb⟩; refine ⟨_, rfl, ?_⟩; have n0_ := Aside0.mk (below_step (by repeat (first | (with_reducible first | exact HB.out | apply below_alloc | apply pw_below_drewN | apply below_drew1) | exact HB.out)) hb); clear HB; have HB := n0_; clear n0_; (try clear hb); (try clear hb2); (try clear hk); (try clear hi)) | ((with_reducible refine gate_callee (f := 16) rfl ?_); refine goesL_ (some 22) rfl rfl Tryd.func16 (by kernel_rfl) rfl #[.string a1] rfl (by (try simp only [List.map_toArray, List.map_cons, List.map_nil]); first | done | rfl | (simp only [List.length_drop, List.length_take]; rfl)) ?_; (with_reducible refine (latinerlaw03_cut.calls a1 t120 _ A5.out).mono ?_); rintro e w36 ⟨rfl, hb⟩; refine ⟨_, rfl, ?_⟩; have n0_ := Aside0.mk (below_step (by repeat (first | (with_reducible first | exact HB.out | apply below_alloc | apply pw_below_drewN | apply below_drew1) | exact HB.out)) hb); clear HB; have HB := n0_; clear n0_; (try clear hb); (try clear hb2); (try clear hk); (try clear hi)) | ((with_reducible refine gate_callee (f := 17) rfl ?_); refine goesL_ (some 25) rfl rfl Tryd.func17 (by kernel_rfl) rfl #[.int .i64 a0] rfl (by (try simp only [List.map_toArray, List.map_cons, List.map_nil]); first | done | rfl | (simp only [List.length_drop, List.length_take]; rfl)) ?_; (with_reducible refine (prim_Int.calls a0 t121 t122 _ ?side1 A6.out).mono ?_); (case side1 => exact GW.below hG (by repeat (first | (with_reducible first | exact HB.out | apply below_alloc | apply pw_below_drewN | apply below_drew1) | exact HB.out))); rintro e w37 ⟨rfl, hb⟩; refine ⟨_, rfl, ?_⟩; have n0_ := Aside0.mk (below_step (by repeat (first | (with_reducible first | exact HB.out | apply below_alloc | apply pw_below_drewN | apply below_drew1) | exact HB.out)) hb); clear HB; have HB := n0_; clear n0_; (try clear hb); (try clear hb2); (try clear hk); (try clear hi)) | ((with_reducible refine gate_callee (f := 18) rfl ?_); refine goesL_ (some 30) rfl rfl Tryd.func18 (by kernel_rfl) rfl #[.int .i64 a0] rfl (by (try simp only [List.map_toArray, List.map_cons, List.map_nil]); first | done | rfl | (simp only [List.length_drop, List.length_take]; rfl)) ?_; (with_reducible refine (latinerref03_Int.calls k a0 t123 t124 _ A7.out).mono ?_); rintro e w38 ⟨rfl, hb⟩; refine ⟨_, rfl, ?_⟩; have n0_ := Aside0.mk (below_step (by repeat (first | (with_reducible first | exact HB.out | apply below_alloc | apply pw_below_drewN | apply below_drew1) | exact HB.out)) hb); clear HB; have HB := n0_; clear n0_; (try clear hb); (try clear hb2); (try clear hk); (try clear hi)) | ((with_reducible refine gate_callee (f := 19) rfl ?_); refine goesL_ (some 35) rfl rfl Tryd.func19 (by kernel_rfl) rfl #[.string t120] rfl (by (try simp only [List.map_toArray, List.map_cons, List.map_nil]); first | done | rfl | (simp only [List.length_drop, List.length_take]; rfl)) ?_; (with_reducible refine (prim_ReadInt.calls t120 t125 t126 _ ?side1 A8.out).mono ?_); (case side1 => exact GW.below hG (by repeat (first | (with_reducible first | exact HB.out | apply below_alloc | apply pw_below_drewN | apply below_drew1) | exact HB.out))); rintro e w39 ⟨rfl, hb⟩; refine ⟨_, rfl, ?_⟩; have n0_ := Aside0.mk (below_step (by repeat (first | (with_reducible first | exact HB.out | apply below_alloc | apply pw_below_drewN | apply below_drew1) | exact HB.out)) hb); clear HB; have HB := n0_; clear n0_; (try clear hb); (try clear hb2); (try clear hk); (try clear hi)) | ((with_reducible refine gate_callee (f := 20) rfl ?_); refine goesL_ (some 40) rfl rfl Tryd.func20 (by kernel_rfl) rfl #[.string t120] rfl (by (try simp only [List.map_toArray, List.map_cons, List.map_nil]); first | done | rfl | (simp only [List.length_drop, List.length_take]; rfl)) ?_; (with_reducible refine (latinerref03_ReadInt.calls k t120 t127 t128 _ A9.out).mono ?_); rintro e w40 ⟨rfl, hb⟩; refine ⟨_, rfl, ?_⟩; have n0_ := Aside0.mk (below_step (by repeat (first | (with_reducible first | exact HB.out | apply below_alloc | apply pw_below_drewN | apply below_drew1) | exact HB.out)) hb); clear HB; have HB := n0_; clear n0_; (try clear hb); (try clear hb2); (try clear hk); (try clear hi)) | ((with_reducible refine gate_callee (f := 21) rfl ?_); refine goesL_ (some 45) rfl rfl Tryd.func21 (by kernel_rfl) rfl #[.string t120] rfl (by (try simp only [List.map_toArray, List.map_cons, List.map_nil]); first | done | rfl | (simp only [List.length_drop, List.length_take]; rfl)) ?_; (with_reducible refine (prim_ReadBool.calls t120 t129 t130 _ ?side1 A10.out).mono ?_); (case side1 => exact GW.below hG (by repeat (first | (with_reducible first | exact HB.out | apply below_alloc | apply pw_below_drewN | apply below_drew1) | exact HB.out))); rintro e w41 ⟨rfl, hb⟩; refine ⟨_, rfl, ?_⟩; have n0_ := Aside0.mk (below_step (by repeat (first | (with_reducible first | exact HB.out | apply below_alloc | apply pw_below_drewN | apply below_drew1) | exact HB.out)) hb); clear HB; have HB := n0_; clear n0_; (try clear hb); (try clear hb2); (try clear hk); (try clear hi)) | ((with_reducible refine gate_callee (f := 22) rfl ?_); refine goesL_ (some 50) rfl rfl Tryd.func22 (by kernel_rfl) rfl #[.string t120] rfl (by (try simp only [List.map_toArray, List.map_cons, List.map_nil]); first | done | rfl | (simp only [List.length_drop, List.length_take]; rfl)) ?_; (with_reducible refine (latinerref03_ReadBool.calls t120 t131 t132 _ A11.out).mono ?_); rintro e w' ⟨rfl, ⟨nd, rfl⟩⟩; refine ⟨_, rfl, ?_⟩))
              go_ret
              exact ⟨by first | rfl | (simp [errW_none, errW_some] <;> rfl) | (simp [*, errW_none, errW_some] <;> rfl), by repeat (first | (with_reducible first | exact HB.out | apply below_alloc | apply pw_below_drewN | apply below_drew1) | exact HB.out)⟩
          · rw [if_neg c16] at H
            have c16b0 : (t126 == t128) = false := beq_eq_false_iff_ne.mpr c16
            have c16b1 : (t126 != t128) = true := bne_iff_ne.mpr c16
            obtain rfl := Option.some.inj H
            go_enter Tryd.func3, Tryd.ntmps3
            go_wp2_with (first | ((with_reducible refine gate_callee (f := 15) rfl ?_); refine goesL_ (some 20) rfl rfl Tryd.func15 (by kernel_rfl) rfl #[] rfl (by (try simp only [List.map_toArray, List.map_cons, List.map_nil]); first | done | rfl | (simp only [List.length_drop, List.length_take]; rfl)) ?_; (with_reducible refine (latinerlaw03_shown.calls  true _ ?side1 A4.out).mono ?_); (case side1 => exact GW.below hG (by repeat (first | (with_reducible first | exact HB.out | apply below_alloc | apply pw_below_drewN | apply below_drew1) | exact HB.out))); rintro e w42 ⟨rfl, hb⟩; refine ⟨_, rfl, ?_⟩; have n0_ := Aside0.mk (below_step (by repeat (first | (with_reducible first | exact HB.out | apply below_alloc | apply pw_below_drewN | apply below_drew1) | exact HB.out)) hb); clear HB; have HB := n0_; clear n0_; (try clear hb); (try clear hb2); (try clear hk); (try clear hi)) | ((with_reducible refine gate_callee (f := 16) rfl ?_); refine goesL_ (some 22) rfl rfl Tryd.func16 (by kernel_rfl) rfl #[.string a1] rfl (by (try simp only [List.map_toArray, List.map_cons, List.map_nil]); first | done | rfl | (simp only [List.length_drop, List.length_take]; rfl)) ?_; (with_reducible refine (latinerlaw03_cut.calls a1 t120 _ A5.out).mono ?_); rintro e w43 ⟨rfl, hb⟩; refine ⟨_, rfl, ?_⟩; have n0_ := Aside0.mk (below_step (by repeat (first | (with_reducible first | exact HB.out | apply below_alloc | apply pw_below_drewN | apply below_drew1) | exact HB.out)) hb); clear HB; have HB := n0_; clear n0_; (try clear hb); (try clear hb2); (try clear hk); (try clear hi)) | ((with_reducible refine gate_callee (f := 17) rfl ?_); refine goesL_ (some 25) rfl rfl Tryd.func17 (by kernel_rfl) rfl #[.int .i64 a0] rfl (by (try simp only [List.map_toArray, List.map_cons, List.map_nil]); first | done | rfl | (simp only [List.length_drop, List.length_take]; rfl)) ?_; (with_reducible refine (prim_Int.calls a0 t121 t122 _ ?side1 A6.out).mono ?_); (case side1 => exact GW.below hG (by repeat (first | (with_reducible first | exact HB.out | apply below_alloc | apply pw_below_drewN | apply below_drew1) | exact HB.out))); rintro e w44 ⟨rfl, hb⟩; refine ⟨_, rfl, ?_⟩; have n0_ := Aside0.mk (below_step (by repeat (first | (with_reducible first | exact HB.out | apply below_alloc | apply pw_below_drewN | apply below_drew1) | exact HB.out)) hb); clear HB; have HB := n0_; clear n0_; (try clear hb); (try clear hb2); (try clear hk); (try clear hi)) | ((with_reducible refine gate_callee (f := 18) rfl ?_); refine goesL_ (some 30) rfl rfl Tryd.func18 (by kernel_rfl) rfl #[.int .i64 a0] rfl (by (try simp only [List.map_toArray, List.map_cons, List.map_nil]); first | done | rfl | (simp only [List.length_drop, List.length_take]; rfl)) ?_; (with_reducible refine (latinerref03_Int.calls k a0 t123 t124 _ A7.out).mono ?_); rintro e w45 ⟨rfl, hb⟩; refine ⟨_, rfl, ?_⟩; have n0_ := Aside0.mk (below_step (by repeat (first | (with_reducible first | exact HB.out | apply below_alloc | apply pw_below_drewN | apply below_drew1) | exact HB.out)) hb); clear HB; have HB := n0_; clear n0_; (try clear hb); (try clear hb2); (try clear hk); (try clear hi)) | ((with_reducible refine gate_callee (f := 19) rfl ?_); refine goesL_ (some 35) rfl rfl Tryd.func19 (by kernel_rfl) rfl #[.string t120] rfl (by (try simp only [List.map_toArray, List.map_cons, List.map_nil]); first | done | rfl | (simp only [List.length_drop, List.length_take]; rfl)) ?_; (with_reducible refine (prim_ReadInt.calls t120 t125 t126 _ ?side1 A8.out).mono ?_); (case side1 => exact GW.below hG (by repeat (first | (with_reducible first | exact HB.out | apply below_alloc | apply pw_below_drewN | apply below_drew1) | exact HB.out))); rintro e w46 ⟨rfl, hb⟩; refine ⟨_, rfl, ?_⟩; have n0_ := Aside0.mk (below_step (by repeat (first | (with_reducible first | exact HB.out | apply below_alloc | apply pw_below_drewN | apply below_drew1) | exact HB.out)) hb); clear HB; have HB := n0_; clear n0_; (try clear hb); (try clear hb2); (try clear hk); (try clear hi)) | ((with_reducible refine gate_callee (f := 20) rfl ?_); refine goesL_ (some 40) rfl rfl Tryd.func20 (by kernel_rfl) rfl #[.string t120] rfl (by (try simp only [List.map_toArray, List.map_cons, List.map_nil]); first | done | rfl | (simp only [List.length_drop, List.length_take]; rfl)) ?_; (with_reducible refine (latinerref03_ReadInt.calls k t120 t127 t128 _ A9.out).mono ?_); rintro e w47 ⟨rfl, hb⟩; refine ⟨_, rfl, ?_⟩; have n0_ := Aside0.mk (below_step (by repeat (first | (with_reducible first | exact HB.out | apply below_alloc | apply pw_below_drewN | apply below_drew1) | exact HB.out)) hb); clear HB; have HB := n0_; clear n0_; (try clear hb); (try clear hb2); (try clear hk); (try clear hi)) | ((with_reducible refine gate_callee (f := 21) rfl ?_); refine goesL_ (some 45) rfl rfl Tryd.func21 (by kernel_rfl) rfl #[.string t120] rfl (by (try simp only [List.map_toArray, List.map_cons, List.map_nil]); first | done | rfl | (simp only [List.length_drop, List.length_take]; rfl)) ?_; (with_reducible refine (prim_ReadBool.calls t120 t129 t130 _ ?side1 A10.out).mono ?_); (case side1 => exact GW.below hG (by repeat (first | (with_reducible first | exact HB.out | apply below_alloc | apply pw_below_drewN | apply below_drew1) | exact HB.out))); rintro e w48 ⟨rfl, hb⟩; refine ⟨_, rfl, ?_⟩; have n0_ := Aside0.mk (below_step (by repeat (first | (with_reducible first | exact HB.out | apply below_alloc | apply pw_below_drewN | apply below_drew1) | exact HB.out)) hb); clear HB; have HB := n0_; clear n0_; (try clear hb); (try clear hb2); (try clear hk); (try clear hi)) | ((with_reducible refine gate_callee (f := 22) rfl ?_); refine goesL_ (some 50) rfl rfl Tryd.func22 (by kernel_rfl) rfl #[.string t120] rfl (by (try simp only [List.map_toArray, List.map_cons, List.map_nil]); first | done | rfl | (simp only [List.length_drop, List.length_take]; rfl)) ?_; (with_reducible refine (latinerref03_ReadBool.calls t120 t131 t132 _ A11.out).mono ?_); rintro e w' ⟨rfl, ⟨nd, rfl⟩⟩; refine ⟨_, rfl, ?_⟩))
            go_ret
            exact ⟨by first | rfl | (simp [errW_none, errW_some] <;> rfl) | (simp [*, errW_none, errW_some] <;> rfl), by repeat (first | (with_reducible first | exact HB.out | apply below_alloc | apply pw_below_drewN | apply below_drew1) | exact HB.out)⟩
        · rw [if_neg c15] at H
          have c15b0 : (t125 == t127) = false := beq_eq_false_iff_ne.mpr c15
          have c15b1 : (t125 != t127) = true := bne_iff_ne.mpr c15
          obtain rfl := Option.some.inj H
          go_enter Tryd.func3, Tryd.ntmps3
          go_wp2_with (first | ((with_reducible refine gate_callee (f := 15) rfl ?_); refine goesL_ (some 20) rfl rfl Tryd.func15 (by kernel_rfl) rfl #[] rfl (by (try simp only [List.map_toArray, List.map_cons, List.map_nil]); first | done | rfl | (simp only [List.length_drop, List.length_take]; rfl)) ?_; (with_reducible refine (latinerlaw03_shown.calls  true _ ?side1 A4.out).mono ?_); (case side1 => exact GW.below hG (by repeat (first | (with_reducible first | exact HB.out | apply below_alloc | apply pw_below_drewN | apply below_drew1) | exact HB.out))); rintro e w49 ⟨rfl, hb⟩; refine ⟨_, rfl, ?_⟩; have n0_ := Aside0.mk (below_step (by repeat (first | (with_reducible first | exact HB.out | apply below_alloc | apply pw_below_drewN | apply below_drew1) | exact HB.out)) hb); clear HB; have HB := n0_; clear n0_; (try clear hb); (try clear hb2); (try clear hk); (try clear hi)) | ((with_reducible refine gate_callee (f := 16) rfl ?_); refine goesL_ (some 22) rfl rfl Tryd.func16 (by kernel_rfl) rfl #[.string a1] rfl (by (try simp only [List.map_toArray, List.map_cons, List.map_nil]); first | done | rfl | (simp only [List.length_drop, List.length_take]; rfl)) ?_; (with_reducible refine (latinerlaw03_cut.calls a1 t120 _ A5.out).mono ?_); rintro e w50 ⟨rfl, hb⟩; refine ⟨_, rfl, ?_⟩; have n0_ := Aside0.mk (below_step (by repeat (first | (with_reducible first | exact HB.out | apply below_alloc | apply pw_below_drewN | apply below_drew1) | exact HB.out)) hb); clear HB; have HB := n0_; clear n0_; (try clear hb); (try clear hb2); (try clear hk); (try clear hi)) | ((with_reducible refine gate_callee (f := 17) rfl ?_); refine goesL_ (some 25) rfl rfl Tryd.func17 (by kernel_rfl) rfl #[.int .i64 a0] rfl (by (try simp only [List.map_toArray, List.map_cons, List.map_nil]); first | done | rfl | (simp only [List.length_drop, List.length_take]; rfl)) ?_; (with_reducible refine (prim_Int.calls a0 t121 t122 _ ?side1 A6.out).mono ?_); (case side1 => exact GW.below hG (by repeat (first | (with_reducible first | exact HB.out | apply below_alloc | apply pw_below_drewN | apply below_drew1) | exact HB.out))); rintro e w51 ⟨rfl, hb⟩; refine ⟨_, rfl, ?_⟩; have n0_ := Aside0.mk (below_step (by repeat (first | (with_reducible first | exact HB.out | apply below_alloc | apply pw_below_drewN | apply below_drew1) | exact HB.out)) hb); clear HB; have HB := n0_; clear n0_; (try clear hb); (try clear hb2); (try clear hk); (try clear hi)) | ((with_reducible refine gate_callee (f := 18) rfl ?_); refine goesL_ (some 30) rfl rfl Tryd.func18 (by kernel_rfl) rfl #[.int .i64 a0] rfl (by (try simp only [List.map_toArray, List.map_cons, List.map_nil]); first | done | rfl | (simp only [List.length_drop, List.length_take]; rfl)) ?_; (with_reducible refine (latinerref03_Int.calls k a0 t123 t124 _ A7.out).mono ?_); rintro e w52 ⟨rfl, hb⟩; refine ⟨_, rfl, ?_⟩; have n0_ := Aside0.mk (below_step (by repeat (first | (with_reducible first | exact HB.out | apply below_alloc | apply pw_below_drewN | apply below_drew1) | exact HB.out)) hb); clear HB; have HB := n0_; clear n0_; (try clear hb); (try clear hb2); (try clear hk); (try clear hi)) | ((with_reducible refine gate_callee (f := 19) rfl ?_); refine goesL_ (some 35) rfl rfl Tryd.func19 (by kernel_rfl) rfl #[.string t120] rfl (by (try simp only [List.map_toArray, List.map_cons, List.map_nil]); first | done | rfl | (simp only [List.length_drop, List.length_take]; rfl)) ?_; (with_reducible refine (prim_ReadInt.calls t120 t125 t126 _ ?side1 A8.out).mono ?_); (case side1 => exact GW.below hG (by repeat (first | (with_reducible first | exact HB.out | apply below_alloc | apply pw_below_drewN | apply below_drew1) | exact HB.out))); rintro e w53 ⟨rfl, hb⟩; refine ⟨_, rfl, ?_⟩; have n0_ := Aside0.mk (below_step (by repeat (first | (with_reducible first | exact HB.out | apply below_alloc | apply pw_below_drewN | apply below_drew1) | exact HB.out)) hb); clear HB; have HB := n0_; clear n0_; (try clear hb); (try clear hb2); (try clear hk); (try clear hi)) | ((with_reducible refine gate_callee (f := 20) rfl ?_); refine goesL_ (some 40) rfl rfl Tryd.func20 (by kernel_rfl) rfl #[.string t120] rfl (by (try simp only [List.map_toArray, List.map_cons, List.map_nil]); first | done | rfl | (simp only [List.length_drop, List.length_take]; rfl)) ?_; (with_reducible refine (latinerref03_ReadInt.calls k t120 t127 t128 _ A9.out).mono ?_); rintro e w54 ⟨rfl, hb⟩; refine ⟨_, rfl, ?_⟩; have n0_ := Aside0.mk (below_step (by repeat (first | (with_reducible first | exact HB.out | apply below_alloc | apply pw_below_drewN | apply below_drew1) | exact HB.out)) hb); clear HB; have HB := n0_; clear n0_; (try clear hb); (try clear hb2); (try clear hk); (try clear hi)) | ((with_reducible refine gate_callee (f := 21) rfl ?_); refine goesL_ (some 45) rfl rfl Tryd.func21 (by kernel_rfl) rfl #[.string t120] rfl (by (try simp only [List.map_toArray, List.map_cons, List.map_nil]); first | done | rfl | (simp only [List.length_drop, List.length_take]; rfl)) ?_; (with_reducible refine (prim_ReadBool.calls t120 t129 t130 _ ?side1 A10.out).mono ?_); (case side1 => exact GW.below hG (by repeat (first | (with_reducible first | exact HB.out | apply below_alloc | apply pw_below_drewN | apply below_drew1) | exact HB.out))); rintro e w55 ⟨rfl, hb⟩; refine ⟨_, rfl, ?_⟩; have n0_ := Aside0.mk (below_step (by repeat (first | (with_reducible first | exact HB.out | apply below_alloc | apply pw_below_drewN | apply below_drew1) | exact HB.out)) hb); clear HB; have HB := n0_; clear n0_; (try clear hb); (try clear hb2); (try clear hk); (try clear hi)) | ((with_reducible refine gate_callee (f := 22) rfl ?_); refine goesL_ (some 50) rfl rfl Tryd.func22 (by kernel_rfl) rfl #[.string t120] rfl (by (try simp only [List.map_toArray, List.map_cons, List.map_nil]); first | done | rfl | (simp only [List.length_drop, List.length_take]; rfl)) ?_; (with_reducible refine (latinerref03_ReadBool.calls t120 t131 t132 _ A11.out).mono ?_); rintro e w' ⟨rfl, ⟨nd, rfl⟩⟩; refine ⟨_, rfl, ?_⟩))
          go_ret
          exact ⟨by first | rfl | (simp [errW_none, errW_some] <;> rfl) | (simp [*, errW_none, errW_some] <;> rfl), by repeat (first | (with_reducible first | exact HB.out | apply below_alloc | apply pw_below_drewN | apply below_drew1) | exact HB.out)⟩
      · rw [if_neg c14] at H
        have c14b0 : (t122 == t124) = false := beq_eq_false_iff_ne.mpr c14
        have c14b1 : (t122 != t124) = true := bne_iff_ne.mpr c14
        obtain rfl := Option.some.inj H
        go_enter Tryd.func3, Tryd.ntmps3
        go_wp2_with (first | ((with_reducible refine gate_callee (f := 15) rfl ?_); refine goesL_ (some 20) rfl rfl Tryd.func15 (by kernel_rfl) rfl #[] rfl (by (try simp only [List.map_toArray, List.map_cons, List.map_nil]); first | done | rfl | (simp only [List.length_drop, List.length_take]; rfl)) ?_; (with_reducible refine (latinerlaw03_shown.calls  true _ ?side1 A4.out).mono ?_); (case side1 => exact GW.below hG (by repeat (first | (with_reducible first | exact HB.out | apply below_alloc | apply pw_below_drewN | apply below_drew1) | exact HB.out))); rintro e w56 ⟨rfl, hb⟩; refine ⟨_, rfl, ?_⟩; have n0_ := Aside0.mk (below_step (by repeat (first | (with_reducible first | exact HB.out | apply below_alloc | apply pw_below_drewN | apply below_drew1) | exact HB.out)) hb); clear HB; have HB := n0_; clear n0_; (try clear hb); (try clear hb2); (try clear hk); (try clear hi)) | ((with_reducible refine gate_callee (f := 16) rfl ?_); refine goesL_ (some 22) rfl rfl Tryd.func16 (by kernel_rfl) rfl #[.string a1] rfl (by (try simp only [List.map_toArray, List.map_cons, List.map_nil]); first | done | rfl | (simp only [List.length_drop, List.length_take]; rfl)) ?_; (with_reducible refine (latinerlaw03_cut.calls a1 t120 _ A5.out).mono ?_); rintro e w57 ⟨rfl, hb⟩; refine ⟨_, rfl, ?_⟩; have n0_ := Aside0.mk (below_step (by repeat (first | (with_reducible first | exact HB.out | apply below_alloc | apply pw_below_drewN | apply below_drew1) | exact HB.out)) hb); clear HB; have HB := n0_; clear n0_; (try clear hb); (try clear hb2); (try clear hk); (try clear hi)) | ((with_reducible refine gate_callee (f := 17) rfl ?_); refine goesL_ (some 25) rfl rfl Tryd.func17 (by kernel_rfl) rfl #[.int .i64 a0] rfl (by (try simp only [List.map_toArray, List.map_cons, List.map_nil]); first | done | rfl | (simp only [List.length_drop, List.length_take]; rfl)) ?_; (with_reducible refine (prim_Int.calls a0 t121 t122 _ ?side1 A6.out).mono ?_); (case side1 => exact GW.below hG (by repeat (first | (with_reducible first | exact HB.out | apply below_alloc | apply pw_below_drewN | apply below_drew1) | exact HB.out))); rintro e w58 ⟨rfl, hb⟩; refine ⟨_, rfl, ?_⟩; have n0_ := Aside0.mk (below_step (by repeat (first | (with_reducible first | exact HB.out | apply below_alloc | apply pw_below_drewN | apply below_drew1) | exact HB.out)) hb); clear HB; have HB := n0_; clear n0_; (try clear hb); (try clear hb2); (try clear hk); (try clear hi)) | ((with_reducible refine gate_callee (f := 18) rfl ?_); refine goesL_ (some 30) rfl rfl Tryd.func18 (by kernel_rfl) rfl #[.int .i64 a0] rfl (by (try simp only [List.map_toArray, List.map_cons, List.map_nil]); first | done | rfl | (simp only [List.length_drop, List.length_take]; rfl)) ?_; (with_reducible refine (latinerref03_Int.calls k a0 t123 t124 _ A7.out).mono ?_); rintro e w59 ⟨rfl, hb⟩; refine ⟨_, rfl, ?_⟩; have n0_ := Aside0.mk (below_step (by repeat (first | (with_reducible first | exact HB.out | apply below_alloc | apply pw_below_drewN | apply below_drew1) | exact HB.out)) hb); clear HB; have HB := n0_; clear n0_; (try clear hb); (try clear hb2); (try clear hk); (try clear hi)) | ((with_reducible refine gate_callee (f := 19) rfl ?_); refine goesL_ (some 35) rfl rfl Tryd.func19 (by kernel_rfl) rfl #[.string t120] rfl (by (try simp only [List.map_toArray, List.map_cons, List.map_nil]); first | done | rfl | (simp only [List.length_drop, List.length_take]; rfl)) ?_; (with_reducible refine (prim_ReadInt.calls t120 t125 t126 _ ?side1 A8.out).mono ?_); (case side1 => exact GW.below hG (by repeat (first | (with_reducible first | exact HB.out | apply below_alloc | apply pw_below_drewN | apply below_drew1) | exact HB.out))); rintro e w60 ⟨rfl, hb⟩; refine ⟨_, rfl, ?_⟩; have n0_ := Aside0.mk (below_step (by repeat (first | (with_reducible first | exact HB.out | apply below_alloc | apply pw_below_drewN | apply below_drew1) | exact HB.out)) hb); clear HB; have HB := n0_; clear n0_; (try clear hb); (try clear hb2); (try clear hk); (try clear hi)) | ((with_reducible refine gate_callee (f := 20) rfl ?_); refine goesL_ (some 40) rfl rfl Tryd.func20 (by kernel_rfl) rfl #[.string t120] rfl (by (try simp only [List.map_toArray, List.map_cons, List.map_nil]); first | done | rfl | (simp only [List.length_drop, List.length_take]; rfl)) ?_; (with_reducible refine (latinerref03_ReadInt.calls k t120 t127 t128 _ A9.out).mono ?_); rintro e w61 ⟨rfl, hb⟩; refine ⟨_, rfl, ?_⟩; have n0_ := Aside0.mk (below_step (by repeat (first | (with_reducible first | exact HB.out | apply below_alloc | apply pw_below_drewN | apply below_drew1) | exact HB.out)) hb); clear HB; have HB := n0_; clear n0_; (try clear hb); (try clear hb2); (try clear hk); (try clear hi)) | ((with_reducible refine gate_callee (f := 21) rfl ?_); refine goesL_ (some 45) rfl rfl Tryd.func21 (by kernel_rfl) rfl #[.string t120] rfl (by (try simp only [List.map_toArray, List.map_cons, List.map_nil]); first | done | rfl | (simp only [List.length_drop, List.length_take]; rfl)) ?_; (with_reducible refine (prim_ReadBool.calls t120 t129 t130 _ ?side1 A10.out).mono ?_); (case side1 => exact GW.below hG (by repeat (first | (with_reducible first | exact HB.out | apply below_alloc | apply pw_below_drewN | apply below_drew1) | exact HB.out))); rintro e w62 ⟨rfl, hb⟩; refine ⟨_, rfl, ?_⟩; have n0_ := Aside0.mk (below_step (by repeat (first | (with_reducible first | exact HB.out | apply below_alloc | apply pw_below_drewN | apply below_drew1) | exact HB.out)) hb); clear HB; have HB := n0_; clear n0_; (try clear hb); (try clear hb2); (try clear hk); (try clear hi)) | ((with_reducible refine gate_callee (f := 22) rfl ?_); refine goesL_ (some 50) rfl rfl Tryd.func22 (by kernel_rfl) rfl #[.string t120] rfl (by (try simp only [List.map_toArray, List.map_cons, List.map_nil]); first | done | rfl | (simp only [List.length_drop, List.length_take]; rfl)) ?_; (with_reducible refine (latinerref03_ReadBool.calls t120 t131 t132 _ A11.out).mono ?_); rintro e w' ⟨rfl, ⟨nd, rfl⟩⟩; refine ⟨_, rfl, ?_⟩))
        go_ret
        exact ⟨by first | rfl | (simp [errW_none, errW_some] <;> rfl) | (simp [*, errW_none, errW_some] <;> rfl), by repeat (first | (with_reducible first | exact HB.out | apply below_alloc | apply pw_below_drewN | apply below_drew1) | exact HB.out)⟩
    · rw [if_neg c13] at H
      have c13b0 : (t121.toList == t123.toList) = false := beq_eq_false_iff_ne.mpr c13
      have c13b1 : (t121.toList != t123.toList) = true := bne_iff_ne.mpr c13
      obtain rfl := Option.some.inj H
      go_enter Tryd.func3, Tryd.ntmps3
      go_wp2_with (first | ((with_reducible refine gate_callee (f := 15) rfl ?_); refine goesL_ (some 20) rfl rfl Tryd.func15 (by kernel_rfl) rfl #[] rfl (by (try simp only [List.map_toArray, List.map_cons, List.map_nil]); first | done | rfl | (simp only [List.length_drop, List.length_take]; rfl)) ?_; (with_reducible refine (latinerlaw03_shown.calls  true _ ?side1 A4.out).mono ?_); (case side1 => exact GW.below hG (by repeat (first | (with_reducible first | exact HB.out | apply below_alloc | apply pw_below_drewN | apply below_drew1) | exact HB.out))); rintro e w63 ⟨rfl, hb⟩; refine ⟨_, rfl, ?_⟩; have n0_ := Aside0.mk (below_step (by repeat (first | (with_reducible first | exact HB.out | apply below_alloc | apply pw_below_drewN | apply below_drew1) | exact HB.out)) hb); clear HB; have HB := n0_; clear n0_; (try clear hb); (try clear hb2); (try clear hk); (try clear hi)) | ((with_reducible refine gate_callee (f := 16) rfl ?_); refine goesL_ (some 22) rfl rfl Tryd.func16 (by kernel_rfl) rfl #[.string a1] rfl (by (try simp only [List.map_toArray, List.map_cons, List.map_nil]); first | done | rfl | (simp only [List.length_drop, List.length_take]; rfl)) ?_; (with_reducible refine (latinerlaw03_cut.calls a1 t120 _ A5.out).mono ?_); rintro e w64 ⟨rfl, hb⟩; refine ⟨_, rfl, ?_⟩; have n0_ := Aside0.mk (below_step (by repeat (first | (with_reducible first | exact HB.out | apply below_alloc | apply pw_below_drewN | apply below_drew1) | exact HB.out)) hb); clear HB; have HB := n0_; clear n0_; (try clear hb); (try clear hb2); (try clear hk); (try clear hi)) | ((with_reducible refine gate_callee (f := 17) rfl ?_); refine goesL_ (some 25) rfl rfl Tryd.func17 (by kernel_rfl) rfl #[.int .i64 a0] rfl (by (try simp only [List.map_toArray, List.map_cons, List.map_nil]); first | done | rfl | (simp only [List.length_drop, List.length_take]; rfl)) ?_; (with_reducible refine (prim_Int.calls a0 t121 t122 _ ?side1 A6.out).mono ?_); (case side1 => exact GW.below hG (by repeat (first | (with_reducible first | exact HB.out | apply below_alloc | apply pw_below_drewN | apply below_drew1) | exact HB.out))); rintro e w65 ⟨rfl, hb⟩; refine ⟨_, rfl, ?_⟩; have n0_ := Aside0.mk (below_step (by repeat (first | (with_reducible first | exact HB.out | apply below_alloc | apply pw_below_drewN | apply below_drew1) | exact HB.out)) hb); clear HB; have HB := n0_; clear n0_; (try clear hb); (try clear hb2); (try clear hk); (try clear hi)) | ((with_reducible refine gate_callee (f := 18) rfl ?_); refine goesL_ (some 30) rfl rfl Tryd.func18 (by kernel_rfl) rfl #[.int .i64 a0] rfl (by (try simp only [List.map_toArray, List.map_cons, List.map_nil]); first | done | rfl | (simp only [List.length_drop, List.length_take]; rfl)) ?_; (with_reducible refine (latinerref03_Int.calls k a0 t123 t124 _ A7.out).mono ?_); rintro e w66 ⟨rfl, hb⟩; refine ⟨_, rfl, ?_⟩; have n0_ := Aside0.mk (below_step (by repeat (first | (with_reducible first | exact HB.out | apply below_alloc | apply pw_below_drewN | apply below_drew1) | exact HB.out)) hb); clear HB; have HB := n0_; clear n0_; (try clear hb); (try clear hb2); (try clear hk); (try clear hi)) | ((with_reducible refine gate_callee (f := 19) rfl ?_); refine goesL_ (some 35) rfl rfl Tryd.func19 (by kernel_rfl) rfl #[.string t120] rfl (by (try simp only [List.map_toArray, List.map_cons, List.map_nil]); first | done | rfl | (simp only [List.length_drop, List.length_take]; rfl)) ?_; (with_reducible refine (prim_ReadInt.calls t120 t125 t126 _ ?side1 A8.out).mono ?_); (case side1 => exact GW.below hG (by repeat (first | (with_reducible first | exact HB.out | apply below_alloc | apply pw_below_drewN | apply below_drew1) | exact HB.out))); rintro e w67 ⟨rfl, hb⟩; refine ⟨_, rfl, ?_⟩; have n0_ := Aside0.mk (below_step (by repeat (first | (with_reducible first | exact HB.out | apply below_alloc | apply pw_below_drewN | apply below_drew1) | exact HB.out)) hb); clear HB; have HB := n0_; clear n0_; (try clear hb); (try clear hb2); (try clear hk); (try clear hi)) | ((with_reducible refine gate_callee (f := 20) rfl ?_); refine goesL_ (some 40) rfl rfl Tryd.func20 (by kernel_rfl) rfl #[.string t120] rfl (by (try simp only [List.map_toArray, List.map_cons, List.map_nil]); first | done | rfl | (simp only [List.length_drop, List.length_take]; rfl)) ?_; (with_reducible refine (latinerref03_ReadInt.calls k t120 t127 t128 _ A9.out).mono ?_); rintro e w68 ⟨rfl, hb⟩; refine ⟨_, rfl, ?_⟩; have n0_ := Aside0.mk (below_step (by repeat (first | (with_reducible first | exact HB.out | apply below_alloc | apply pw_below_drewN | apply below_drew1) | exact HB.out)) hb); clear HB; have HB := n0_; clear n0_; (try clear hb); (try clear hb2); (try clear hk); (try clear hi)) | ((with_reducible refine gate_callee (f := 21) rfl ?_); refine goesL_ (some 45) rfl rfl Tryd.func21 (by kernel_rfl) rfl #[.string t120] rfl (by (try simp only [List.map_toArray, List.map_cons, List.map_nil]); first | done | rfl | (simp only [List.length_drop, List.length_take]; rfl)) ?_; (with_reducible refine (prim_ReadBool.calls t120 t129 t130 _ ?side1 A10.out).mono ?_); (case side1 => exact GW.below hG (by repeat (first | (with_reducible first | exact HB.out | apply below_alloc | apply pw_below_drewN | apply below_drew1) | exact HB.out))); rintro e w69 ⟨rfl, hb⟩; refine ⟨_, rfl, ?_⟩; have n0_ := Aside0.mk (below_step (by repeat (first | (with_reducible first | exact HB.out | apply below_alloc | apply pw_below_drewN | apply below_drew1) | exact HB.out)) hb); clear HB; have HB := n0_; clear n0_; (try clear hb); (try clear hb2); (try clear hk); (try clear hi)) | ((with_reducible refine gate_callee (f := 22) rfl ?_); refine goesL_ (some 50) rfl rfl Tryd.func22 (by kernel_rfl) rfl #[.string t120] rfl (by (try simp only [List.map_toArray, List.map_cons, List.map_nil]); first | done | rfl | (simp only [List.length_drop, List.length_take]; rfl)) ?_; (with_reducible refine (latinerref03_ReadBool.calls t120 t131 t132 _ A11.out).mono ?_); rintro e w' ⟨rfl, ⟨nd, rfl⟩⟩; refine ⟨_, rfl, ?_⟩))
      go_ret
      exact ⟨by first | rfl | (simp [errW_none, errW_some] <;> rfl) | (simp [*, errW_none, errW_some] <;> rfl), by repeat (first | (with_reducible first | exact HB.out | apply below_alloc | apply pw_below_drewN | apply below_drew1) | exact HB.out)⟩
  · replace c12 := Bool.eq_false_iff.mpr c12
    subst c12
    have H1 : (some false) = some r := by rw [if_neg (show ¬ (false = true) by decide)] at H; exact H
    clear H
    have H := H1
    clear H1
    obtain rfl := Option.some.inj H
    go_enter Tryd.func3, Tryd.ntmps3
    go_wp2_with (first | ((with_reducible refine gate_callee (f := 15) rfl ?_); refine goesL_ (some 20) rfl rfl Tryd.func15 (by kernel_rfl) rfl #[] rfl (by (try simp only [List.map_toArray, List.map_cons, List.map_nil]); first | done | rfl | (simp only [List.length_drop, List.length_take]; rfl)) ?_; (with_reducible refine (latinerlaw03_shown.calls  false _ ?side1 A4.out).mono ?_); (case side1 => exact GW.below hG (by repeat (first | (with_reducible first | exact HB.out | apply below_alloc | apply pw_below_drewN | apply below_drew1) | exact HB.out))); rintro e w70 ⟨rfl, hb⟩; refine ⟨_, rfl, ?_⟩; have n0_ := Aside0.mk (below_step (by repeat (first | (with_reducible first | exact HB.out | apply below_alloc | apply pw_below_drewN | apply below_drew1) | exact HB.out)) hb); clear HB; have HB := n0_; clear n0_; (try clear hb); (try clear hb2); (try clear hk); (try clear hi)) | ((with_reducible refine gate_callee (f := 16) rfl ?_); refine goesL_ (some 22) rfl rfl Tryd.func16 (by kernel_rfl) rfl #[.string a1] rfl (by (try simp only [List.map_toArray, List.map_cons, List.map_nil]); first | done | rfl | (simp only [List.length_drop, List.length_take]; rfl)) ?_; (with_reducible refine (latinerlaw03_cut.calls a1 t120 _ A5.out).mono ?_); rintro e w71 ⟨rfl, hb⟩; refine ⟨_, rfl, ?_⟩; have n0_ := Aside0.mk (below_step (by repeat (first | (with_reducible first | exact HB.out | apply below_alloc | apply pw_below_drewN | apply below_drew1) | exact HB.out)) hb); clear HB; have HB := n0_; clear n0_; (try clear hb); (try clear hb2); (try clear hk); (try clear hi)) | ((with_reducible refine gate_callee (f := 17) rfl ?_); refine goesL_ (some 25) rfl rfl Tryd.func17 (by kernel_rfl) rfl #[.int .i64 a0] rfl (by (try simp only [List.map_toArray, List.map_cons, List.map_nil]); first | done | rfl | (simp only [List.length_drop, List.length_take]; rfl)) ?_; (with_reducible refine (prim_Int.calls a0 t121 t122 _ ?side1 A6.out).mono ?_); (case side1 => exact GW.below hG (by repeat (first | (with_reducible first | exact HB.out | apply below_alloc | apply pw_below_drewN | apply below_drew1) | exact HB.out))); rintro e w72 ⟨rfl, hb⟩; refine ⟨_, rfl, ?_⟩; have n0_ := Aside0.mk (below_step (by repeat (first | (with_reducible first | exact HB.out | apply below_alloc | apply pw_below_drewN | apply below_drew1) | exact HB.out)) hb); clear HB; have HB := n0_; clear n0_; (try clear hb); (try clear hb2); (try clear hk); (try clear hi)) | ((with_reducible refine gate_callee (f := 18) rfl ?_); refine goesL_ (some 30) rfl rfl Tryd.func18 (by kernel_rfl) rfl #[.int .i64 a0] rfl (by (try simp only [List.map_toArray, List.map_cons, List.map_nil]); first | done | rfl | (simp only [List.length_drop, List.length_take]; rfl)) ?_; (with_reducible refine (latinerref03_Int.calls k a0 t123 t124 _ A7.out).mono ?_); rintro e w73 ⟨rfl, hb⟩; refine ⟨_, rfl, ?_⟩; have n0_ := Aside0.mk (below_step (by repeat (first | (with_reducible first | exact HB.out | apply below_alloc | apply pw_below_drewN | apply below_drew1) | exact HB.out)) hb); clear HB; have HB := n0_; clear n0_; (try clear hb); (try clear hb2); (try clear hk); (try clear hi)) | ((with_reducible refine gate_callee (f := 19) rfl ?_); refine goesL_ (some 35) rfl rfl Tryd.func19 (by kernel_rfl) rfl #[.string t120] rfl (by (try simp only [List.map_toArray, List.map_cons, List.map_nil]); first | done | rfl | (simp only [List.length_drop, List.length_take]; rfl)) ?_; (with_reducible refine (prim_ReadInt.calls t120 t125 t126 _ ?side1 A8.out).mono ?_); (case side1 => exact GW.below hG (by repeat (first | (with_reducible first | exact HB.out | apply below_alloc | apply pw_below_drewN | apply below_drew1) | exact HB.out))); rintro e w74 ⟨rfl, hb⟩; refine ⟨_, rfl, ?_⟩; have n0_ := Aside0.mk (below_step (by repeat (first | (with_reducible first | exact HB.out | apply below_alloc | apply pw_below_drewN | apply below_drew1) | exact HB.out)) hb); clear HB; have HB := n0_; clear n0_; (try clear hb); (try clear hb2); (try clear hk); (try clear hi)) | ((with_reducible refine gate_callee (f := 20) rfl ?_); refine goesL_ (some 40) rfl rfl Tryd.func20 (by kernel_rfl) rfl #[.string t120] rfl (by (try simp only [List.map_toArray, List.map_cons, List.map_nil]); first | done | rfl | (simp only [List.length_drop, List.length_take]; rfl)) ?_; (with_reducible refine (latinerref03_ReadInt.calls k t120 t127 t128 _ A9.out).mono ?_); rintro e w75 ⟨rfl, hb⟩; refine ⟨_, rfl, ?_⟩; have n0_ := Aside0.mk (below_step (by repeat (first | (with_reducible first | exact HB.out | apply below_alloc | apply pw_below_drewN | apply below_drew1) | exact HB.out)) hb); clear HB; have HB := n0_; clear n0_; (try clear hb); (try clear hb2); (try clear hk); (try clear hi)) | ((with_reducible refine gate_callee (f := 21) rfl ?_); refine goesL_ (some 45) rfl rfl Tryd.func21 (by kernel_rfl) rfl #[.string t120] rfl (by (try simp only [List.map_toArray, List.map_cons, List.map_nil]); first | done | rfl | (simp only [List.length_drop, List.length_take]; rfl)) ?_; (with_reducible refine (prim_ReadBool.calls t120 t129 t130 _ ?side1 A10.out).mono ?_); (case side1 => exact GW.below hG (by repeat (first | (with_reducible first | exact HB.out | apply below_alloc | apply pw_below_drewN | apply below_drew1) | exact HB.out))); rintro e w76 ⟨rfl, hb⟩; refine ⟨_, rfl, ?_⟩; have n0_ := Aside0.mk (below_step (by repeat (first | (with_reducible first | exact HB.out | apply below_alloc | apply pw_below_drewN | apply below_drew1) | exact HB.out)) hb); clear HB; have HB := n0_; clear n0_; (try clear hb); (try clear hb2); (try clear hk); (try clear hi)) | ((with_reducible refine gate_callee (f := 22) rfl ?_); refine goesL_ (some 50) rfl rfl Tryd.func22 (by kernel_rfl) rfl #[.string t120] rfl (by (try simp only [List.map_toArray, List.map_cons, List.map_nil]); first | done | rfl | (simp only [List.length_drop, List.length_take]; rfl)) ?_; (with_reducible refine (latinerref03_ReadBool.calls t120 t131 t132 _ A11.out).mono ?_); rintro e w' ⟨rfl, ⟨nd, rfl⟩⟩; refine ⟨_, rfl, ?_⟩))
    go_ret
    exact ⟨by first | rfl | (simp [errW_none, errW_some] <;> rfl) | (simp [*, errW_none, errW_some] <;> rfl), by repeat (first | (with_reducible first | exact HB.out | apply below_alloc | apply pw_below_drewN | apply below_drew1) | exact HB.out)⟩

/-- THE ONE PURE STATEMENT of latinerlaw03_PrimCodes: yours. -/
def latinerlaw03_PrimCodes.Pure : Prop := ∀ (a0 : Int) (a1 : ByteArray) (a2 : Bool), (Lit.int .i64 a0).wf = true → a1.size ≤ 140737488351232 → ∃ k, latinerlaw03_PrimCodes.f k a0 a1 a2 = some true
theorem latinerlaw03_PrimCodes.walk (P : latinerlaw03_PrimCodes.Pure) (a0 : Int) (a1 : ByteArray) (a2 : Bool) (w : World) (w0 : (Lit.int .i64 a0).wf = true) (w1 : a1.size ≤ 140737488351232) (hG : GW w) :
    Calls Tryd.prog 3 #[.int .i64 a0, .string a1, .bool a2] w fun e w' => e = .returned (.bool true) ∧ Below w.heap.size w w' := by
  obtain ⟨k, h⟩ := P a0 a1 a2 w0 w1
  refine (latinerlaw03_PrimCodes.calls k a0 a1 a2 true w hG h).mono ?_
  rintro e w' ⟨rfl, hd⟩
  exact ⟨rfl, hd⟩

/-! ### latinerlaw03_PrimBack: function 4 -/
def latinerlaw03_PrimBack.j0 : Nat → ByteArray → Bool → Bool → Bool → Option (Bool)
  | 0, _, _, _, _ => none
  | k + 1, x1, x2, x7, x51 => if x51 = true then (some false) else ((prim_ReadInt.f x1).bind fun bt141 => ((prim_Int.f bt141.1).bind fun bt143 => ((prim_Bool.f x2).bind fun t145 => ((prim_ReadBool.f t145).bind fun bt146 => (if x7 = true then (if bt141.2 = 0 then (if bt143.2 = 0 then (if bt143.1.toList = x1.toList then (if (bt146.1 == x2) = true then (some (bt146.2 == 0)) else (some false)) else (some false)) else (some false)) else (if bt141.1 = 0 then (if (bt146.1 == x2) = true then (some (bt146.2 == 0)) else (some false)) else (some false))) else (some false))))))
def latinerlaw03_PrimBack.f (k : Nat) (a0 : Int) (a1 : ByteArray) (a2 : Bool) : Option (Bool) := (latinerlaw03_shown.f).bind fun t135 => ((latinerlaw03_cut.f a1).bind fun t136 => ((prim_Int.f a0).bind fun bt137 => ((prim_ReadInt.f bt137.1).bind fun bt139 => (if bt137.2 = 0 then (if bt139.2 = 0 then (if bt139.1 = a0 then (if (bt137.1.size : Int) < 1 then (latinerlaw03_PrimBack.j0 k t136 a2 t135 true) else (latinerlaw03_PrimBack.j0 k t136 a2 t135 (decide ((bt137.1.size : Int) > 4)))) else (latinerlaw03_PrimBack.j0 k t136 a2 t135 true)) else (latinerlaw03_PrimBack.j0 k t136 a2 t135 true)) else (latinerlaw03_PrimBack.j0 k t136 a2 t135 false)))))
theorem latinerlaw03_PrimBack.mono_l : ∀ k, (∀ y0 y1 y2 y3, LeO (latinerlaw03_PrimBack.j0 k y0 y1 y2 y3) (latinerlaw03_PrimBack.j0 (k + 1) y0 y1 y2 y3))
  | 0 => fun _ _ _ _ r h => by simp [latinerlaw03_PrimBack.j0] at h
  | k + 1 => by
    have ih0 := latinerlaw03_PrimBack.mono_l k
    · intro y0 y1 y2 y3
      unfold latinerlaw03_PrimBack.j0
      repeat' first
      | (with_reducible exact ih0 _ _ _ _)
      | (with_reducible exact LeO.refl _)
      | (with_reducible exact LeO.none _)
      | (with_reducible refine LeO.ite ?_ ?_)
      | (with_reducible refine LeO.bind ?_ (fun _ => ?_))
      | exact ih0 _ _ _ _
      | exact LeO.none _
      | refine LeO.ite ?_ ?_
      | refine LeO.bind ?_ (fun _ => ?_)
theorem latinerlaw03_PrimBack.mono : ∀ a0 a1 a2 k, LeO (latinerlaw03_PrimBack.f k a0 a1 a2) (latinerlaw03_PrimBack.f (k + 1) a0 a1 a2) := by
  intro a0 a1 a2 k
  have ih0 := latinerlaw03_PrimBack.mono_l k
  unfold latinerlaw03_PrimBack.f
  repeat' first
      | (with_reducible exact ih0 _ _ _ _)
      | (with_reducible exact LeO.refl _)
      | (with_reducible exact LeO.none _)
      | (with_reducible refine LeO.ite ?_ ?_)
      | (with_reducible refine LeO.bind ?_ (fun _ => ?_))
      | exact ih0 _ _ _ _
      | exact LeO.none _
      | refine LeO.ite ?_ ?_
      | refine LeO.bind ?_ (fun _ => ?_)
set_option maxHeartbeats 8000000 in
set_option maxRecDepth 100000 in
theorem latinerlaw03_PrimBack.calls (k : Nat) (a0 : Int) (a1 : ByteArray) (a2 : Bool) (r : Bool) (w : World) (hG : GW w) (h : latinerlaw03_PrimBack.f k a0 a1 a2 = some r) :
    Calls Tryd.prog 4 #[.int .i64 a0, .string a1, .bool a2] w fun e w' => e = .returned (.bool r) ∧ Below w.heap.size w w' := by
  have HB := Aside0.mk (Below.refl w.heap.size w)
  have H : ((latinerlaw03_shown.f).bind fun t135 => ((latinerlaw03_cut.f a1).bind fun t136 => ((prim_Int.f a0).bind fun bt137 => ((prim_ReadInt.f bt137.1).bind fun bt139 => (if bt137.2 = 0 then (if bt139.2 = 0 then (if bt139.1 = a0 then (if (bt137.1.size : Int) < 1 then (latinerlaw03_PrimBack.j0 k t136 a2 t135 true) else (latinerlaw03_PrimBack.j0 k t136 a2 t135 (decide ((bt137.1.size : Int) > 4)))) else (latinerlaw03_PrimBack.j0 k t136 a2 t135 true)) else (latinerlaw03_PrimBack.j0 k t136 a2 t135 true)) else (latinerlaw03_PrimBack.j0 k t136 a2 t135 false)))))) = some r := h
  clear h
  replace H := Option.bind_eq_some_iff.mp H
  obtain ⟨t135, A40, H⟩ := H
  replace H : ((latinerlaw03_cut.f a1).bind fun t136 => ((prim_Int.f a0).bind fun bt137 => ((prim_ReadInt.f bt137.1).bind fun bt139 => (if bt137.2 = 0 then (if bt139.2 = 0 then (if bt139.1 = a0 then (if (bt137.1.size : Int) < 1 then (latinerlaw03_PrimBack.j0 k t136 a2 t135 true) else (latinerlaw03_PrimBack.j0 k t136 a2 t135 (decide ((bt137.1.size : Int) > 4)))) else (latinerlaw03_PrimBack.j0 k t136 a2 t135 true)) else (latinerlaw03_PrimBack.j0 k t136 a2 t135 true)) else (latinerlaw03_PrimBack.j0 k t136 a2 t135 false))))) = some r := H
  have A4 := Aside0.mk A40
  clear A40
  replace H := Option.bind_eq_some_iff.mp H
  obtain ⟨t136, A50, H⟩ := H
  replace H : ((prim_Int.f a0).bind fun bt137 => ((prim_ReadInt.f bt137.1).bind fun bt139 => (if bt137.2 = 0 then (if bt139.2 = 0 then (if bt139.1 = a0 then (if (bt137.1.size : Int) < 1 then (latinerlaw03_PrimBack.j0 k t136 a2 t135 true) else (latinerlaw03_PrimBack.j0 k t136 a2 t135 (decide ((bt137.1.size : Int) > 4)))) else (latinerlaw03_PrimBack.j0 k t136 a2 t135 true)) else (latinerlaw03_PrimBack.j0 k t136 a2 t135 true)) else (latinerlaw03_PrimBack.j0 k t136 a2 t135 false)))) = some r := H
  have A5 := Aside0.mk A50
  clear A50
  replace H := Option.bind_eq_some_iff.mp H
  obtain ⟨⟨t137, t138⟩, A60, H⟩ := H
  replace H : ((prim_ReadInt.f t137).bind fun bt139 => (if t138 = 0 then (if bt139.2 = 0 then (if bt139.1 = a0 then (if (t137.size : Int) < 1 then (latinerlaw03_PrimBack.j0 k t136 a2 t135 true) else (latinerlaw03_PrimBack.j0 k t136 a2 t135 (decide ((t137.size : Int) > 4)))) else (latinerlaw03_PrimBack.j0 k t136 a2 t135 true)) else (latinerlaw03_PrimBack.j0 k t136 a2 t135 true)) else (latinerlaw03_PrimBack.j0 k t136 a2 t135 false))) = some r := H
  have A6 := Aside0.mk A60
  clear A60
  replace H := Option.bind_eq_some_iff.mp H
  obtain ⟨⟨t139, t140⟩, A70, H⟩ := H
  replace H : (if t138 = 0 then (if t140 = 0 then (if t139 = a0 then (if (t137.size : Int) < 1 then (latinerlaw03_PrimBack.j0 k t136 a2 t135 true) else (latinerlaw03_PrimBack.j0 k t136 a2 t135 (decide ((t137.size : Int) > 4)))) else (latinerlaw03_PrimBack.j0 k t136 a2 t135 true)) else (latinerlaw03_PrimBack.j0 k t136 a2 t135 true)) else (latinerlaw03_PrimBack.j0 k t136 a2 t135 false)) = some r := H
  have A7 := Aside0.mk A70
  clear A70
  have HC8 := Aside0.mk H
  clear H
  go_enter Tryd.func4, Tryd.ntmps4
  go_upto_region 5 with (first | ((with_reducible refine gate_callee (f := 15) rfl ?_); refine goesL_ (some 18) rfl rfl Tryd.func15 (by kernel_rfl) rfl #[] rfl (by (try simp only [List.map_toArray, List.map_cons, List.map_nil]); first | done | rfl | (simp only [List.length_drop, List.length_take]; rfl)) ?_; (with_reducible refine (latinerlaw03_shown.calls  t135 _ ?side1 A4.out).mono ?_); (case side1 => exact GW.below hG (by repeat (first | (with_reducible first | exact HB.out | apply below_alloc | apply pw_below_drewN | apply below_drew1) | exact HB.out))); rintro e w9 ⟨rfl, hb⟩; refine ⟨_, rfl, ?_⟩; have n0_ := Aside0.mk (below_step (by repeat (first | (with_reducible first | exact HB.out | apply below_alloc | apply pw_below_drewN | apply below_drew1) | exact HB.out)) hb); clear HB; have HB := n0_; clear n0_; (try clear hb); (try clear hb2); (try clear hk); (try clear hi)) | ((with_reducible refine gate_callee (f := 16) rfl ?_); refine goesL_ (some 20) rfl rfl Tryd.func16 (by kernel_rfl) rfl #[.string a1] rfl (by (try simp only [List.map_toArray, List.map_cons, List.map_nil]); first | done | rfl | (simp only [List.length_drop, List.length_take]; rfl)) ?_; (with_reducible refine (latinerlaw03_cut.calls a1 t136 _ A5.out).mono ?_); rintro e w10 ⟨rfl, hb⟩; refine ⟨_, rfl, ?_⟩; have n0_ := Aside0.mk (below_step (by repeat (first | (with_reducible first | exact HB.out | apply below_alloc | apply pw_below_drewN | apply below_drew1) | exact HB.out)) hb); clear HB; have HB := n0_; clear n0_; (try clear hb); (try clear hb2); (try clear hk); (try clear hi)) | ((with_reducible refine gate_callee (f := 17) rfl ?_); refine goesL_ (some 23) rfl rfl Tryd.func17 (by kernel_rfl) rfl #[.int .i64 a0] rfl (by (try simp only [List.map_toArray, List.map_cons, List.map_nil]); first | done | rfl | (simp only [List.length_drop, List.length_take]; rfl)) ?_; (with_reducible refine (prim_Int.calls a0 t137 t138 _ ?side1 A6.out).mono ?_); (case side1 => exact GW.below hG (by repeat (first | (with_reducible first | exact HB.out | apply below_alloc | apply pw_below_drewN | apply below_drew1) | exact HB.out))); rintro e w11 ⟨rfl, hb⟩; refine ⟨_, rfl, ?_⟩; have n0_ := Aside0.mk (below_step (by repeat (first | (with_reducible first | exact HB.out | apply below_alloc | apply pw_below_drewN | apply below_drew1) | exact HB.out)) hb); clear HB; have HB := n0_; clear n0_; (try clear hb); (try clear hb2); (try clear hk); (try clear hi)) | ((with_reducible refine gate_callee (f := 19) rfl ?_); refine goesL_ (some 28) rfl rfl Tryd.func19 (by kernel_rfl) rfl #[.string t137] rfl (by (try simp only [List.map_toArray, List.map_cons, List.map_nil]); first | done | rfl | (simp only [List.length_drop, List.length_take]; rfl)) ?_; (with_reducible refine (prim_ReadInt.calls t137 t139 t140 _ ?side1 A7.out).mono ?_); (case side1 => exact GW.below hG (by repeat (first | (with_reducible first | exact HB.out | apply below_alloc | apply pw_below_drewN | apply below_drew1) | exact HB.out))); rintro e w12 ⟨rfl, hb⟩; refine ⟨_, rfl, ?_⟩; have n0_ := Aside0.mk (below_step (by repeat (first | (with_reducible first | exact HB.out | apply below_alloc | apply pw_below_drewN | apply below_drew1) | exact HB.out)) hb); clear HB; have HB := n0_; clear n0_; (try clear hb); (try clear hb2); (try clear hk); (try clear hi)))
  (try simp only [Act.put, List.setIfInBounds_toArray, List.set_cons_zero, List.set_cons_succ])
  go_cut [51] (fun v51 wc => ∃ (kq : Nat) (x51_7 : Bool), v51 = .bool x51_7 ∧ Aside0 (latinerlaw03_PrimBack.j0 kq t136 a2 t135 x51_7 = some r) ∧ Aside0 (kq ≤ k) ∧ Aside0 (Below w.heap.size w wc))
  case first =>
    have H := HC8.out
    clear HC8
    by_cases c13 : t138 = 0
    · rw [if_pos c13] at H
      have c13b0 : (t138 == 0) = true := beq_iff_eq.mpr c13
      have c13b1 : (t138 != 0) = false := bne_eq_false_iff_eq.mpr c13
      clear c13
      (first | rw [c13b0] | (simp only [i64_w, i32_w]; rw [c13b0]) | skip)
      by_cases c14 : t140 = 0
      · rw [if_pos c14] at H
        have c14b0 : (t140 == 0) = true := beq_iff_eq.mpr c14
        have c14b1 : (t140 != 0) = false := bne_eq_false_iff_eq.mpr c14
        clear c14
        by_cases c15 : t139 = a0
        · rw [if_pos c15] at H
          have c15b0 : (t139 == a0) = true := beq_iff_eq.mpr c15
          have c15b1 : (t139 != a0) = false := bne_eq_false_iff_eq.mpr c15
          clear c15
          by_cases c16 : (t137.size : Int) < 1
          · rw [if_pos c16] at H
            have c16b0 : decide ((t137.size : Int) < 1) = true := decide_eq_true c16
            have c16b1 : decide (t137.size < 1) = true := decide_eq_true (by omega)
            clear c16
            have H' := Aside0.mk H
            clear H
            go_wp2
            go_meet
            case rel => exact ⟨_, (true), (by first | rfl | (simp; done) | (simp [*]; done)), H', ⟨by first | omega | exact Nat.le_refl _⟩, ⟨by repeat (first | (with_reducible first | exact HB.out | apply below_alloc | apply pw_below_drewN | apply below_drew1) | exact HB.out)⟩⟩
          · rw [if_neg c16] at H
            have c16b0 : decide ((t137.size : Int) < 1) = false := decide_eq_false c16
            have c16b1 : decide (t137.size < 1) = false := decide_eq_false (by omega)
            clear c16
            have H' := Aside0.mk H
            clear H
            go_wp2
            go_meet
            case rel => exact ⟨_, (decide ((t137.size : Int) > 4)), (by first | rfl | (simp; done) | (simp [*]; done)), H', ⟨by first | omega | exact Nat.le_refl _⟩, ⟨by repeat (first | (with_reducible first | exact HB.out | apply below_alloc | apply pw_below_drewN | apply below_drew1) | exact HB.out)⟩⟩
        · rw [if_neg c15] at H
          have c15b0 : (t139 == a0) = false := beq_eq_false_iff_ne.mpr c15
          have c15b1 : (t139 != a0) = true := bne_iff_ne.mpr c15
          have H' := Aside0.mk H
          clear H
          go_wp2
          go_meet
          case rel => exact ⟨_, (true), (by first | rfl | (simp; done) | (simp [*]; done)), H', ⟨by first | omega | exact Nat.le_refl _⟩, ⟨by repeat (first | (with_reducible first | exact HB.out | apply below_alloc | apply pw_below_drewN | apply below_drew1) | exact HB.out)⟩⟩
      · rw [if_neg c14] at H
        have c14b0 : (t140 == 0) = false := beq_eq_false_iff_ne.mpr c14
        have c14b1 : (t140 != 0) = true := bne_iff_ne.mpr c14
        have H' := Aside0.mk H
        clear H
        go_wp2
        go_meet
        case rel => exact ⟨_, (true), (by first | rfl | (simp; done) | (simp [*]; done)), H', ⟨by first | omega | exact Nat.le_refl _⟩, ⟨by repeat (first | (with_reducible first | exact HB.out | apply below_alloc | apply pw_below_drewN | apply below_drew1) | exact HB.out)⟩⟩
    · rw [if_neg c13] at H
      have c13b0 : (t138 == 0) = false := beq_eq_false_iff_ne.mpr c13
      have c13b1 : (t138 != 0) = true := bne_iff_ne.mpr c13
      (first | rw [c13b0] | (simp only [i64_w, i32_w]; rw [c13b0]) | skip)
      have H' := Aside0.mk H
      clear H
      go_wp2
      go_meet
      case rel => exact ⟨_, (false), (by first | rfl | (simp; done) | (simp [*]; done)), H', ⟨by first | omega | exact Nat.le_refl _⟩, ⟨by repeat (first | (with_reducible first | exact HB.out | apply below_alloc | apply pw_below_drewN | apply below_drew1) | exact HB.out)⟩⟩
  case rest =>
    clear HC8
    try clear c1
    try clear p2
    try clear c4
    try clear c13
    try clear c13b0
    try clear c13b1
    try clear c14
    try clear c14b0
    try clear c14b1
    try clear c15
    try clear c15b0
    try clear c15b1
    try clear c16
    try clear c16b0
    try clear c16b1
    obtain ⟨kq, x51_7, rfl, HA, HJ7, HB⟩ := hcut
    cases kq with
    | zero => exact absurd HA.out (by simp [latinerlaw03_PrimBack.j0])
    | succ kj7 =>
      have H := HA.out
      clear HA
      simp only [latinerlaw03_PrimBack.j0] at H
      by_cases c17 : x51_7 = true
      · subst c17
        have H1 : (some false) = some r := by rw [if_pos rfl] at H; exact H
        clear H
        have H := H1
        clear H1
        obtain rfl := Option.some.inj H
        go_wp2
        go_ret
        exact ⟨by first | rfl | (simp [errW_none, errW_some] <;> rfl) | (simp [*, errW_none, errW_some] <;> rfl), by repeat (first | (with_reducible first | exact HB.out | apply below_alloc | apply pw_below_drewN | apply below_drew1) | exact HB.out)⟩
      · replace c17 := Bool.eq_false_iff.mpr c17
        subst c17
        have H1 : ((prim_ReadInt.f t136).bind fun bt141 => ((prim_Int.f bt141.1).bind fun bt143 => ((prim_Bool.f a2).bind fun t145 => ((prim_ReadBool.f t145).bind fun bt146 => (if t135 = true then (if bt141.2 = 0 then (if bt143.2 = 0 then (if bt143.1.toList = t136.toList then (if (bt146.1 == a2) = true then (some (bt146.2 == 0)) else (some false)) else (some false)) else (some false)) else (if bt141.1 = 0 then (if (bt146.1 == a2) = true then (some (bt146.2 == 0)) else (some false)) else (some false))) else (some false)))))) = some r := by rw [if_neg (show ¬ (false = true) by decide)] at H; exact H
        clear H
        have H := H1
        clear H1
        replace H := Option.bind_eq_some_iff.mp H
        obtain ⟨⟨t141, t142⟩, A180, H⟩ := H
        replace H : ((prim_Int.f t141).bind fun bt143 => ((prim_Bool.f a2).bind fun t145 => ((prim_ReadBool.f t145).bind fun bt146 => (if t135 = true then (if t142 = 0 then (if bt143.2 = 0 then (if bt143.1.toList = t136.toList then (if (bt146.1 == a2) = true then (some (bt146.2 == 0)) else (some false)) else (some false)) else (some false)) else (if t141 = 0 then (if (bt146.1 == a2) = true then (some (bt146.2 == 0)) else (some false)) else (some false))) else (some false))))) = some r := H
        have A18 := Aside0.mk A180
        clear A180
        replace H := Option.bind_eq_some_iff.mp H
        obtain ⟨⟨t143, t144⟩, A190, H⟩ := H
        replace H : ((prim_Bool.f a2).bind fun t145 => ((prim_ReadBool.f t145).bind fun bt146 => (if t135 = true then (if t142 = 0 then (if t144 = 0 then (if t143.toList = t136.toList then (if (bt146.1 == a2) = true then (some (bt146.2 == 0)) else (some false)) else (some false)) else (some false)) else (if t141 = 0 then (if (bt146.1 == a2) = true then (some (bt146.2 == 0)) else (some false)) else (some false))) else (some false)))) = some r := H
        have A19 := Aside0.mk A190
        clear A190
        replace H := Option.bind_eq_some_iff.mp H
        obtain ⟨t145, A200, H⟩ := H
        replace H : ((prim_ReadBool.f t145).bind fun bt146 => (if t135 = true then (if t142 = 0 then (if t144 = 0 then (if t143.toList = t136.toList then (if (bt146.1 == a2) = true then (some (bt146.2 == 0)) else (some false)) else (some false)) else (some false)) else (if t141 = 0 then (if (bt146.1 == a2) = true then (some (bt146.2 == 0)) else (some false)) else (some false))) else (some false))) = some r := H
        have A20 := Aside0.mk A200
        clear A200
        replace H := Option.bind_eq_some_iff.mp H
        obtain ⟨⟨t146, t147⟩, A210, H⟩ := H
        replace H : (if t135 = true then (if t142 = 0 then (if t144 = 0 then (if t143.toList = t136.toList then (if (t146 == a2) = true then (some (t147 == 0)) else (some false)) else (some false)) else (some false)) else (if t141 = 0 then (if (t146 == a2) = true then (some (t147 == 0)) else (some false)) else (some false))) else (some false)) = some r := H
        have A21 := Aside0.mk A210
        clear A210
        by_cases c22 : t135 = true
        · subst c22
          have H1 : (if t142 = 0 then (if t144 = 0 then (if t143.toList = t136.toList then (if (t146 == a2) = true then (some (t147 == 0)) else (some false)) else (some false)) else (some false)) else (if t141 = 0 then (if (t146 == a2) = true then (some (t147 == 0)) else (some false)) else (some false))) = some r := by rw [if_pos rfl] at H; exact H
          clear H
          have H := H1
          clear H1
          by_cases c23 : t142 = 0
          · rw [if_pos c23] at H
            have c23b0 : (t142 == 0) = true := beq_iff_eq.mpr c23
            have c23b1 : (t142 != 0) = false := bne_eq_false_iff_eq.mpr c23
            clear c23
            by_cases c24 : t144 = 0
            · rw [if_pos c24] at H
              have c24b0 : (t144 == 0) = true := beq_iff_eq.mpr c24
              have c24b1 : (t144 != 0) = false := bne_eq_false_iff_eq.mpr c24
              clear c24
              by_cases c25 : t143.toList = t136.toList
              · rw [if_pos c25] at H
                have c25b0 : (t143.toList == t136.toList) = true := beq_iff_eq.mpr c25
                have c25b1 : (t143.toList != t136.toList) = false := bne_eq_false_iff_eq.mpr c25
                clear c25
                by_cases c26 : (t146 == a2) = true
                · rw [if_pos c26] at H
                  have c26b0 : (t146 == a2) = true := c26
                  (try (have c26b1 : decide (t146 = a2) = true := by simpa using c26))
                  (try (have c26b2 : (t146 == a2) = true := by simpa using c26))
                  clear c26
                  obtain rfl := Option.some.inj H
                  go_wp2_with (first | ((with_reducible refine gate_callee (f := 19) rfl ?_); refine goesL_ (some 54) rfl rfl Tryd.func19 (by kernel_rfl) rfl #[.string t136] rfl (by (try simp only [List.map_toArray, List.map_cons, List.map_nil]); first | done | rfl | (simp only [List.length_drop, List.length_take]; rfl)) ?_; (with_reducible refine (prim_ReadInt.calls t136 t141 t142 _ ?side1 A18.out).mono ?_); (case side1 => exact GW.below hG (by repeat (first | (with_reducible first | exact HB.out | apply below_alloc | apply pw_below_drewN | apply below_drew1) | exact HB.out))); rintro e w27 ⟨rfl, hb⟩; refine ⟨_, rfl, ?_⟩; have n0_ := Aside0.mk (below_step (by repeat (first | (with_reducible first | exact HB.out | apply below_alloc | apply pw_below_drewN | apply below_drew1) | exact HB.out)) hb); clear HB; have HB := n0_; clear n0_; (try clear hb); (try clear hb2); (try clear hk); (try clear hi)) | ((with_reducible refine gate_callee (f := 17) rfl ?_); refine goesL_ (some 59) rfl rfl Tryd.func17 (by kernel_rfl) rfl #[.int .i64 t141] rfl (by (try simp only [List.map_toArray, List.map_cons, List.map_nil]); first | done | rfl | (simp only [List.length_drop, List.length_take]; rfl)) ?_; (with_reducible refine (prim_Int.calls t141 t143 t144 _ ?side1 A19.out).mono ?_); (case side1 => exact GW.below hG (by repeat (first | (with_reducible first | exact HB.out | apply below_alloc | apply pw_below_drewN | apply below_drew1) | exact HB.out))); rintro e w28 ⟨rfl, hb⟩; refine ⟨_, rfl, ?_⟩; have n0_ := Aside0.mk (below_step (by repeat (first | (with_reducible first | exact HB.out | apply below_alloc | apply pw_below_drewN | apply below_drew1) | exact HB.out)) hb); clear HB; have HB := n0_; clear n0_; (try clear hb); (try clear hb2); (try clear hk); (try clear hi)) | ((with_reducible refine gate_callee (f := 23) rfl ?_); refine goesL_ (some 64) rfl rfl Tryd.func23 (by kernel_rfl) rfl #[.bool a2] rfl (by (try simp only [List.map_toArray, List.map_cons, List.map_nil]); first | done | rfl | (simp only [List.length_drop, List.length_take]; rfl)) ?_; (with_reducible refine (prim_Bool.calls a2 t145 _ A20.out).mono ?_); rintro e w' ⟨rfl, ⟨nd, rfl⟩⟩; refine ⟨_, rfl, ?_⟩) | ((with_reducible refine gate_callee (f := 21) rfl ?_); refine goesL_ (some 65) rfl rfl Tryd.func21 (by kernel_rfl) rfl #[.string t145] rfl (by (try simp only [List.map_toArray, List.map_cons, List.map_nil]); first | done | rfl | (simp only [List.length_drop, List.length_take]; rfl)) ?_; (with_reducible refine (prim_ReadBool.calls t145 t146 t147 _ ?side1 A21.out).mono ?_); (case side1 => exact GW.below hG (by repeat (first | (with_reducible first | exact HB.out | apply below_alloc | apply pw_below_drewN | apply below_drew1) | exact HB.out))); rintro e w29 ⟨rfl, hb⟩; refine ⟨_, rfl, ?_⟩; have n0_ := Aside0.mk (below_step (by repeat (first | (with_reducible first | exact HB.out | apply below_alloc | apply pw_below_drewN | apply below_drew1) | exact HB.out)) hb); clear HB; have HB := n0_; clear n0_; (try clear hb); (try clear hb2); (try clear hk); (try clear hi)))
                  go_ret
                  exact ⟨by first | rfl | (simp [errW_none, errW_some] <;> rfl) | (simp [*, errW_none, errW_some] <;> rfl), by repeat (first | (with_reducible first | exact HB.out | apply below_alloc | apply pw_below_drewN | apply below_drew1) | exact HB.out)⟩
                · rw [if_neg c26] at H
                  have c26b0 : (t146 == a2) = false := by simpa using c26
                  (try (have c26b1 : decide (t146 = a2) = false := by simpa using c26))
                  (try (have c26b2 : (t146 == a2) = false := by simpa using c26))
                  (try (have c26b3 : ¬ (t146 = a2) := by simpa using c26))
                  clear c26
                  obtain rfl := Option.some.inj H
                  go_wp2_with (first | ((with_reducible refine gate_callee (f := 19) rfl ?_); refine goesL_ (some 54) rfl rfl Tryd.func19 (by kernel_rfl) rfl #[.string t136] rfl (by (try simp only [List.map_toArray, List.map_cons, List.map_nil]); first | done | rfl | (simp only [List.length_drop, List.length_take]; rfl)) ?_; (with_reducible refine (prim_ReadInt.calls t136 t141 t142 _ ?side1 A18.out).mono ?_); (case side1 => exact GW.below hG (by repeat (first | (with_reducible first | exact HB.out | apply below_alloc | apply pw_below_drewN | apply below_drew1) | exact HB.out))); rintro e w30 ⟨rfl, hb⟩; refine ⟨_, rfl, ?_⟩; have n0_ := Aside0.mk (below_step (by repeat (first | (with_reducible first | exact HB.out | apply below_alloc | apply pw_below_drewN | apply below_drew1) | exact HB.out)) hb); clear HB; have HB := n0_; clear n0_; (try clear hb); (try clear hb2); (try clear hk); (try clear hi)) | ((with_reducible refine gate_callee (f := 17) rfl ?_); refine goesL_ (some 59) rfl rfl Tryd.func17 (by kernel_rfl) rfl #[.int .i64 t141] rfl (by (try simp only [List.map_toArray, List.map_cons, List.map_nil]); first | done | rfl | (simp only [List.length_drop, List.length_take]; rfl)) ?_; (with_reducible refine (prim_Int.calls t141 t143 t144 _ ?side1 A19.out).mono ?_); (case side1 => exact GW.below hG (by repeat (first | (with_reducible first | exact HB.out | apply below_alloc | apply pw_below_drewN | apply below_drew1) | exact HB.out))); rintro e w31 ⟨rfl, hb⟩; refine ⟨_, rfl, ?_⟩; have n0_ := Aside0.mk (below_step (by repeat (first | (with_reducible first | exact HB.out | apply below_alloc | apply pw_below_drewN | apply below_drew1) | exact HB.out)) hb); clear HB; have HB := n0_; clear n0_; (try clear hb); (try clear hb2); (try clear hk); (try clear hi)) | ((with_reducible refine gate_callee (f := 23) rfl ?_); refine goesL_ (some 64) rfl rfl Tryd.func23 (by kernel_rfl) rfl #[.bool a2] rfl (by (try simp only [List.map_toArray, List.map_cons, List.map_nil]); first | done | rfl | (simp only [List.length_drop, List.length_take]; rfl)) ?_; (with_reducible refine (prim_Bool.calls a2 t145 _ A20.out).mono ?_); rintro e w' ⟨rfl, ⟨nd, rfl⟩⟩; refine ⟨_, rfl, ?_⟩) | ((with_reducible refine gate_callee (f := 21) rfl ?_); refine goesL_ (some 65) rfl rfl Tryd.func21 (by kernel_rfl) rfl #[.string t145] rfl (by (try simp only [List.map_toArray, List.map_cons, List.map_nil]); first | done | rfl | (simp only [List.length_drop, List.length_take]; rfl)) ?_; (with_reducible refine (prim_ReadBool.calls t145 t146 t147 _ ?side1 A21.out).mono ?_); (case side1 => exact GW.below hG (by repeat (first | (with_reducible first | exact HB.out | apply below_alloc | apply pw_below_drewN | apply below_drew1) | exact HB.out))); rintro e w32 ⟨rfl, hb⟩; refine ⟨_, rfl, ?_⟩; have n0_ := Aside0.mk (below_step (by repeat (first | (with_reducible first | exact HB.out | apply below_alloc | apply pw_below_drewN | apply below_drew1) | exact HB.out)) hb); clear HB; have HB := n0_; clear n0_; (try clear hb); (try clear hb2); (try clear hk); (try clear hi)))
                  go_ret
                  exact ⟨by first | rfl | (simp [errW_none, errW_some] <;> rfl) | (simp [*, errW_none, errW_some] <;> rfl), by repeat (first | (with_reducible first | exact HB.out | apply below_alloc | apply pw_below_drewN | apply below_drew1) | exact HB.out)⟩
              · rw [if_neg c25] at H
                have c25b0 : (t143.toList == t136.toList) = false := beq_eq_false_iff_ne.mpr c25
                have c25b1 : (t143.toList != t136.toList) = true := bne_iff_ne.mpr c25
                obtain rfl := Option.some.inj H
                go_wp2_with (first | ((with_reducible refine gate_callee (f := 19) rfl ?_); refine goesL_ (some 54) rfl rfl Tryd.func19 (by kernel_rfl) rfl #[.string t136] rfl (by (try simp only [List.map_toArray, List.map_cons, List.map_nil]); first | done | rfl | (simp only [List.length_drop, List.length_take]; rfl)) ?_; (with_reducible refine (prim_ReadInt.calls t136 t141 t142 _ ?side1 A18.out).mono ?_); (case side1 => exact GW.below hG (by repeat (first | (with_reducible first | exact HB.out | apply below_alloc | apply pw_below_drewN | apply below_drew1) | exact HB.out))); rintro e w33 ⟨rfl, hb⟩; refine ⟨_, rfl, ?_⟩; have n0_ := Aside0.mk (below_step (by repeat (first | (with_reducible first | exact HB.out | apply below_alloc | apply pw_below_drewN | apply below_drew1) | exact HB.out)) hb); clear HB; have HB := n0_; clear n0_; (try clear hb); (try clear hb2); (try clear hk); (try clear hi)) | ((with_reducible refine gate_callee (f := 17) rfl ?_); refine goesL_ (some 59) rfl rfl Tryd.func17 (by kernel_rfl) rfl #[.int .i64 t141] rfl (by (try simp only [List.map_toArray, List.map_cons, List.map_nil]); first | done | rfl | (simp only [List.length_drop, List.length_take]; rfl)) ?_; (with_reducible refine (prim_Int.calls t141 t143 t144 _ ?side1 A19.out).mono ?_); (case side1 => exact GW.below hG (by repeat (first | (with_reducible first | exact HB.out | apply below_alloc | apply pw_below_drewN | apply below_drew1) | exact HB.out))); rintro e w34 ⟨rfl, hb⟩; refine ⟨_, rfl, ?_⟩; have n0_ := Aside0.mk (below_step (by repeat (first | (with_reducible first | exact HB.out | apply below_alloc | apply pw_below_drewN | apply below_drew1) | exact HB.out)) hb); clear HB; have HB := n0_; clear n0_; (try clear hb); (try clear hb2); (try clear hk); (try clear hi)) | ((with_reducible refine gate_callee (f := 23) rfl ?_); refine goesL_ (some 64) rfl rfl Tryd.func23 (by kernel_rfl) rfl #[.bool a2] rfl (by (try simp only [List.map_toArray, List.map_cons, List.map_nil]); first | done | rfl | (simp only [List.length_drop, List.length_take]; rfl)) ?_; (with_reducible refine (prim_Bool.calls a2 t145 _ A20.out).mono ?_); rintro e w' ⟨rfl, ⟨nd, rfl⟩⟩; refine ⟨_, rfl, ?_⟩) | ((with_reducible refine gate_callee (f := 21) rfl ?_); refine goesL_ (some 65) rfl rfl Tryd.func21 (by kernel_rfl) rfl #[.string t145] rfl (by (try simp only [List.map_toArray, List.map_cons, List.map_nil]); first | done | rfl | (simp only [List.length_drop, List.length_take]; rfl)) ?_; (with_reducible refine (prim_ReadBool.calls t145 t146 t147 _ ?side1 A21.out).mono ?_); (case side1 => exact GW.below hG (by repeat (first | (with_reducible first | exact HB.out | apply below_alloc | apply pw_below_drewN | apply below_drew1) | exact HB.out))); rintro e w35 ⟨rfl, hb⟩; refine ⟨_, rfl, ?_⟩; have n0_ := Aside0.mk (below_step (by repeat (first | (with_reducible first | exact HB.out | apply below_alloc | apply pw_below_drewN | apply below_drew1) | exact HB.out)) hb); clear HB; have HB := n0_; clear n0_; (try clear hb); (try clear hb2); (try clear hk); (try clear hi)))
                go_ret
                exact ⟨by first | rfl | (simp [errW_none, errW_some] <;> rfl) | (simp [*, errW_none, errW_some] <;> rfl), by repeat (first | (with_reducible first | exact HB.out | apply below_alloc | apply pw_below_drewN | apply below_drew1) | exact HB.out)⟩
            · rw [if_neg c24] at H
              have c24b0 : (t144 == 0) = false := beq_eq_false_iff_ne.mpr c24
              have c24b1 : (t144 != 0) = true := bne_iff_ne.mpr c24
              obtain rfl := Option.some.inj H
              go_wp2_with (first | ((with_reducible refine gate_callee (f := 19) rfl ?_); refine goesL_ (some 54) rfl rfl Tryd.func19 (by kernel_rfl) rfl #[.string t136] rfl (by (try simp only [List.map_toArray, List.map_cons, List.map_nil]); first | done | rfl | (simp only [List.length_drop, List.length_take]; rfl)) ?_; (with_reducible refine (prim_ReadInt.calls t136 t141 t142 _ ?side1 A18.out).mono ?_); (case side1 => exact GW.below hG (by repeat (first | (with_reducible first | exact HB.out | apply below_alloc | apply pw_below_drewN | apply below_drew1) | exact HB.out))); rintro e w36 ⟨rfl, hb⟩; refine ⟨_, rfl, ?_⟩; have n0_ := Aside0.mk (below_step (by repeat (first | (with_reducible first | exact HB.out | apply below_alloc | apply pw_below_drewN | apply below_drew1) | exact HB.out)) hb); clear HB; have HB := n0_; clear n0_; (try clear hb); (try clear hb2); (try clear hk); (try clear hi)) | ((with_reducible refine gate_callee (f := 17) rfl ?_); refine goesL_ (some 59) rfl rfl Tryd.func17 (by kernel_rfl) rfl #[.int .i64 t141] rfl (by (try simp only [List.map_toArray, List.map_cons, List.map_nil]); first | done | rfl | (simp only [List.length_drop, List.length_take]; rfl)) ?_; (with_reducible refine (prim_Int.calls t141 t143 t144 _ ?side1 A19.out).mono ?_); (case side1 => exact GW.below hG (by repeat (first | (with_reducible first | exact HB.out | apply below_alloc | apply pw_below_drewN | apply below_drew1) | exact HB.out))); rintro e w37 ⟨rfl, hb⟩; refine ⟨_, rfl, ?_⟩; have n0_ := Aside0.mk (below_step (by repeat (first | (with_reducible first | exact HB.out | apply below_alloc | apply pw_below_drewN | apply below_drew1) | exact HB.out)) hb); clear HB; have HB := n0_; clear n0_; (try clear hb); (try clear hb2); (try clear hk); (try clear hi)) | ((with_reducible refine gate_callee (f := 23) rfl ?_); refine goesL_ (some 64) rfl rfl Tryd.func23 (by kernel_rfl) rfl #[.bool a2] rfl (by (try simp only [List.map_toArray, List.map_cons, List.map_nil]); first | done | rfl | (simp only [List.length_drop, List.length_take]; rfl)) ?_; (with_reducible refine (prim_Bool.calls a2 t145 _ A20.out).mono ?_); rintro e w' ⟨rfl, ⟨nd, rfl⟩⟩; refine ⟨_, rfl, ?_⟩) | ((with_reducible refine gate_callee (f := 21) rfl ?_); refine goesL_ (some 65) rfl rfl Tryd.func21 (by kernel_rfl) rfl #[.string t145] rfl (by (try simp only [List.map_toArray, List.map_cons, List.map_nil]); first | done | rfl | (simp only [List.length_drop, List.length_take]; rfl)) ?_; (with_reducible refine (prim_ReadBool.calls t145 t146 t147 _ ?side1 A21.out).mono ?_); (case side1 => exact GW.below hG (by repeat (first | (with_reducible first | exact HB.out | apply below_alloc | apply pw_below_drewN | apply below_drew1) | exact HB.out))); rintro e w38 ⟨rfl, hb⟩; refine ⟨_, rfl, ?_⟩; have n0_ := Aside0.mk (below_step (by repeat (first | (with_reducible first | exact HB.out | apply below_alloc | apply pw_below_drewN | apply below_drew1) | exact HB.out)) hb); clear HB; have HB := n0_; clear n0_; (try clear hb); (try clear hb2); (try clear hk); (try clear hi)))
              go_ret
              exact ⟨by first | rfl | (simp [errW_none, errW_some] <;> rfl) | (simp [*, errW_none, errW_some] <;> rfl), by repeat (first | (with_reducible first | exact HB.out | apply below_alloc | apply pw_below_drewN | apply below_drew1) | exact HB.out)⟩
          · rw [if_neg c23] at H
            have c23b0 : (t142 == 0) = false := beq_eq_false_iff_ne.mpr c23
            have c23b1 : (t142 != 0) = true := bne_iff_ne.mpr c23
            by_cases c39 : t141 = 0
            · rw [if_pos c39] at H
              have c39b0 : (t141 == 0) = true := beq_iff_eq.mpr c39
              have c39b1 : (t141 != 0) = false := bne_eq_false_iff_eq.mpr c39
              clear c39
              by_cases c40 : (t146 == a2) = true
              · rw [if_pos c40] at H
                have c40b0 : (t146 == a2) = true := c40
                (try (have c40b1 : decide (t146 = a2) = true := by simpa using c40))
                (try (have c40b2 : (t146 == a2) = true := by simpa using c40))
                clear c40
                obtain rfl := Option.some.inj H
                go_wp2_with (first | ((with_reducible refine gate_callee (f := 19) rfl ?_); refine goesL_ (some 54) rfl rfl Tryd.func19 (by kernel_rfl) rfl #[.string t136] rfl (by (try simp only [List.map_toArray, List.map_cons, List.map_nil]); first | done | rfl | (simp only [List.length_drop, List.length_take]; rfl)) ?_; (with_reducible refine (prim_ReadInt.calls t136 t141 t142 _ ?side1 A18.out).mono ?_); (case side1 => exact GW.below hG (by repeat (first | (with_reducible first | exact HB.out | apply below_alloc | apply pw_below_drewN | apply below_drew1) | exact HB.out))); rintro e w41 ⟨rfl, hb⟩; refine ⟨_, rfl, ?_⟩; have n0_ := Aside0.mk (below_step (by repeat (first | (with_reducible first | exact HB.out | apply below_alloc | apply pw_below_drewN | apply below_drew1) | exact HB.out)) hb); clear HB; have HB := n0_; clear n0_; (try clear hb); (try clear hb2); (try clear hk); (try clear hi)) | ((with_reducible refine gate_callee (f := 17) rfl ?_); refine goesL_ (some 59) rfl rfl Tryd.func17 (by kernel_rfl) rfl #[.int .i64 t141] rfl (by (try simp only [List.map_toArray, List.map_cons, List.map_nil]); first | done | rfl | (simp only [List.length_drop, List.length_take]; rfl)) ?_; (with_reducible refine (prim_Int.calls t141 t143 t144 _ ?side1 A19.out).mono ?_); (case side1 => exact GW.below hG (by repeat (first | (with_reducible first | exact HB.out | apply below_alloc | apply pw_below_drewN | apply below_drew1) | exact HB.out))); rintro e w42 ⟨rfl, hb⟩; refine ⟨_, rfl, ?_⟩; have n0_ := Aside0.mk (below_step (by repeat (first | (with_reducible first | exact HB.out | apply below_alloc | apply pw_below_drewN | apply below_drew1) | exact HB.out)) hb); clear HB; have HB := n0_; clear n0_; (try clear hb); (try clear hb2); (try clear hk); (try clear hi)) | ((with_reducible refine gate_callee (f := 23) rfl ?_); refine goesL_ (some 64) rfl rfl Tryd.func23 (by kernel_rfl) rfl #[.bool a2] rfl (by (try simp only [List.map_toArray, List.map_cons, List.map_nil]); first | done | rfl | (simp only [List.length_drop, List.length_take]; rfl)) ?_; (with_reducible refine (prim_Bool.calls a2 t145 _ A20.out).mono ?_); rintro e w' ⟨rfl, ⟨nd, rfl⟩⟩; refine ⟨_, rfl, ?_⟩) | ((with_reducible refine gate_callee (f := 21) rfl ?_); refine goesL_ (some 65) rfl rfl Tryd.func21 (by kernel_rfl) rfl #[.string t145] rfl (by (try simp only [List.map_toArray, List.map_cons, List.map_nil]); first | done | rfl | (simp only [List.length_drop, List.length_take]; rfl)) ?_; (with_reducible refine (prim_ReadBool.calls t145 t146 t147 _ ?side1 A21.out).mono ?_); (case side1 => exact GW.below hG (by repeat (first | (with_reducible first | exact HB.out | apply below_alloc | apply pw_below_drewN | apply below_drew1) | exact HB.out))); rintro e w43 ⟨rfl, hb⟩; refine ⟨_, rfl, ?_⟩; have n0_ := Aside0.mk (below_step (by repeat (first | (with_reducible first | exact HB.out | apply below_alloc | apply pw_below_drewN | apply below_drew1) | exact HB.out)) hb); clear HB; have HB := n0_; clear n0_; (try clear hb); (try clear hb2); (try clear hk); (try clear hi)))
                go_ret
                exact ⟨by first | rfl | (simp [errW_none, errW_some] <;> rfl) | (simp [*, errW_none, errW_some] <;> rfl), by repeat (first | (with_reducible first | exact HB.out | apply below_alloc | apply pw_below_drewN | apply below_drew1) | exact HB.out)⟩
              · rw [if_neg c40] at H
                have c40b0 : (t146 == a2) = false := by simpa using c40
                (try (have c40b1 : decide (t146 = a2) = false := by simpa using c40))
                (try (have c40b2 : (t146 == a2) = false := by simpa using c40))
                (try (have c40b3 : ¬ (t146 = a2) := by simpa using c40))
                clear c40
                obtain rfl := Option.some.inj H
                go_wp2_with (first | ((with_reducible refine gate_callee (f := 19) rfl ?_); refine goesL_ (some 54) rfl rfl Tryd.func19 (by kernel_rfl) rfl #[.string t136] rfl (by (try simp only [List.map_toArray, List.map_cons, List.map_nil]); first | done | rfl | (simp only [List.length_drop, List.length_take]; rfl)) ?_; (with_reducible refine (prim_ReadInt.calls t136 t141 t142 _ ?side1 A18.out).mono ?_); (case side1 => exact GW.below hG (by repeat (first | (with_reducible first | exact HB.out | apply below_alloc | apply pw_below_drewN | apply below_drew1) | exact HB.out))); rintro e w44 ⟨rfl, hb⟩; refine ⟨_, rfl, ?_⟩; have n0_ := Aside0.mk (below_step (by repeat (first | (with_reducible first | exact HB.out | apply below_alloc | apply pw_below_drewN | apply below_drew1) | exact HB.out)) hb); clear HB; have HB := n0_; clear n0_; (try clear hb); (try clear hb2); (try clear hk); (try clear hi)) | ((with_reducible refine gate_callee (f := 17) rfl ?_); refine goesL_ (some 59) rfl rfl Tryd.func17 (by kernel_rfl) rfl #[.int .i64 t141] rfl (by (try simp only [List.map_toArray, List.map_cons, List.map_nil]); first | done | rfl | (simp only [List.length_drop, List.length_take]; rfl)) ?_; (with_reducible refine (prim_Int.calls t141 t143 t144 _ ?side1 A19.out).mono ?_); (case side1 => exact GW.below hG (by repeat (first | (with_reducible first | exact HB.out | apply below_alloc | apply pw_below_drewN | apply below_drew1) | exact HB.out))); rintro e w45 ⟨rfl, hb⟩; refine ⟨_, rfl, ?_⟩; have n0_ := Aside0.mk (below_step (by repeat (first | (with_reducible first | exact HB.out | apply below_alloc | apply pw_below_drewN | apply below_drew1) | exact HB.out)) hb); clear HB; have HB := n0_; clear n0_; (try clear hb); (try clear hb2); (try clear hk); (try clear hi)) | ((with_reducible refine gate_callee (f := 23) rfl ?_); refine goesL_ (some 64) rfl rfl Tryd.func23 (by kernel_rfl) rfl #[.bool a2] rfl (by (try simp only [List.map_toArray, List.map_cons, List.map_nil]); first | done | rfl | (simp only [List.length_drop, List.length_take]; rfl)) ?_; (with_reducible refine (prim_Bool.calls a2 t145 _ A20.out).mono ?_); rintro e w' ⟨rfl, ⟨nd, rfl⟩⟩; refine ⟨_, rfl, ?_⟩) | ((with_reducible refine gate_callee (f := 21) rfl ?_); refine goesL_ (some 65) rfl rfl Tryd.func21 (by kernel_rfl) rfl #[.string t145] rfl (by (try simp only [List.map_toArray, List.map_cons, List.map_nil]); first | done | rfl | (simp only [List.length_drop, List.length_take]; rfl)) ?_; (with_reducible refine (prim_ReadBool.calls t145 t146 t147 _ ?side1 A21.out).mono ?_); (case side1 => exact GW.below hG (by repeat (first | (with_reducible first | exact HB.out | apply below_alloc | apply pw_below_drewN | apply below_drew1) | exact HB.out))); rintro e w46 ⟨rfl, hb⟩; refine ⟨_, rfl, ?_⟩; have n0_ := Aside0.mk (below_step (by repeat (first | (with_reducible first | exact HB.out | apply below_alloc | apply pw_below_drewN | apply below_drew1) | exact HB.out)) hb); clear HB; have HB := n0_; clear n0_; (try clear hb); (try clear hb2); (try clear hk); (try clear hi)))
                go_ret
                exact ⟨by first | rfl | (simp [errW_none, errW_some] <;> rfl) | (simp [*, errW_none, errW_some] <;> rfl), by repeat (first | (with_reducible first | exact HB.out | apply below_alloc | apply pw_below_drewN | apply below_drew1) | exact HB.out)⟩
            · rw [if_neg c39] at H
              have c39b0 : (t141 == 0) = false := beq_eq_false_iff_ne.mpr c39
              have c39b1 : (t141 != 0) = true := bne_iff_ne.mpr c39
              obtain rfl := Option.some.inj H
              go_wp2_with (first | ((with_reducible refine gate_callee (f := 19) rfl ?_); refine goesL_ (some 54) rfl rfl Tryd.func19 (by kernel_rfl) rfl #[.string t136] rfl (by (try simp only [List.map_toArray, List.map_cons, List.map_nil]); first | done | rfl | (simp only [List.length_drop, List.length_take]; rfl)) ?_; (with_reducible refine (prim_ReadInt.calls t136 t141 t142 _ ?side1 A18.out).mono ?_); (case side1 => exact GW.below hG (by repeat (first | (with_reducible first | exact HB.out | apply below_alloc | apply pw_below_drewN | apply below_drew1) | exact HB.out))); rintro e w47 ⟨rfl, hb⟩; refine ⟨_, rfl, ?_⟩; have n0_ := Aside0.mk (below_step (by repeat (first | (with_reducible first | exact HB.out | apply below_alloc | apply pw_below_drewN | apply below_drew1) | exact HB.out)) hb); clear HB; have HB := n0_; clear n0_; (try clear hb); (try clear hb2); (try clear hk); (try clear hi)) | ((with_reducible refine gate_callee (f := 17) rfl ?_); refine goesL_ (some 59) rfl rfl Tryd.func17 (by kernel_rfl) rfl #[.int .i64 t141] rfl (by (try simp only [List.map_toArray, List.map_cons, List.map_nil]); first | done | rfl | (simp only [List.length_drop, List.length_take]; rfl)) ?_; (with_reducible refine (prim_Int.calls t141 t143 t144 _ ?side1 A19.out).mono ?_); (case side1 => exact GW.below hG (by repeat (first | (with_reducible first | exact HB.out | apply below_alloc | apply pw_below_drewN | apply below_drew1) | exact HB.out))); rintro e w48 ⟨rfl, hb⟩; refine ⟨_, rfl, ?_⟩; have n0_ := Aside0.mk (below_step (by repeat (first | (with_reducible first | exact HB.out | apply below_alloc | apply pw_below_drewN | apply below_drew1) | exact HB.out)) hb); clear HB; have HB := n0_; clear n0_; (try clear hb); (try clear hb2); (try clear hk); (try clear hi)) | ((with_reducible refine gate_callee (f := 23) rfl ?_); refine goesL_ (some 64) rfl rfl Tryd.func23 (by kernel_rfl) rfl #[.bool a2] rfl (by (try simp only [List.map_toArray, List.map_cons, List.map_nil]); first | done | rfl | (simp only [List.length_drop, List.length_take]; rfl)) ?_; (with_reducible refine (prim_Bool.calls a2 t145 _ A20.out).mono ?_); rintro e w' ⟨rfl, ⟨nd, rfl⟩⟩; refine ⟨_, rfl, ?_⟩) | ((with_reducible refine gate_callee (f := 21) rfl ?_); refine goesL_ (some 65) rfl rfl Tryd.func21 (by kernel_rfl) rfl #[.string t145] rfl (by (try simp only [List.map_toArray, List.map_cons, List.map_nil]); first | done | rfl | (simp only [List.length_drop, List.length_take]; rfl)) ?_; (with_reducible refine (prim_ReadBool.calls t145 t146 t147 _ ?side1 A21.out).mono ?_); (case side1 => exact GW.below hG (by repeat (first | (with_reducible first | exact HB.out | apply below_alloc | apply pw_below_drewN | apply below_drew1) | exact HB.out))); rintro e w49 ⟨rfl, hb⟩; refine ⟨_, rfl, ?_⟩; have n0_ := Aside0.mk (below_step (by repeat (first | (with_reducible first | exact HB.out | apply below_alloc | apply pw_below_drewN | apply below_drew1) | exact HB.out)) hb); clear HB; have HB := n0_; clear n0_; (try clear hb); (try clear hb2); (try clear hk); (try clear hi)))
              go_ret
              exact ⟨by first | rfl | (simp [errW_none, errW_some] <;> rfl) | (simp [*, errW_none, errW_some] <;> rfl), by repeat (first | (with_reducible first | exact HB.out | apply below_alloc | apply pw_below_drewN | apply below_drew1) | exact HB.out)⟩
        · replace c22 := Bool.eq_false_iff.mpr c22
          subst c22
          have H1 : (some false) = some r := by rw [if_neg (show ¬ (false = true) by decide)] at H; exact H
          clear H
          have H := H1
          clear H1
          obtain rfl := Option.some.inj H
          go_wp2_with (first | ((with_reducible refine gate_callee (f := 19) rfl ?_); refine goesL_ (some 54) rfl rfl Tryd.func19 (by kernel_rfl) rfl #[.string t136] rfl (by (try simp only [List.map_toArray, List.map_cons, List.map_nil]); first | done | rfl | (simp only [List.length_drop, List.length_take]; rfl)) ?_; (with_reducible refine (prim_ReadInt.calls t136 t141 t142 _ ?side1 A18.out).mono ?_); (case side1 => exact GW.below hG (by repeat (first | (with_reducible first | exact HB.out | apply below_alloc | apply pw_below_drewN | apply below_drew1) | exact HB.out))); rintro e w50 ⟨rfl, hb⟩; refine ⟨_, rfl, ?_⟩; have n0_ := Aside0.mk (below_step (by repeat (first | (with_reducible first | exact HB.out | apply below_alloc | apply pw_below_drewN | apply below_drew1) | exact HB.out)) hb); clear HB; have HB := n0_; clear n0_; (try clear hb); (try clear hb2); (try clear hk); (try clear hi)) | ((with_reducible refine gate_callee (f := 17) rfl ?_); refine goesL_ (some 59) rfl rfl Tryd.func17 (by kernel_rfl) rfl #[.int .i64 t141] rfl (by (try simp only [List.map_toArray, List.map_cons, List.map_nil]); first | done | rfl | (simp only [List.length_drop, List.length_take]; rfl)) ?_; (with_reducible refine (prim_Int.calls t141 t143 t144 _ ?side1 A19.out).mono ?_); (case side1 => exact GW.below hG (by repeat (first | (with_reducible first | exact HB.out | apply below_alloc | apply pw_below_drewN | apply below_drew1) | exact HB.out))); rintro e w51 ⟨rfl, hb⟩; refine ⟨_, rfl, ?_⟩; have n0_ := Aside0.mk (below_step (by repeat (first | (with_reducible first | exact HB.out | apply below_alloc | apply pw_below_drewN | apply below_drew1) | exact HB.out)) hb); clear HB; have HB := n0_; clear n0_; (try clear hb); (try clear hb2); (try clear hk); (try clear hi)) | ((with_reducible refine gate_callee (f := 23) rfl ?_); refine goesL_ (some 64) rfl rfl Tryd.func23 (by kernel_rfl) rfl #[.bool a2] rfl (by (try simp only [List.map_toArray, List.map_cons, List.map_nil]); first | done | rfl | (simp only [List.length_drop, List.length_take]; rfl)) ?_; (with_reducible refine (prim_Bool.calls a2 t145 _ A20.out).mono ?_); rintro e w' ⟨rfl, ⟨nd, rfl⟩⟩; refine ⟨_, rfl, ?_⟩) | ((with_reducible refine gate_callee (f := 21) rfl ?_); refine goesL_ (some 65) rfl rfl Tryd.func21 (by kernel_rfl) rfl #[.string t145] rfl (by (try simp only [List.map_toArray, List.map_cons, List.map_nil]); first | done | rfl | (simp only [List.length_drop, List.length_take]; rfl)) ?_; (with_reducible refine (prim_ReadBool.calls t145 t146 t147 _ ?side1 A21.out).mono ?_); (case side1 => exact GW.below hG (by repeat (first | (with_reducible first | exact HB.out | apply below_alloc | apply pw_below_drewN | apply below_drew1) | exact HB.out))); rintro e w52 ⟨rfl, hb⟩; refine ⟨_, rfl, ?_⟩; have n0_ := Aside0.mk (below_step (by repeat (first | (with_reducible first | exact HB.out | apply below_alloc | apply pw_below_drewN | apply below_drew1) | exact HB.out)) hb); clear HB; have HB := n0_; clear n0_; (try clear hb); (try clear hb2); (try clear hk); (try clear hi)))
          go_ret
          exact ⟨by first | rfl | (simp [errW_none, errW_some] <;> rfl) | (simp [*, errW_none, errW_some] <;> rfl), by repeat (first | (with_reducible first | exact HB.out | apply below_alloc | apply pw_below_drewN | apply below_drew1) | exact HB.out)⟩

/-- THE ONE PURE STATEMENT of latinerlaw03_PrimBack: yours. -/
def latinerlaw03_PrimBack.Pure : Prop := ∀ (a0 : Int) (a1 : ByteArray) (a2 : Bool), (Lit.int .i64 a0).wf = true → a1.size ≤ 140737488351232 → ∃ k, latinerlaw03_PrimBack.f k a0 a1 a2 = some true
theorem latinerlaw03_PrimBack.walk (P : latinerlaw03_PrimBack.Pure) (a0 : Int) (a1 : ByteArray) (a2 : Bool) (w : World) (w0 : (Lit.int .i64 a0).wf = true) (w1 : a1.size ≤ 140737488351232) (hG : GW w) :
    Calls Tryd.prog 4 #[.int .i64 a0, .string a1, .bool a2] w fun e w' => e = .returned (.bool true) ∧ Below w.heap.size w w' := by
  obtain ⟨k, h⟩ := P a0 a1 a2 w0 w1
  refine (latinerlaw03_PrimBack.calls k a0 a1 a2 true w hG h).mono ?_
  rintro e w' ⟨rfl, hd⟩
  exact ⟨rfl, hd⟩

/-! ### latinerlaw03_PrimOrder: function 5 -/
def latinerlaw03_PrimOrder.j0 : Nat → Int → Int → Bool → ByteArray → Int → ByteArray → Int → Bool → Option (Bool)
  | 0, _, _, _, _, _, _, _, _ => none
  | k + 1, x0, x1, x5, x6, x7, x8, x9, x26 => if x26 = true then (if x5 = true then (if x7 = 0 then (if x9 = 0 then (some true) else (some (x8.toList == ([] : List UInt8)))) else (if x6.toList = ([] : List UInt8) then (if x9 = 0 then (some true) else (some (x8.toList == ([] : List UInt8)))) else (some false))) else (some false)) else (if ((decide (x0 < 0)) != (decide (x1 < 0))) = true then (if x5 = true then (if x6.toList = x8.toList then (some false) else (if 0 ≤ (mn (x6.size : Int) 1) then (if (mn (x6.size : Int) 1) ≤ (x6.size : Int) then (some ((Op.bytesLess ((x6.extract 0 ((mn (x6.size : Int) 1) : Int).toNat).toList) ([128] : List UInt8)) == (decide (x0 ≥ 0)))) else (none)) else (none))) else (some false)) else (if (x6.size : Int) = (x8.size : Int) then (if x5 = true then (some ((Op.bytesLess x6.toList x8.toList) == (decide (x0 < x1)))) else (some false)) else (if x5 = true then (if x0 ≥ 0 then (if x0 < x1 then (some ((decide ((x6.size : Int) < (x8.size : Int))) == true)) else (if x0 < 0 then (some ((decide ((x6.size : Int) < (x8.size : Int))) == (decide (x0 > x1)))) else (some ((decide ((x6.size : Int) < (x8.size : Int))) == false)))) else (if x0 < 0 then (some ((decide ((x6.size : Int) < (x8.size : Int))) == (decide (x0 > x1)))) else (some ((decide ((x6.size : Int) < (x8.size : Int))) == false)))) else (some false))))
def latinerlaw03_PrimOrder.f (k : Nat) (a0 : Int) (a1 : Int) : Option (Bool) := (latinerlaw03_shown.f).bind fun t148 => ((prim_Int.f a0).bind fun bt149 => ((prim_Int.f a1).bind fun bt151 => (if bt149.2 = 0 then (latinerlaw03_PrimOrder.j0 k a0 a1 t148 bt149.1 bt149.2 bt151.1 bt151.2 (bt151.2 != 0)) else (latinerlaw03_PrimOrder.j0 k a0 a1 t148 bt149.1 bt149.2 bt151.1 bt151.2 true))))
theorem latinerlaw03_PrimOrder.mono_l : ∀ k, (∀ y0 y1 y2 y3 y4 y5 y6 y7, LeO (latinerlaw03_PrimOrder.j0 k y0 y1 y2 y3 y4 y5 y6 y7) (latinerlaw03_PrimOrder.j0 (k + 1) y0 y1 y2 y3 y4 y5 y6 y7))
  | 0 => fun _ _ _ _ _ _ _ _ r h => by simp [latinerlaw03_PrimOrder.j0] at h
  | k + 1 => by
    have ih0 := latinerlaw03_PrimOrder.mono_l k
    · intro y0 y1 y2 y3 y4 y5 y6 y7
      unfold latinerlaw03_PrimOrder.j0
      repeat' first
      | (with_reducible exact ih0 _ _ _ _ _ _ _ _)
      | (with_reducible exact LeO.refl _)
      | (with_reducible exact LeO.none _)
      | (with_reducible refine LeO.ite ?_ ?_)
      | (with_reducible refine LeO.bind ?_ (fun _ => ?_))
      | exact ih0 _ _ _ _ _ _ _ _
      | exact LeO.none _
      | refine LeO.ite ?_ ?_
      | refine LeO.bind ?_ (fun _ => ?_)
theorem latinerlaw03_PrimOrder.mono : ∀ a0 a1 k, LeO (latinerlaw03_PrimOrder.f k a0 a1) (latinerlaw03_PrimOrder.f (k + 1) a0 a1) := by
  intro a0 a1 k
  have ih0 := latinerlaw03_PrimOrder.mono_l k
  unfold latinerlaw03_PrimOrder.f
  repeat' first
      | (with_reducible exact ih0 _ _ _ _ _ _ _ _)
      | (with_reducible exact LeO.refl _)
      | (with_reducible exact LeO.none _)
      | (with_reducible refine LeO.ite ?_ ?_)
      | (with_reducible refine LeO.bind ?_ (fun _ => ?_))
      | exact ih0 _ _ _ _ _ _ _ _
      | exact LeO.none _
      | refine LeO.ite ?_ ?_
      | refine LeO.bind ?_ (fun _ => ?_)
set_option maxHeartbeats 8000000 in
set_option maxRecDepth 100000 in
theorem latinerlaw03_PrimOrder.calls (k : Nat) (a0 : Int) (a1 : Int) (r : Bool) (w : World) (hG : GW w) (h : latinerlaw03_PrimOrder.f k a0 a1 = some r) :
    Calls Tryd.prog 5 #[.int .i64 a0, .int .i64 a1] w fun e w' => e = .returned (.bool r) ∧ Below w.heap.size w w' := by
  have HB := Aside0.mk (Below.refl w.heap.size w)
  have H : ((latinerlaw03_shown.f).bind fun t148 => ((prim_Int.f a0).bind fun bt149 => ((prim_Int.f a1).bind fun bt151 => (if bt149.2 = 0 then (latinerlaw03_PrimOrder.j0 k a0 a1 t148 bt149.1 bt149.2 bt151.1 bt151.2 (bt151.2 != 0)) else (latinerlaw03_PrimOrder.j0 k a0 a1 t148 bt149.1 bt149.2 bt151.1 bt151.2 true))))) = some r := h
  clear h
  replace H := Option.bind_eq_some_iff.mp H
  obtain ⟨t148, A30, H⟩ := H
  replace H : ((prim_Int.f a0).bind fun bt149 => ((prim_Int.f a1).bind fun bt151 => (if bt149.2 = 0 then (latinerlaw03_PrimOrder.j0 k a0 a1 t148 bt149.1 bt149.2 bt151.1 bt151.2 (bt151.2 != 0)) else (latinerlaw03_PrimOrder.j0 k a0 a1 t148 bt149.1 bt149.2 bt151.1 bt151.2 true)))) = some r := H
  have A3 := Aside0.mk A30
  clear A30
  replace H := Option.bind_eq_some_iff.mp H
  obtain ⟨⟨t149, t150⟩, A40, H⟩ := H
  replace H : ((prim_Int.f a1).bind fun bt151 => (if t150 = 0 then (latinerlaw03_PrimOrder.j0 k a0 a1 t148 t149 t150 bt151.1 bt151.2 (bt151.2 != 0)) else (latinerlaw03_PrimOrder.j0 k a0 a1 t148 t149 t150 bt151.1 bt151.2 true))) = some r := H
  have A4 := Aside0.mk A40
  clear A40
  replace H := Option.bind_eq_some_iff.mp H
  obtain ⟨⟨t151, t152⟩, A50, H⟩ := H
  replace H : (if t150 = 0 then (latinerlaw03_PrimOrder.j0 k a0 a1 t148 t149 t150 t151 t152 (t152 != 0)) else (latinerlaw03_PrimOrder.j0 k a0 a1 t148 t149 t150 t151 t152 true)) = some r := H
  have A5 := Aside0.mk A50
  clear A50
  have HC6 := Aside0.mk H
  clear H
  go_enter Tryd.func5, Tryd.ntmps5
  go_upto_region 4 with (first | ((with_reducible refine gate_callee (f := 15) rfl ?_); refine goesL_ (some 10) rfl rfl Tryd.func15 (by kernel_rfl) rfl #[] rfl (by (try simp only [List.map_toArray, List.map_cons, List.map_nil]); first | done | rfl | (simp only [List.length_drop, List.length_take]; rfl)) ?_; (with_reducible refine (latinerlaw03_shown.calls  t148 _ ?side1 A3.out).mono ?_); (case side1 => exact GW.below hG (by repeat (first | (with_reducible first | exact HB.out | apply below_alloc | apply pw_below_drewN | apply below_drew1) | exact HB.out))); rintro e w7 ⟨rfl, hb⟩; refine ⟨_, rfl, ?_⟩; have n0_ := Aside0.mk (below_step (by repeat (first | (with_reducible first | exact HB.out | apply below_alloc | apply pw_below_drewN | apply below_drew1) | exact HB.out)) hb); clear HB; have HB := n0_; clear n0_; (try clear hb); (try clear hb2); (try clear hk); (try clear hi)) | ((with_reducible refine gate_callee (f := 17) rfl ?_); refine goesL_ (some 13) rfl rfl Tryd.func17 (by kernel_rfl) rfl #[.int .i64 a0] rfl (by (try simp only [List.map_toArray, List.map_cons, List.map_nil]); first | done | rfl | (simp only [List.length_drop, List.length_take]; rfl)) ?_; (with_reducible refine (prim_Int.calls a0 t149 t150 _ ?side1 A4.out).mono ?_); (case side1 => exact GW.below hG (by repeat (first | (with_reducible first | exact HB.out | apply below_alloc | apply pw_below_drewN | apply below_drew1) | exact HB.out))); rintro e w8 ⟨rfl, hb⟩; refine ⟨_, rfl, ?_⟩; have n0_ := Aside0.mk (below_step (by repeat (first | (with_reducible first | exact HB.out | apply below_alloc | apply pw_below_drewN | apply below_drew1) | exact HB.out)) hb); clear HB; have HB := n0_; clear n0_; (try clear hb); (try clear hb2); (try clear hk); (try clear hi)) | ((with_reducible refine gate_callee (f := 17) rfl ?_); refine goesL_ (some 18) rfl rfl Tryd.func17 (by kernel_rfl) rfl #[.int .i64 a1] rfl (by (try simp only [List.map_toArray, List.map_cons, List.map_nil]); first | done | rfl | (simp only [List.length_drop, List.length_take]; rfl)) ?_; (with_reducible refine (prim_Int.calls a1 t151 t152 _ ?side1 A5.out).mono ?_); (case side1 => exact GW.below hG (by repeat (first | (with_reducible first | exact HB.out | apply below_alloc | apply pw_below_drewN | apply below_drew1) | exact HB.out))); rintro e w9 ⟨rfl, hb⟩; refine ⟨_, rfl, ?_⟩; have n0_ := Aside0.mk (below_step (by repeat (first | (with_reducible first | exact HB.out | apply below_alloc | apply pw_below_drewN | apply below_drew1) | exact HB.out)) hb); clear HB; have HB := n0_; clear n0_; (try clear hb); (try clear hb2); (try clear hk); (try clear hi)))
  (try simp only [Act.put, List.setIfInBounds_toArray, List.set_cons_zero, List.set_cons_succ])
  go_cut [26] (fun v26 wc => ∃ (kq : Nat) (x26_5 : Bool), v26 = .bool x26_5 ∧ Aside0 (latinerlaw03_PrimOrder.j0 kq a0 a1 t148 t149 t150 t151 t152 x26_5 = some r) ∧ Aside0 (kq ≤ k) ∧ Aside0 (Below w.heap.size w wc))
  case first =>
    have H := HC6.out
    clear HC6
    by_cases c10 : t150 = 0
    · rw [if_pos c10] at H
      have c10b0 : (t150 == 0) = true := beq_iff_eq.mpr c10
      have c10b1 : (t150 != 0) = false := bne_eq_false_iff_eq.mpr c10
      clear c10
      (first | rw [c10b0] | (simp only [i64_w, i32_w]; rw [c10b0]) | skip)
      have H' := Aside0.mk H
      clear H
      go_wp2
      go_meet
      case rel => exact ⟨_, ((t152 != 0)), (by first | rfl | (simp; done) | (simp [*]; done)), H', ⟨by first | omega | exact Nat.le_refl _⟩, ⟨by repeat (first | (with_reducible first | exact HB.out | apply below_alloc | apply pw_below_drewN | apply below_drew1) | exact HB.out)⟩⟩
    · rw [if_neg c10] at H
      have c10b0 : (t150 == 0) = false := beq_eq_false_iff_ne.mpr c10
      have c10b1 : (t150 != 0) = true := bne_iff_ne.mpr c10
      (first | rw [c10b0] | (simp only [i64_w, i32_w]; rw [c10b0]) | skip)
      have H' := Aside0.mk H
      clear H
      go_wp2
      go_meet
      case rel => exact ⟨_, (true), (by first | rfl | (simp; done) | (simp [*]; done)), H', ⟨by first | omega | exact Nat.le_refl _⟩, ⟨by repeat (first | (with_reducible first | exact HB.out | apply below_alloc | apply pw_below_drewN | apply below_drew1) | exact HB.out)⟩⟩
  case rest =>
    clear HC6
    try clear c1
    try clear p2
    try clear c5
    try clear c10
    try clear c10b0
    try clear c10b1
    obtain ⟨kq, x26_5, rfl, HA, HJ5, HB⟩ := hcut
    cases kq with
    | zero => exact absurd HA.out (by simp [latinerlaw03_PrimOrder.j0])
    | succ kj5 =>
      have H := HA.out
      clear HA
      simp only [latinerlaw03_PrimOrder.j0] at H
      by_cases c11 : x26_5 = true
      · subst c11
        have H1 : (if t148 = true then (if t150 = 0 then (if t152 = 0 then (some true) else (some (t151.toList == ([] : List UInt8)))) else (if t149.toList = ([] : List UInt8) then (if t152 = 0 then (some true) else (some (t151.toList == ([] : List UInt8)))) else (some false))) else (some false)) = some r := by rw [if_pos rfl] at H; exact H
        clear H
        have H := H1
        clear H1
        by_cases c12 : t148 = true
        · subst c12
          have H1 : (if t150 = 0 then (if t152 = 0 then (some true) else (some (t151.toList == ([] : List UInt8)))) else (if t149.toList = ([] : List UInt8) then (if t152 = 0 then (some true) else (some (t151.toList == ([] : List UInt8)))) else (some false))) = some r := by rw [if_pos rfl] at H; exact H
          clear H
          have H := H1
          clear H1
          by_cases c13 : t150 = 0
          · rw [if_pos c13] at H
            have c13b0 : (t150 == 0) = true := beq_iff_eq.mpr c13
            have c13b1 : (t150 != 0) = false := bne_eq_false_iff_eq.mpr c13
            clear c13
            by_cases c14 : t152 = 0
            · rw [if_pos c14] at H
              have c14b0 : (t152 == 0) = true := beq_iff_eq.mpr c14
              have c14b1 : (t152 != 0) = false := bne_eq_false_iff_eq.mpr c14
              clear c14
              obtain rfl := Option.some.inj H
              go_wp2
              all_goals first | (exfalso; simp only [decide_eq_true_eq, decide_eq_false_iff_not, decide_eq_decide, Bool.not_eq_true', Bool.not_eq_false'] at *; omega) | (go_ret; exact ⟨by first | rfl | (simp [errW_none, errW_some] <;> rfl) | (simp [*, errW_none, errW_some] <;> rfl), by repeat (first | (with_reducible first | exact HB.out | apply below_alloc | apply pw_below_drewN | apply below_drew1) | exact HB.out)⟩)
            · rw [if_neg c14] at H
              have c14b0 : (t152 == 0) = false := beq_eq_false_iff_ne.mpr c14
              have c14b1 : (t152 != 0) = true := bne_iff_ne.mpr c14
              obtain rfl := Option.some.inj H
              go_wp2
              all_goals first | (exfalso; simp only [decide_eq_true_eq, decide_eq_false_iff_not, decide_eq_decide, Bool.not_eq_true', Bool.not_eq_false'] at *; omega) | (go_ret; exact ⟨by first | rfl | (simp [errW_none, errW_some] <;> rfl) | (simp [*, errW_none, errW_some] <;> rfl), by repeat (first | (with_reducible first | exact HB.out | apply below_alloc | apply pw_below_drewN | apply below_drew1) | exact HB.out)⟩)
          · rw [if_neg c13] at H
            have c13b0 : (t150 == 0) = false := beq_eq_false_iff_ne.mpr c13
            have c13b1 : (t150 != 0) = true := bne_iff_ne.mpr c13
            by_cases c15 : t149.toList = ([] : List UInt8)
            · rw [if_pos c15] at H
              have c15b0 : (t149.toList == ([] : List UInt8)) = true := beq_iff_eq.mpr c15
              have c15b1 : (t149.toList != ([] : List UInt8)) = false := bne_eq_false_iff_eq.mpr c15
              clear c15
              by_cases c16 : t152 = 0
              · rw [if_pos c16] at H
                have c16b0 : (t152 == 0) = true := beq_iff_eq.mpr c16
                have c16b1 : (t152 != 0) = false := bne_eq_false_iff_eq.mpr c16
                clear c16
                obtain rfl := Option.some.inj H
                go_wp2
                all_goals first | (exfalso; simp only [decide_eq_true_eq, decide_eq_false_iff_not, decide_eq_decide, Bool.not_eq_true', Bool.not_eq_false'] at *; omega) | (go_ret; exact ⟨by first | rfl | (simp [errW_none, errW_some] <;> rfl) | (simp [*, errW_none, errW_some] <;> rfl), by repeat (first | (with_reducible first | exact HB.out | apply below_alloc | apply pw_below_drewN | apply below_drew1) | exact HB.out)⟩)
              · rw [if_neg c16] at H
                have c16b0 : (t152 == 0) = false := beq_eq_false_iff_ne.mpr c16
                have c16b1 : (t152 != 0) = true := bne_iff_ne.mpr c16
                obtain rfl := Option.some.inj H
                go_wp2
                all_goals first | (exfalso; simp only [decide_eq_true_eq, decide_eq_false_iff_not, decide_eq_decide, Bool.not_eq_true', Bool.not_eq_false'] at *; omega) | (go_ret; exact ⟨by first | rfl | (simp [errW_none, errW_some] <;> rfl) | (simp [*, errW_none, errW_some] <;> rfl), by repeat (first | (with_reducible first | exact HB.out | apply below_alloc | apply pw_below_drewN | apply below_drew1) | exact HB.out)⟩)
            · rw [if_neg c15] at H
              have c15b0 : (t149.toList == ([] : List UInt8)) = false := beq_eq_false_iff_ne.mpr c15
              have c15b1 : (t149.toList != ([] : List UInt8)) = true := bne_iff_ne.mpr c15
              obtain rfl := Option.some.inj H
              go_wp2
              all_goals first | (exfalso; simp only [decide_eq_true_eq, decide_eq_false_iff_not, decide_eq_decide, Bool.not_eq_true', Bool.not_eq_false'] at *; omega) | (go_ret; exact ⟨by first | rfl | (simp [errW_none, errW_some] <;> rfl) | (simp [*, errW_none, errW_some] <;> rfl), by repeat (first | (with_reducible first | exact HB.out | apply below_alloc | apply pw_below_drewN | apply below_drew1) | exact HB.out)⟩)
        · replace c12 := Bool.eq_false_iff.mpr c12
          subst c12
          have H1 : (some false) = some r := by rw [if_neg (show ¬ (false = true) by decide)] at H; exact H
          clear H
          have H := H1
          clear H1
          obtain rfl := Option.some.inj H
          go_wp2
          all_goals first | (exfalso; simp only [decide_eq_true_eq, decide_eq_false_iff_not, decide_eq_decide, Bool.not_eq_true', Bool.not_eq_false'] at *; omega) | (go_ret; exact ⟨by first | rfl | (simp [errW_none, errW_some] <;> rfl) | (simp [*, errW_none, errW_some] <;> rfl), by repeat (first | (with_reducible first | exact HB.out | apply below_alloc | apply pw_below_drewN | apply below_drew1) | exact HB.out)⟩)
      · replace c11 := Bool.eq_false_iff.mpr c11
        subst c11
        have H1 : (if ((decide (a0 < 0)) != (decide (a1 < 0))) = true then (if t148 = true then (if t149.toList = t151.toList then (some false) else (if 0 ≤ (mn (t149.size : Int) 1) then (if (mn (t149.size : Int) 1) ≤ (t149.size : Int) then (some ((Op.bytesLess ((t149.extract 0 ((mn (t149.size : Int) 1) : Int).toNat).toList) ([128] : List UInt8)) == (decide (a0 ≥ 0)))) else (none)) else (none))) else (some false)) else (if (t149.size : Int) = (t151.size : Int) then (if t148 = true then (some ((Op.bytesLess t149.toList t151.toList) == (decide (a0 < a1)))) else (some false)) else (if t148 = true then (if a0 ≥ 0 then (if a0 < a1 then (some ((decide ((t149.size : Int) < (t151.size : Int))) == true)) else (if a0 < 0 then (some ((decide ((t149.size : Int) < (t151.size : Int))) == (decide (a0 > a1)))) else (some ((decide ((t149.size : Int) < (t151.size : Int))) == false)))) else (if a0 < 0 then (some ((decide ((t149.size : Int) < (t151.size : Int))) == (decide (a0 > a1)))) else (some ((decide ((t149.size : Int) < (t151.size : Int))) == false)))) else (some false)))) = some r := by rw [if_neg (show ¬ (false = true) by decide)] at H; exact H
        clear H
        have H := H1
        clear H1
        by_cases c17 : ((decide (a0 < 0)) != (decide (a1 < 0))) = true
        · rw [if_pos c17] at H
          have c17b0 : ((decide (a0 < 0)) != (decide (a1 < 0))) = true := c17
          (try (have c17b1 : decide ((decide (a0 < 0)) = (decide (a1 < 0))) = false := by simpa using c17))
          (try (have c17b2 : ((decide (a0 < 0)) == (decide (a1 < 0))) = false := by simpa using c17))
          (try (have c17b3 : ¬ ((decide (a0 < 0)) = (decide (a1 < 0))) := by simpa using c17))
          clear c17
          by_cases c18 : t148 = true
          · subst c18
            have H1 : (if t149.toList = t151.toList then (some false) else (if 0 ≤ (mn (t149.size : Int) 1) then (if (mn (t149.size : Int) 1) ≤ (t149.size : Int) then (some ((Op.bytesLess ((t149.extract 0 ((mn (t149.size : Int) 1) : Int).toNat).toList) ([128] : List UInt8)) == (decide (a0 ≥ 0)))) else (none)) else (none))) = some r := by rw [if_pos rfl] at H; exact H
            clear H
            have H := H1
            clear H1
            by_cases c19 : t149.toList = t151.toList
            · rw [if_pos c19] at H
              have c19b0 : (t149.toList == t151.toList) = true := beq_iff_eq.mpr c19
              have c19b1 : (t149.toList != t151.toList) = false := bne_eq_false_iff_eq.mpr c19
              clear c19
              obtain rfl := Option.some.inj H
              go_wp2
              all_goals first | (exfalso; simp only [decide_eq_true_eq, decide_eq_false_iff_not, decide_eq_decide, Bool.not_eq_true', Bool.not_eq_false'] at *; omega) | (go_ret; exact ⟨by first | rfl | (simp [errW_none, errW_some] <;> rfl) | (simp [*, errW_none, errW_some] <;> rfl), by repeat (first | (with_reducible first | exact HB.out | apply below_alloc | apply pw_below_drewN | apply below_drew1) | exact HB.out)⟩)
            · rw [if_neg c19] at H
              have c19b0 : (t149.toList == t151.toList) = false := beq_eq_false_iff_ne.mpr c19
              have c19b1 : (t149.toList != t151.toList) = true := bne_iff_ne.mpr c19
              obtain ⟨ji20, hji20⟩ : ∃ j_ : Int, (mn (t149.size : Int) 1) = j_ := ⟨_, rfl⟩
              replace H : (if 0 ≤ (ji20) then (if (ji20) ≤ (t149.size : Int) then (some ((Op.bytesLess ((t149.extract 0 ((ji20) : Int).toNat).toList) ([128] : List UInt8)) == (decide (a0 ≥ 0)))) else (none)) else (none)) = some r := by first | (rw [hji20] at H; exact H) | (simp only [hji20] at H ⊢; exact H)
              have hji20_ : (if 1 < (t149.size : Int) then 1 else (t149.size : Int)) = ji20 := hji20
              by_cases c21 : 0 ≤ (ji20)
              · rw [if_pos c21] at H
                have c21b0 := eq_true c21
                have c21b1 : decide (0 ≤ (ji20)) = true := decide_eq_true c21
                clear c21
                by_cases c22 : (ji20) ≤ (t149.size : Int)
                · rw [if_pos c22] at H
                  have c22b0 := eq_true c22
                  have c22b1 : decide ((ji20) ≤ (t149.size : Int)) = true := decide_eq_true c22
                  clear c22
                  obtain rfl := Option.some.inj H
                  go_wp2
                  all_goals first | (exfalso; simp only [decide_eq_true_eq, decide_eq_false_iff_not, decide_eq_decide, Bool.not_eq_true', Bool.not_eq_false'] at *; omega) | (go_ret; exact ⟨by first | rfl | (simp [errW_none, errW_some] <;> rfl) | (simp only [← hji20]; first | rfl | (simp [errW_none, errW_some] <;> rfl)) | (simp [*, errW_none, errW_some] <;> rfl), by repeat (first | (with_reducible first | exact HB.out | apply below_alloc | apply pw_below_drewN | apply below_drew1) | exact HB.out)⟩)
                · rw [if_neg c22] at H
                  exact absurd H (by simp)
              · rw [if_neg c21] at H
                exact absurd H (by simp)
          · replace c18 := Bool.eq_false_iff.mpr c18
            subst c18
            have H1 : (some false) = some r := by rw [if_neg (show ¬ (false = true) by decide)] at H; exact H
            clear H
            have H := H1
            clear H1
            obtain rfl := Option.some.inj H
            go_wp2
            all_goals first | (exfalso; simp only [decide_eq_true_eq, decide_eq_false_iff_not, decide_eq_decide, Bool.not_eq_true', Bool.not_eq_false'] at *; omega) | (go_ret; exact ⟨by first | rfl | (simp [errW_none, errW_some] <;> rfl) | (simp [*, errW_none, errW_some] <;> rfl), by repeat (first | (with_reducible first | exact HB.out | apply below_alloc | apply pw_below_drewN | apply below_drew1) | exact HB.out)⟩)
        · rw [if_neg c17] at H
          have c17b0 : ((decide (a0 < 0)) != (decide (a1 < 0))) = false := by simpa using c17
          (try (have c17b1 : decide ((decide (a0 < 0)) = (decide (a1 < 0))) = true := by simpa using c17))
          (try (have c17b2 : ((decide (a0 < 0)) == (decide (a1 < 0))) = true := by simpa using c17))
          clear c17
          by_cases c23 : (t149.size : Int) = (t151.size : Int)
          · rw [if_pos c23] at H
            have c23b0 : ((t149.size : Int) == (t151.size : Int)) = true := beq_iff_eq.mpr c23
            have c23b1 : ((t149.size : Int) != (t151.size : Int)) = false := bne_eq_false_iff_eq.mpr c23
            have c23b2 : (t149.size == t151.size) = true := by first | simpa using c23 | (simp at c23 ⊢; omega)
            clear c23
            by_cases c24 : t148 = true
            · subst c24
              have H1 : (some ((Op.bytesLess t149.toList t151.toList) == (decide (a0 < a1)))) = some r := by rw [if_pos rfl] at H; exact H
              clear H
              have H := H1
              clear H1
              obtain rfl := Option.some.inj H
              go_wp2
              all_goals first | (exfalso; simp only [decide_eq_true_eq, decide_eq_false_iff_not, decide_eq_decide, Bool.not_eq_true', Bool.not_eq_false'] at *; omega) | (go_ret; exact ⟨by first | rfl | (simp [errW_none, errW_some] <;> rfl) | (simp [*, errW_none, errW_some] <;> rfl), by repeat (first | (with_reducible first | exact HB.out | apply below_alloc | apply pw_below_drewN | apply below_drew1) | exact HB.out)⟩)
            · replace c24 := Bool.eq_false_iff.mpr c24
              subst c24
              have H1 : (some false) = some r := by rw [if_neg (show ¬ (false = true) by decide)] at H; exact H
              clear H
              have H := H1
              clear H1
              obtain rfl := Option.some.inj H
              go_wp2
              all_goals first | (exfalso; simp only [decide_eq_true_eq, decide_eq_false_iff_not, decide_eq_decide, Bool.not_eq_true', Bool.not_eq_false'] at *; omega) | (go_ret; exact ⟨by first | rfl | (simp [errW_none, errW_some] <;> rfl) | (simp [*, errW_none, errW_some] <;> rfl), by repeat (first | (with_reducible first | exact HB.out | apply below_alloc | apply pw_below_drewN | apply below_drew1) | exact HB.out)⟩)
          · rw [if_neg c23] at H
            have c23b0 : ((t149.size : Int) == (t151.size : Int)) = false := beq_eq_false_iff_ne.mpr c23
            have c23b1 : ((t149.size : Int) != (t151.size : Int)) = true := bne_iff_ne.mpr c23
            have c23b2 : (t149.size == t151.size) = false := by first | simpa using c23 | (simp at c23 ⊢; omega)
            by_cases c25 : t148 = true
            · subst c25
              have H1 : (if a0 ≥ 0 then (if a0 < a1 then (some ((decide ((t149.size : Int) < (t151.size : Int))) == true)) else (if a0 < 0 then (some ((decide ((t149.size : Int) < (t151.size : Int))) == (decide (a0 > a1)))) else (some ((decide ((t149.size : Int) < (t151.size : Int))) == false)))) else (if a0 < 0 then (some ((decide ((t149.size : Int) < (t151.size : Int))) == (decide (a0 > a1)))) else (some ((decide ((t149.size : Int) < (t151.size : Int))) == false)))) = some r := by rw [if_pos rfl] at H; exact H
              clear H
              have H := H1
              clear H1
              by_cases c26 : a0 ≥ 0
              · rw [if_pos c26] at H
                have c26b0 : decide (0 ≤ a0) = true := decide_eq_true c26
                clear c26
                by_cases c27 : a0 < a1
                · rw [if_pos c27] at H
                  have c27b0 : decide (a0 < a1) = true := decide_eq_true c27
                  clear c27
                  obtain rfl := Option.some.inj H
                  go_wp2
                  all_goals first | (exfalso; simp only [decide_eq_true_eq, decide_eq_false_iff_not, decide_eq_decide, Bool.not_eq_true', Bool.not_eq_false'] at *; omega) | (go_ret; exact ⟨by first | rfl | (simp [errW_none, errW_some] <;> rfl) | (simp [*, errW_none, errW_some] <;> rfl), by repeat (first | (with_reducible first | exact HB.out | apply below_alloc | apply pw_below_drewN | apply below_drew1) | exact HB.out)⟩)
                · rw [if_neg c27] at H
                  have c27b0 : decide (a0 < a1) = false := decide_eq_false c27
                  clear c27
                  by_cases c28 : a0 < 0
                  · rw [if_pos c28] at H
                    have c28b0 : decide (a0 < 0) = true := decide_eq_true c28
                    clear c28
                    have z0_ : a0 < 0 := of_decide_eq_true (by first | (with_reducible assumption) | assumption)
                    have z1_ : 0 ≤ a0 := of_decide_eq_true (by first | (with_reducible assumption) | assumption)
                    exfalso
                    omega
                  · rw [if_neg c28] at H
                    have c28b0 : decide (a0 < 0) = false := decide_eq_false c28
                    clear c28
                    obtain rfl := Option.some.inj H
                    go_wp2
                    all_goals first | (exfalso; simp only [decide_eq_true_eq, decide_eq_false_iff_not, decide_eq_decide, Bool.not_eq_true', Bool.not_eq_false'] at *; omega) | (go_ret; exact ⟨by first | rfl | (simp [errW_none, errW_some] <;> rfl) | (simp [*, errW_none, errW_some] <;> rfl), by repeat (first | (with_reducible first | exact HB.out | apply below_alloc | apply pw_below_drewN | apply below_drew1) | exact HB.out)⟩)
              · rw [if_neg c26] at H
                have c26b0 : decide (0 ≤ a0) = false := decide_eq_false c26
                clear c26
                by_cases c29 : a0 < 0
                · rw [if_pos c29] at H
                  have c29b0 : decide (a0 < 0) = true := decide_eq_true c29
                  clear c29
                  obtain rfl := Option.some.inj H
                  go_wp2
                  all_goals first | (exfalso; simp only [decide_eq_true_eq, decide_eq_false_iff_not, decide_eq_decide, Bool.not_eq_true', Bool.not_eq_false'] at *; omega) | (go_ret; exact ⟨by first | rfl | (simp [errW_none, errW_some] <;> rfl) | (simp [*, errW_none, errW_some] <;> rfl), by repeat (first | (with_reducible first | exact HB.out | apply below_alloc | apply pw_below_drewN | apply below_drew1) | exact HB.out)⟩)
                · rw [if_neg c29] at H
                  have c29b0 : decide (a0 < 0) = false := decide_eq_false c29
                  clear c29
                  have z0_ : ¬ (a0 < 0) := of_decide_eq_false (by first | (with_reducible assumption) | assumption)
                  have z1_ : ¬ (0 ≤ a0) := of_decide_eq_false (by first | (with_reducible assumption) | assumption)
                  exfalso
                  omega
            · replace c25 := Bool.eq_false_iff.mpr c25
              subst c25
              have H1 : (some false) = some r := by rw [if_neg (show ¬ (false = true) by decide)] at H; exact H
              clear H
              have H := H1
              clear H1
              obtain rfl := Option.some.inj H
              go_wp2
              all_goals first | (exfalso; simp only [decide_eq_true_eq, decide_eq_false_iff_not, decide_eq_decide, Bool.not_eq_true', Bool.not_eq_false'] at *; omega) | (go_ret; exact ⟨by first | rfl | (simp [errW_none, errW_some] <;> rfl) | (simp [*, errW_none, errW_some] <;> rfl), by repeat (first | (with_reducible first | exact HB.out | apply below_alloc | apply pw_below_drewN | apply below_drew1) | exact HB.out)⟩)

/-- THE ONE PURE STATEMENT of latinerlaw03_PrimOrder: yours. -/
def latinerlaw03_PrimOrder.Pure : Prop := ∀ (a0 : Int) (a1 : Int), (Lit.int .i64 a0).wf = true → (Lit.int .i64 a1).wf = true → ∃ k, latinerlaw03_PrimOrder.f k a0 a1 = some true
theorem latinerlaw03_PrimOrder.walk (P : latinerlaw03_PrimOrder.Pure) (a0 : Int) (a1 : Int) (w : World) (w0 : (Lit.int .i64 a0).wf = true) (w1 : (Lit.int .i64 a1).wf = true) (hG : GW w) :
    Calls Tryd.prog 5 #[.int .i64 a0, .int .i64 a1] w fun e w' => e = .returned (.bool true) ∧ Below w.heap.size w w' := by
  obtain ⟨k, h⟩ := P a0 a1 w0 w1
  refine (latinerlaw03_PrimOrder.calls k a0 a1 true w hG h).mono ?_
  rintro e w' ⟨rfl, hd⟩
  exact ⟨rfl, hd⟩

end Go.Proofs.YtmfnenlinhljkaaDoor.LPrim
