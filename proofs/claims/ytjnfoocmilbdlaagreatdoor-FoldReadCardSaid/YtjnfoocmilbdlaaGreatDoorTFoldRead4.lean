/- An item is read from its line, which may stand in a text. The card of the statement, out of the walk and the plain law. Conditions: none beyond the card's own (the listed package variables as the program's text lays them).
-/
import Derived.Test.YtjnfoocmilbdlaaGreatDoorTFoldRead3
-- Written by this repo's own program over the kit's printer: YtjnfoocmilbdlaaGreatDoor.LFold
namespace Go.Proofs.YtjnfoocmilbdlaaGreatDoor.LFold
open Go.Proofs.YtjnfoocmilbdlaaGreatDoor.ExtFold
open Go.RowKit Go.Proofs.YtjnfoocmilbdlaaGreatDoorW.PrintWords Go.Proofs.YtjnfoocmilbdlaaGreatDoorW.PrintLast Go.Proofs.YtjnfoocmilbdlaaGreatDoorW.PrintMore
attribute [local go_sem] max2_int min2_int max_two min_two max_three min_three max_four min_four   -- for this text's walks alone
set_option linter.unusedVariables false
set_option linter.unusedSimpArgs false

/-! ### latinerlaw15_FoldBack: function 5 -/
/-! ### latinerlaw15_FoldRead: function 6 -/
def latinerlaw15_FoldRead.f (k : Nat) (a0 : ByteArray) (a1 : ByteArray) : Option (Bool) := (latinerlaw15_shown.f k).bind fun t226 => ((latinerlaw15_short.f a0).bind fun t227 => ((latinerlaw15_short.f a1).bind fun t228 => ((fold_Item.f t227 t228).bind fun bt229 => (if bt229.2 = 0 then ((fold_ReadItem.f bt229.1).bind fun bt231 => ((fold_Fold.f bt229.1).bind fun bt234 => ((fold_Unfold.f bt234.1).bind fun bt236 => (if t226 = true then (if bt231.2.2 = 0 then (if bt231.1.toList = t227.toList then (if bt231.2.1.toList = t228.toList then (if bt234.2 = 0 then (if bt236.2 = 0 then ((latinerref08_Texts.f k bt236.1 (([bt229.1] : List ByteArray))).bind fun t243 => (some t243)) else (some false)) else (some false)) else (some false)) else (some false)) else (some false)) else (some false))))) else (if t226 = true then (if bt229.1.toList = ([] : List UInt8) then (some (bt229.2 == 151)) else (some false)) else (some false))))))
set_option maxHeartbeats 8000000 in
set_option maxRecDepth 100000 in
theorem latinerlaw15_FoldRead.calls (k : Nat) (a0 : ByteArray) (a1 : ByteArray) (r : Bool) (w : World) (hG : GW w) (h : latinerlaw15_FoldRead.f k a0 a1 = some r) :
    Calls Tryz.prog 6 #[.string a0, .string a1] w fun e w' => e = .returned (.bool r) ∧ Below w.heap.size w w' := by
  have HB := Aside0.mk (Below.refl w.heap.size w)
  have H : ((latinerlaw15_shown.f k).bind fun t226 => ((latinerlaw15_short.f a0).bind fun t227 => ((latinerlaw15_short.f a1).bind fun t228 => ((fold_Item.f t227 t228).bind fun bt229 => (if bt229.2 = 0 then ((fold_ReadItem.f bt229.1).bind fun bt231 => ((fold_Fold.f bt229.1).bind fun bt234 => ((fold_Unfold.f bt234.1).bind fun bt236 => (if t226 = true then (if bt231.2.2 = 0 then (if bt231.1.toList = t227.toList then (if bt231.2.1.toList = t228.toList then (if bt234.2 = 0 then (if bt236.2 = 0 then ((latinerref08_Texts.f k bt236.1 (([bt229.1] : List ByteArray))).bind fun t243 => (some t243)) else (some false)) else (some false)) else (some false)) else (some false)) else (some false)) else (some false))))) else (if t226 = true then (if bt229.1.toList = ([] : List UInt8) then (some (bt229.2 == 151)) else (some false)) else (some false))))))) = some r := h
  clear h
  replace H := Option.bind_eq_some_iff.mp H
  obtain ⟨t226, A30, H⟩ := H
  replace H : ((latinerlaw15_short.f a0).bind fun t227 => ((latinerlaw15_short.f a1).bind fun t228 => ((fold_Item.f t227 t228).bind fun bt229 => (if bt229.2 = 0 then ((fold_ReadItem.f bt229.1).bind fun bt231 => ((fold_Fold.f bt229.1).bind fun bt234 => ((fold_Unfold.f bt234.1).bind fun bt236 => (if t226 = true then (if bt231.2.2 = 0 then (if bt231.1.toList = t227.toList then (if bt231.2.1.toList = t228.toList then (if bt234.2 = 0 then (if bt236.2 = 0 then ((latinerref08_Texts.f k bt236.1 (([bt229.1] : List ByteArray))).bind fun t243 => (some t243)) else (some false)) else (some false)) else (some false)) else (some false)) else (some false)) else (some false))))) else (if t226 = true then (if bt229.1.toList = ([] : List UInt8) then (some (bt229.2 == 151)) else (some false)) else (some false)))))) = some r := H
  have A3 := Aside0.mk A30
  clear A30
  replace H := Option.bind_eq_some_iff.mp H
  obtain ⟨t227, A40, H⟩ := H
  replace H : ((latinerlaw15_short.f a1).bind fun t228 => ((fold_Item.f t227 t228).bind fun bt229 => (if bt229.2 = 0 then ((fold_ReadItem.f bt229.1).bind fun bt231 => ((fold_Fold.f bt229.1).bind fun bt234 => ((fold_Unfold.f bt234.1).bind fun bt236 => (if t226 = true then (if bt231.2.2 = 0 then (if bt231.1.toList = t227.toList then (if bt231.2.1.toList = t228.toList then (if bt234.2 = 0 then (if bt236.2 = 0 then ((latinerref08_Texts.f k bt236.1 (([bt229.1] : List ByteArray))).bind fun t243 => (some t243)) else (some false)) else (some false)) else (some false)) else (some false)) else (some false)) else (some false))))) else (if t226 = true then (if bt229.1.toList = ([] : List UInt8) then (some (bt229.2 == 151)) else (some false)) else (some false))))) = some r := H
  have A4 := Aside0.mk A40
  clear A40
  replace H := Option.bind_eq_some_iff.mp H
  obtain ⟨t228, A50, H⟩ := H
  replace H : ((fold_Item.f t227 t228).bind fun bt229 => (if bt229.2 = 0 then ((fold_ReadItem.f bt229.1).bind fun bt231 => ((fold_Fold.f bt229.1).bind fun bt234 => ((fold_Unfold.f bt234.1).bind fun bt236 => (if t226 = true then (if bt231.2.2 = 0 then (if bt231.1.toList = t227.toList then (if bt231.2.1.toList = t228.toList then (if bt234.2 = 0 then (if bt236.2 = 0 then ((latinerref08_Texts.f k bt236.1 (([bt229.1] : List ByteArray))).bind fun t243 => (some t243)) else (some false)) else (some false)) else (some false)) else (some false)) else (some false)) else (some false))))) else (if t226 = true then (if bt229.1.toList = ([] : List UInt8) then (some (bt229.2 == 151)) else (some false)) else (some false)))) = some r := H
  have A5 := Aside0.mk A50
  clear A50
  replace H := Option.bind_eq_some_iff.mp H
  obtain ⟨⟨t229, t230⟩, A60, H⟩ := H
  replace H : (if t230 = 0 then ((fold_ReadItem.f t229).bind fun bt231 => ((fold_Fold.f t229).bind fun bt234 => ((fold_Unfold.f bt234.1).bind fun bt236 => (if t226 = true then (if bt231.2.2 = 0 then (if bt231.1.toList = t227.toList then (if bt231.2.1.toList = t228.toList then (if bt234.2 = 0 then (if bt236.2 = 0 then ((latinerref08_Texts.f k bt236.1 (([t229] : List ByteArray))).bind fun t243 => (some t243)) else (some false)) else (some false)) else (some false)) else (some false)) else (some false)) else (some false))))) else (if t226 = true then (if t229.toList = ([] : List UInt8) then (some (t230 == 151)) else (some false)) else (some false))) = some r := H
  have A6 := Aside0.mk A60
  clear A60
  by_cases c7 : t230 = 0
  · rw [if_pos c7] at H
    have c7b0 : (t230 == 0) = true := beq_iff_eq.mpr c7
    have c7b1 : (t230 != 0) = false := bne_eq_false_iff_eq.mpr c7
    clear c7
    replace H := Option.bind_eq_some_iff.mp H
    obtain ⟨⟨t231, t232, t233⟩, A80, H⟩ := H
    replace H : ((fold_Fold.f t229).bind fun bt234 => ((fold_Unfold.f bt234.1).bind fun bt236 => (if t226 = true then (if t233 = 0 then (if t231.toList = t227.toList then (if t232.toList = t228.toList then (if bt234.2 = 0 then (if bt236.2 = 0 then ((latinerref08_Texts.f k bt236.1 (([t229] : List ByteArray))).bind fun t243 => (some t243)) else (some false)) else (some false)) else (some false)) else (some false)) else (some false)) else (some false)))) = some r := H
    have A8 := Aside0.mk A80
    clear A80
    replace H := Option.bind_eq_some_iff.mp H
    obtain ⟨⟨t234, t235⟩, A90, H⟩ := H
    replace H : ((fold_Unfold.f t234).bind fun bt236 => (if t226 = true then (if t233 = 0 then (if t231.toList = t227.toList then (if t232.toList = t228.toList then (if t235 = 0 then (if bt236.2 = 0 then ((latinerref08_Texts.f k bt236.1 (([t229] : List ByteArray))).bind fun t243 => (some t243)) else (some false)) else (some false)) else (some false)) else (some false)) else (some false)) else (some false))) = some r := H
    have A9 := Aside0.mk A90
    clear A90
    replace H := Option.bind_eq_some_iff.mp H
    obtain ⟨⟨t236, t237⟩, A100, H⟩ := H
    replace H : (if t226 = true then (if t233 = 0 then (if t231.toList = t227.toList then (if t232.toList = t228.toList then (if t235 = 0 then (if t237 = 0 then ((latinerref08_Texts.f k t236 (([t229] : List ByteArray))).bind fun t243 => (some t243)) else (some false)) else (some false)) else (some false)) else (some false)) else (some false)) else (some false)) = some r := H
    have A10 := Aside0.mk A100
    clear A100
    by_cases c11 : t226 = true
    · subst c11
      have H1 : (if t233 = 0 then (if t231.toList = t227.toList then (if t232.toList = t228.toList then (if t235 = 0 then (if t237 = 0 then ((latinerref08_Texts.f k t236 (([t229] : List ByteArray))).bind fun t243 => (some t243)) else (some false)) else (some false)) else (some false)) else (some false)) else (some false)) = some r := by rw [if_pos rfl] at H; exact H
      clear H
      have H := H1
      clear H1
      by_cases c12 : t233 = 0
      · rw [if_pos c12] at H
        have c12b0 : (t233 == 0) = true := beq_iff_eq.mpr c12
        have c12b1 : (t233 != 0) = false := bne_eq_false_iff_eq.mpr c12
        clear c12
        by_cases c13 : t231.toList = t227.toList
        · rw [if_pos c13] at H
          have c13b0 : (t231.toList == t227.toList) = true := beq_iff_eq.mpr c13
          have c13b1 : (t231.toList != t227.toList) = false := bne_eq_false_iff_eq.mpr c13
          clear c13
          by_cases c14 : t232.toList = t228.toList
          · rw [if_pos c14] at H
            have c14b0 : (t232.toList == t228.toList) = true := beq_iff_eq.mpr c14
            have c14b1 : (t232.toList != t228.toList) = false := bne_eq_false_iff_eq.mpr c14
            clear c14
            by_cases c15 : t235 = 0
            · rw [if_pos c15] at H
              have c15b0 : (t235 == 0) = true := beq_iff_eq.mpr c15
              have c15b1 : (t235 != 0) = false := bne_eq_false_iff_eq.mpr c15
              clear c15
              by_cases c16 : t237 = 0
              · rw [if_pos c16] at H
                have c16b0 : (t237 == 0) = true := beq_iff_eq.mpr c16
                have c16b1 : (t237 != 0) = false := bne_eq_false_iff_eq.mpr c16
                clear c16
                obtain ⟨y240, hy240⟩ : ∃ y_ : List ByteArray, y_ = (([t229] : List ByteArray)) := ⟨_, rfl⟩
                replace H : ((latinerref08_Texts.f k t236 y240).bind fun t243 => (some t243)) = some r := by first | (rw [hy240]; with_reducible exact H) | (have H2_ := (Option.bind_some _ _).symm.trans H; rw [hy240]; with_reducible exact H2_) | (have H2_ := (Option.bind_some _ _).symm.trans H; with_reducible exact H2_) | with_reducible exact H | (rw [hy240]; exact H) | exact H
                have Ny240 := Aside0.mk hy240
                clear hy240
                replace H := Option.bind_eq_some_iff.mp H
                obtain ⟨t243, A170, H⟩ := H
                replace H : (some t243) = some r := H
                have A17 := Aside0.mk A170
                clear A170
                obtain rfl := Option.some.inj H
                go_enter Tryz.func6, Tryz.ntmps6
                go_wp2_with (first | ((with_reducible refine gate_callee (f := 11) rfl ?_); refine goesL_ (some 15) rfl rfl Tryz.func11 (by kernel_rfl) rfl #[] rfl (by (try simp only [List.map_toArray, List.map_cons, List.map_nil]); first | done | rfl | (simp only [List.length_drop, List.length_take]; rfl)) ?_; (with_reducible refine (latinerlaw15_shown.calls k  true _ ?side1 A3.out).mono ?_); (case side1 => exact GW.below hG (by repeat (first | (with_reducible first | exact HB.out | apply below_alloc | apply pw_below_drewN | apply below_drew1) | exact HB.out))); rintro e w18 ⟨rfl, hb⟩; refine ⟨_, rfl, ?_⟩; have n0_ := Aside0.mk (below_step (by repeat (first | (with_reducible first | exact HB.out | apply below_alloc | apply pw_below_drewN | apply below_drew1) | exact HB.out)) hb); clear HB; have HB := n0_; clear n0_; (try clear hb); (try clear hb2); (try clear hk); (try clear hi)) | ((with_reducible refine gate_callee (f := 18) rfl ?_); refine goesL_ (some 17) rfl rfl Tryz.func18 (by kernel_rfl) rfl #[.string a0] rfl (by (try simp only [List.map_toArray, List.map_cons, List.map_nil]); first | done | rfl | (simp only [List.length_drop, List.length_take]; rfl)) ?_; (with_reducible refine (latinerlaw15_short.calls a0 t227 _ A4.out).mono ?_); rintro e w19 ⟨rfl, hb⟩; refine ⟨_, rfl, ?_⟩; have n0_ := Aside0.mk (below_step (by repeat (first | (with_reducible first | exact HB.out | apply below_alloc | apply pw_below_drewN | apply below_drew1) | exact HB.out)) hb); clear HB; have HB := n0_; clear n0_; (try clear hb); (try clear hb2); (try clear hk); (try clear hi)) | ((with_reducible refine gate_callee (f := 18) rfl ?_); refine goesL_ (some 19) rfl rfl Tryz.func18 (by kernel_rfl) rfl #[.string a1] rfl (by (try simp only [List.map_toArray, List.map_cons, List.map_nil]); first | done | rfl | (simp only [List.length_drop, List.length_take]; rfl)) ?_; (with_reducible refine (latinerlaw15_short.calls a1 t228 _ A5.out).mono ?_); rintro e w20 ⟨rfl, hb⟩; refine ⟨_, rfl, ?_⟩; have n0_ := Aside0.mk (below_step (by repeat (first | (with_reducible first | exact HB.out | apply below_alloc | apply pw_below_drewN | apply below_drew1) | exact HB.out)) hb); clear HB; have HB := n0_; clear n0_; (try clear hb); (try clear hb2); (try clear hk); (try clear hi)) | ((with_reducible refine gate_callee (f := 19) rfl ?_); refine goesL_ (some 23) rfl rfl Tryz.func19 (by kernel_rfl) rfl #[.string t227, .string t228] rfl (by (try simp only [List.map_toArray, List.map_cons, List.map_nil]); first | done | rfl | (simp only [List.length_drop, List.length_take]; rfl)) ?_; (with_reducible refine (fold_Item.calls t227 t228 t229 t230 _ ?side1 A6.out).mono ?_); (case side1 => exact GW.below hG (by repeat (first | (with_reducible first | exact HB.out | apply below_alloc | apply pw_below_drewN | apply below_drew1) | exact HB.out))); rintro e w21 ⟨rfl, hb⟩; refine ⟨_, rfl, ?_⟩; have n0_ := Aside0.mk (below_step (by repeat (first | (with_reducible first | exact HB.out | apply below_alloc | apply pw_below_drewN | apply below_drew1) | exact HB.out)) hb); clear HB; have HB := n0_; clear n0_; (try clear hb); (try clear hb2); (try clear hk); (try clear hi)) | ((with_reducible refine gate_callee (f := 21) rfl ?_); refine goesL_ (some 39) rfl rfl Tryz.func21 (by kernel_rfl) rfl #[.string t229] rfl (by (try simp only [List.map_toArray, List.map_cons, List.map_nil]); first | done | rfl | (simp only [List.length_drop, List.length_take]; rfl)) ?_; (with_reducible refine (fold_ReadItem.calls t229 t231 t232 t233 _ ?side1 A8.out).mono ?_); (case side1 => exact GW.below hG (by repeat (first | (with_reducible first | exact HB.out | apply below_alloc | apply pw_below_drewN | apply below_drew1) | exact HB.out))); rintro e w22 ⟨rfl, hb⟩; refine ⟨_, rfl, ?_⟩; have n0_ := Aside0.mk (below_step (by repeat (first | (with_reducible first | exact HB.out | apply below_alloc | apply pw_below_drewN | apply below_drew1) | exact HB.out)) hb); clear HB; have HB := n0_; clear n0_; (try clear hb); (try clear hb2); (try clear hk); (try clear hi)) | ((with_reducible refine gate_callee (f := 13) rfl ?_); refine goesL_ (some 45) rfl rfl Tryz.func13 (by kernel_rfl) rfl #[.string t229] rfl (by (try simp only [List.map_toArray, List.map_cons, List.map_nil]); first | done | rfl | (simp only [List.length_drop, List.length_take]; rfl)) ?_; (with_reducible refine (fold_Fold.calls t229 t234 t235 _ ?side1 A9.out).mono ?_); (case side1 => exact GW.below hG (by repeat (first | (with_reducible first | exact HB.out | apply below_alloc | apply pw_below_drewN | apply below_drew1) | exact HB.out))); rintro e w23 ⟨rfl, hb⟩; refine ⟨_, rfl, ?_⟩; have n0_ := Aside0.mk (below_step (by repeat (first | (with_reducible first | exact HB.out | apply below_alloc | apply pw_below_drewN | apply below_drew1) | exact HB.out)) hb); clear HB; have HB := n0_; clear n0_; (try clear hb); (try clear hb2); (try clear hk); (try clear hi)) | ((with_reducible refine gate_callee (f := 15) rfl ?_); refine goesL_ (some 50) rfl rfl Tryz.func15 (by kernel_rfl) rfl #[.string t234] rfl (by (try simp only [List.map_toArray, List.map_cons, List.map_nil]); first | done | rfl | (simp only [List.length_drop, List.length_take]; rfl)) ?_; (with_reducible refine (fold_Unfold.calls t234 t236 t237 _ ?side1 A10.out).mono ?_); (case side1 => exact GW.below hG (by repeat (first | (with_reducible first | exact HB.out | apply below_alloc | apply pw_below_drewN | apply below_drew1) | exact HB.out))); rintro e w24 ⟨v238, rfl, ho0, hb⟩; refine ⟨_, rfl, ?_⟩; have n0_ := Aside0.mk (Kd.R_lower ho0 (below_size (by repeat (first | (with_reducible first | exact HB.out | apply below_alloc | apply pw_below_drewN | apply below_drew1) | exact HB.out)))); have n1_ := Aside0.mk (below_step (by repeat (first | (with_reducible first | exact HB.out | apply below_alloc | apply pw_below_drewN | apply below_drew1) | exact HB.out)) hb); clear HB; have HO239 := n0_; have HB := n1_; clear n0_ n1_; (try clear hb); (try clear hb2); (try clear hk); (try clear hi); (try clear ho0)) | ((with_reducible refine gate_dst (N := 79) rfl ?_); refine R_litG Kd.string _ 9 ?hg (N := 79) ?hd (xs := ([t229] : List ByteArray)) (inner := [.string t229]) (ok := fun _ => True) (okp := fun _ => True) ?hr ?hp (fun _ hk => hk) trivial (Below.refl _ _) (Nat.le_refl _) (by simp) ?_; (case hd => rfl); (case hg => rfl); (case hr => first | (go_simp; done) | (go_simp; rfl)); (case hp => exact (Reps.one (show Kd.M Kd.string _ _ _ t229 [.string t229] from rfl) (Reps.none _ _))); intro v241 w25 ho26 hb hg_ hnew_; clear hg_ hnew_; (first | rw [← Ny240.out] at ho26 | (simp only [Int.reduceToNat] at ho26; rw [← Ny240.out] at ho26)); have n0_ := Aside0.mk (Kd.R_elder' (by (with_reducible repeat (first | apply Kd.R_alloc | apply Kd.R_drewN | apply Kd.R_drew)); exact HO239.out) (Kd.R_base ho26) hb); have n1_ := Aside0.mk (Kd.R_lower (Kd.R_new' ho26 (Kd.R_lt (by (with_reducible repeat (first | apply Kd.R_alloc | apply Kd.R_drewN | apply Kd.R_drew)); exact HO239.out))) (below_size (by repeat (first | (with_reducible first | exact HB.out | apply below_alloc | apply pw_below_drewN | apply below_drew1) | exact HB.out)))); have n2_ := Aside0.mk (below_step (by repeat (first | (with_reducible first | exact HB.out | apply below_alloc | apply pw_below_drewN | apply below_drew1) | exact HB.out)) hb); clear HO239; clear HB; have HO239 := n0_; have HO242 := n1_; have HB := n2_; clear n0_ n1_ n2_; clear hb ho26; obtain ⟨Ao27, co27, eo27⟩ := Kd.R_slice HO239.out; subst eo27; obtain ⟨Ao28, co28, eo28⟩ := Kd.R_slice HO242.out; subst eo28) | (go_at_call 17; (with_reducible refine (latinerref08_Texts.calls k _ _ t236 _ _ y240 t243 _ ?side1 ?side2 ?side3 ?side4 A17.out).mono ?_); (case side1 => repeat (first | exact (Kd.R_reads' HO239.out).2.2 | (with_reducible refine Kd.C_alloc ?_ _) | (with_reducible refine Kd.C_drewN ?_ _) | (with_reducible refine Kd.C_drew ?_))); (case side2 => exact (Kd.R_reads' HO239.out).2.1); (case side3 => repeat (first | exact (Kd.R_reads' HO242.out).2.2 | (with_reducible refine Kd.C_alloc ?_ _) | (with_reducible refine Kd.C_drewN ?_ _) | (with_reducible refine Kd.C_drew ?_))); (case side4 => exact (Kd.R_reads' HO242.out).2.1); rintro e w' ⟨rfl, ⟨nd, rfl⟩⟩))
                go_ret
                exact ⟨by first | rfl | (simp [errW_none, errW_some] <;> rfl) | (simp [*, errW_none, errW_some] <;> rfl), by repeat (first | (with_reducible first | exact HB.out | apply below_alloc | apply pw_below_drewN | apply below_drew1) | exact HB.out)⟩
              · rw [if_neg c16] at H
                have c16b0 : (t237 == 0) = false := beq_eq_false_iff_ne.mpr c16
                have c16b1 : (t237 != 0) = true := bne_iff_ne.mpr c16
                obtain rfl := Option.some.inj H
                go_enter Tryz.func6, Tryz.ntmps6
                go_wp2_with (first | ((with_reducible refine gate_callee (f := 11) rfl ?_); refine goesL_ (some 15) rfl rfl Tryz.func11 (by kernel_rfl) rfl #[] rfl (by (try simp only [List.map_toArray, List.map_cons, List.map_nil]); first | done | rfl | (simp only [List.length_drop, List.length_take]; rfl)) ?_; (with_reducible refine (latinerlaw15_shown.calls k  true _ ?side1 A3.out).mono ?_); (case side1 => exact GW.below hG (by repeat (first | (with_reducible first | exact HB.out | apply below_alloc | apply pw_below_drewN | apply below_drew1) | exact HB.out))); rintro e w29 ⟨rfl, hb⟩; refine ⟨_, rfl, ?_⟩; have n0_ := Aside0.mk (below_step (by repeat (first | (with_reducible first | exact HB.out | apply below_alloc | apply pw_below_drewN | apply below_drew1) | exact HB.out)) hb); clear HB; have HB := n0_; clear n0_; (try clear hb); (try clear hb2); (try clear hk); (try clear hi)) | ((with_reducible refine gate_callee (f := 18) rfl ?_); refine goesL_ (some 17) rfl rfl Tryz.func18 (by kernel_rfl) rfl #[.string a0] rfl (by (try simp only [List.map_toArray, List.map_cons, List.map_nil]); first | done | rfl | (simp only [List.length_drop, List.length_take]; rfl)) ?_; (with_reducible refine (latinerlaw15_short.calls a0 t227 _ A4.out).mono ?_); rintro e w30 ⟨rfl, hb⟩; refine ⟨_, rfl, ?_⟩; have n0_ := Aside0.mk (below_step (by repeat (first | (with_reducible first | exact HB.out | apply below_alloc | apply pw_below_drewN | apply below_drew1) | exact HB.out)) hb); clear HB; have HB := n0_; clear n0_; (try clear hb); (try clear hb2); (try clear hk); (try clear hi)) | ((with_reducible refine gate_callee (f := 18) rfl ?_); refine goesL_ (some 19) rfl rfl Tryz.func18 (by kernel_rfl) rfl #[.string a1] rfl (by (try simp only [List.map_toArray, List.map_cons, List.map_nil]); first | done | rfl | (simp only [List.length_drop, List.length_take]; rfl)) ?_; (with_reducible refine (latinerlaw15_short.calls a1 t228 _ A5.out).mono ?_); rintro e w31 ⟨rfl, hb⟩; refine ⟨_, rfl, ?_⟩; have n0_ := Aside0.mk (below_step (by repeat (first | (with_reducible first | exact HB.out | apply below_alloc | apply pw_below_drewN | apply below_drew1) | exact HB.out)) hb); clear HB; have HB := n0_; clear n0_; (try clear hb); (try clear hb2); (try clear hk); (try clear hi)) | ((with_reducible refine gate_callee (f := 19) rfl ?_); refine goesL_ (some 23) rfl rfl Tryz.func19 (by kernel_rfl) rfl #[.string t227, .string t228] rfl (by (try simp only [List.map_toArray, List.map_cons, List.map_nil]); first | done | rfl | (simp only [List.length_drop, List.length_take]; rfl)) ?_; (with_reducible refine (fold_Item.calls t227 t228 t229 t230 _ ?side1 A6.out).mono ?_); (case side1 => exact GW.below hG (by repeat (first | (with_reducible first | exact HB.out | apply below_alloc | apply pw_below_drewN | apply below_drew1) | exact HB.out))); rintro e w32 ⟨rfl, hb⟩; refine ⟨_, rfl, ?_⟩; have n0_ := Aside0.mk (below_step (by repeat (first | (with_reducible first | exact HB.out | apply below_alloc | apply pw_below_drewN | apply below_drew1) | exact HB.out)) hb); clear HB; have HB := n0_; clear n0_; (try clear hb); (try clear hb2); (try clear hk); (try clear hi)) | ((with_reducible refine gate_callee (f := 21) rfl ?_); refine goesL_ (some 39) rfl rfl Tryz.func21 (by kernel_rfl) rfl #[.string t229] rfl (by (try simp only [List.map_toArray, List.map_cons, List.map_nil]); first | done | rfl | (simp only [List.length_drop, List.length_take]; rfl)) ?_; (with_reducible refine (fold_ReadItem.calls t229 t231 t232 t233 _ ?side1 A8.out).mono ?_); (case side1 => exact GW.below hG (by repeat (first | (with_reducible first | exact HB.out | apply below_alloc | apply pw_below_drewN | apply below_drew1) | exact HB.out))); rintro e w33 ⟨rfl, hb⟩; refine ⟨_, rfl, ?_⟩; have n0_ := Aside0.mk (below_step (by repeat (first | (with_reducible first | exact HB.out | apply below_alloc | apply pw_below_drewN | apply below_drew1) | exact HB.out)) hb); clear HB; have HB := n0_; clear n0_; (try clear hb); (try clear hb2); (try clear hk); (try clear hi)) | ((with_reducible refine gate_callee (f := 13) rfl ?_); refine goesL_ (some 45) rfl rfl Tryz.func13 (by kernel_rfl) rfl #[.string t229] rfl (by (try simp only [List.map_toArray, List.map_cons, List.map_nil]); first | done | rfl | (simp only [List.length_drop, List.length_take]; rfl)) ?_; (with_reducible refine (fold_Fold.calls t229 t234 t235 _ ?side1 A9.out).mono ?_); (case side1 => exact GW.below hG (by repeat (first | (with_reducible first | exact HB.out | apply below_alloc | apply pw_below_drewN | apply below_drew1) | exact HB.out))); rintro e w34 ⟨rfl, hb⟩; refine ⟨_, rfl, ?_⟩; have n0_ := Aside0.mk (below_step (by repeat (first | (with_reducible first | exact HB.out | apply below_alloc | apply pw_below_drewN | apply below_drew1) | exact HB.out)) hb); clear HB; have HB := n0_; clear n0_; (try clear hb); (try clear hb2); (try clear hk); (try clear hi)) | ((with_reducible refine gate_callee (f := 15) rfl ?_); refine goesL_ (some 50) rfl rfl Tryz.func15 (by kernel_rfl) rfl #[.string t234] rfl (by (try simp only [List.map_toArray, List.map_cons, List.map_nil]); first | done | rfl | (simp only [List.length_drop, List.length_take]; rfl)) ?_; (with_reducible refine (fold_Unfold.calls t234 t236 t237 _ ?side1 A10.out).mono ?_); (case side1 => exact GW.below hG (by repeat (first | (with_reducible first | exact HB.out | apply below_alloc | apply pw_below_drewN | apply below_drew1) | exact HB.out))); rintro e w35 ⟨v238, rfl, ho0, hb⟩; refine ⟨_, rfl, ?_⟩; have n0_ := Aside0.mk (Kd.R_lower ho0 (below_size (by repeat (first | (with_reducible first | exact HB.out | apply below_alloc | apply pw_below_drewN | apply below_drew1) | exact HB.out)))); have n1_ := Aside0.mk (below_step (by repeat (first | (with_reducible first | exact HB.out | apply below_alloc | apply pw_below_drewN | apply below_drew1) | exact HB.out)) hb); clear HB; have HO239 := n0_; have HB := n1_; clear n0_ n1_; (try clear hb); (try clear hb2); (try clear hk); (try clear hi); (try clear ho0)))
                go_ret
                exact ⟨by first | rfl | (simp [errW_none, errW_some] <;> rfl) | (simp [*, errW_none, errW_some] <;> rfl), by repeat (first | (with_reducible first | exact HB.out | apply below_alloc | apply pw_below_drewN | apply below_drew1) | exact HB.out)⟩
            · rw [if_neg c15] at H
              have c15b0 : (t235 == 0) = false := beq_eq_false_iff_ne.mpr c15
              have c15b1 : (t235 != 0) = true := bne_iff_ne.mpr c15
              obtain rfl := Option.some.inj H
              go_enter Tryz.func6, Tryz.ntmps6
              go_wp2_with (first | ((with_reducible refine gate_callee (f := 11) rfl ?_); refine goesL_ (some 15) rfl rfl Tryz.func11 (by kernel_rfl) rfl #[] rfl (by (try simp only [List.map_toArray, List.map_cons, List.map_nil]); first | done | rfl | (simp only [List.length_drop, List.length_take]; rfl)) ?_; (with_reducible refine (latinerlaw15_shown.calls k  true _ ?side1 A3.out).mono ?_); (case side1 => exact GW.below hG (by repeat (first | (with_reducible first | exact HB.out | apply below_alloc | apply pw_below_drewN | apply below_drew1) | exact HB.out))); rintro e w36 ⟨rfl, hb⟩; refine ⟨_, rfl, ?_⟩; have n0_ := Aside0.mk (below_step (by repeat (first | (with_reducible first | exact HB.out | apply below_alloc | apply pw_below_drewN | apply below_drew1) | exact HB.out)) hb); clear HB; have HB := n0_; clear n0_; (try clear hb); (try clear hb2); (try clear hk); (try clear hi)) | ((with_reducible refine gate_callee (f := 18) rfl ?_); refine goesL_ (some 17) rfl rfl Tryz.func18 (by kernel_rfl) rfl #[.string a0] rfl (by (try simp only [List.map_toArray, List.map_cons, List.map_nil]); first | done | rfl | (simp only [List.length_drop, List.length_take]; rfl)) ?_; (with_reducible refine (latinerlaw15_short.calls a0 t227 _ A4.out).mono ?_); rintro e w37 ⟨rfl, hb⟩; refine ⟨_, rfl, ?_⟩; have n0_ := Aside0.mk (below_step (by repeat (first | (with_reducible first | exact HB.out | apply below_alloc | apply pw_below_drewN | apply below_drew1) | exact HB.out)) hb); clear HB; have HB := n0_; clear n0_; (try clear hb); (try clear hb2); (try clear hk); (try clear hi)) | ((with_reducible refine gate_callee (f := 18) rfl ?_); refine goesL_ (some 19) rfl rfl Tryz.func18 (by kernel_rfl) rfl #[.string a1] rfl (by (try simp only [List.map_toArray, List.map_cons, List.map_nil]); first | done | rfl | (simp only [List.length_drop, List.length_take]; rfl)) ?_; (with_reducible refine (latinerlaw15_short.calls a1 t228 _ A5.out).mono ?_); rintro e w38 ⟨rfl, hb⟩; refine ⟨_, rfl, ?_⟩; have n0_ := Aside0.mk (below_step (by repeat (first | (with_reducible first | exact HB.out | apply below_alloc | apply pw_below_drewN | apply below_drew1) | exact HB.out)) hb); clear HB; have HB := n0_; clear n0_; (try clear hb); (try clear hb2); (try clear hk); (try clear hi)) | ((with_reducible refine gate_callee (f := 19) rfl ?_); refine goesL_ (some 23) rfl rfl Tryz.func19 (by kernel_rfl) rfl #[.string t227, .string t228] rfl (by (try simp only [List.map_toArray, List.map_cons, List.map_nil]); first | done | rfl | (simp only [List.length_drop, List.length_take]; rfl)) ?_; (with_reducible refine (fold_Item.calls t227 t228 t229 t230 _ ?side1 A6.out).mono ?_); (case side1 => exact GW.below hG (by repeat (first | (with_reducible first | exact HB.out | apply below_alloc | apply pw_below_drewN | apply below_drew1) | exact HB.out))); rintro e w39 ⟨rfl, hb⟩; refine ⟨_, rfl, ?_⟩; have n0_ := Aside0.mk (below_step (by repeat (first | (with_reducible first | exact HB.out | apply below_alloc | apply pw_below_drewN | apply below_drew1) | exact HB.out)) hb); clear HB; have HB := n0_; clear n0_; (try clear hb); (try clear hb2); (try clear hk); (try clear hi)) | ((with_reducible refine gate_callee (f := 21) rfl ?_); refine goesL_ (some 39) rfl rfl Tryz.func21 (by kernel_rfl) rfl #[.string t229] rfl (by (try simp only [List.map_toArray, List.map_cons, List.map_nil]); first | done | rfl | (simp only [List.length_drop, List.length_take]; rfl)) ?_; (with_reducible refine (fold_ReadItem.calls t229 t231 t232 t233 _ ?side1 A8.out).mono ?_); (case side1 => exact GW.below hG (by repeat (first | (with_reducible first | exact HB.out | apply below_alloc | apply pw_below_drewN | apply below_drew1) | exact HB.out))); rintro e w40 ⟨rfl, hb⟩; refine ⟨_, rfl, ?_⟩; have n0_ := Aside0.mk (below_step (by repeat (first | (with_reducible first | exact HB.out | apply below_alloc | apply pw_below_drewN | apply below_drew1) | exact HB.out)) hb); clear HB; have HB := n0_; clear n0_; (try clear hb); (try clear hb2); (try clear hk); (try clear hi)) | ((with_reducible refine gate_callee (f := 13) rfl ?_); refine goesL_ (some 45) rfl rfl Tryz.func13 (by kernel_rfl) rfl #[.string t229] rfl (by (try simp only [List.map_toArray, List.map_cons, List.map_nil]); first | done | rfl | (simp only [List.length_drop, List.length_take]; rfl)) ?_; (with_reducible refine (fold_Fold.calls t229 t234 t235 _ ?side1 A9.out).mono ?_); (case side1 => exact GW.below hG (by repeat (first | (with_reducible first | exact HB.out | apply below_alloc | apply pw_below_drewN | apply below_drew1) | exact HB.out))); rintro e w41 ⟨rfl, hb⟩; refine ⟨_, rfl, ?_⟩; have n0_ := Aside0.mk (below_step (by repeat (first | (with_reducible first | exact HB.out | apply below_alloc | apply pw_below_drewN | apply below_drew1) | exact HB.out)) hb); clear HB; have HB := n0_; clear n0_; (try clear hb); (try clear hb2); (try clear hk); (try clear hi)) | ((with_reducible refine gate_callee (f := 15) rfl ?_); refine goesL_ (some 50) rfl rfl Tryz.func15 (by kernel_rfl) rfl #[.string t234] rfl (by (try simp only [List.map_toArray, List.map_cons, List.map_nil]); first | done | rfl | (simp only [List.length_drop, List.length_take]; rfl)) ?_; (with_reducible refine (fold_Unfold.calls t234 t236 t237 _ ?side1 A10.out).mono ?_); (case side1 => exact GW.below hG (by repeat (first | (with_reducible first | exact HB.out | apply below_alloc | apply pw_below_drewN | apply below_drew1) | exact HB.out))); rintro e w42 ⟨v238, rfl, ho0, hb⟩; refine ⟨_, rfl, ?_⟩; have n0_ := Aside0.mk (Kd.R_lower ho0 (below_size (by repeat (first | (with_reducible first | exact HB.out | apply below_alloc | apply pw_below_drewN | apply below_drew1) | exact HB.out)))); have n1_ := Aside0.mk (below_step (by repeat (first | (with_reducible first | exact HB.out | apply below_alloc | apply pw_below_drewN | apply below_drew1) | exact HB.out)) hb); clear HB; have HO239 := n0_; have HB := n1_; clear n0_ n1_; (try clear hb); (try clear hb2); (try clear hk); (try clear hi); (try clear ho0)))
              go_ret
              exact ⟨by first | rfl | (simp [errW_none, errW_some] <;> rfl) | (simp [*, errW_none, errW_some] <;> rfl), by repeat (first | (with_reducible first | exact HB.out | apply below_alloc | apply pw_below_drewN | apply below_drew1) | exact HB.out)⟩
          · rw [if_neg c14] at H
            have c14b0 : (t232.toList == t228.toList) = false := beq_eq_false_iff_ne.mpr c14
            have c14b1 : (t232.toList != t228.toList) = true := bne_iff_ne.mpr c14
            obtain rfl := Option.some.inj H
            go_enter Tryz.func6, Tryz.ntmps6
            go_wp2_with (first | ((with_reducible refine gate_callee (f := 11) rfl ?_); refine goesL_ (some 15) rfl rfl Tryz.func11 (by kernel_rfl) rfl #[] rfl (by (try simp only [List.map_toArray, List.map_cons, List.map_nil]); first | done | rfl | (simp only [List.length_drop, List.length_take]; rfl)) ?_; (with_reducible refine (latinerlaw15_shown.calls k  true _ ?side1 A3.out).mono ?_); (case side1 => exact GW.below hG (by repeat (first | (with_reducible first | exact HB.out | apply below_alloc | apply pw_below_drewN | apply below_drew1) | exact HB.out))); rintro e w43 ⟨rfl, hb⟩; refine ⟨_, rfl, ?_⟩; have n0_ := Aside0.mk (below_step (by repeat (first | (with_reducible first | exact HB.out | apply below_alloc | apply pw_below_drewN | apply below_drew1) | exact HB.out)) hb); clear HB; have HB := n0_; clear n0_; (try clear hb); (try clear hb2); (try clear hk); (try clear hi)) | ((with_reducible refine gate_callee (f := 18) rfl ?_); refine goesL_ (some 17) rfl rfl Tryz.func18 (by kernel_rfl) rfl #[.string a0] rfl (by (try simp only [List.map_toArray, List.map_cons, List.map_nil]); first | done | rfl | (simp only [List.length_drop, List.length_take]; rfl)) ?_; (with_reducible refine (latinerlaw15_short.calls a0 t227 _ A4.out).mono ?_); rintro e w44 ⟨rfl, hb⟩; refine ⟨_, rfl, ?_⟩; have n0_ := Aside0.mk (below_step (by repeat (first | (with_reducible first | exact HB.out | apply below_alloc | apply pw_below_drewN | apply below_drew1) | exact HB.out)) hb); clear HB; have HB := n0_; clear n0_; (try clear hb); (try clear hb2); (try clear hk); (try clear hi)) | ((with_reducible refine gate_callee (f := 18) rfl ?_); refine goesL_ (some 19) rfl rfl Tryz.func18 (by kernel_rfl) rfl #[.string a1] rfl (by (try simp only [List.map_toArray, List.map_cons, List.map_nil]); first | done | rfl | (simp only [List.length_drop, List.length_take]; rfl)) ?_; (with_reducible refine (latinerlaw15_short.calls a1 t228 _ A5.out).mono ?_); rintro e w45 ⟨rfl, hb⟩; refine ⟨_, rfl, ?_⟩; have n0_ := Aside0.mk (below_step (by repeat (first | (with_reducible first | exact HB.out | apply below_alloc | apply pw_below_drewN | apply below_drew1) | exact HB.out)) hb); clear HB; have HB := n0_; clear n0_; (try clear hb); (try clear hb2); (try clear hk); (try clear hi)) | ((with_reducible refine gate_callee (f := 19) rfl ?_); refine goesL_ (some 23) rfl rfl Tryz.func19 (by kernel_rfl) rfl #[.string t227, .string t228] rfl (by (try simp only [List.map_toArray, List.map_cons, List.map_nil]); first | done | rfl | (simp only [List.length_drop, List.length_take]; rfl)) ?_; (with_reducible refine (fold_Item.calls t227 t228 t229 t230 _ ?side1 A6.out).mono ?_); (case side1 => exact GW.below hG (by repeat (first | (with_reducible first | exact HB.out | apply below_alloc | apply pw_below_drewN | apply below_drew1) | exact HB.out))); rintro e w46 ⟨rfl, hb⟩; refine ⟨_, rfl, ?_⟩; have n0_ := Aside0.mk (below_step (by repeat (first | (with_reducible first | exact HB.out | apply below_alloc | apply pw_below_drewN | apply below_drew1) | exact HB.out)) hb); clear HB; have HB := n0_; clear n0_; (try clear hb); (try clear hb2); (try clear hk); (try clear hi)) | ((with_reducible refine gate_callee (f := 21) rfl ?_); refine goesL_ (some 39) rfl rfl Tryz.func21 (by kernel_rfl) rfl #[.string t229] rfl (by (try simp only [List.map_toArray, List.map_cons, List.map_nil]); first | done | rfl | (simp only [List.length_drop, List.length_take]; rfl)) ?_; (with_reducible refine (fold_ReadItem.calls t229 t231 t232 t233 _ ?side1 A8.out).mono ?_); (case side1 => exact GW.below hG (by repeat (first | (with_reducible first | exact HB.out | apply below_alloc | apply pw_below_drewN | apply below_drew1) | exact HB.out))); rintro e w47 ⟨rfl, hb⟩; refine ⟨_, rfl, ?_⟩; have n0_ := Aside0.mk (below_step (by repeat (first | (with_reducible first | exact HB.out | apply below_alloc | apply pw_below_drewN | apply below_drew1) | exact HB.out)) hb); clear HB; have HB := n0_; clear n0_; (try clear hb); (try clear hb2); (try clear hk); (try clear hi)) | ((with_reducible refine gate_callee (f := 13) rfl ?_); refine goesL_ (some 45) rfl rfl Tryz.func13 (by kernel_rfl) rfl #[.string t229] rfl (by (try simp only [List.map_toArray, List.map_cons, List.map_nil]); first | done | rfl | (simp only [List.length_drop, List.length_take]; rfl)) ?_; (with_reducible refine (fold_Fold.calls t229 t234 t235 _ ?side1 A9.out).mono ?_); (case side1 => exact GW.below hG (by repeat (first | (with_reducible first | exact HB.out | apply below_alloc | apply pw_below_drewN | apply below_drew1) | exact HB.out))); rintro e w48 ⟨rfl, hb⟩; refine ⟨_, rfl, ?_⟩; have n0_ := Aside0.mk (below_step (by repeat (first | (with_reducible first | exact HB.out | apply below_alloc | apply pw_below_drewN | apply below_drew1) | exact HB.out)) hb); clear HB; have HB := n0_; clear n0_; (try clear hb); (try clear hb2); (try clear hk); (try clear hi)) | ((with_reducible refine gate_callee (f := 15) rfl ?_); refine goesL_ (some 50) rfl rfl Tryz.func15 (by kernel_rfl) rfl #[.string t234] rfl (by (try simp only [List.map_toArray, List.map_cons, List.map_nil]); first | done | rfl | (simp only [List.length_drop, List.length_take]; rfl)) ?_; (with_reducible refine (fold_Unfold.calls t234 t236 t237 _ ?side1 A10.out).mono ?_); (case side1 => exact GW.below hG (by repeat (first | (with_reducible first | exact HB.out | apply below_alloc | apply pw_below_drewN | apply below_drew1) | exact HB.out))); rintro e w49 ⟨v238, rfl, ho0, hb⟩; refine ⟨_, rfl, ?_⟩; have n0_ := Aside0.mk (Kd.R_lower ho0 (below_size (by repeat (first | (with_reducible first | exact HB.out | apply below_alloc | apply pw_below_drewN | apply below_drew1) | exact HB.out)))); have n1_ := Aside0.mk (below_step (by repeat (first | (with_reducible first | exact HB.out | apply below_alloc | apply pw_below_drewN | apply below_drew1) | exact HB.out)) hb); clear HB; have HO239 := n0_; have HB := n1_; clear n0_ n1_; (try clear hb); (try clear hb2); (try clear hk); (try clear hi); (try clear ho0)))
            go_ret
            exact ⟨by first | rfl | (simp [errW_none, errW_some] <;> rfl) | (simp [*, errW_none, errW_some] <;> rfl), by repeat (first | (with_reducible first | exact HB.out | apply below_alloc | apply pw_below_drewN | apply below_drew1) | exact HB.out)⟩
        · rw [if_neg c13] at H
          have c13b0 : (t231.toList == t227.toList) = false := beq_eq_false_iff_ne.mpr c13
          have c13b1 : (t231.toList != t227.toList) = true := bne_iff_ne.mpr c13
          obtain rfl := Option.some.inj H
          go_enter Tryz.func6, Tryz.ntmps6
          go_wp2_with (first | ((with_reducible refine gate_callee (f := 11) rfl ?_); refine goesL_ (some 15) rfl rfl Tryz.func11 (by kernel_rfl) rfl #[] rfl (by (try simp only [List.map_toArray, List.map_cons, List.map_nil]); first | done | rfl | (simp only [List.length_drop, List.length_take]; rfl)) ?_; (with_reducible refine (latinerlaw15_shown.calls k  true _ ?side1 A3.out).mono ?_); (case side1 => exact GW.below hG (by repeat (first | (with_reducible first | exact HB.out | apply below_alloc | apply pw_below_drewN | apply below_drew1) | exact HB.out))); rintro e w50 ⟨rfl, hb⟩; refine ⟨_, rfl, ?_⟩; have n0_ := Aside0.mk (below_step (by repeat (first | (with_reducible first | exact HB.out | apply below_alloc | apply pw_below_drewN | apply below_drew1) | exact HB.out)) hb); clear HB; have HB := n0_; clear n0_; (try clear hb); (try clear hb2); (try clear hk); (try clear hi)) | ((with_reducible refine gate_callee (f := 18) rfl ?_); refine goesL_ (some 17) rfl rfl Tryz.func18 (by kernel_rfl) rfl #[.string a0] rfl (by (try simp only [List.map_toArray, List.map_cons, List.map_nil]); first | done | rfl | (simp only [List.length_drop, List.length_take]; rfl)) ?_; (with_reducible refine (latinerlaw15_short.calls a0 t227 _ A4.out).mono ?_); rintro e w51 ⟨rfl, hb⟩; refine ⟨_, rfl, ?_⟩; have n0_ := Aside0.mk (below_step (by repeat (first | (with_reducible first | exact HB.out | apply below_alloc | apply pw_below_drewN | apply below_drew1) | exact HB.out)) hb); clear HB; have HB := n0_; clear n0_; (try clear hb); (try clear hb2); (try clear hk); (try clear hi)) | ((with_reducible refine gate_callee (f := 18) rfl ?_); refine goesL_ (some 19) rfl rfl Tryz.func18 (by kernel_rfl) rfl #[.string a1] rfl (by (try simp only [List.map_toArray, List.map_cons, List.map_nil]); first | done | rfl | (simp only [List.length_drop, List.length_take]; rfl)) ?_; (with_reducible refine (latinerlaw15_short.calls a1 t228 _ A5.out).mono ?_); rintro e w52 ⟨rfl, hb⟩; refine ⟨_, rfl, ?_⟩; have n0_ := Aside0.mk (below_step (by repeat (first | (with_reducible first | exact HB.out | apply below_alloc | apply pw_below_drewN | apply below_drew1) | exact HB.out)) hb); clear HB; have HB := n0_; clear n0_; (try clear hb); (try clear hb2); (try clear hk); (try clear hi)) | ((with_reducible refine gate_callee (f := 19) rfl ?_); refine goesL_ (some 23) rfl rfl Tryz.func19 (by kernel_rfl) rfl #[.string t227, .string t228] rfl (by (try simp only [List.map_toArray, List.map_cons, List.map_nil]); first | done | rfl | (simp only [List.length_drop, List.length_take]; rfl)) ?_; (with_reducible refine (fold_Item.calls t227 t228 t229 t230 _ ?side1 A6.out).mono ?_); (case side1 => exact GW.below hG (by repeat (first | (with_reducible first | exact HB.out | apply below_alloc | apply pw_below_drewN | apply below_drew1) | exact HB.out))); rintro e w53 ⟨rfl, hb⟩; refine ⟨_, rfl, ?_⟩; have n0_ := Aside0.mk (below_step (by repeat (first | (with_reducible first | exact HB.out | apply below_alloc | apply pw_below_drewN | apply below_drew1) | exact HB.out)) hb); clear HB; have HB := n0_; clear n0_; (try clear hb); (try clear hb2); (try clear hk); (try clear hi)) | ((with_reducible refine gate_callee (f := 21) rfl ?_); refine goesL_ (some 39) rfl rfl Tryz.func21 (by kernel_rfl) rfl #[.string t229] rfl (by (try simp only [List.map_toArray, List.map_cons, List.map_nil]); first | done | rfl | (simp only [List.length_drop, List.length_take]; rfl)) ?_; (with_reducible refine (fold_ReadItem.calls t229 t231 t232 t233 _ ?side1 A8.out).mono ?_); (case side1 => exact GW.below hG (by repeat (first | (with_reducible first | exact HB.out | apply below_alloc | apply pw_below_drewN | apply below_drew1) | exact HB.out))); rintro e w54 ⟨rfl, hb⟩; refine ⟨_, rfl, ?_⟩; have n0_ := Aside0.mk (below_step (by repeat (first | (with_reducible first | exact HB.out | apply below_alloc | apply pw_below_drewN | apply below_drew1) | exact HB.out)) hb); clear HB; have HB := n0_; clear n0_; (try clear hb); (try clear hb2); (try clear hk); (try clear hi)) | ((with_reducible refine gate_callee (f := 13) rfl ?_); refine goesL_ (some 45) rfl rfl Tryz.func13 (by kernel_rfl) rfl #[.string t229] rfl (by (try simp only [List.map_toArray, List.map_cons, List.map_nil]); first | done | rfl | (simp only [List.length_drop, List.length_take]; rfl)) ?_; (with_reducible refine (fold_Fold.calls t229 t234 t235 _ ?side1 A9.out).mono ?_); (case side1 => exact GW.below hG (by repeat (first | (with_reducible first | exact HB.out | apply below_alloc | apply pw_below_drewN | apply below_drew1) | exact HB.out))); rintro e w55 ⟨rfl, hb⟩; refine ⟨_, rfl, ?_⟩; have n0_ := Aside0.mk (below_step (by repeat (first | (with_reducible first | exact HB.out | apply below_alloc | apply pw_below_drewN | apply below_drew1) | exact HB.out)) hb); clear HB; have HB := n0_; clear n0_; (try clear hb); (try clear hb2); (try clear hk); (try clear hi)) | ((with_reducible refine gate_callee (f := 15) rfl ?_); refine goesL_ (some 50) rfl rfl Tryz.func15 (by kernel_rfl) rfl #[.string t234] rfl (by (try simp only [List.map_toArray, List.map_cons, List.map_nil]); first | done | rfl | (simp only [List.length_drop, List.length_take]; rfl)) ?_; (with_reducible refine (fold_Unfold.calls t234 t236 t237 _ ?side1 A10.out).mono ?_); (case side1 => exact GW.below hG (by repeat (first | (with_reducible first | exact HB.out | apply below_alloc | apply pw_below_drewN | apply below_drew1) | exact HB.out))); rintro e w56 ⟨v238, rfl, ho0, hb⟩; refine ⟨_, rfl, ?_⟩; have n0_ := Aside0.mk (Kd.R_lower ho0 (below_size (by repeat (first | (with_reducible first | exact HB.out | apply below_alloc | apply pw_below_drewN | apply below_drew1) | exact HB.out)))); have n1_ := Aside0.mk (below_step (by repeat (first | (with_reducible first | exact HB.out | apply below_alloc | apply pw_below_drewN | apply below_drew1) | exact HB.out)) hb); clear HB; have HO239 := n0_; have HB := n1_; clear n0_ n1_; (try clear hb); (try clear hb2); (try clear hk); (try clear hi); (try clear ho0)))
          go_ret
          exact ⟨by first | rfl | (simp [errW_none, errW_some] <;> rfl) | (simp [*, errW_none, errW_some] <;> rfl), by repeat (first | (with_reducible first | exact HB.out | apply below_alloc | apply pw_below_drewN | apply below_drew1) | exact HB.out)⟩
      · rw [if_neg c12] at H
        have c12b0 : (t233 == 0) = false := beq_eq_false_iff_ne.mpr c12
        have c12b1 : (t233 != 0) = true := bne_iff_ne.mpr c12
        obtain rfl := Option.some.inj H
        go_enter Tryz.func6, Tryz.ntmps6
        go_wp2_with (first | ((with_reducible refine gate_callee (f := 11) rfl ?_); refine goesL_ (some 15) rfl rfl Tryz.func11 (by kernel_rfl) rfl #[] rfl (by (try simp only [List.map_toArray, List.map_cons, List.map_nil]); first | done | rfl | (simp only [List.length_drop, List.length_take]; rfl)) ?_; (with_reducible refine (latinerlaw15_shown.calls k  true _ ?side1 A3.out).mono ?_); (case side1 => exact GW.below hG (by repeat (first | (with_reducible first | exact HB.out | apply below_alloc | apply pw_below_drewN | apply below_drew1) | exact HB.out))); rintro e w57 ⟨rfl, hb⟩; refine ⟨_, rfl, ?_⟩; have n0_ := Aside0.mk (below_step (by repeat (first | (with_reducible first | exact HB.out | apply below_alloc | apply pw_below_drewN | apply below_drew1) | exact HB.out)) hb); clear HB; have HB := n0_; clear n0_; (try clear hb); (try clear hb2); (try clear hk); (try clear hi)) | ((with_reducible refine gate_callee (f := 18) rfl ?_); refine goesL_ (some 17) rfl rfl Tryz.func18 (by kernel_rfl) rfl #[.string a0] rfl (by (try simp only [List.map_toArray, List.map_cons, List.map_nil]); first | done | rfl | (simp only [List.length_drop, List.length_take]; rfl)) ?_; (with_reducible refine (latinerlaw15_short.calls a0 t227 _ A4.out).mono ?_); rintro e w58 ⟨rfl, hb⟩; refine ⟨_, rfl, ?_⟩; have n0_ := Aside0.mk (below_step (by repeat (first | (with_reducible first | exact HB.out | apply below_alloc | apply pw_below_drewN | apply below_drew1) | exact HB.out)) hb); clear HB; have HB := n0_; clear n0_; (try clear hb); (try clear hb2); (try clear hk); (try clear hi)) | ((with_reducible refine gate_callee (f := 18) rfl ?_); refine goesL_ (some 19) rfl rfl Tryz.func18 (by kernel_rfl) rfl #[.string a1] rfl (by (try simp only [List.map_toArray, List.map_cons, List.map_nil]); first | done | rfl | (simp only [List.length_drop, List.length_take]; rfl)) ?_; (with_reducible refine (latinerlaw15_short.calls a1 t228 _ A5.out).mono ?_); rintro e w59 ⟨rfl, hb⟩; refine ⟨_, rfl, ?_⟩; have n0_ := Aside0.mk (below_step (by repeat (first | (with_reducible first | exact HB.out | apply below_alloc | apply pw_below_drewN | apply below_drew1) | exact HB.out)) hb); clear HB; have HB := n0_; clear n0_; (try clear hb); (try clear hb2); (try clear hk); (try clear hi)) | ((with_reducible refine gate_callee (f := 19) rfl ?_); refine goesL_ (some 23) rfl rfl Tryz.func19 (by kernel_rfl) rfl #[.string t227, .string t228] rfl (by (try simp only [List.map_toArray, List.map_cons, List.map_nil]); first | done | rfl | (simp only [List.length_drop, List.length_take]; rfl)) ?_; (with_reducible refine (fold_Item.calls t227 t228 t229 t230 _ ?side1 A6.out).mono ?_); (case side1 => exact GW.below hG (by repeat (first | (with_reducible first | exact HB.out | apply below_alloc | apply pw_below_drewN | apply below_drew1) | exact HB.out))); rintro e w60 ⟨rfl, hb⟩; refine ⟨_, rfl, ?_⟩; have n0_ := Aside0.mk (below_step (by repeat (first | (with_reducible first | exact HB.out | apply below_alloc | apply pw_below_drewN | apply below_drew1) | exact HB.out)) hb); clear HB; have HB := n0_; clear n0_; (try clear hb); (try clear hb2); (try clear hk); (try clear hi)) | ((with_reducible refine gate_callee (f := 21) rfl ?_); refine goesL_ (some 39) rfl rfl Tryz.func21 (by kernel_rfl) rfl #[.string t229] rfl (by (try simp only [List.map_toArray, List.map_cons, List.map_nil]); first | done | rfl | (simp only [List.length_drop, List.length_take]; rfl)) ?_; (with_reducible refine (fold_ReadItem.calls t229 t231 t232 t233 _ ?side1 A8.out).mono ?_); (case side1 => exact GW.below hG (by repeat (first | (with_reducible first | exact HB.out | apply below_alloc | apply pw_below_drewN | apply below_drew1) | exact HB.out))); rintro e w61 ⟨rfl, hb⟩; refine ⟨_, rfl, ?_⟩; have n0_ := Aside0.mk (below_step (by repeat (first | (with_reducible first | exact HB.out | apply below_alloc | apply pw_below_drewN | apply below_drew1) | exact HB.out)) hb); clear HB; have HB := n0_; clear n0_; (try clear hb); (try clear hb2); (try clear hk); (try clear hi)) | ((with_reducible refine gate_callee (f := 13) rfl ?_); refine goesL_ (some 45) rfl rfl Tryz.func13 (by kernel_rfl) rfl #[.string t229] rfl (by (try simp only [List.map_toArray, List.map_cons, List.map_nil]); first | done | rfl | (simp only [List.length_drop, List.length_take]; rfl)) ?_; (with_reducible refine (fold_Fold.calls t229 t234 t235 _ ?side1 A9.out).mono ?_); (case side1 => exact GW.below hG (by repeat (first | (with_reducible first | exact HB.out | apply below_alloc | apply pw_below_drewN | apply below_drew1) | exact HB.out))); rintro e w62 ⟨rfl, hb⟩; refine ⟨_, rfl, ?_⟩; have n0_ := Aside0.mk (below_step (by repeat (first | (with_reducible first | exact HB.out | apply below_alloc | apply pw_below_drewN | apply below_drew1) | exact HB.out)) hb); clear HB; have HB := n0_; clear n0_; (try clear hb); (try clear hb2); (try clear hk); (try clear hi)) | ((with_reducible refine gate_callee (f := 15) rfl ?_); refine goesL_ (some 50) rfl rfl Tryz.func15 (by kernel_rfl) rfl #[.string t234] rfl (by (try simp only [List.map_toArray, List.map_cons, List.map_nil]); first | done | rfl | (simp only [List.length_drop, List.length_take]; rfl)) ?_; (with_reducible refine (fold_Unfold.calls t234 t236 t237 _ ?side1 A10.out).mono ?_); (case side1 => exact GW.below hG (by repeat (first | (with_reducible first | exact HB.out | apply below_alloc | apply pw_below_drewN | apply below_drew1) | exact HB.out))); rintro e w63 ⟨v238, rfl, ho0, hb⟩; refine ⟨_, rfl, ?_⟩; have n0_ := Aside0.mk (Kd.R_lower ho0 (below_size (by repeat (first | (with_reducible first | exact HB.out | apply below_alloc | apply pw_below_drewN | apply below_drew1) | exact HB.out)))); have n1_ := Aside0.mk (below_step (by repeat (first | (with_reducible first | exact HB.out | apply below_alloc | apply pw_below_drewN | apply below_drew1) | exact HB.out)) hb); clear HB; have HO239 := n0_; have HB := n1_; clear n0_ n1_; (try clear hb); (try clear hb2); (try clear hk); (try clear hi); (try clear ho0)))
        go_ret
        exact ⟨by first | rfl | (simp [errW_none, errW_some] <;> rfl) | (simp [*, errW_none, errW_some] <;> rfl), by repeat (first | (with_reducible first | exact HB.out | apply below_alloc | apply pw_below_drewN | apply below_drew1) | exact HB.out)⟩
    · replace c11 := Bool.eq_false_iff.mpr c11
      subst c11
      have H1 : (some false) = some r := by rw [if_neg (show ¬ (false = true) by decide)] at H; exact H
      clear H
      have H := H1
      clear H1
      obtain rfl := Option.some.inj H
      go_enter Tryz.func6, Tryz.ntmps6
      go_wp2_with (first | ((with_reducible refine gate_callee (f := 11) rfl ?_); refine goesL_ (some 15) rfl rfl Tryz.func11 (by kernel_rfl) rfl #[] rfl (by (try simp only [List.map_toArray, List.map_cons, List.map_nil]); first | done | rfl | (simp only [List.length_drop, List.length_take]; rfl)) ?_; (with_reducible refine (latinerlaw15_shown.calls k  false _ ?side1 A3.out).mono ?_); (case side1 => exact GW.below hG (by repeat (first | (with_reducible first | exact HB.out | apply below_alloc | apply pw_below_drewN | apply below_drew1) | exact HB.out))); rintro e w64 ⟨rfl, hb⟩; refine ⟨_, rfl, ?_⟩; have n0_ := Aside0.mk (below_step (by repeat (first | (with_reducible first | exact HB.out | apply below_alloc | apply pw_below_drewN | apply below_drew1) | exact HB.out)) hb); clear HB; have HB := n0_; clear n0_; (try clear hb); (try clear hb2); (try clear hk); (try clear hi)) | ((with_reducible refine gate_callee (f := 18) rfl ?_); refine goesL_ (some 17) rfl rfl Tryz.func18 (by kernel_rfl) rfl #[.string a0] rfl (by (try simp only [List.map_toArray, List.map_cons, List.map_nil]); first | done | rfl | (simp only [List.length_drop, List.length_take]; rfl)) ?_; (with_reducible refine (latinerlaw15_short.calls a0 t227 _ A4.out).mono ?_); rintro e w65 ⟨rfl, hb⟩; refine ⟨_, rfl, ?_⟩; have n0_ := Aside0.mk (below_step (by repeat (first | (with_reducible first | exact HB.out | apply below_alloc | apply pw_below_drewN | apply below_drew1) | exact HB.out)) hb); clear HB; have HB := n0_; clear n0_; (try clear hb); (try clear hb2); (try clear hk); (try clear hi)) | ((with_reducible refine gate_callee (f := 18) rfl ?_); refine goesL_ (some 19) rfl rfl Tryz.func18 (by kernel_rfl) rfl #[.string a1] rfl (by (try simp only [List.map_toArray, List.map_cons, List.map_nil]); first | done | rfl | (simp only [List.length_drop, List.length_take]; rfl)) ?_; (with_reducible refine (latinerlaw15_short.calls a1 t228 _ A5.out).mono ?_); rintro e w66 ⟨rfl, hb⟩; refine ⟨_, rfl, ?_⟩; have n0_ := Aside0.mk (below_step (by repeat (first | (with_reducible first | exact HB.out | apply below_alloc | apply pw_below_drewN | apply below_drew1) | exact HB.out)) hb); clear HB; have HB := n0_; clear n0_; (try clear hb); (try clear hb2); (try clear hk); (try clear hi)) | ((with_reducible refine gate_callee (f := 19) rfl ?_); refine goesL_ (some 23) rfl rfl Tryz.func19 (by kernel_rfl) rfl #[.string t227, .string t228] rfl (by (try simp only [List.map_toArray, List.map_cons, List.map_nil]); first | done | rfl | (simp only [List.length_drop, List.length_take]; rfl)) ?_; (with_reducible refine (fold_Item.calls t227 t228 t229 t230 _ ?side1 A6.out).mono ?_); (case side1 => exact GW.below hG (by repeat (first | (with_reducible first | exact HB.out | apply below_alloc | apply pw_below_drewN | apply below_drew1) | exact HB.out))); rintro e w67 ⟨rfl, hb⟩; refine ⟨_, rfl, ?_⟩; have n0_ := Aside0.mk (below_step (by repeat (first | (with_reducible first | exact HB.out | apply below_alloc | apply pw_below_drewN | apply below_drew1) | exact HB.out)) hb); clear HB; have HB := n0_; clear n0_; (try clear hb); (try clear hb2); (try clear hk); (try clear hi)) | ((with_reducible refine gate_callee (f := 21) rfl ?_); refine goesL_ (some 39) rfl rfl Tryz.func21 (by kernel_rfl) rfl #[.string t229] rfl (by (try simp only [List.map_toArray, List.map_cons, List.map_nil]); first | done | rfl | (simp only [List.length_drop, List.length_take]; rfl)) ?_; (with_reducible refine (fold_ReadItem.calls t229 t231 t232 t233 _ ?side1 A8.out).mono ?_); (case side1 => exact GW.below hG (by repeat (first | (with_reducible first | exact HB.out | apply below_alloc | apply pw_below_drewN | apply below_drew1) | exact HB.out))); rintro e w68 ⟨rfl, hb⟩; refine ⟨_, rfl, ?_⟩; have n0_ := Aside0.mk (below_step (by repeat (first | (with_reducible first | exact HB.out | apply below_alloc | apply pw_below_drewN | apply below_drew1) | exact HB.out)) hb); clear HB; have HB := n0_; clear n0_; (try clear hb); (try clear hb2); (try clear hk); (try clear hi)) | ((with_reducible refine gate_callee (f := 13) rfl ?_); refine goesL_ (some 45) rfl rfl Tryz.func13 (by kernel_rfl) rfl #[.string t229] rfl (by (try simp only [List.map_toArray, List.map_cons, List.map_nil]); first | done | rfl | (simp only [List.length_drop, List.length_take]; rfl)) ?_; (with_reducible refine (fold_Fold.calls t229 t234 t235 _ ?side1 A9.out).mono ?_); (case side1 => exact GW.below hG (by repeat (first | (with_reducible first | exact HB.out | apply below_alloc | apply pw_below_drewN | apply below_drew1) | exact HB.out))); rintro e w69 ⟨rfl, hb⟩; refine ⟨_, rfl, ?_⟩; have n0_ := Aside0.mk (below_step (by repeat (first | (with_reducible first | exact HB.out | apply below_alloc | apply pw_below_drewN | apply below_drew1) | exact HB.out)) hb); clear HB; have HB := n0_; clear n0_; (try clear hb); (try clear hb2); (try clear hk); (try clear hi)) | ((with_reducible refine gate_callee (f := 15) rfl ?_); refine goesL_ (some 50) rfl rfl Tryz.func15 (by kernel_rfl) rfl #[.string t234] rfl (by (try simp only [List.map_toArray, List.map_cons, List.map_nil]); first | done | rfl | (simp only [List.length_drop, List.length_take]; rfl)) ?_; (with_reducible refine (fold_Unfold.calls t234 t236 t237 _ ?side1 A10.out).mono ?_); (case side1 => exact GW.below hG (by repeat (first | (with_reducible first | exact HB.out | apply below_alloc | apply pw_below_drewN | apply below_drew1) | exact HB.out))); rintro e w70 ⟨v238, rfl, ho0, hb⟩; refine ⟨_, rfl, ?_⟩; have n0_ := Aside0.mk (Kd.R_lower ho0 (below_size (by repeat (first | (with_reducible first | exact HB.out | apply below_alloc | apply pw_below_drewN | apply below_drew1) | exact HB.out)))); have n1_ := Aside0.mk (below_step (by repeat (first | (with_reducible first | exact HB.out | apply below_alloc | apply pw_below_drewN | apply below_drew1) | exact HB.out)) hb); clear HB; have HO239 := n0_; have HB := n1_; clear n0_ n1_; (try clear hb); (try clear hb2); (try clear hk); (try clear hi); (try clear ho0)))
      go_ret
      exact ⟨by first | rfl | (simp [errW_none, errW_some] <;> rfl) | (simp [*, errW_none, errW_some] <;> rfl), by repeat (first | (with_reducible first | exact HB.out | apply below_alloc | apply pw_below_drewN | apply below_drew1) | exact HB.out)⟩
  · rw [if_neg c7] at H
    have c7b0 : (t230 == 0) = false := beq_eq_false_iff_ne.mpr c7
    have c7b1 : (t230 != 0) = true := bne_iff_ne.mpr c7
    by_cases c71 : t226 = true
    · subst c71
      have H1 : (if t229.toList = ([] : List UInt8) then (some (t230 == 151)) else (some false)) = some r := by rw [if_pos rfl] at H; exact H
      clear H
      have H := H1
      clear H1
      by_cases c72 : t229.toList = ([] : List UInt8)
      · rw [if_pos c72] at H
        have c72b0 : (t229.toList == ([] : List UInt8)) = true := beq_iff_eq.mpr c72
        have c72b1 : (t229.toList != ([] : List UInt8)) = false := bne_eq_false_iff_eq.mpr c72
        clear c72
        obtain rfl := Option.some.inj H
        go_enter Tryz.func6, Tryz.ntmps6
        go_wp2_with (first | ((with_reducible refine gate_callee (f := 11) rfl ?_); refine goesL_ (some 15) rfl rfl Tryz.func11 (by kernel_rfl) rfl #[] rfl (by (try simp only [List.map_toArray, List.map_cons, List.map_nil]); first | done | rfl | (simp only [List.length_drop, List.length_take]; rfl)) ?_; (with_reducible refine (latinerlaw15_shown.calls k  true _ ?side1 A3.out).mono ?_); (case side1 => exact GW.below hG (by repeat (first | (with_reducible first | exact HB.out | apply below_alloc | apply pw_below_drewN | apply below_drew1) | exact HB.out))); rintro e w73 ⟨rfl, hb⟩; refine ⟨_, rfl, ?_⟩; have n0_ := Aside0.mk (below_step (by repeat (first | (with_reducible first | exact HB.out | apply below_alloc | apply pw_below_drewN | apply below_drew1) | exact HB.out)) hb); clear HB; have HB := n0_; clear n0_; (try clear hb); (try clear hb2); (try clear hk); (try clear hi)) | ((with_reducible refine gate_callee (f := 18) rfl ?_); refine goesL_ (some 17) rfl rfl Tryz.func18 (by kernel_rfl) rfl #[.string a0] rfl (by (try simp only [List.map_toArray, List.map_cons, List.map_nil]); first | done | rfl | (simp only [List.length_drop, List.length_take]; rfl)) ?_; (with_reducible refine (latinerlaw15_short.calls a0 t227 _ A4.out).mono ?_); rintro e w74 ⟨rfl, hb⟩; refine ⟨_, rfl, ?_⟩; have n0_ := Aside0.mk (below_step (by repeat (first | (with_reducible first | exact HB.out | apply below_alloc | apply pw_below_drewN | apply below_drew1) | exact HB.out)) hb); clear HB; have HB := n0_; clear n0_; (try clear hb); (try clear hb2); (try clear hk); (try clear hi)) | ((with_reducible refine gate_callee (f := 18) rfl ?_); refine goesL_ (some 19) rfl rfl Tryz.func18 (by kernel_rfl) rfl #[.string a1] rfl (by (try simp only [List.map_toArray, List.map_cons, List.map_nil]); first | done | rfl | (simp only [List.length_drop, List.length_take]; rfl)) ?_; (with_reducible refine (latinerlaw15_short.calls a1 t228 _ A5.out).mono ?_); rintro e w75 ⟨rfl, hb⟩; refine ⟨_, rfl, ?_⟩; have n0_ := Aside0.mk (below_step (by repeat (first | (with_reducible first | exact HB.out | apply below_alloc | apply pw_below_drewN | apply below_drew1) | exact HB.out)) hb); clear HB; have HB := n0_; clear n0_; (try clear hb); (try clear hb2); (try clear hk); (try clear hi)) | ((with_reducible refine gate_callee (f := 19) rfl ?_); refine goesL_ (some 23) rfl rfl Tryz.func19 (by kernel_rfl) rfl #[.string t227, .string t228] rfl (by (try simp only [List.map_toArray, List.map_cons, List.map_nil]); first | done | rfl | (simp only [List.length_drop, List.length_take]; rfl)) ?_; (with_reducible refine (fold_Item.calls t227 t228 t229 t230 _ ?side1 A6.out).mono ?_); (case side1 => exact GW.below hG (by repeat (first | (with_reducible first | exact HB.out | apply below_alloc | apply pw_below_drewN | apply below_drew1) | exact HB.out))); rintro e w76 ⟨rfl, hb⟩; refine ⟨_, rfl, ?_⟩; have n0_ := Aside0.mk (below_step (by repeat (first | (with_reducible first | exact HB.out | apply below_alloc | apply pw_below_drewN | apply below_drew1) | exact HB.out)) hb); clear HB; have HB := n0_; clear n0_; (try clear hb); (try clear hb2); (try clear hk); (try clear hi)))
        go_ret
        exact ⟨by first | rfl | (simp [errW_none, errW_some] <;> rfl) | (simp [*, errW_none, errW_some] <;> rfl), by repeat (first | (with_reducible first | exact HB.out | apply below_alloc | apply pw_below_drewN | apply below_drew1) | exact HB.out)⟩
      · rw [if_neg c72] at H
        have c72b0 : (t229.toList == ([] : List UInt8)) = false := beq_eq_false_iff_ne.mpr c72
        have c72b1 : (t229.toList != ([] : List UInt8)) = true := bne_iff_ne.mpr c72
        obtain rfl := Option.some.inj H
        go_enter Tryz.func6, Tryz.ntmps6
        go_wp2_with (first | ((with_reducible refine gate_callee (f := 11) rfl ?_); refine goesL_ (some 15) rfl rfl Tryz.func11 (by kernel_rfl) rfl #[] rfl (by (try simp only [List.map_toArray, List.map_cons, List.map_nil]); first | done | rfl | (simp only [List.length_drop, List.length_take]; rfl)) ?_; (with_reducible refine (latinerlaw15_shown.calls k  true _ ?side1 A3.out).mono ?_); (case side1 => exact GW.below hG (by repeat (first | (with_reducible first | exact HB.out | apply below_alloc | apply pw_below_drewN | apply below_drew1) | exact HB.out))); rintro e w77 ⟨rfl, hb⟩; refine ⟨_, rfl, ?_⟩; have n0_ := Aside0.mk (below_step (by repeat (first | (with_reducible first | exact HB.out | apply below_alloc | apply pw_below_drewN | apply below_drew1) | exact HB.out)) hb); clear HB; have HB := n0_; clear n0_; (try clear hb); (try clear hb2); (try clear hk); (try clear hi)) | ((with_reducible refine gate_callee (f := 18) rfl ?_); refine goesL_ (some 17) rfl rfl Tryz.func18 (by kernel_rfl) rfl #[.string a0] rfl (by (try simp only [List.map_toArray, List.map_cons, List.map_nil]); first | done | rfl | (simp only [List.length_drop, List.length_take]; rfl)) ?_; (with_reducible refine (latinerlaw15_short.calls a0 t227 _ A4.out).mono ?_); rintro e w78 ⟨rfl, hb⟩; refine ⟨_, rfl, ?_⟩; have n0_ := Aside0.mk (below_step (by repeat (first | (with_reducible first | exact HB.out | apply below_alloc | apply pw_below_drewN | apply below_drew1) | exact HB.out)) hb); clear HB; have HB := n0_; clear n0_; (try clear hb); (try clear hb2); (try clear hk); (try clear hi)) | ((with_reducible refine gate_callee (f := 18) rfl ?_); refine goesL_ (some 19) rfl rfl Tryz.func18 (by kernel_rfl) rfl #[.string a1] rfl (by (try simp only [List.map_toArray, List.map_cons, List.map_nil]); first | done | rfl | (simp only [List.length_drop, List.length_take]; rfl)) ?_; (with_reducible refine (latinerlaw15_short.calls a1 t228 _ A5.out).mono ?_); rintro e w79 ⟨rfl, hb⟩; refine ⟨_, rfl, ?_⟩; have n0_ := Aside0.mk (below_step (by repeat (first | (with_reducible first | exact HB.out | apply below_alloc | apply pw_below_drewN | apply below_drew1) | exact HB.out)) hb); clear HB; have HB := n0_; clear n0_; (try clear hb); (try clear hb2); (try clear hk); (try clear hi)) | ((with_reducible refine gate_callee (f := 19) rfl ?_); refine goesL_ (some 23) rfl rfl Tryz.func19 (by kernel_rfl) rfl #[.string t227, .string t228] rfl (by (try simp only [List.map_toArray, List.map_cons, List.map_nil]); first | done | rfl | (simp only [List.length_drop, List.length_take]; rfl)) ?_; (with_reducible refine (fold_Item.calls t227 t228 t229 t230 _ ?side1 A6.out).mono ?_); (case side1 => exact GW.below hG (by repeat (first | (with_reducible first | exact HB.out | apply below_alloc | apply pw_below_drewN | apply below_drew1) | exact HB.out))); rintro e w80 ⟨rfl, hb⟩; refine ⟨_, rfl, ?_⟩; have n0_ := Aside0.mk (below_step (by repeat (first | (with_reducible first | exact HB.out | apply below_alloc | apply pw_below_drewN | apply below_drew1) | exact HB.out)) hb); clear HB; have HB := n0_; clear n0_; (try clear hb); (try clear hb2); (try clear hk); (try clear hi)))
        go_ret
        exact ⟨by first | rfl | (simp [errW_none, errW_some] <;> rfl) | (simp [*, errW_none, errW_some] <;> rfl), by repeat (first | (with_reducible first | exact HB.out | apply below_alloc | apply pw_below_drewN | apply below_drew1) | exact HB.out)⟩
    · replace c71 := Bool.eq_false_iff.mpr c71
      subst c71
      have H1 : (some false) = some r := by rw [if_neg (show ¬ (false = true) by decide)] at H; exact H
      clear H
      have H := H1
      clear H1
      obtain rfl := Option.some.inj H
      go_enter Tryz.func6, Tryz.ntmps6
      go_wp2_with (first | ((with_reducible refine gate_callee (f := 11) rfl ?_); refine goesL_ (some 15) rfl rfl Tryz.func11 (by kernel_rfl) rfl #[] rfl (by (try simp only [List.map_toArray, List.map_cons, List.map_nil]); first | done | rfl | (simp only [List.length_drop, List.length_take]; rfl)) ?_; (with_reducible refine (latinerlaw15_shown.calls k  false _ ?side1 A3.out).mono ?_); (case side1 => exact GW.below hG (by repeat (first | (with_reducible first | exact HB.out | apply below_alloc | apply pw_below_drewN | apply below_drew1) | exact HB.out))); rintro e w81 ⟨rfl, hb⟩; refine ⟨_, rfl, ?_⟩; have n0_ := Aside0.mk (below_step (by repeat (first | (with_reducible first | exact HB.out | apply below_alloc | apply pw_below_drewN | apply below_drew1) | exact HB.out)) hb); clear HB; have HB := n0_; clear n0_; (try clear hb); (try clear hb2); (try clear hk); (try clear hi)) | ((with_reducible refine gate_callee (f := 18) rfl ?_); refine goesL_ (some 17) rfl rfl Tryz.func18 (by kernel_rfl) rfl #[.string a0] rfl (by (try simp only [List.map_toArray, List.map_cons, List.map_nil]); first | done | rfl | (simp only [List.length_drop, List.length_take]; rfl)) ?_; (with_reducible refine (latinerlaw15_short.calls a0 t227 _ A4.out).mono ?_); rintro e w82 ⟨rfl, hb⟩; refine ⟨_, rfl, ?_⟩; have n0_ := Aside0.mk (below_step (by repeat (first | (with_reducible first | exact HB.out | apply below_alloc | apply pw_below_drewN | apply below_drew1) | exact HB.out)) hb); clear HB; have HB := n0_; clear n0_; (try clear hb); (try clear hb2); (try clear hk); (try clear hi)) | ((with_reducible refine gate_callee (f := 18) rfl ?_); refine goesL_ (some 19) rfl rfl Tryz.func18 (by kernel_rfl) rfl #[.string a1] rfl (by (try simp only [List.map_toArray, List.map_cons, List.map_nil]); first | done | rfl | (simp only [List.length_drop, List.length_take]; rfl)) ?_; (with_reducible refine (latinerlaw15_short.calls a1 t228 _ A5.out).mono ?_); rintro e w83 ⟨rfl, hb⟩; refine ⟨_, rfl, ?_⟩; have n0_ := Aside0.mk (below_step (by repeat (first | (with_reducible first | exact HB.out | apply below_alloc | apply pw_below_drewN | apply below_drew1) | exact HB.out)) hb); clear HB; have HB := n0_; clear n0_; (try clear hb); (try clear hb2); (try clear hk); (try clear hi)) | ((with_reducible refine gate_callee (f := 19) rfl ?_); refine goesL_ (some 23) rfl rfl Tryz.func19 (by kernel_rfl) rfl #[.string t227, .string t228] rfl (by (try simp only [List.map_toArray, List.map_cons, List.map_nil]); first | done | rfl | (simp only [List.length_drop, List.length_take]; rfl)) ?_; (with_reducible refine (fold_Item.calls t227 t228 t229 t230 _ ?side1 A6.out).mono ?_); (case side1 => exact GW.below hG (by repeat (first | (with_reducible first | exact HB.out | apply below_alloc | apply pw_below_drewN | apply below_drew1) | exact HB.out))); rintro e w84 ⟨rfl, hb⟩; refine ⟨_, rfl, ?_⟩; have n0_ := Aside0.mk (below_step (by repeat (first | (with_reducible first | exact HB.out | apply below_alloc | apply pw_below_drewN | apply below_drew1) | exact HB.out)) hb); clear HB; have HB := n0_; clear n0_; (try clear hb); (try clear hb2); (try clear hk); (try clear hi)))
      go_ret
      exact ⟨by first | rfl | (simp [errW_none, errW_some] <;> rfl) | (simp [*, errW_none, errW_some] <;> rfl), by repeat (first | (with_reducible first | exact HB.out | apply below_alloc | apply pw_below_drewN | apply below_drew1) | exact HB.out)⟩

/-- THE ONE PURE STATEMENT of latinerlaw15_FoldRead: yours. -/
def latinerlaw15_FoldRead.Pure : Prop := ∀ (a0 : ByteArray) (a1 : ByteArray), a0.size ≤ 140737488351232 → a1.size ≤ 140737488351232 → ∃ k, latinerlaw15_FoldRead.f k a0 a1 = some true
theorem latinerlaw15_FoldRead.walk (P : latinerlaw15_FoldRead.Pure) (a0 : ByteArray) (a1 : ByteArray) (w : World) (w0 : a0.size ≤ 140737488351232) (w1 : a1.size ≤ 140737488351232) (hG : GW w) :
    Calls Tryz.prog 6 #[.string a0, .string a1] w fun e w' => e = .returned (.bool true) ∧ Below w.heap.size w w' := by
  obtain ⟨k, h⟩ := P a0 a1 w0 w1
  refine (latinerlaw15_FoldRead.calls k a0 a1 true w hG h).mono ?_
  rintro e w' ⟨rfl, hd⟩
  exact ⟨rfl, hd⟩

end Go.Proofs.YtjnfoocmilbdlaaGreatDoor.LFold
/- What is unfolded of what is folded, of two texts, of a text behind a note, of one whose rows end with 0d 0a. No program in sight. -/
namespace Go.Proofs.YtjnfoocmilbdlaaGreatDoor
set_option linter.unusedSimpArgs false
set_option linter.unusedVariables false
namespace Fold
open Go.Proofs.YtjnfoocmilbdlaaGreatDoor.Code (Byt)
theorem rows_cons (a b : List Int) (h : (10 : Int) ∉ a) (g : Nat) (hg : (a ++ 10 :: b).length < g) : rowsL g (a ++ 10 :: b) = stripR a :: rowsL (b.length + 1) b := by
  obtain ⟨g, rfl⟩ : ∃ m, g = m + 1 := ⟨g - 1, by omega⟩
  have hc := cutL_app 10 a b h
  have hl : (a ++ 10 :: b).length = a.length + (b.length + 1) := by simp
  obtain ⟨c, r, hr⟩ : ∃ c r, a ++ 10 :: b = c :: r := by cases a <;> exact ⟨_, _, rfl⟩
  rw [hr] at hc ⊢
  simp only [rowsL, hc, if_true]
  rw [rowsL_more g (b.length + 1) b (by omega) (by omega)]
/-- a text's rows -/
def rw_ (l : List Int) : List (List Int) := rowsL (l.length + 1) l
theorem rw_nil : rw_ [] = [] := rfl
theorem rw_cons (a b : List Int) (h : (10 : Int) ∉ a) : rw_ (a ++ 10 :: b) = stripR a :: rw_ b := rows_cons a b h _ (Nat.lt_succ_self _)
theorem strip_ok (a : List Int) (h : (13 : Int) ∉ a) : stripR a = a := by
  unfold stripR
  rw [if_neg]
  intro e
  exact h (List.mem_of_getLast? e)
theorem badRow_not (l : List Int) (h : ∀ x ∈ l, x ≠ 0 ∧ x ≠ 13 ∧ x ≤ 127) : badRow l = false := by
  unfold badRow
  rw [List.any_eq_false]
  intro x hx
  have := h x hx
  simp only [decide_eq_true_eq]
  omega
/-! Folded and unfolded. -/
theorem uAll_cons (r : List Int) (rs ls : List (List Int)) (op : Bool) : uAll (r :: rs) ls op = (uStep ls op r).bind fun p => uAll rs p.1 p.2 := rfl
theorem uStep_more (ls : List (List Int)) (x t : List Int) (h : ∀ y ∈ t, y ≠ 0 ∧ y ≠ 13 ∧ y ≤ 127) : uStep (ls ++ [x]) true (32 :: t) = some (ls ++ [x ++ t], true) := by
  unfold uStep
  rw [badRow_not _ (fun y hy => by
    rcases List.mem_cons.1 hy with rfl | q
    · omega
    · exact h y q)]
  simp [addLast]
theorem unf_rest : ∀ (f : Nat) (m x : List Int) (ls : List (List Int)), m.length < f → (∀ y ∈ m, y ≠ 0 ∧ y ≠ 10 ∧ y ≠ 13 ∧ y ≤ 127) →
    uAll (rw_ (32 :: foldR f 75 m)) (ls ++ [x]) true = some (ls ++ [x ++ m], true)
  | 0, _, _, _, h, _ => absurd h (Nat.not_lt_zero _)
  | f + 1, m, x, ls, hf, hm => by
    have ht : ∀ y ∈ m.take 75, y ≠ 0 ∧ y ≠ 10 ∧ y ≠ 13 ∧ y ≤ 127 := fun y hy => hm y (List.mem_of_mem_take hy)
    have h10 : (10 : Int) ∉ 32 :: m.take 75 := fun e => by
      rcases List.mem_cons.1 e with q | q
      · omega
      · exact (ht _ q).2.1 rfl
    have h13 : (13 : Int) ∉ 32 :: m.take 75 := fun e => by
      rcases List.mem_cons.1 e with q | q
      · omega
      · exact (ht _ q).2.2.1 rfl
    simp only [foldR]
    have e : (32 : Int) :: (m.take 75 ++ [10] ++ if m.drop 75 = [] then [] else 32 :: foldR f 75 (m.drop 75)) = (32 :: m.take 75) ++ 10 :: (if m.drop 75 = [] then [] else 32 :: foldR f 75 (m.drop 75)) := by simp
    rw [e, rw_cons _ _ h10, strip_ok _ h13, uAll_cons, uStep_more ls x _ (fun y hy => ⟨(ht y hy).1, (ht y hy).2.2.1, (ht y hy).2.2.2⟩), Option.bind_some]
    by_cases hd : m.drop 75 = []
    · rw [if_pos hd, rw_nil]
      have hl : (m.drop 75).length = m.length - 75 := List.length_drop
      rw [hd] at hl
      rw [List.take_of_length_le (by simp only [List.length_nil] at hl; omega)]
      rfl
    · have hl : (m.drop 75).length = m.length - 75 := List.length_drop
      have h3 : 0 < (m.drop 75).length := List.length_pos_iff.2 hd
      rw [if_neg hd, unf_rest f (m.drop 75) (x ++ m.take 75) ls (by omega) (fun y hy => hm y (List.mem_of_mem_drop hy)), List.append_assoc, List.take_append_drop]
def headOk (l : List Int) : Prop := ∀ c r, l = c :: r → c ≠ 32 ∧ c ≠ 35
theorem unf_fold (l : List Int) (hl : ∀ y ∈ l, y ≠ 0 ∧ y ≠ 10 ∧ y ≠ 13 ∧ y ≤ 127) (h0 : headOk l) : unfO (foldL l) = some [l] := by
  have ht : ∀ y ∈ l.take 76, y ≠ 0 ∧ y ≠ 10 ∧ y ≠ 13 ∧ y ≤ 127 := fun y hy => hl y (List.mem_of_mem_take hy)
  have h10 : (10 : Int) ∉ l.take 76 := fun e => (ht _ e).2.1 rfl
  have h13 : (13 : Int) ∉ l.take 76 := fun e => (ht _ e).2.2.1 rfl
  have key : ∃ op, uAll (rw_ (foldL l)) [] false = some ([l], op) := by
    unfold foldL
    simp only [foldR]
    rw [List.append_assoc, show [(10 : Int)] ++ (if l.drop 76 = [] then [] else 32 :: foldR l.length 75 (l.drop 76)) = 10 :: (if l.drop 76 = [] then [] else 32 :: foldR l.length 75 (l.drop 76)) from rfl,
      rw_cons _ _ h10, strip_ok _ h13, uAll_cons]
    have hb := badRow_not (l.take 76) (fun y hy => ⟨(ht y hy).1, (ht y hy).2.2.1, (ht y hy).2.2.2⟩)
    cases hq : l with
    | nil => exact ⟨_, rfl⟩
    | cons c r =>
      have hc := h0 c r hq
      have hs : uStep [] false (l.take 76) = some ([l.take 76], true) := by
        unfold uStep
        rw [hb, if_neg (by decide), hq]
        simp only [List.take_succ_cons]
        rw [if_neg hc.1]
        rfl
      rw [← hq, hs, Option.bind_some]
      by_cases hd : l.drop 76 = []
      · rw [if_pos hd, rw_nil]
        have hl : (l.drop 76).length = l.length - 76 := List.length_drop
        rw [hd] at hl
        rw [List.take_of_length_le (by simp only [List.length_nil] at hl; omega)]
        exact ⟨_, rfl⟩
      · have hl2 : (l.drop 76).length = l.length - 76 := List.length_drop
        have h3 : 0 < (l.drop 76).length := List.length_pos_iff.2 hd
        rw [if_neg hd]
        have := unf_rest l.length (l.drop 76) (l.take 76) [] (by omega) (fun y hy => hl y (List.mem_of_mem_drop hy))
        rw [List.take_append_drop] at this
        exact ⟨_, this⟩
  obtain ⟨op, key⟩ := key
  unfold unfO
  have hk : uAll (rowsL ((foldL l).length + 1) (foldL l)) [] false = some ([l], op) := key
  rw [hk]
  have hn : noteB l = false := by
    cases hq : l with
    | nil => rfl
    | cons c r => exact decide_eq_false (h0 c r hq).2
  simp [hn]
/-- lengths -/
theorem foldR_len : ∀ (f w : Nat) (l : List Int), 1 ≤ w → (foldR f w l).length ≤ 3 * l.length + 1
  | 0, _, _, _ => Nat.zero_le _
  | f + 1, w, l, hw => by
    have ih := foldR_len f 75 (l.drop w) (by omega)
    have hl : (l.drop w).length = l.length - w := List.length_drop
    have ht : (l.take w).length = min w l.length := List.length_take
    simp only [foldR, List.length_append, List.length_cons, List.length_nil]
    by_cases hd : l.drop w = []
    · rw [if_pos hd]; simp only [List.length_nil]; omega
    · have h3 : 0 < (l.drop w).length := List.length_pos_iff.2 hd
      rw [if_neg hd]; simp only [List.length_cons]
      omega
theorem foldR_byt : ∀ (f w : Nat) (l : List Int), Byt l → Byt (foldR f w l)
  | 0, _, _, _ => fun x hx => by cases hx
  | f + 1, w, l, h => by
    have ih := foldR_byt f 75 (l.drop w) (fun x hx => h x (List.mem_of_mem_drop hx))
    intro x hx
    simp only [foldR] at hx
    rcases List.mem_append.1 hx with q | q
    · rcases List.mem_append.1 q with q | q
      · exact h x (List.mem_of_mem_take q)
      · simp at q; omega
    · by_cases hd : l.drop w = []
      · rw [if_pos hd] at q; cases q
      · rw [if_neg hd] at q
        rcases List.mem_cons.1 q with q | q
        · omega
        · exact ih x q
/-! A line kept apart from what follows it. -/
/-! Rows that end with 0d 0a. -/
end Fold
end Go.Proofs.YtjnfoocmilbdlaaGreatDoor
namespace Go.Proofs.YtjnfoocmilbdlaaGreatDoor.Pure
set_option linter.unusedSimpArgs false
set_option linter.unusedVariables false
open Go.RowKit Go.Proofs.YtjnfoocmilbdlaaGreatDoor.LFold Go.Proofs.YtjnfoocmilbdlaaGreatDoor.ExtFold Go.Proofs.YtjnfoocmilbdlaaGreatDoor.Fold Go.Proofs.YtjnfoocmilbdlaaGreatDoorW.PrintWords Go.Proofs.YtjnfoocmilbdlaaGreatDoorW.PrintLast Go.Proofs.YtjnfoocmilbdlaaGreatDoor.PureB
open Go.Proofs.YtjnfoocmilbdlaaGreatDoor.Code (bl bl_len bl_get bl_byte Byt bl_son son_bl bl_append)
set_option maxRecDepth 100000 in
theorem shown_10 : latinerlaw15_shown.f 10 = some true := by decide +kernel
theorem shown_true : ∀ n : Nat, latinerlaw15_shown.f (10 + n) = some true
  | 0 => shown_10
  | n + 1 => latinerlaw15_shown.mono (10 + n) _ (shown_true n)
theorem shown_k (k : Nat) (h : 10 ≤ k) : latinerlaw15_shown.f k = some true := by
  have := shown_true (k - 10)
  rwa [show 10 + (k - 10) = k by omega] at this
theorem texts_go (l : List ByteArray) (hl : l.length ≤ 1000000) (d : Nat) : ∀ (k j : Nat), l.length = j + d → d < k → latinerref08_Texts.l0 k l l (j : Int) = some true := by
  induction d with
  | zero =>
    intro k j hj hk
    obtain ⟨k, rfl⟩ : ∃ m, k = m + 1 := ⟨k - 1, by omega⟩
    conv => lhs; rw [latinerref08_Texts.l0]
    rw [if_neg (by omega)]
  | succ d ih =>
    intro k j hj hk
    obtain ⟨k, rfl⟩ : ∃ m, k = m + 1 := ⟨k - 1, by omega⟩
    conv => lhs; rw [latinerref08_Texts.l0]
    rw [if_pos (by omega), if_pos (by omega), if_pos (by omega), if_pos rfl, w64 (by omega) (by omega)]
    exact ih k (j + 1) (by omega) (by omega)
theorem texts_refl (l : List ByteArray) (hl : l.length ≤ 1000000) (k : Nat) (hk : l.length < k) : latinerref08_Texts.f k l l = some true := by
  unfold latinerref08_Texts.f
  rw [if_pos rfl]
  exact texts_go l hl l.length k 0 (by omega) hk
theorem fold_f (s : ByteArray) (h : s.size ≤ 100000) : fold_Fold.f s = some (strOfNums (fdV (bl s)), fdE (bl s)) := if_pos h
theorem unfold_f (s : ByteArray) (h : s.size ≤ 100000) : fold_Unfold.f s = some ((unfL (bl s)).map strOfNums, unfE (bl s)) := if_pos h
theorem item_f (n v : ByteArray) (h1 : n.size ≤ 100000) (h2 : v.size ≤ 100000) : fold_Item.f n v = some (itS n v, itE n) := if_pos ⟨h1, h2⟩
theorem read_f (s : ByteArray) (h : s.size ≤ 100000) : fold_ReadItem.f s = some (rdName (riR (bl s)), rdVal (riR (bl s)), rdErr (riR (bl s))) := if_pos h
theorem cut_of (s : ByteArray) (m : Int) (h0 : 0 ≤ m) : 0 ≤ mn (s.size : Int) m ∧ mn (s.size : Int) m ≤ s.size ∧ mn (s.size : Int) m ≤ m := by
  unfold mn; split <;> omega
theorem cut_sz (s : ByteArray) (m : Nat) : (s.extract 0 (mn (s.size : Int) m).toNat).size ≤ m := by
  have := cut_of s m (by omega)
  rw [ByteArray.size_extract]
  omega
theorem unf_small (l : List Int) (h : l.length ≤ 8000) : unfL l = (unfO l).getD [] ∧ unfE l = if (unfO l).isSome then 0 else 150 := by
  unfold unfL unfE
  rw [if_neg (by omega), if_neg (by omega)]
  exact ⟨rfl, rfl⟩
theorem unf_some {l : List Int} {o : List (List Int)} (h : l.length ≤ 8000) (ho : unfO l = some o) : unfL l = o ∧ unfE l = 0 := by
  have := unf_small l h
  rw [ho] at this
  exact this
end Go.Proofs.YtjnfoocmilbdlaaGreatDoor.Pure
/- What is read of an item's line, and of a line with a value's base64. No program in sight. -/
namespace Go.Proofs.YtjnfoocmilbdlaaGreatDoor
set_option linter.unusedSimpArgs false
set_option linter.unusedVariables false
namespace Fold
open Go.RowKit Go.Proofs.YtjnfoocmilbdlaaGreatDoorW.PrintWords Go.Proofs.YtjnfoocmilbdlaaGreatDoor.PureB Go.Proofs.YtjnfoocmilbdlaaGreatDoor.Utf
open Go.Proofs.YtjnfoocmilbdlaaGreatDoor.Code (bl bl_len bl_get bl_byte Byt bl_son son_bl bl_append baseL baseL_len unbL b64 b64_byte unb_base)
def okB (b : Int) : Prop := b ≠ 0 ∧ b ≤ 127 ∧ b ≠ 10 ∧ b ≠ 13
theorem idx_frm (s : ByteArray) : ∀ (f pos : Nat), s.size ≤ pos + f → (0 ≤ Lib.idxFuncFrom pOther true s f pos ↔ ∃ j : Nat, pos ≤ j ∧ j < s.size ∧ ¬ okB (bt s j))
  | 0, pos, h => ⟨fun q => by simp [Lib.idxFuncFrom] at q, fun ⟨j, h1, h2, _⟩ => by omega⟩
  | f + 1, pos, h => by
    unfold Lib.idxFuncFrom
    by_cases hp : pos < s.size
    · rw [if_pos hp]
      by_cases ha : (s[pos]'hp).toNat < 128
      · rw [decode_ascii s pos hp ha]
        have hb : bt s pos = ((s[pos]'hp).toNat : Int) := bt_nat s pos hp
        simp only
        have ih := idx_frm s f (pos + 1) (by omega)
        by_cases ho : okB (bt s pos)
        · rw [if_neg (by unfold okB at ho; rw [hb] at ho; simp [pOther]; omega), ih]
          constructor
          · rintro ⟨j, h1, h2⟩; exact ⟨j, by omega, h2⟩
          · rintro ⟨j, h1, h2, h3⟩
            refine ⟨j, ?_, h2, h3⟩
            rcases Nat.lt_or_ge pos j with h4 | h4
            · exact h4
            · obtain rfl : j = pos := by omega
              exact absurd ho h3
        · rw [if_pos (by unfold okB at ho; rw [hb] at ho; simp [pOther]; omega)]
          exact ⟨fun _ => ⟨pos, Nat.le_refl _, hp, ho⟩, fun _ => by omega⟩
      · have hd := decode_high s pos hp (by omega)
        have hb : bt s pos = ((s[pos]'hp).toNat : Int) := bt_nat s pos hp
        rw [if_pos (by simp [pOther]; omega)]
        exact ⟨fun _ => ⟨pos, Nat.le_refl _, hp, fun ho => by unfold okB at ho; omega⟩, fun _ => by omega⟩
    · rw [if_neg hp]
      exact ⟨fun q => by omega, fun ⟨j, h1, h2, _⟩ => by omega⟩
theorem pre_one (s : ByteArray) (b : UInt8) : Lib.hasPrefix s.data.toList [b] = true ↔ 0 < s.size ∧ bt s 0 = (b.toNat : Int) := by
  unfold Lib.hasPrefix
  rcases hs : s.data.toList with _ | ⟨x, r⟩
  · have : s.size = 0 := by have := congrArg List.length hs; rw [Array.length_toList] at this; exact this
    simp [List.isPrefixOf, this]
  · have hsz : 0 < s.size := by have := congrArg List.length hs; rw [Array.length_toList] at this; show 0 < s.data.size; rw [this, List.length_cons]; omega
    have hx : bt s ((0 : Nat) : Int) = (x.toNat : Int) := by
      rw [bt_nat s 0 hsz]
      have h0 : s.data.toList[0]? = some x := by rw [hs]; rfl
      have h1 : s.data[0]'hsz = x := by
        rw [Array.getElem?_toList, Array.getElem?_eq_getElem hsz] at h0
        exact Option.some.inj h0
      show ((s.data[0]'hsz).toNat : Int) = _
      rw [h1]
    simp only [List.isPrefixOf, Bool.and_true, beq_iff_eq]
    have hx' : bt s 0 = (x.toNat : Int) := hx
    rw [hx']
    constructor
    · rintro rfl; exact ⟨hsz, rfl⟩
    · rintro ⟨_, h⟩; exact UInt8.toNat_inj.1 (by omega)
theorem suf_one (s : ByteArray) (b : UInt8) : Lib.hasSuffix s.data.toList [b] = true ↔ 0 < s.size ∧ bt s ((s.size : Int) - 1) = (b.toNat : Int) := by
  unfold Lib.hasSuffix
  rw [List.isSuffixOf_iff_suffix]
  have hlen : s.data.toList.length = s.size := Array.length_toList
  have get : ∀ (j : Nat) (h : j < s.size), s.data.toList[j]? = some (s[j]'h) := fun j h => by rw [Array.getElem?_toList]; exact Array.getElem?_eq_getElem h
  constructor
  · rintro ⟨t, ht⟩
    have hl := congrArg List.length ht
    rw [hlen, List.length_append] at hl
    simp at hl
    have hsz : 0 < s.size := by omega
    refine ⟨hsz, ?_⟩
    rw [show (s.size : Int) - 1 = ((s.size - 1 : Nat) : Int) by omega, bt_nat s (s.size - 1) (by omega)]
    have h2 : ∀ (m : Nat) (hm : m < s.size), m = t.length → s[m]'hm = b := by
      rintro m hm rfl
      have h1 := get _ hm
      rw [← ht, List.getElem?_append_right (by omega)] at h1
      simpa using h1.symm
    rw [h2 (s.size - 1) (by omega) (by omega)]
  · rintro ⟨hsz, h⟩
    rw [show (s.size : Int) - 1 = ((s.size - 1 : Nat) : Int) by omega, bt_nat s (s.size - 1) (by omega)] at h
    have h2 : s[s.size - 1]'(by omega) = b := UInt8.toNat_inj.1 (by omega)
    refine ⟨s.data.toList.take (s.size - 1), ?_⟩
    apply List.ext_getElem?
    intro j
    by_cases hj : j < s.size - 1
    · rw [List.getElem?_append_left (by simp; omega), List.getElem?_take, if_pos hj]
    · rw [List.getElem?_append_right (by simp; omega)]
      have hll : (s.data.toList.take (s.size - 1)).length = s.size - 1 := by rw [List.length_take, hlen]; omega
      rw [hll]
      by_cases hj2 : j = s.size - 1
      · subst hj2
        rw [get _ (by omega), h2]
        simp
      · rw [List.getElem?_eq_none (by simp; omega), List.getElem?_eq_none (by rw [hlen]; omega)]
/-- What a safe text is. -/
def Safe (s : ByteArray) : Prop := (∀ j : Nat, j < s.size → okB (bt s j)) ∧ (0 < s.size → bt s 0 ≠ 32 ∧ bt s 0 ≠ 58 ∧ bt s 0 ≠ 60 ∧ bt s ((s.size : Int) - 1) ≠ 32)
theorem sfV_iff (s : ByteArray) : sfV s = true ↔ Safe s := by
  have h0 : decide (0 ≤ Lib.idxFunc pOther true s) = false ↔ ∀ j : Nat, j < s.size → okB (bt s j) := by
    rw [decide_eq_false_iff_not]
    have := idx_frm s s.size 0 (by omega)
    unfold Lib.idxFunc
    rw [this]
    constructor
    · intro h j hj
      by_cases ho : okB (bt s j)
      · exact ho
      · exact absurd ⟨j, Nat.zero_le _, hj, ho⟩ h
    · rintro h ⟨j, _, hj, ho⟩; exact ho (h j hj)
  have h1 := pre_one s 32
  have h2 := pre_one s 58
  have h3 := pre_one s 60
  have h4 := suf_one s 32
  have e1 : (((32 : UInt8).toNat : Nat) : Int) = 32 := rfl
  have e2 : (((58 : UInt8).toNat : Nat) : Int) = 58 := rfl
  have e3 : (((60 : UInt8).toNat : Nat) : Int) = 60 := rfl
  rw [e1] at h1 h4
  rw [e2] at h2
  rw [e3] at h3
  unfold sfV noneB Safe
  rw [Bool.not_eq_true', Bool.or_eq_false_iff, Bool.or_eq_false_iff, Bool.or_eq_false_iff, Bool.or_eq_false_iff, h0, Bool.eq_false_iff, Bool.eq_false_iff, Bool.eq_false_iff, Bool.eq_false_iff, Ne, Ne, Ne, Ne, h1, h2, h3, h4]
  constructor
  · rintro ⟨⟨⟨⟨a, b⟩, c⟩, d⟩, e⟩
    exact ⟨a, fun hs => ⟨fun q => b ⟨hs, q⟩, fun q => c ⟨hs, q⟩, fun q => d ⟨hs, q⟩, fun q => e ⟨hs, q⟩⟩⟩
  · rintro ⟨a, b⟩
    exact ⟨⟨⟨⟨a, fun q => (b q.1).1 q.2⟩, fun q => (b q.1).2.1 q.2⟩, fun q => (b q.1).2.2.1 q.2⟩, fun q => (b q.1).2.2.2 q.2⟩

theorem baseL_ch : ∀ (l : List Int), Byt l → ∀ y ∈ baseL l, 43 ≤ y ∧ y ≤ 122
  | [], _ => by intro y hy; simp [baseL] at hy
  | [a], h => by
    have ha := h a (by simp)
    have b1 := b64_byte (a / 4) (by omega) (by omega)
    have b2 := b64_byte (a % 4 * 16) (by omega) (by omega)
    intro y hy
    simp [baseL] at hy
    rcases hy with rfl | rfl | rfl <;> omega
  | [a, b], h => by
    have ha := h a (by simp)
    have hb := h b (by simp)
    have b1 := b64_byte (a / 4) (by omega) (by omega)
    have b2 := b64_byte (a % 4 * 16 + b / 16) (by omega) (by omega)
    have b3 := b64_byte (b % 16 * 4) (by omega) (by omega)
    intro y hy
    simp [baseL] at hy
    rcases hy with rfl | rfl | rfl | rfl <;> omega
  | a :: b :: c :: r, h => by
    have ha := h a (by simp)
    have hb := h b (by simp)
    have hc := h c (by simp)
    have b1 := b64_byte (a / 4) (by omega) (by omega)
    have b2 := b64_byte (a % 4 * 16 + b / 16) (by omega) (by omega)
    have b3 := b64_byte (b % 16 * 4 + c / 64) (by omega) (by omega)
    have b4 := b64_byte (c % 64) (by omega) (by omega)
    intro y hy
    simp only [baseL] at hy
    rcases List.mem_append.1 hy with q | q
    · simp at q
      rcases q with rfl | rfl | rfl | rfl <;> omega
    · exact baseL_ch r (fun x hx => h x (by simp [hx])) y q
theorem nm_facts (l : List Int) (h : nmB l = true) : l ≠ [] ∧ (∀ x ∈ l, 33 ≤ x ∧ x ≤ 126 ∧ x ≠ 58) ∧ headOk l ∧ (58 : Int) ∉ l := by
  cases l with
  | nil => cases h
  | cons c r =>
    simp only [nmB, Bool.and_eq_true, decide_eq_true_eq, List.all_eq_true] at h
    refine ⟨by simp, h.2, fun c' r' e => ?_, fun e => (h.2 _ e).2.2 rfl⟩
    obtain ⟨rfl, _⟩ := List.cons.inj e
    have := h.2 c (by simp)
    exact ⟨by omega, h.1⟩
theorem blanks_not (l : List Int) (h : ∀ c r, l = c :: r → c ≠ 32) : blanks l = l := by
  cases l with
  | nil => rfl
  | cons c r => simp only [blanks]; rw [if_neg (h c r rfl)]
/-- blanks ahead do not count -/
theorem blanks_rep (n : Nat) (l : List Int) : blanks (List.replicate n 32 ++ l) = blanks l := by
  induction n with
  | zero => rfl
  | succ n ih => rw [List.replicate_succ, List.cons_append]; simp only [blanks, if_true]; exact ih
theorem safe_bl (v : ByteArray) (h : sfV v = true) : (∀ x ∈ bl v, okB x) ∧ blanks (bl v) = bl v := by
  have hs := (sfV_iff v).1 h
  refine ⟨fun x hx => ?_, blanks_not _ fun c r e => ?_⟩
  · obtain ⟨i, hi, rfl⟩ := List.mem_iff_getElem.1 hx
    rw [bl_len] at hi
    have h1 := hs.1 i hi
    have h2 := bl_get v i hi
    rw [(List.getElem?_eq_some_iff.1 h2).2]
    exact h1
  · have hp : 0 < v.size := by rw [← bl_len, e]; simp
    have h2 := bl_get v 0 hp
    rw [e] at h2
    simp only [List.getElem?_cons_zero, Option.some.injEq] at h2
    rw [h2]
    exact (hs.2 hp).1
theorem sfV_nil : sfV ⟨#[]⟩ = true := (sfV_iff _).2 ⟨fun j hj => absurd hj (Nat.not_lt_zero _), fun h => absurd h (Nat.lt_irrefl 0)⟩
/-- a line of a name, ::, blanks, base64 -/
theorem ri_base (a v : List Int) (k : Nat) (ha : a ≠ []) (h58 : (58 : Int) ∉ a) (hv : Byt v) : riR (a ++ 58 :: 58 :: (List.replicate k 32 ++ baseL v)) = .ok (a, v) := by
  have hc := cutL_app 58 a (58 :: (List.replicate k 32 ++ baseL v)) h58
  have hb : blanks (baseL v) = baseL v := blanks_not _ fun c r e => by
    have := baseL_ch v hv c (by rw [e]; simp)
    omega
  unfold riR
  rw [hc]
  simp only [ha, or_false, Bool.true_eq_false, if_false, st60, unC, if_true, decide_eq_true_eq, blanks_rep, hb, unb_base v hv]
  rfl
theorem item_bl (n v : ByteArray) (h : nmB (bl n) = true) :
    riR (bl (itS n v)) = .ok (bl n, bl v) ∧ (∀ y ∈ bl (itS n v), y ≠ 0 ∧ y ≠ 10 ∧ y ≠ 13 ∧ y ≤ 127) ∧ headOk (bl (itS n v)) ∧ (itS n v).size ≤ n.size + 3 + 4 * ((v.size + 2) / 3) + v.size := by
  obtain ⟨h0, hx, hh, h58⟩ := nm_facts _ h
  have head : ∀ m : List Int, headOk (bl n ++ m) := fun m c r e => by
    cases hb : bl n with
    | nil => exact absurd hb h0
    | cons c' r' =>
      rw [hb, List.cons_append] at e
      obtain ⟨rfl, _⟩ := List.cons.inj e
      exact hh _ _ hb
  have nok : ∀ y ∈ bl n, y ≠ 0 ∧ y ≠ 10 ∧ y ≠ 13 ∧ y ≤ 127 := fun y hy => by have := hx y hy; omega
  by_cases hz : v.size = 0
  · have hs : itS n v = n ++ ⟨#[58]⟩ := by unfold itS; rw [if_pos h, if_pos hz]
    have hv : bl v = [] := List.eq_nil_of_length_eq_zero (by rw [bl_len]; exact hz)
    have hb : bl (itS n v) = bl n ++ [58] := by rw [hs, bl_append]; rfl
    rw [hb, hv]
    refine ⟨?_, fun y hy => ?_, head _, by rw [hs, ByteArray.size_append]; show n.size + 1 ≤ _; omega⟩
    · unfold riR
      rw [cutL_app 58 (bl n) [] h58]
      simp only [h0, or_false, Bool.true_eq_false, if_false, st60, unC, Bool.false_eq_true, blanks]
      exact if_pos sfV_nil
    · rcases List.mem_append.1 hy with q | q
      · exact nok y q
      · simp at q; omega
  · by_cases hs0 : sfV v = true
    · have hs : itS n v = (n ++ ⟨#[58, 32]⟩) ++ v := by unfold itS; rw [if_pos h, if_neg hz, if_pos hs0]
      have hb : bl (itS n v) = bl n ++ 58 :: 32 :: bl v := by rw [hs, bl_append, bl_append]; show (bl n ++ [58, 32]) ++ bl v = _; simp
      obtain ⟨s1, s2⟩ := safe_bl v hs0
      rw [hb]
      refine ⟨?_, fun y hy => ?_, head _, by rw [hs, ByteArray.size_append, ByteArray.size_append]; show n.size + 2 + v.size ≤ _; omega⟩
      · unfold riR
        rw [cutL_app 58 (bl n) _ h58]
        simp only [h0, or_false, Bool.true_eq_false, if_false, st60, unC, blanks, if_true, s2, son_bl, hs0]
        rfl
      · rcases List.mem_append.1 hy with q | q
        · exact nok y q
        · rcases List.mem_cons.1 q with q | q
          · omega
          · rcases List.mem_cons.1 q with q | q
            · omega
            · have := s1 y q
              unfold okB at this
              omega
    · have hs : itS n v = (n ++ ⟨#[58, 58, 32]⟩) ++ strOfNums (baseL (bl v)) := by unfold itS; rw [if_pos h, if_neg hz, if_neg hs0]
      have hc := baseL_ch (bl v) (bl_byte v)
      have hb : bl (itS n v) = bl n ++ 58 :: 58 :: (List.replicate 1 32 ++ baseL (bl v)) := by
        rw [hs, bl_append, bl_append, bl_son _ (fun y hy => by have := hc y hy; omega)]; show (bl n ++ [58, 58, 32]) ++ baseL (bl v) = _; simp
      have hl := baseL_len (bl v)
      rw [bl_len] at hl
      rw [hb]
      refine ⟨ri_base _ _ 1 h0 h58 (bl_byte v), fun y hy => ?_, head _, by rw [hs, ByteArray.size_append, ByteArray.size_append, son_size]; show n.size + 3 + (baseL (bl v)).length ≤ _; omega⟩
      rcases List.mem_append.1 hy with q | q
      · exact nok y q
      · simp at q
        rcases q with q | q | q
        · omega
        · omega
        · have := hc y q; omega
end Fold
end Go.Proofs.YtjnfoocmilbdlaaGreatDoor
namespace Go.Proofs.YtjnfoocmilbdlaaGreatDoor.Pure
set_option linter.unusedSimpArgs false
set_option linter.unusedVariables false
open Go.RowKit Go.Proofs.YtjnfoocmilbdlaaGreatDoor.LFold Go.Proofs.YtjnfoocmilbdlaaGreatDoor.ExtFold Go.Proofs.YtjnfoocmilbdlaaGreatDoor.Fold Go.Proofs.YtjnfoocmilbdlaaGreatDoorW.PrintWords Go.Proofs.YtjnfoocmilbdlaaGreatDoorW.PrintLast Go.Proofs.YtjnfoocmilbdlaaGreatDoor.PureB
open Go.Proofs.YtjnfoocmilbdlaaGreatDoor.Code (bl bl_len bl_get bl_byte Byt bl_son son_bl bl_append)
theorem short_400 (s : ByteArray) : ∃ t, latinerlaw15_short.f s = some t ∧ t.size ≤ 400 := by
  have c := cut_of s 400 (by omega)
  have z : (s.extract 0 (mn (s.size : Int) 400).toNat).size ≤ 400 := cut_sz s 400
  unfold latinerlaw15_short.f
  rw [if_pos c.1, if_pos c.2.1]
  exact ⟨_, rfl, z⟩
theorem fold_good (s : ByteArray) (hs : s.size ≤ 2500) (hl : ∀ y ∈ bl s, y ≠ 0 ∧ y ≠ 10 ∧ y ≠ 13 ∧ y ≤ 127) (h0 : headOk (bl s)) :
    fdE (bl s) = 0 ∧ bl (strOfNums (fdV (bl s))) = foldL (bl s) ∧ (foldL (bl s)).length ≤ 7501 ∧ unfL (foldL (bl s)) = [bl s] ∧ unfE (foldL (bl s)) = 0 := by
  have hb : brk (bl s) = false := by
    unfold brk
    rw [List.any_eq_false]
    intro x hx
    have := hl x hx
    simp only [decide_eq_true_eq]
    omega
  have hf : (foldL (bl s)).length ≤ 3 * (bl s).length + 1 := foldR_len _ 76 _ (by omega)
  rw [bl_len] at hf
  have h1 : ¬ (bl s).length > 8000 := by rw [bl_len]; omega
  have hv : fdV (bl s) = foldL (bl s) := by unfold fdV; rw [if_neg h1, hb]; rfl
  have he : fdE (bl s) = 0 := by unfold fdE; rw [if_neg h1, hb]; rfl
  have hu := unf_some (l := foldL (bl s)) (by omega) (unf_fold _ hl h0)
  exact ⟨he, by rw [hv]; exact bl_son _ (foldR_byt _ _ _ (bl_byte s)), by omega, hu.1, hu.2⟩
theorem FoldRead : latinerlaw15_FoldRead.Pure := by
  intro a0 a1 _ _
  obtain ⟨n, hn, zn⟩ := short_400 a0
  obtain ⟨v, hv, zv⟩ := short_400 a1
  refine ⟨100, ?_⟩
  unfold latinerlaw15_FoldRead.f
  rw [shown_k _ (by omega), Option.bind_some, hn, Option.bind_some, hv, Option.bind_some, item_f _ _ (by omega) (by omega), Option.bind_some]
  cases hnm : nmB (bl n) with
  | false =>
    have e1 : itE n = 151 := by unfold itE; rw [hnm]; rfl
    have e2 : itS n v = ⟨#[]⟩ := by unfold itS; rw [hnm]; rfl
    simp only [e1, e2]
    rw [if_neg (by omega), if_pos trivial, if_pos (toList_nil.2 rfl)]
    rfl
  | true =>
    have e1 : itE n = 0 := by unfold itE; rw [hnm]; rfl
    obtain ⟨i1, i2, i3, i4⟩ := item_bl n v hnm
    have hz : (itS n v).size ≤ 2500 := by omega
    obtain ⟨f1, f2, f3, f4, f5⟩ := fold_good _ hz i2 i3
    have hz2 : (strOfNums (fdV (bl (itS n v)))).size ≤ 100000 := by rw [← bl_len, f2]; omega
    simp only [e1]
    rw [if_pos trivial, read_f _ (by omega), Option.bind_some, fold_f _ (by omega), Option.bind_some, unfold_f _ hz2, Option.bind_some, f2, f4, f5, i1]
    have r1 : rdName (.ok (bl n, bl v)) = n := son_bl n
    have r2 : rdVal (.ok (bl n, bl v)) = v := son_bl v
    have r3 : rdErr (.ok (bl n, bl v)) = 0 := rfl
    have r4 : [bl (itS n v)].map strOfNums = [itS n v] := by rw [List.map_cons, son_bl]; rfl
    simp only [r1, r2, r3, r4, f1]
    rw [if_pos trivial, if_pos trivial, if_pos trivial, if_pos trivial, if_pos trivial, if_pos trivial, texts_refl _ (by simp) _ (by simp)]
    rfl
end Go.Proofs.YtjnfoocmilbdlaaGreatDoor.Pure
/- A claim's hand-over whose walk may also use that the start is shaped: the cell of a package-level variable that the rows do not list is still of its type. -/
namespace Go.Proofs.YtjnfoocmilbdlaaGreatDoor
set_option linter.unusedSimpArgs false
set_option linter.unusedVariables false
namespace HandSh
open Go.RowKit Go.ChangeShapes Go.WideShapes Go.ChangeAt
theorem handed_shaped {H : Type} {enc : TypeId × Value → H} {a : Assume} {C : Checked} {os : Os} {f : FuncId} {fn : Func} {s : ChangeSpec} {conds : List PathCond} {apart fresh handsOn again : Bool} {X : World → Array Value → Prop}
    (hX : ∀ (w w' : World) (args : Array Value), w.heap = w'.heap → X w args → X w' args)
    (own : ownKnob C.prog.godebug = none) (started : os.Started) (noInit : C.prog.inits.idxOf? f = none) (hfn : C.prog.funcs[f]? = some fn)
    (witness : ∃ (w : World) (tape : Tape) (i : Input), w.os = os ∧ (w.forCall tape i).Shaped C.prog ∧ i.vars = [] ∧ Input.okWide C.prog (w.forCall tape i) .any w.heap.size f i ∧
      ((s.pre enc C.prog fn conds apart (w.forCall tape i).memory i.args ∧ X (w.forCall tape i).memory i.args) ∧ sizedMet enc C.prog fn (OpenSpec.ofChange s) apart (w.forCall tape i).memory i.args) ∧ a.holds C.prog (lone (Frame.enter C.prog f i.args .normal) [] (w.forCall tape i)))
    (contract : ∀ (W : World) (base : Nat) (args : Array Value) (ds gs : List (DataW H)) (before : List MemPlace), W.ShapedOpen C.prog →
      (∀ (j : Nat) t v, fn.params[j]? = some t → args[j]? = some v → Value.okWide C.prog W .any base t v) →
      DataW.Whole enc C.prog fn.params.toList s.vars apart W args.toList ds gs before →
      (DataW.weightsEach C.prog (fn.params.toList ++ s.plain.varTypes C.prog) (ds ++ gs)).all (· ≤ reachBytes) = true → X W args →
      Calls C.prog f args W fun e W' => ∃ v, e = .returned v ∧ s.post enc C.prog fn apart fresh handsOn again W args v W') :
    ReturnsInHanded a C os f .any (fun w args => (s.pre enc C.prog fn conds apart w args ∧ X w args) ∧ sizedMet enc C.prog fn (OpenSpec.ofChange s) apart w args) (s.post enc C.prog fn apart fresh handsOn again) :=
  returnsInHanded_of_calls own started noInit witness fun w tape i _ hsh _ hok hpre _ => by
    obtain ⟨_, _, _, g, hg, _, _, _, _, hval⟩ := hok
    obtain rfl : g = fn := Option.some.inj (hg.symm.trans hfn)
    obtain ⟨⟨⟨ds, gs, before, hw, _⟩, hx⟩, hz⟩ := hpre
    have hw' := DataW.Whole.of_heap (w' := w.forCall tape i) (by rfl) hw
    refine (contract _ w.heap.size _ ds gs before hsh hval hw' (hz.weights hw) (hX _ _ _ (by rfl) hx)).mono ?_
    rintro e W' ⟨v, rfl, hp⟩
    exact ChangeSpec.post_blind hp
theorem maxLen_of_shaped {W : World} (h : W.ShapedOpen Tryz.prog) : ∃ M, W.cell? ⟨6, 0, none⟩ = some (.int .i64 M) := Tryz.laysM145.s1_3 W h
end HandSh
end Go.Proofs.YtjnfoocmilbdlaaGreatDoor
namespace Go.Proofs.YtjnfoocmilbdlaaGreatDoor.foldRead
set_option linter.unusedSimpArgs false
open Go.ChangeShapes Go.WideShapes Go.ChangeAt Go.RowKit
open Go.ChangeMaps (open_string shut_string)
open Go.Proofs.YtjnfoocmilbdlaaGreatDoor.FoldL (laid ga_of_laid door_met own rowStart rowStart_os rowStart_shaped)
set_option linter.unusedVariables false
set_option maxRecDepth 100000 in
theorem lifted (os : Os) (started : os.Started) (H : Type) (enc : TypeId × Value → H) :
    ReturnsInHanded {} Tryz.checked os 6 .any (fun w args => (Rows.foldReadSpec.pre enc Tryz.prog Tryz.f6 [] false w args ∧ laidMetH Tryz.prog laid w) ∧ sizedMet enc Tryz.prog Tryz.f6 (OpenSpec.ofChange Rows.foldReadSpec) false w args)
      (Rows.foldReadSpec.post enc Tryz.prog Tryz.f6 false true false false) := by
  refine HandSh.handed_shaped (C := Tryz.checked) (X := fun w _ => laidMetH Tryz.prog laid w) (fun _ _ _ hh h => h.of_heap hh) own started (by kernel_rfl) Tryz.func6
    (ChangeSpec.witness_shaped (enc := enc) (C := Tryz.checked) (os := os) (X := fun w _ => laidMetH Tryz.prog laid w) false (rowStart os) #[.string ByteArray.empty, .string ByteArray.empty] 8 (rowStart_os os) (rowStart_shaped os _) (by kernel_rfl) (by kernel_rfl) (by kernel_rfl) (door_met os _)) ?_
  intro W base args ds gs before hsh hval0 hW hsz0 hL
  have hsz : (DataW.weightsEach Tryz.prog (Tryz.f6.params.toList ++ Rows.foldReadSpec.plain.varTypes Tryz.prog) (ds ++ gs)).all (· ≤ reachBytes) = true := hsz0
  have hval : ∀ (j : Nat) t v, Tryz.f6.params[j]? = some t → args[j]? = some v → Value.okWide Tryz.prog W .any base t v := hval0
  have hW' := hW
  obtain ⟨p, q, hA0, hV, rfl, hfz, hnd⟩ := hW
  have hA : DataW.TrodAll enc Tryz.prog W 0 (fun _ => true) true Tryz.f6.params.toList args.toList ds p := hA0
  rw [Tryz.params6] at hA hval hsz
  obtain ⟨v0, vs0, d0, ds0, p0, q0, hargs, rfl, rfl, h0, r0⟩ := trodAll_cons hA
  obtain ⟨v1, vs1, d1, ds1, p1, q1, rfl, rfl, rfl, h1, r1⟩ := trodAll_cons r0
  obtain ⟨rfl, rfl, rfl⟩ := trodAll_nil r1
  obtain rfl : args = #[v0, v1] := by cases args; simp_all
  obtain ⟨rfl, rfl⟩ := trodVars_none hV
  obtain ⟨a0, rfl, rfl, rfl, y0⟩ := open_string Tryz.underlying9 (hval 0 9 v0 rfl rfl) h0
  have w0 : a0.size ≤ 140737488351232 := by
    have z := sized_string hsz (j := 0) (t := 9) rfl rfl
    rw [Array.length_toList] at z
    exact z
  obtain ⟨a1, rfl, rfl, rfl, y1⟩ := open_string Tryz.underlying9 (hval 1 9 v1 rfl rfl) h1
  have w1 : a1.size ≤ 140737488351232 := by
    have z := sized_string hsz (j := 1) (t := 9) rfl rfl
    rw [Array.length_toList] at z
    exact z
  clear hA0 hval0 hsz0 hsz
  refine (LFold.latinerlaw15_FoldRead.walk Pure.FoldRead a0 a1 W w0 w1 (ga_of_laid hL (HandSh.maxLen_of_shaped hsh))).mono fun e W' ⟨he, bel⟩ => ?_
  subst he
  exact ⟨_, rfl, _, _, _, [], _, [], hW', trodAll_mk1 (shut_bool Tryz.underlying4 _), (trodAll_cons_mk (shut_string Tryz.underlying9 y0) (trodAll_cons_mk (shut_string Tryz.underlying9 y1) trodAll_mk0)), rfl, bel.frame _, fun h => by cases h⟩
theorem said : Rows.FoldReadSaid :=
  OpenClaim.holds_of_wide 6 Tryz.f6 rfl rfl rfl rfl rfl rfl rfl ⟨rfl, rfl, rfl, rfl, rfl⟩ rfl rfl rfl rfl rfl (by kernel_rfl) Tryz.func6 (by kernel_rfl)
    (of_decide_eq_true (by kernel_rfl)) (by unfold Func.isWrapper; first | (rw [if_pos (by decide +kernel)]; kernel_rfl) | (rw [if_neg (by decide +kernel)]; exact ⟨rfl, rfl⟩))
    (fun os started H enc _ => lifted os started H enc)
theorem plain (f : FuncId) (fn : Func) (hf : Tryz.pinned.checked.prog.funcNamed "latiner/latinerlaw15.FoldRead" = some f) (hfn : Tryz.pinned.checked.prog.funcs[f]? = some fn) :
    true = Tryz.pinned.checked.prog.looks [] ∧ ∀ (j : Nat) t, fn.params[j]? = some t → Tryz.pinned.checked.prog.wantsStandIn t = false := by
  obtain rfl : f = 6 := Option.some.inj ((show Tryz.prog.funcNamed "latiner/latinerlaw15.FoldRead" = some 6 by kernel_rfl).symm.trans hf) |>.symm
  obtain rfl : fn = Tryz.f6 := (Option.some.inj (Tryz.func6.symm.trans hfn)).symm
  refine ⟨by kernel_rfl, fun j t ht => ?_⟩
  rw [Tryz.params6] at ht
  have s_str : Tryz.prog.wantsStandIn 9 = false := by kernel_rfl
  have hm := Array.mem_of_getElem? ht
  simp at hm
  have hm2 : t = 9 := by omega
  clear hm
  subst hm2
  exact s_str
/-- The card. -/
theorem card : Rows.FoldReadCardSaid :=
  Claim7.holds_tied_plain_at .later [] _ _ _ _ said (fun _ h => by cases h) (by kernel_rfl) (fun _ h => by cases h) foldRead_row_tie rfl ⟨rfl, rfl⟩ (by kernel_rfl) rfl plain (by kernel_rfl)
end Go.Proofs.YtjnfoocmilbdlaaGreatDoor.foldRead
namespace Go.Proofs.YtjnfoocmilbdlaaGreatDoor
theorem foldRead_holds : Rows.FoldReadCardSaid := foldRead.card
end Go.Proofs.YtjnfoocmilbdlaaGreatDoor
