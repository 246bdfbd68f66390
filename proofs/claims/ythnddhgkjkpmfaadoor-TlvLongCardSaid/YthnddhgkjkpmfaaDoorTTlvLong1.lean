/- A tree's bytes with a length that is not least are decoded as with the least one. The card of the statement, out of the walk and the plain law. Conditions: none beyond the card's own (the listed package variables as the program's text lays them).
-/
import Derived.Test.YthnddhgkjkpmfaaDoorCTlv7
-- Written by this repo's own program over the kit's printer: YthnddhgkjkpmfaaDoor.LTlvC
namespace Go.Proofs.YthnddhgkjkpmfaaDoor.LTlvC
open Go.Proofs.YthnddhgkjkpmfaaDoor.ExtTlvC
open Go.Proofs.YthnddhgkjkpmfaaDoor.KTlv
open Go.RowKit Go.Proofs.YthnddhgkjkpmfaaDoorW.PrintWords Go.Proofs.YthnddhgkjkpmfaaDoorW.PrintLast Go.Proofs.YthnddhgkjkpmfaaDoorW.PrintMore
attribute [local go_sem] max2_int min2_int max_two min_two max_three min_three max_four min_four   -- for this text's walks alone
attribute [local go_sem] some_set tmod_size u8_wrap
set_option linter.unusedVariables false
set_option linter.unusedSimpArgs false
variable {G : Gl}
def latinerlaw02_TlvLong.f (k : Nat) (a0 : ByteArray) (a1 : Int) : Option (Bool) := (latinerlaw02_shown.f k).bind fun t309 => (if 0 ≤ (mn (a0.size : Int) 3000) then (if (mn (a0.size : Int) 3000) ≤ (a0.size : Int) then ((tlv_Encode.f a1 (a0.extract 0 ((mn (a0.size : Int) 3000) : Int).toNat) ([] : List (S24))).bind fun bt311 => (if bt311.2 = 0 then (if bt311.1.toList = ([] : List UInt8) then (none) else (if 0 ≤ 1 then (if 1 ≤ (bt311.1.size : Int) then (if (bt311.1.extract 0 1).size + 2 ≤ 9223372036854775807 then ((some (([(wrap64 (((a0.extract 0 ((mn (a0.size : Int) 3000) : Int).toNat).size : Int) / 256)) % 256, ((a0.extract 0 ((mn (a0.size : Int) 3000) : Int).toNat).size : Int) % 256] : List Int) : List Int)).bind fun y313 => (if ((bt311.1.extract 0 1) ++ (⟨#[131, 0]⟩ : ByteArray)).size + (strOfNums y313).size ≤ 9223372036854775807 then (if (((bt311.1.extract 0 1) ++ (⟨#[131, 0]⟩ : ByteArray)) ++ (strOfNums y313)).size + (a0.extract 0 ((mn (a0.size : Int) 3000) : Int).toNat).size ≤ 9223372036854775807 then ((tlv_Whole.f k ((((bt311.1.extract 0 1) ++ (⟨#[131, 0]⟩ : ByteArray)) ++ (strOfNums y313)) ++ (a0.extract 0 ((mn (a0.size : Int) 3000) : Int).toNat))).bind fun bt316 => (if t309 = true then (if bt316.2.2.2 = 0 then ((tlv_Same.f a1 (a0.extract 0 ((mn (a0.size : Int) 3000) : Int).toNat) ([] : List (S24)) bt316.1 bt316.2.1 bt316.2.2.1).bind fun t323 => (some t323)) else (none)) else (none))) else (none)) else (none))) else (none)) else (none)) else (none))) else (if t309 = true then (if bt311.1.toList = ([] : List UInt8) then (if a1 < 0 then (some true) else (if a1 > 255 then (some true) else (if (Int.tmod a1 32) = 31 then (some true) else (some ((Int.tmod (wrap64 (Int.tdiv a1 32)) 2) == 1))))) else (none)) else (none)))) else (none)) else (none))
def latinerlaw02_TlvLong.T9 : Bool × List (List Nat × List Nat) := (true, [([], []), ([0], [0]), ([1], [1]), ([], []), ([3], [3]), ([4], [4]), ([5], [5]), ([], []), ([7], [7]), ([8], [8]), ([9], [9]), ([6, 10], [6, 10]), ([11], [11]), ([2, 12], [2, 12]), ([], []), ([13, 14], [13, 14]), ([15], [15]), ([16], [16]), ([17], [17]), ([17], [17]), ([], []), ([20, 18, 16, 0, 1, 2, 3, 4, 5, 6, 7, 8, 9, 10, 11, 12, 13, 14, 15, 16, 17, 18, 20], [18, 20]), ([19, 21, 0, 1, 2, 3, 4, 5, 6, 7, 8, 9, 10, 11, 12, 13, 14, 15, 16, 17, 18, 19, 20, 21], [19])])
def latinerlaw02_TlvLong.B9 : List Nat := [0, 1, 3, 0, 8, 24, 56, 0, 128, 384, 896, 2040, 4088, 8191, 0, 32767, 65535, 131071, 262143, 262143, 0, 1572863, 4194303]
theorem latinerlaw02_TlvLong.tab9 : rtab .any (opsOf Tryd.f10 9) = latinerlaw02_TlvLong.T9 := by kernel_rfl
theorem latinerlaw02_TlvLong.bits9 : waitsOk latinerlaw02_TlvLong.T9.2 latinerlaw02_TlvLong.B9 = true := by kernel_rfl
set_option maxHeartbeats 8000000 in
set_option maxRecDepth 100000 in
theorem latinerlaw02_TlvLong.calls (k : Nat) (a0 : ByteArray) (a1 : Int) (r : Bool) (w : World) (hG : GW G w) (h : latinerlaw02_TlvLong.f k a0 a1 = some r) :
  Calls Tryd.prog 10 #[.string a0, .int .i64 a1] w fun e w' => e = .returned (.bool r) ∧ Below w.heap.size w w' := by
 have hu24 := Tryd.underlying24
 have HB := Aside0.mk (Below.refl w.heap.size w)
 have H : ((latinerlaw02_shown.f k).bind fun t309 => (if 0 ≤ (mn (a0.size : Int) 3000) then (if (mn (a0.size : Int) 3000) ≤ (a0.size : Int) then ((tlv_Encode.f a1 (a0.extract 0 ((mn (a0.size : Int) 3000) : Int).toNat) ([] : List (S24))).bind fun bt311 => (if bt311.2 = 0 then (if bt311.1.toList = ([] : List UInt8) then (none) else (if 0 ≤ 1 then (if 1 ≤ (bt311.1.size : Int) then (if (bt311.1.extract 0 1).size + 2 ≤ 9223372036854775807 then ((some (([(wrap64 (((a0.extract 0 ((mn (a0.size : Int) 3000) : Int).toNat).size : Int) / 256)) % 256, ((a0.extract 0 ((mn (a0.size : Int) 3000) : Int).toNat).size : Int) % 256] : List Int) : List Int)).bind fun y313 => (if ((bt311.1.extract 0 1) ++ (⟨#[131, 0]⟩ : ByteArray)).size + (strOfNums y313).size ≤ 9223372036854775807 then (if (((bt311.1.extract 0 1) ++ (⟨#[131, 0]⟩ : ByteArray)) ++ (strOfNums y313)).size + (a0.extract 0 ((mn (a0.size : Int) 3000) : Int).toNat).size ≤ 9223372036854775807 then ((tlv_Whole.f k ((((bt311.1.extract 0 1) ++ (⟨#[131, 0]⟩ : ByteArray)) ++ (strOfNums y313)) ++ (a0.extract 0 ((mn (a0.size : Int) 3000) : Int).toNat))).bind fun bt316 => (if t309 = true then (if bt316.2.2.2 = 0 then ((tlv_Same.f a1 (a0.extract 0 ((mn (a0.size : Int) 3000) : Int).toNat) ([] : List (S24)) bt316.1 bt316.2.1 bt316.2.2.1).bind fun t323 => (some t323)) else (none)) else (none))) else (none)) else (none))) else (none)) else (none)) else (none))) else (if t309 = true then (if bt311.1.toList = ([] : List UInt8) then (if a1 < 0 then (some true) else (if a1 > 255 then (some true) else (if (Int.tmod a1 32) = 31 then (some true) else (some ((Int.tmod (wrap64 (Int.tdiv a1 32)) 2) == 1))))) else (none)) else (none)))) else (none)) else (none))) = some r := h
 clear h
 replace H := Option.bind_eq_some_iff.mp H
 obtain ⟨t309, A30, H⟩ := H
 replace H : (if 0 ≤ (mn (a0.size : Int) 3000) then (if (mn (a0.size : Int) 3000) ≤ (a0.size : Int) then ((tlv_Encode.f a1 (a0.extract 0 ((mn (a0.size : Int) 3000) : Int).toNat) ([] : List (S24))).bind fun bt311 => (if bt311.2 = 0 then (if bt311.1.toList = ([] : List UInt8) then (none) else (if 0 ≤ 1 then (if 1 ≤ (bt311.1.size : Int) then (if (bt311.1.extract 0 1).size + 2 ≤ 9223372036854775807 then ((some (([(wrap64 (((a0.extract 0 ((mn (a0.size : Int) 3000) : Int).toNat).size : Int) / 256)) % 256, ((a0.extract 0 ((mn (a0.size : Int) 3000) : Int).toNat).size : Int) % 256] : List Int) : List Int)).bind fun y313 => (if ((bt311.1.extract 0 1) ++ (⟨#[131, 0]⟩ : ByteArray)).size + (strOfNums y313).size ≤ 9223372036854775807 then (if (((bt311.1.extract 0 1) ++ (⟨#[131, 0]⟩ : ByteArray)) ++ (strOfNums y313)).size + (a0.extract 0 ((mn (a0.size : Int) 3000) : Int).toNat).size ≤ 9223372036854775807 then ((tlv_Whole.f k ((((bt311.1.extract 0 1) ++ (⟨#[131, 0]⟩ : ByteArray)) ++ (strOfNums y313)) ++ (a0.extract 0 ((mn (a0.size : Int) 3000) : Int).toNat))).bind fun bt316 => (if t309 = true then (if bt316.2.2.2 = 0 then ((tlv_Same.f a1 (a0.extract 0 ((mn (a0.size : Int) 3000) : Int).toNat) ([] : List (S24)) bt316.1 bt316.2.1 bt316.2.2.1).bind fun t323 => (some t323)) else (none)) else (none))) else (none)) else (none))) else (none)) else (none)) else (none))) else (if t309 = true then (if bt311.1.toList = ([] : List UInt8) then (if a1 < 0 then (some true) else (if a1 > 255 then (some true) else (if (Int.tmod a1 32) = 31 then (some true) else (some ((Int.tmod (wrap64 (Int.tdiv a1 32)) 2) == 1))))) else (none)) else (none)))) else (none)) else (none)) = some r := H
 have A3 := Aside0.mk A30
 clear A30
 obtain ⟨ji4, hji4⟩ : ∃ j_ : Int, (mn (a0.size : Int) 3000) = j_ := ⟨_, rfl⟩
 replace H : (if 0 ≤ (ji4) then (if (ji4) ≤ (a0.size : Int) then ((tlv_Encode.f a1 (a0.extract 0 ((ji4) : Int).toNat) ([] : List (S24))).bind fun bt311 => (if bt311.2 = 0 then (if bt311.1.toList = ([] : List UInt8) then (none) else (if 0 ≤ 1 then (if 1 ≤ (bt311.1.size : Int) then (if (bt311.1.extract 0 1).size + 2 ≤ 9223372036854775807 then ((some (([(wrap64 (((a0.extract 0 ((ji4) : Int).toNat).size : Int) / 256)) % 256, ((a0.extract 0 ((ji4) : Int).toNat).size : Int) % 256] : List Int) : List Int)).bind fun y313 => (if ((bt311.1.extract 0 1) ++ (⟨#[131, 0]⟩ : ByteArray)).size + (strOfNums y313).size ≤ 9223372036854775807 then (if (((bt311.1.extract 0 1) ++ (⟨#[131, 0]⟩ : ByteArray)) ++ (strOfNums y313)).size + (a0.extract 0 ((ji4) : Int).toNat).size ≤ 9223372036854775807 then ((tlv_Whole.f k ((((bt311.1.extract 0 1) ++ (⟨#[131, 0]⟩ : ByteArray)) ++ (strOfNums y313)) ++ (a0.extract 0 ((ji4) : Int).toNat))).bind fun bt316 => (if t309 = true then (if bt316.2.2.2 = 0 then ((tlv_Same.f a1 (a0.extract 0 ((ji4) : Int).toNat) ([] : List (S24)) bt316.1 bt316.2.1 bt316.2.2.1).bind fun t323 => (some t323)) else (none)) else (none))) else (none)) else (none))) else (none)) else (none)) else (none))) else (if t309 = true then (if bt311.1.toList = ([] : List UInt8) then (if a1 < 0 then (some true) else (if a1 > 255 then (some true) else (if (Int.tmod a1 32) = 31 then (some true) else (some ((Int.tmod (wrap64 (Int.tdiv a1 32)) 2) == 1))))) else (none)) else (none)))) else (none)) else (none)) = some r := by first | (rw [hji4] at H; exact H) | (simp only [hji4] at H ⊢; exact H)
 obtain ⟨sx4_0, hsx4_0⟩ : ∃ z_ : ByteArray, (a0.extract 0 ((ji4) : Int).toNat) = z_ := ⟨_, rfl⟩
 rw [hsx4_0] at H
 (try rw [hji4] at A3)
 (try (have hji4h : ji4 ≤ 3000 := by (rw [← hji4]; unfold mn; (repeat' split) <;> omega)))
 (try (have hji4g : ji4 ≤ 64 := by omega))
 (try (have hji4l : 0 ≤ ji4 := by (rw [← hji4]; unfold mn; (repeat' split) <;> omega)))
 (try (have hji4m : 0 ≤ ji4 := by omega))
 have hji4_ : (if 3000 < (a0.size : Int) then 3000 else (a0.size : Int)) = ji4 := hji4
 by_cases c5 : 0 ≤ (ji4)
 ·rw [if_pos c5] at H
  have c5b0 := eq_true c5
  have c5b1 : decide (0 ≤ (ji4)) = true := decide_eq_true c5
  clear c5
  by_cases c6 : (ji4) ≤ (a0.size : Int)
  ·rw [if_pos c6] at H
   have c6b0 := eq_true c6
   have c6b1 : decide ((ji4) ≤ (a0.size : Int)) = true := decide_eq_true c6
   clear c6
   replace H := Option.bind_eq_some_iff.mp H
   obtain ⟨⟨t311, t312⟩, A70, H⟩ := H
   replace H : (if t312 = 0 then (if t311.toList = ([] : List UInt8) then (none) else (if 0 ≤ 1 then (if 1 ≤ (t311.size : Int) then (if (t311.extract 0 1).size + 2 ≤ 9223372036854775807 then ((some (([(wrap64 ((sx4_0.size : Int) / 256)) % 256, (sx4_0.size : Int) % 256] : List Int) : List Int)).bind fun y313 => (if ((t311.extract 0 1) ++ (⟨#[131, 0]⟩ : ByteArray)).size + (strOfNums y313).size ≤ 9223372036854775807 then (if (((t311.extract 0 1) ++ (⟨#[131, 0]⟩ : ByteArray)) ++ (strOfNums y313)).size + sx4_0.size ≤ 9223372036854775807 then ((tlv_Whole.f k ((((t311.extract 0 1) ++ (⟨#[131, 0]⟩ : ByteArray)) ++ (strOfNums y313)) ++ sx4_0)).bind fun bt316 => (if t309 = true then (if bt316.2.2.2 = 0 then ((tlv_Same.f a1 sx4_0 ([] : List (S24)) bt316.1 bt316.2.1 bt316.2.2.1).bind fun t323 => (some t323)) else (none)) else (none))) else (none)) else (none))) else (none)) else (none)) else (none))) else (if t309 = true then (if t311.toList = ([] : List UInt8) then (if a1 < 0 then (some true) else (if a1 > 255 then (some true) else (if (Int.tmod a1 32) = 31 then (some true) else (some ((Int.tmod (wrap64 (Int.tdiv a1 32)) 2) == 1))))) else (none)) else (none))) = some r := H
   have A7 := Aside0.mk A70
   clear A70
   by_cases c8 : t312 = 0
   ·rw [if_pos c8] at H
    have c8b0 : (t312 == 0) = true := beq_iff_eq.mpr c8
    have c8b1 : (t312 != 0) = false := bne_eq_false_iff_eq.mpr c8
    clear c8
    by_cases c9 : t311.toList = ([] : List UInt8)
    ·rw [if_pos c9] at H
     exact absurd H (by simp)
    ·rw [if_neg c9] at H
     have c9b0 : (t311.toList == ([] : List UInt8)) = false := beq_eq_false_iff_ne.mpr c9
     have c9b1 : (t311.toList != ([] : List UInt8)) = true := bne_iff_ne.mpr c9
     by_cases c10 : 0 ≤ 1
     ·rw [if_pos c10] at H
      have c10b0 := eq_true c10
      have c10b1 : decide (0 ≤ 1) = true := decide_eq_true c10
      clear c10
      by_cases c11 : 1 ≤ (t311.size : Int)
      ·rw [if_pos c11] at H
       have c11b0 := eq_true c11
       have c11b1 : decide (1 ≤ (t311.size : Int)) = true := decide_eq_true c11
       clear c11
       by_cases c12 : (t311.extract 0 1).size + 2 ≤ 9223372036854775807
       ·rw [if_pos c12] at H
        have c12b0 := eq_true c12
        have c12b1 : decide ((t311.extract 0 1).size + 2 ≤ 9223372036854775807) = true := decide_eq_true c12
        try have c12b2 : (9223372036854775807 < (t311.extract 0 1).size + 2) = False := eq_false (Nat.not_lt.2 c12)
        obtain ⟨y313, hy313⟩ : ∃ y_ : List Int, y_ = (([(wrap64 ((sx4_0.size : Int) / 256)) % 256, (sx4_0.size : Int) % 256] : List Int)) := ⟨_, rfl⟩
        replace H : (if ((t311.extract 0 1) ++ (⟨#[131, 0]⟩ : ByteArray)).size + (strOfNums y313).size ≤ 9223372036854775807 then (if (((t311.extract 0 1) ++ (⟨#[131, 0]⟩ : ByteArray)) ++ (strOfNums y313)).size + sx4_0.size ≤ 9223372036854775807 then ((tlv_Whole.f k ((((t311.extract 0 1) ++ (⟨#[131, 0]⟩ : ByteArray)) ++ (strOfNums y313)) ++ sx4_0)).bind fun bt316 => (if t309 = true then (if bt316.2.2.2 = 0 then ((tlv_Same.f a1 sx4_0 ([] : List (S24)) bt316.1 bt316.2.1 bt316.2.2.1).bind fun t323 => (some t323)) else (none)) else (none))) else (none)) else (none)) = some r := by first | (rw [hy313]; with_reducible exact H) | (have H2_ := (Option.bind_some _ _).symm.trans H; rw [hy313]; with_reducible exact H2_) | (have H2_ := (Option.bind_some _ _).symm.trans H; with_reducible exact H2_) | with_reducible exact H | (rw [hy313]; exact H) | exact H
        have Ny313 := Aside0.mk hy313
        clear hy313
        by_cases c13 : ((t311.extract 0 1) ++ (⟨#[131, 0]⟩ : ByteArray)).size + (strOfNums y313).size ≤ 9223372036854775807
        ·rw [if_pos c13] at H
         have c13b0 := eq_true c13
         have c13b1 : decide (((t311.extract 0 1) ++ (⟨#[131, 0]⟩ : ByteArray)).size + (strOfNums y313).size ≤ 9223372036854775807) = true := decide_eq_true c13
         try have c13b2 : (9223372036854775807 < ((t311.extract 0 1) ++ (⟨#[131, 0]⟩ : ByteArray)).size + (strOfNums y313).size) = False := eq_false (Nat.not_lt.2 c13)
         by_cases c14 : (((t311.extract 0 1) ++ (⟨#[131, 0]⟩ : ByteArray)) ++ (strOfNums y313)).size + sx4_0.size ≤ 9223372036854775807
         ·rw [if_pos c14] at H
          have c14b0 := eq_true c14
          have c14b1 : decide ((((t311.extract 0 1) ++ (⟨#[131, 0]⟩ : ByteArray)) ++ (strOfNums y313)).size + sx4_0.size ≤ 9223372036854775807) = true := decide_eq_true c14
          try have c14b2 : (9223372036854775807 < (((t311.extract 0 1) ++ (⟨#[131, 0]⟩ : ByteArray)) ++ (strOfNums y313)).size + sx4_0.size) = False := eq_false (Nat.not_lt.2 c14)
          replace H := Option.bind_eq_some_iff.mp H
          obtain ⟨⟨t316, t317, t318, t321⟩, A150, H⟩ := H
          replace H : (if t309 = true then (if t321 = 0 then ((tlv_Same.f a1 sx4_0 ([] : List (S24)) t316 t317 t318).bind fun t323 => (some t323)) else (none)) else (none)) = some r := H
          have A15 := Aside0.mk A150
          clear A150
          by_cases c16 : t309 = true
          ·subst c16
           have H1 : (if t321 = 0 then ((tlv_Same.f a1 sx4_0 ([] : List (S24)) t316 t317 t318).bind fun t323 => (some t323)) else (none)) = some r := by rw [if_pos rfl] at H; exact H
           clear H
           have H := H1
           clear H1
           by_cases c17 : t321 = 0
           ·rw [if_pos c17] at H
            have c17b0 : (t321 == 0) = true := beq_iff_eq.mpr c17
            have c17b1 : (t321 != 0) = false := bne_eq_false_iff_eq.mpr c17
            clear c17
            replace H := Option.bind_eq_some_iff.mp H
            obtain ⟨t323, A180, H⟩ := H
            replace H : (some t323) = some r := H
            have A18 := Aside0.mk A180
            clear A180
            obtain rfl := Option.some.inj H
            go_enter Tryd.func10, Tryd.ntmps10
            try go_wp2_with (first | ((with_reducible refine gate_callee (f := 12) rfl ?_); refine goesL_ (some 11) rfl rfl Tryd.func12 (by kernel_rfl) rfl #[] rfl argq ?_; (with_reducible refine (latinerlaw02_shown.calls (G := G) k  true _ ?side1 A3.out).mono ?_); (case side1 => first | exact hG | exact GW.below hG q0_); rintro e w19 ⟨rfl, hb⟩; refine ⟨_, rfl, ?_⟩; have n0_ := Aside0.mk (below_step q0_ hb); clear HB; have HB := n0_; clear n0_; (try clear hb); (try clear hb2); (try clear hk); (try clear hi)) | ((with_reducible refine gate_dst (N := 6) rfl ?_); refine box_event ?hg (N := 6) ?hd (cs := #[.int .i64 0, .string (⟨#[]⟩ : ByteArray), .slice none 0 0]) (t := 24) ?hr ?_; (case hd => rfl); (case hg => rfl); (case hr => first | (go_simp; done) | (go_simp; rfl)); intro gb310 hg w20 hbox hb; have n0_ := Aside0.mk (below_step q0_ hb); have n1_ := Aside0.mk (hbox); have n2_ := Aside0.mk ((by rw [hg]; exact (below_size q0_) : w.heap.size ≤ gb310)); have n3_ := Aside0.mk ((by rw [hg]; exact (below_size q0_) : w.heap.size ≤ gb310)); clear HB; have HB := n0_; have BK310 := n1_; have GW310 := n2_; have GE310 := n3_; clear n0_ n1_ n2_ n3_; clear hb hbox hg; have hcz21_0 : w20.cell? ⟨gb310, 0, none⟩ = some (.int .i64 0) := (blk_cell BK310.out 0).trans rfl; have hcz21_1 : w20.cell? ⟨gb310, 1, none⟩ = some (.string (⟨#[]⟩ : ByteArray)) := (blk_cell BK310.out 1).trans rfl; have hcz21_2 : w20.cell? ⟨gb310, 2, none⟩ = some (.slice none 0 0) := (blk_cell BK310.out 2).trans rfl; have hfz21_0 := blk_frozen BK310.out 0; have hfz21_1 := blk_frozen BK310.out 1; have hfz21_2 := blk_frozen BK310.out 2) | ((with_reducible refine gate_callee (f := 15) rfl ?_); refine goesL_ (some 22) rfl rfl Tryd.func15 (by kernel_rfl) rfl #[.agg #[.int .i64 a1, .string sx4_0, .slice none 0 0]] rfl (by (try simp only [List.map_toArray, List.map_cons, List.map_nil]); first | done | (simp only [hji4]; rfl) | rfl | (simp only [List.length_drop, List.length_take]; rfl)) ?_; (refine (tlv_Encode.calls (G := G) a1 sx4_0 _ _ ([] : List (S24)) t311 t312 _ ?side1 ?side2 ?side3 A7.out).mono ?_); (case side1 => exact Kd.C_nil _ _); (case side2 => exact Nat.le_refl _); (case side3 => first | exact hG | exact GW.below hG q0_); rintro e w22 ⟨rfl, hb⟩; refine ⟨_, rfl, ?_⟩; have n0_ := Aside0.mk (blk_below (g := gb310) (o := .cells #[.int .i64 a1, .string sx4_0, .slice none 0 0] 24 (0, 0)) (by refine bkq ?_; refine blk_put (cs := #[.int .i64 a1, .string sx4_0, .slice none 0 0]) ?_ 2 _ rfl; refine bkq ?_; refine blk_put (cs := #[.int .i64 a1, .string (⟨#[]⟩ : ByteArray), .slice none 0 0]) ?_ 1 _ rfl; refine bkq ?_; refine blk_put (cs := #[.int .i64 0, .string (⟨#[]⟩ : ByteArray), .slice none 0 0]) ?_ 0 _ rfl; refine bkq ?_; exact BK310.out) hb); have n1_ := Aside0.mk (below_step q0_ hb); clear BK310; clear HB; have BK310 := n0_; have HB := n1_; clear n0_ n1_; (try clear hb); (try clear hb2); (try clear hk); (try clear hi)))
            have n0_ := Aside0.mk (blk_drew BK310.out)
            have n1_ := Aside0.mk (below_drew1 HB.out)
            clear BK310
            clear HB
            have BK310 := n0_
            have HB := n1_
            clear n0_ n1_
            refine start_ (n := 23) (S := fun w' => True) (ds := []) #[false, false, false, false, false, false, false, false, false, false, false, false, false, false, false, false, false, false, false, false, false, false, false] (by kernel_rfl) rfl rfl trivial (fun hHeld => ?_); refine with_tabW latinerlaw02_TlvLong.tab9 latinerlaw02_TlvLong.bits9 (fun HT_ HW_ => ?_)
            generalize w22.drew = w23 at BK310 HB hHeld ⊢
            refine pure_ (i := 0) (N := some 54) (v := ?_) (a' := ?_) #[true, false, false, false, false, false, false, false, false, false, false, false, false, false, false, false, false, false, false, false, false, false, false] rfl rfl (any_of HT_.out (by kernel_rfl)) (fun _ _ _ h => h) (Or.inl ⟨by rfl, ?_⟩) ?_ ?_
            rotate_left
            ·intro w'
             go_simp
             first | with_reducible rfl | (rw [if_neg (by have q_ := c14; have e0_ : (⟨#[131, 0]⟩ : ByteArray).size = 2 := rfl; simp at q_; omega)]; done) | (rw [if_neg (by have q_ := c14; have e0_ : (⟨#[131, 0]⟩ : ByteArray).size = 2 := rfl; simp at q_; omega)]; rfl) | (rw [if_neg (by have q_ := c13; have e0_ : (⟨#[131, 0]⟩ : ByteArray).size = 2 := rfl; simp at q_; omega)]; done) | (rw [if_neg (by have q_ := c13; have e0_ : (⟨#[131, 0]⟩ : ByteArray).size = 2 := rfl; simp at q_; omega)]; rfl) | (rw [if_neg (by have q_ := c12; simp at q_; omega)]; done) | (rw [if_neg (by have q_ := c12; simp at q_; omega)]; rfl)
            rotate_left
            ·exact putq
            refine pure_ (i := 1) (N := some 55) (v := ?_) (a' := ?_) #[true, true, false, false, false, false, false, false, false, false, false, false, false, false, false, false, false, false, false, false, false, false, false] rfl rfl (any_of HT_.out (by kernel_rfl)) (fun _ _ _ h => h) (Or.inl ⟨by rfl, ?_⟩) ?_ ?_
            rotate_left
            ·intro w'
             go_simp
             first | with_reducible rfl | (rw [if_neg (by have q_ := c14; have e0_ : (⟨#[131, 0]⟩ : ByteArray).size = 2 := rfl; simp at q_; omega)]; done) | (rw [if_neg (by have q_ := c14; have e0_ : (⟨#[131, 0]⟩ : ByteArray).size = 2 := rfl; simp at q_; omega)]; rfl) | (rw [if_neg (by have q_ := c13; have e0_ : (⟨#[131, 0]⟩ : ByteArray).size = 2 := rfl; simp at q_; omega)]; done) | (rw [if_neg (by have q_ := c13; have e0_ : (⟨#[131, 0]⟩ : ByteArray).size = 2 := rfl; simp at q_; omega)]; rfl) | (rw [if_neg (by have q_ := c12; simp at q_; omega)]; done) | (rw [if_neg (by have q_ := c12; simp at q_; omega)]; rfl)
            rotate_left
            ·exact putq
            refine pure_ (i := 2) (N := some 56) (v := ?_) (a' := ?_) #[true, true, true, false, false, false, false, false, false, false, false, false, false, false, false, false, false, false, false, false, false, false, false] rfl rfl (any_of HT_.out (by kernel_rfl)) (fun _ _ _ h => h) (Or.inl ⟨by rfl, ?_⟩) ?_ ?_
            rotate_left
            ·intro w'
             go_simp
             first | with_reducible rfl | (rw [if_neg (by have q_ := c14; have e0_ : (⟨#[131, 0]⟩ : ByteArray).size = 2 := rfl; simp at q_; omega)]; done) | (rw [if_neg (by have q_ := c14; have e0_ : (⟨#[131, 0]⟩ : ByteArray).size = 2 := rfl; simp at q_; omega)]; rfl) | (rw [if_neg (by have q_ := c13; have e0_ : (⟨#[131, 0]⟩ : ByteArray).size = 2 := rfl; simp at q_; omega)]; done) | (rw [if_neg (by have q_ := c13; have e0_ : (⟨#[131, 0]⟩ : ByteArray).size = 2 := rfl; simp at q_; omega)]; rfl) | (rw [if_neg (by have q_ := c12; simp at q_; omega)]; done) | (rw [if_neg (by have q_ := c12; simp at q_; omega)]; rfl)
            rotate_left
            ·exact putq
            refine pure_ (i := 3) (N := some 57) (v := ?_) (a' := ?_) #[true, true, true, true, false, false, false, false, false, false, false, false, false, false, false, false, false, false, false, false, false, false, false] rfl rfl (any_of HT_.out (by kernel_rfl)) (fun _ _ _ h => h) (Or.inl ⟨by rfl, ?_⟩) ?_ ?_
            rotate_left
            ·intro w'
             go_simp
             first | with_reducible rfl | (rw [if_neg (by have q_ := c14; have e0_ : (⟨#[131, 0]⟩ : ByteArray).size = 2 := rfl; simp at q_; omega)]; done) | (rw [if_neg (by have q_ := c14; have e0_ : (⟨#[131, 0]⟩ : ByteArray).size = 2 := rfl; simp at q_; omega)]; rfl) | (rw [if_neg (by have q_ := c13; have e0_ : (⟨#[131, 0]⟩ : ByteArray).size = 2 := rfl; simp at q_; omega)]; done) | (rw [if_neg (by have q_ := c13; have e0_ : (⟨#[131, 0]⟩ : ByteArray).size = 2 := rfl; simp at q_; omega)]; rfl) | (rw [if_neg (by have q_ := c12; simp at q_; omega)]; done) | (rw [if_neg (by have q_ := c12; simp at q_; omega)]; rfl)
            rotate_left
            ·exact putq
            refine pure_ (i := 4) (N := some 58) (v := ?_) (a' := ?_) #[true, true, true, true, true, false, false, false, false, false, false, false, false, false, false, false, false, false, false, false, false, false, false] rfl rfl (any_of HT_.out (by kernel_rfl)) (fun _ _ _ h => h) (Or.inl ⟨by rfl, ?_⟩) ?_ ?_
            rotate_left
            ·intro w'
             go_simp
             first | with_reducible rfl | (rw [if_neg (by have q_ := c14; have e0_ : (⟨#[131, 0]⟩ : ByteArray).size = 2 := rfl; simp at q_; omega)]; done) | (rw [if_neg (by have q_ := c14; have e0_ : (⟨#[131, 0]⟩ : ByteArray).size = 2 := rfl; simp at q_; omega)]; rfl) | (rw [if_neg (by have q_ := c13; have e0_ : (⟨#[131, 0]⟩ : ByteArray).size = 2 := rfl; simp at q_; omega)]; done) | (rw [if_neg (by have q_ := c13; have e0_ : (⟨#[131, 0]⟩ : ByteArray).size = 2 := rfl; simp at q_; omega)]; rfl) | (rw [if_neg (by have q_ := c12; simp at q_; omega)]; done) | (rw [if_neg (by have q_ := c12; simp at q_; omega)]; rfl)
            rotate_left
            ·exact putq
            refine pure_ (i := 5) (N := some 59) (v := ?_) (a' := ?_) #[true, true, true, true, true, true, false, false, false, false, false, false, false, false, false, false, false, false, false, false, false, false, false] rfl rfl (any_of HT_.out (by kernel_rfl)) (fun _ _ _ h => h) (Or.inl ⟨by rfl, ?_⟩) ?_ ?_
            rotate_left
            ·intro w'
             go_simp
             first | with_reducible rfl | (rw [if_neg (by have q_ := c14; have e0_ : (⟨#[131, 0]⟩ : ByteArray).size = 2 := rfl; simp at q_; omega)]; done) | (rw [if_neg (by have q_ := c14; have e0_ : (⟨#[131, 0]⟩ : ByteArray).size = 2 := rfl; simp at q_; omega)]; rfl) | (rw [if_neg (by have q_ := c13; have e0_ : (⟨#[131, 0]⟩ : ByteArray).size = 2 := rfl; simp at q_; omega)]; done) | (rw [if_neg (by have q_ := c13; have e0_ : (⟨#[131, 0]⟩ : ByteArray).size = 2 := rfl; simp at q_; omega)]; rfl) | (rw [if_neg (by have q_ := c12; simp at q_; omega)]; done) | (rw [if_neg (by have q_ := c12; simp at q_; omega)]; rfl)
            rotate_left
            ·exact putq
            refine pure_ (i := 6) (N := some 60) (v := ?_) (a' := ?_) #[true, true, true, true, true, true, true, false, false, false, false, false, false, false, false, false, false, false, false, false, false, false, false] rfl rfl (any_of HT_.out (by kernel_rfl)) (fun _ _ _ h => h) (Or.inl ⟨by rfl, ?_⟩) ?_ ?_
            rotate_left
            ·intro w'
             go_simp
             first | with_reducible rfl | (rw [if_neg (by have q_ := c14; have e0_ : (⟨#[131, 0]⟩ : ByteArray).size = 2 := rfl; simp at q_; omega)]; done) | (rw [if_neg (by have q_ := c14; have e0_ : (⟨#[131, 0]⟩ : ByteArray).size = 2 := rfl; simp at q_; omega)]; rfl) | (rw [if_neg (by have q_ := c13; have e0_ : (⟨#[131, 0]⟩ : ByteArray).size = 2 := rfl; simp at q_; omega)]; done) | (rw [if_neg (by have q_ := c13; have e0_ : (⟨#[131, 0]⟩ : ByteArray).size = 2 := rfl; simp at q_; omega)]; rfl) | (rw [if_neg (by have q_ := c12; simp at q_; omega)]; done) | (rw [if_neg (by have q_ := c12; simp at q_; omega)]; rfl)
            rotate_left
            ·exact putq
            refine pure_ (i := 7) (N := some 61) (v := ?_) (a' := ?_) #[true, true, true, true, true, true, true, true, false, false, false, false, false, false, false, false, false, false, false, false, false, false, false] rfl rfl (any_of HT_.out (by kernel_rfl)) (fun _ _ _ h => h) (Or.inl ⟨by rfl, ?_⟩) ?_ ?_
            rotate_left
            ·intro w'
             go_simp
             first | with_reducible rfl | (rw [if_neg (by have q_ := c14; have e0_ : (⟨#[131, 0]⟩ : ByteArray).size = 2 := rfl; simp at q_; omega)]; done) | (rw [if_neg (by have q_ := c14; have e0_ : (⟨#[131, 0]⟩ : ByteArray).size = 2 := rfl; simp at q_; omega)]; rfl) | (rw [if_neg (by have q_ := c13; have e0_ : (⟨#[131, 0]⟩ : ByteArray).size = 2 := rfl; simp at q_; omega)]; done) | (rw [if_neg (by have q_ := c13; have e0_ : (⟨#[131, 0]⟩ : ByteArray).size = 2 := rfl; simp at q_; omega)]; rfl) | (rw [if_neg (by have q_ := c12; simp at q_; omega)]; done) | (rw [if_neg (by have q_ := c12; simp at q_; omega)]; rfl)
            rotate_left
            ·exact putq
            refine pure_ (i := 8) (N := some 62) (v := ?_) (a' := ?_) #[true, true, true, true, true, true, true, true, true, false, false, false, false, false, false, false, false, false, false, false, false, false, false] rfl rfl (any_of HT_.out (by kernel_rfl)) (fun _ _ _ h => h) (Or.inl ⟨by rfl, ?_⟩) ?_ ?_
            rotate_left
            ·intro w'
             go_simp
             first | with_reducible rfl | (rw [if_neg (by have q_ := c14; have e0_ : (⟨#[131, 0]⟩ : ByteArray).size = 2 := rfl; simp at q_; omega)]; done) | (rw [if_neg (by have q_ := c14; have e0_ : (⟨#[131, 0]⟩ : ByteArray).size = 2 := rfl; simp at q_; omega)]; rfl) | (rw [if_neg (by have q_ := c13; have e0_ : (⟨#[131, 0]⟩ : ByteArray).size = 2 := rfl; simp at q_; omega)]; done) | (rw [if_neg (by have q_ := c13; have e0_ : (⟨#[131, 0]⟩ : ByteArray).size = 2 := rfl; simp at q_; omega)]; rfl) | (rw [if_neg (by have q_ := c12; simp at q_; omega)]; done) | (rw [if_neg (by have q_ := c12; simp at q_; omega)]; rfl)
            rotate_left
            ·exact putq
            refine pure_ (i := 9) (N := some 63) (v := ?_) (a' := ?_) #[true, true, true, true, true, true, true, true, true, true, false, false, false, false, false, false, false, false, false, false, false, false, false] rfl rfl (any_of HT_.out (by kernel_rfl)) (fun _ _ _ h => h) (Or.inl ⟨by rfl, ?_⟩) ?_ ?_
            rotate_left
            ·intro w'
             go_simp
             first | with_reducible rfl | (rw [if_neg (by have q_ := c14; have e0_ : (⟨#[131, 0]⟩ : ByteArray).size = 2 := rfl; simp at q_; omega)]; done) | (rw [if_neg (by have q_ := c14; have e0_ : (⟨#[131, 0]⟩ : ByteArray).size = 2 := rfl; simp at q_; omega)]; rfl) | (rw [if_neg (by have q_ := c13; have e0_ : (⟨#[131, 0]⟩ : ByteArray).size = 2 := rfl; simp at q_; omega)]; done) | (rw [if_neg (by have q_ := c13; have e0_ : (⟨#[131, 0]⟩ : ByteArray).size = 2 := rfl; simp at q_; omega)]; rfl) | (rw [if_neg (by have q_ := c12; simp at q_; omega)]; done) | (rw [if_neg (by have q_ := c12; simp at q_; omega)]; rfl)
            rotate_left
            ·exact putq
            refine pure_ (i := 10) (N := some 64) (v := ?_) (a' := ?_) #[true, true, true, true, true, true, true, true, true, true, true, false, false, false, false, false, false, false, false, false, false, false, false] rfl rfl (any_of HT_.out (by kernel_rfl)) (fun _ _ _ h => h) (Or.inl ⟨by rfl, ?_⟩) ?_ ?_
            rotate_left
            ·intro w'
             go_simp
             first | with_reducible rfl | (rw [if_neg (by have q_ := c14; have e0_ : (⟨#[131, 0]⟩ : ByteArray).size = 2 := rfl; simp at q_; omega)]; done) | (rw [if_neg (by have q_ := c14; have e0_ : (⟨#[131, 0]⟩ : ByteArray).size = 2 := rfl; simp at q_; omega)]; rfl) | (rw [if_neg (by have q_ := c13; have e0_ : (⟨#[131, 0]⟩ : ByteArray).size = 2 := rfl; simp at q_; omega)]; done) | (rw [if_neg (by have q_ := c13; have e0_ : (⟨#[131, 0]⟩ : ByteArray).size = 2 := rfl; simp at q_; omega)]; rfl) | (rw [if_neg (by have q_ := c12; simp at q_; omega)]; done) | (rw [if_neg (by have q_ := c12; simp at q_; omega)]; rfl)
            rotate_left
            ·exact putq
            refine pure_ (i := 14) (N := some 68) (v := ?_) (a' := ?_) #[true, true, true, true, true, true, true, true, true, true, true, false, false, false, true, false, false, false, false, false, false, false, false] rfl rfl (any_of HT_.out (by kernel_rfl)) (fun _ _ _ h => h) (Or.inl ⟨by rfl, ?_⟩) ?_ ?_
            rotate_left
            ·intro w'
             go_simp
             first | with_reducible rfl | (rw [if_neg (by have q_ := c14; have e0_ : (⟨#[131, 0]⟩ : ByteArray).size = 2 := rfl; simp at q_; omega)]; done) | (rw [if_neg (by have q_ := c14; have e0_ : (⟨#[131, 0]⟩ : ByteArray).size = 2 := rfl; simp at q_; omega)]; rfl) | (rw [if_neg (by have q_ := c13; have e0_ : (⟨#[131, 0]⟩ : ByteArray).size = 2 := rfl; simp at q_; omega)]; done) | (rw [if_neg (by have q_ := c13; have e0_ : (⟨#[131, 0]⟩ : ByteArray).size = 2 := rfl; simp at q_; omega)]; rfl) | (rw [if_neg (by have q_ := c12; simp at q_; omega)]; done) | (rw [if_neg (by have q_ := c12; simp at q_; omega)]; rfl)
            rotate_left
            ·exact putq
            refine join_ (σ := Value × Value × Nat) 2 #[true, true, true, true, true, true, true, true, true, true, true, true, true, true, true, true, true, true, true, true, true, false, false] (fun s_ => [(65, s_.1), (66, .string (strOfNums y313)), (70, .tuple #[.agg #[.int .i64 t316, .string t317, s_.2.1], .int .i64 t321]), (9, .pointer (some ⟨s_.2.2, 0, none⟩)), (67, .string (((t311.extract 0 1) ++ (⟨#[131, 0]⟩ : ByteArray)) ++ (strOfNums y313))), (69, .string ((((t311.extract 0 1) ++ (⟨#[131, 0]⟩ : ByteArray)) ++ (strOfNums y313)) ++ sx4_0)), (53, .tuple #[.agg #[.int .i64 t316, .string t317, s_.2.1], .int .i64 t321]), (71, .agg #[.int .i64 t316, .string t317, s_.2.1]), (72, .int .i64 t321)]) (fun s_ w' => (Kd.R (Kd.int .u8) 5 w' w.heap.size (fun _ => True) s_.1 y313) ∧ (Kd.R k24 24 w' w.heap.size (fun k_ => k_ ≠ gb310 ∧ k_ ≠ s_.2.2) s_.2.1 t318) ∧ (w'.heap[gb310]? = some (.cells #[.int .i64 a1, .string sx4_0, .slice none 0 0] 24 (0, 0))) ∧ (w'.heap[s_.2.2]? = some (.cells #[.int .i64 0, .string (⟨#[]⟩ : ByteArray), .slice none 0 0] 24 (0, 0))) ∧ (w.heap.size ≤ s_.2.2) ∧ (w.heap.size ≤ s_.2.2) ∧ (gb310 ≠ s_.2.2) ∧ (s_.2.2 ≠ gb310) ∧ (Below w.heap.size w w')) ?_ ?_
            rotate_left
            ·intro hCont
             refine two_ (i := 11) (j := 20) (Ni := some 65) (Nj := some 9) #[true, true, true, true, true, true, true, true, true, true, true, true, false, false, true, false, false, false, false, false, false, false, false] #[true, true, true, true, true, true, true, true, true, true, true, false, false, false, true, false, false, false, false, false, true, false, false] rfl rfl rfl rfl (two_of HT_.out (by kernel_rfl)) (by decide) (by decide) (fun K hK => ?_) (fun K hK => ?_)
             ·skip
              refine Kd.R_lit_step (Kd.int .u8) _ 5 ?hg (N := 65) ?hd (xs := ([(wrap64 ((sx4_0.size : Int) / 256)) % 256, (sx4_0.size : Int) % 256] : List Int)) (inner := [.int .u8 ((wrap64 ((sx4_0.size : Int) / 256)) % 256), .int .u8 ((sx4_0.size : Int) % 256)]) (ok := fun _ => True) (okp := fun _ => True) ?hr ?hp (fun _ hk => hk) trivial (Below.refl _ _) (Nat.le_refl _) (by simp) ?_; (case hd => rfl); (case hg => rfl); (case hr => first | (go_simp; done) | (go_simp; rfl)); (case hp => exact (Reps.one (show Kd.M (Kd.int .u8) _ _ _ ((wrap64 ((sx4_0.size : Int) / 256)) % 256) [.int .u8 ((wrap64 ((sx4_0.size : Int) / 256)) % 256)] from rfl) (Reps.one (show Kd.M (Kd.int .u8) _ _ _ ((sx4_0.size : Int) % 256) [.int .u8 ((sx4_0.size : Int) % 256)] from rfl) (Reps.none _ _))))
              intro v314 w24 ho25 hb hg_ hnew_
              clear hg_ hnew_
              (first | rw [← Ny313.out] at ho25 | (simp only [Int.reduceToNat] at ho25; rw [← Ny313.out] at ho25))
              have n0_ := Aside0.mk (Kd.R_lower ho25 (below_size q0_))
              have n1_ := Aside0.mk (blk_below (g := gb310) (o := .cells #[.int .i64 a1, .string sx4_0, .slice none 0 0] 24 (0, 0)) (bkq BK310.out) hb)
              have n2_ := Aside0.mk (below_step q0_ hb)
              clear BK310
              clear HB
              have HO315 := n0_
              have BK310 := n1_
              have HB := n2_
              clear n0_ n1_ n2_
              clear hb ho25
              refine hK.out _ _ trivial (fun hHeld => ?_)
              clear hK K
              refine norm_ (a' := ?_) ?_ ?_
              rotate_left
              ·show Act.put _ (some 65) _ = _
               exact putq
              refine two_ (i := 12) (j := 20) (Ni := some 66) (Nj := some 9) #[true, true, true, true, true, true, true, true, true, true, true, true, true, false, true, false, false, false, false, false, false, false, false] #[true, true, true, true, true, true, true, true, true, true, true, true, false, false, true, false, false, false, false, false, true, false, false] rfl rfl rfl rfl (two_of HT_.out (by kernel_rfl)) (by decide) (by decide) (fun K hK => ?_) (fun K hK => ?_)
              ·skip
               have hcv26 := own_string (P := Tryd.prog) Tryd.underlying41 Tryd.underlying5 Tryd.underlying9 (Kd.own_of_R HO315.out)
               refine value_ (w1 := ?_) (v := ?_) (by rfl) rfl ?_ ?_
               rotate_left 2
               ·go_simp
                constructor
                ·rfl
                ·rfl
               clear hcv26
               refine hK.out _ _ trivial (fun hHeld => ?_)
               clear hK K
               refine norm_ (a' := ?_) ?_ ?_
               rotate_left
               ·show Act.put _ (some 66) _ = _
                exact putq
               refine pure_ (i := 13) (N := some 67) (v := ?_) (a' := ?_) #[true, true, true, true, true, true, true, true, true, true, true, true, true, true, true, false, false, false, false, false, false, false, false] rfl rfl (any_of HT_.out (by kernel_rfl)) (fun _ _ _ h => h) (Or.inl ⟨by rfl, ?_⟩) ?_ ?_
               rotate_left
               ·intro w'
                go_simp
                first | with_reducible rfl | (rw [if_neg (by have q_ := c14; have e0_ : (⟨#[131, 0]⟩ : ByteArray).size = 2 := rfl; simp at q_; omega)]; done) | (rw [if_neg (by have q_ := c14; have e0_ : (⟨#[131, 0]⟩ : ByteArray).size = 2 := rfl; simp at q_; omega)]; rfl) | (rw [if_neg (by have q_ := c13; have e0_ : (⟨#[131, 0]⟩ : ByteArray).size = 2 := rfl; simp at q_; omega)]; done) | (rw [if_neg (by have q_ := c13; have e0_ : (⟨#[131, 0]⟩ : ByteArray).size = 2 := rfl; simp at q_; omega)]; rfl) | (rw [if_neg (by have q_ := c12; simp at q_; omega)]; done) | (rw [if_neg (by have q_ := c12; simp at q_; omega)]; rfl)
               rotate_left
               ·exact putq
               refine pure_ (i := 15) (N := some 69) (v := ?_) (a' := ?_) #[true, true, true, true, true, true, true, true, true, true, true, true, true, true, true, true, false, false, false, false, false, false, false] rfl rfl (any_of HT_.out (by kernel_rfl)) (fun _ _ _ h => h) (Or.inl ⟨by rfl, ?_⟩) ?_ ?_
               rotate_left
               ·intro w'
                go_simp
                first | with_reducible rfl | (rw [if_neg (by have q_ := c14; have e0_ : (⟨#[131, 0]⟩ : ByteArray).size = 2 := rfl; simp at q_; omega)]; done) | (rw [if_neg (by have q_ := c14; have e0_ : (⟨#[131, 0]⟩ : ByteArray).size = 2 := rfl; simp at q_; omega)]; rfl) | (rw [if_neg (by have q_ := c13; have e0_ : (⟨#[131, 0]⟩ : ByteArray).size = 2 := rfl; simp at q_; omega)]; done) | (rw [if_neg (by have q_ := c13; have e0_ : (⟨#[131, 0]⟩ : ByteArray).size = 2 := rfl; simp at q_; omega)]; rfl) | (rw [if_neg (by have q_ := c12; simp at q_; omega)]; done) | (rw [if_neg (by have q_ := c12; simp at q_; omega)]; rfl)
               rotate_left
               ·exact putq
               refine two_ (i := 16) (j := 20) (Ni := some 70) (Nj := some 9) #[true, true, true, true, true, true, true, true, true, true, true, true, true, true, true, true, true, false, false, false, false, false, false] #[true, true, true, true, true, true, true, true, true, true, true, true, true, true, true, true, false, false, false, false, true, false, false] rfl rfl rfl rfl (two_of HT_.out (by kernel_rfl)) (by decide) (by decide) (fun K hK => ?_) (fun K hK => ?_)
               ·skip
                refine goes_ Tryd.func19 (by kernel_rfl) rfl #[.string ((((t311.extract 0 1) ++ (⟨#[131, 0]⟩ : ByteArray)) ++ (strOfNums y313)) ++ sx4_0)] (by rfl) rfl rfl (by (try simp only [List.map_toArray, List.map_cons, List.map_nil]); first | done | (simp only [hji4]; rfl) | rfl | (simp only [List.length_drop, List.length_take]; rfl)) ?_
                with_reducible refine (tlv_Whole.calls (G := G) k ((((t311.extract 0 1) ++ (⟨#[131, 0]⟩ : ByteArray)) ++ (strOfNums y313)) ++ sx4_0) t316 t317 t318 t321 _ ?side1 A15.out).mono ?_
                (case side1 => first | exact hG | exact GW.below hG q0_)
                rintro e w27 ⟨v319, rfl, ho0, hb⟩
                refine ⟨_, rfl, ?_⟩
                have n0_ := Aside0.mk (Kd.R_below (rkq HO315.out) hb)
                have n1_ := Aside0.mk (Kd.R_lower (Kd.R_newB ho0 (g := gb310) (o := .cells #[.int .i64 a1, .string sx4_0, .slice none 0 0] 24 (0, 0)) (bkq BK310.out)) (below_size q0_))
                have n2_ := Aside0.mk (blk_below (g := gb310) (o := .cells #[.int .i64 a1, .string sx4_0, .slice none 0 0] 24 (0, 0)) (bkq BK310.out) hb)
                have n3_ := Aside0.mk (below_step q0_ hb)
                clear HO315
                clear BK310
                clear HB
                have HO315 := n0_
                have HO320 := n1_
                have BK310 := n2_
                have HB := n3_
                clear n0_ n1_ n2_ n3_
                (try clear hb)
                (try clear hb2)
                (try clear hk)
                (try clear hi)
                (try clear ho0)
                refine hK.out _ _ trivial (fun hHeld => ?_)
                clear hK K
                refine norm_ (a' := ?_) ?_ ?_
                rotate_left
                ·show Act.put _ (some 70) _ = _
                 exact putq
                refine pure_ (i := 17) (N := some 53) (v := ?_) (a' := ?_) #[true, true, true, true, true, true, true, true, true, true, true, true, true, true, true, true, true, true, false, false, false, false, false] rfl rfl (any_of HT_.out (by kernel_rfl)) (fun _ _ _ h => h) (Or.inl ⟨by rfl, ?_⟩) ?_ ?_
                rotate_left
                ·intro w'
                 go_simp
                 first | with_reducible rfl | (rw [if_neg (by have q_ := c14; have e0_ : (⟨#[131, 0]⟩ : ByteArray).size = 2 := rfl; simp at q_; omega)]; done) | (rw [if_neg (by have q_ := c14; have e0_ : (⟨#[131, 0]⟩ : ByteArray).size = 2 := rfl; simp at q_; omega)]; rfl) | (rw [if_neg (by have q_ := c13; have e0_ : (⟨#[131, 0]⟩ : ByteArray).size = 2 := rfl; simp at q_; omega)]; done) | (rw [if_neg (by have q_ := c13; have e0_ : (⟨#[131, 0]⟩ : ByteArray).size = 2 := rfl; simp at q_; omega)]; rfl) | (rw [if_neg (by have q_ := c12; simp at q_; omega)]; done) | (rw [if_neg (by have q_ := c12; simp at q_; omega)]; rfl)
                rotate_left
                ·exact putq
                refine pure_ (i := 18) (N := some 71) (v := ?_) (a' := ?_) #[true, true, true, true, true, true, true, true, true, true, true, true, true, true, true, true, true, true, true, false, false, false, false] rfl rfl (any_of HT_.out (by kernel_rfl)) (fun _ _ _ h => h) (Or.inl ⟨by rfl, ?_⟩) ?_ ?_
                rotate_left
                ·intro w'
                 go_simp
                 first | with_reducible rfl | (rw [if_neg (by have q_ := c14; have e0_ : (⟨#[131, 0]⟩ : ByteArray).size = 2 := rfl; simp at q_; omega)]; done) | (rw [if_neg (by have q_ := c14; have e0_ : (⟨#[131, 0]⟩ : ByteArray).size = 2 := rfl; simp at q_; omega)]; rfl) | (rw [if_neg (by have q_ := c13; have e0_ : (⟨#[131, 0]⟩ : ByteArray).size = 2 := rfl; simp at q_; omega)]; done) | (rw [if_neg (by have q_ := c13; have e0_ : (⟨#[131, 0]⟩ : ByteArray).size = 2 := rfl; simp at q_; omega)]; rfl) | (rw [if_neg (by have q_ := c12; simp at q_; omega)]; done) | (rw [if_neg (by have q_ := c12; simp at q_; omega)]; rfl)
                rotate_left
                ·exact putq
                refine pure_ (i := 19) (N := some 72) (v := ?_) (a' := ?_) #[true, true, true, true, true, true, true, true, true, true, true, true, true, true, true, true, true, true, true, true, false, false, false] rfl rfl (any_of HT_.out (by kernel_rfl)) (fun _ _ _ h => h) (Or.inl ⟨by rfl, ?_⟩) ?_ ?_
                rotate_left
                ·intro w'
                 go_simp
                 first | with_reducible rfl | (rw [if_neg (by have q_ := c14; have e0_ : (⟨#[131, 0]⟩ : ByteArray).size = 2 := rfl; simp at q_; omega)]; done) | (rw [if_neg (by have q_ := c14; have e0_ : (⟨#[131, 0]⟩ : ByteArray).size = 2 := rfl; simp at q_; omega)]; rfl) | (rw [if_neg (by have q_ := c13; have e0_ : (⟨#[131, 0]⟩ : ByteArray).size = 2 := rfl; simp at q_; omega)]; done) | (rw [if_neg (by have q_ := c13; have e0_ : (⟨#[131, 0]⟩ : ByteArray).size = 2 := rfl; simp at q_; omega)]; rfl) | (rw [if_neg (by have q_ := c12; simp at q_; omega)]; done) | (rw [if_neg (by have q_ := c12; simp at q_; omega)]; rfl)
                rotate_left
                ·exact putq
                refine one_ (i := 20) (N := some 9) #[true, true, true, true, true, true, true, true, true, true, true, true, true, true, true, true, true, true, true, true, true, false, false] rfl rfl (one_of HT_.out (by kernel_rfl)) (by decide) (fun K hK => ?_)
                refine box_step ?hg (N := 9) ?hd (cs := #[.int .i64 0, .string (⟨#[]⟩ : ByteArray), .slice none 0 0]) (t := 24) ?hr ?_; (case hd => rfl); (case hg => rfl); (case hr => first | (go_simp; done) | (go_simp; rfl))
                intro gb322 hg w28 hbox hb
                have n0_ := Aside0.mk (Kd.R_below (rkq HO315.out) hb)
                have n1_ := Aside0.mk (Kd.R_below (Kd.R_elderB (rkq HO320.out) gb322 (Nat.le_of_eq hg.symm)) hb)
                have n2_ := Aside0.mk (blk_below (g := gb310) (o := .cells #[.int .i64 a1, .string sx4_0, .slice none 0 0] 24 (0, 0)) (bkq BK310.out) hb)
                have n3_ := Aside0.mk (below_step q0_ hb)
                have n4_ := Aside0.mk (hbox)
                have n5_ := Aside0.mk ((by rw [hg]; exact (below_size q0_) : w.heap.size ≤ gb322))
                have n6_ := Aside0.mk ((by rw [hg]; exact (below_size q0_) : w.heap.size ≤ gb322))
                have n7_ := Aside0.mk ((by rw [hg]; exact Nat.ne_of_lt (blk_lt (g := gb310) (o := .cells #[.int .i64 a1, .string sx4_0, .slice none 0 0] 24 (0, 0)) (bkq BK310.out)) : gb310 ≠ gb322))
                have n8_ := Aside0.mk ((by rw [hg]; exact Nat.ne_of_gt (blk_lt (g := gb310) (o := .cells #[.int .i64 a1, .string sx4_0, .slice none 0 0] 24 (0, 0)) (bkq BK310.out)) : gb322 ≠ gb310))
                clear HO315
                clear HO320
                clear BK310
                clear HB
                have HO315 := n0_
                have HO320 := n1_
                have BK310 := n2_
                have HB := n3_
                have BK322 := n4_
                have GW322 := n5_
                have GE322 := n6_
                have NB310_322 := n7_
                have NB322_310 := n8_
                clear n0_ n1_ n2_ n3_ n4_ n5_ n6_ n7_ n8_
                clear hb hbox hg
                refine hK.out _ _ trivial (fun hHeld => ?_)
                clear hK K
                refine norm_ (a' := ?_) ?_ ?_
                rotate_left
                ·show Act.put _ (some 9) _ = _
                 exact putq
                exact norm_ (by simp only [putAll, Act.put, List.setIfInBounds_toArray, List.set_cons_zero, List.set_cons_succ]) (hCont (v314, v319, gb322) _ ⟨(rkq HO315.out), (by refine rkq ?_; exact Kd.R_mono HO320.out (fun _ hk => ⟨hk.1.2, hk.2⟩)), (bkq BK310.out), (bkq BK322.out), GW322.out, GE322.out, NB310_322.out, NB322_310.out, q0_⟩)
               ·skip
                refine box_step ?hg (N := 9) ?hd (cs := #[.int .i64 0, .string (⟨#[]⟩ : ByteArray), .slice none 0 0]) (t := 24) ?hr ?_; (case hd => rfl); (case hg => rfl); (case hr => first | (go_simp; done) | (go_simp; rfl))
                intro gb322 hg w27 hbox hb
                have n0_ := Aside0.mk (Kd.R_below (rkq HO315.out) hb)
                have n1_ := Aside0.mk (blk_below (g := gb310) (o := .cells #[.int .i64 a1, .string sx4_0, .slice none 0 0] 24 (0, 0)) (bkq BK310.out) hb)
                have n2_ := Aside0.mk (below_step q0_ hb)
                have n3_ := Aside0.mk (hbox)
                have n4_ := Aside0.mk ((by rw [hg]; exact (below_size q0_) : w.heap.size ≤ gb322))
                have n5_ := Aside0.mk ((by rw [hg]; exact (below_size q0_) : w.heap.size ≤ gb322))
                have n6_ := Aside0.mk ((by rw [hg]; exact Nat.ne_of_lt (blk_lt (g := gb310) (o := .cells #[.int .i64 a1, .string sx4_0, .slice none 0 0] 24 (0, 0)) (bkq BK310.out)) : gb310 ≠ gb322))
                have n7_ := Aside0.mk ((by rw [hg]; exact Nat.ne_of_gt (blk_lt (g := gb310) (o := .cells #[.int .i64 a1, .string sx4_0, .slice none 0 0] 24 (0, 0)) (bkq BK310.out)) : gb322 ≠ gb310))
                clear HO315
                clear BK310
                clear HB
                have HO315 := n0_
                have BK310 := n1_
                have HB := n2_
                have BK322 := n3_
                have GW322 := n4_
                have GE322 := n5_
                have NB310_322 := n6_
                have NB322_310 := n7_
                clear n0_ n1_ n2_ n3_ n4_ n5_ n6_ n7_
                clear hb hbox hg
                refine hK.out _ _ trivial (fun hHeld => ?_)
                clear hK K
                refine norm_ (a' := ?_) ?_ ?_
                rotate_left
                ·show Act.put _ (some 9) _ = _
                 exact putq
                refine one_ (i := 16) (N := some 70) #[true, true, true, true, true, true, true, true, true, true, true, true, true, true, true, true, true, false, false, false, true, false, false] rfl rfl (one_of HT_.out (by kernel_rfl)) (by decide) (fun K hK => ?_)
                refine goes_ Tryd.func19 (by kernel_rfl) rfl #[.string ((((t311.extract 0 1) ++ (⟨#[131, 0]⟩ : ByteArray)) ++ (strOfNums y313)) ++ sx4_0)] (by rfl) rfl rfl (by (try simp only [List.map_toArray, List.map_cons, List.map_nil]); first | done | (simp only [hji4]; rfl) | rfl | (simp only [List.length_drop, List.length_take]; rfl)) ?_
                with_reducible refine (tlv_Whole.calls (G := G) k ((((t311.extract 0 1) ++ (⟨#[131, 0]⟩ : ByteArray)) ++ (strOfNums y313)) ++ sx4_0) t316 t317 t318 t321 _ ?side1 A15.out).mono ?_
                (case side1 => first | exact hG | exact GW.below hG q0_)
                rintro e w28 ⟨v319, rfl, ho0, hb⟩
                refine ⟨_, rfl, ?_⟩
                have n0_ := Aside0.mk (Kd.R_below (rkq HO315.out) hb)
                have n1_ := Aside0.mk (Kd.R_lower (Kd.R_newB (Kd.R_newB ho0 (g := gb310) (o := .cells #[.int .i64 a1, .string sx4_0, .slice none 0 0] 24 (0, 0)) (bkq BK310.out)) (g := gb322) (o := .cells #[.int .i64 0, .string (⟨#[]⟩ : ByteArray), .slice none 0 0] 24 (0, 0)) (bkq BK322.out)) (below_size q0_))
                have n2_ := Aside0.mk (blk_below (g := gb310) (o := .cells #[.int .i64 a1, .string sx4_0, .slice none 0 0] 24 (0, 0)) (bkq BK310.out) hb)
                have n3_ := Aside0.mk (blk_below (g := gb322) (o := .cells #[.int .i64 0, .string (⟨#[]⟩ : ByteArray), .slice none 0 0] 24 (0, 0)) (bkq BK322.out) hb)
                have n4_ := Aside0.mk (below_step q0_ hb)
                clear HO315
                clear BK310
                clear BK322
                clear HB
                have HO315 := n0_
                have HO320 := n1_
                have BK310 := n2_
                have BK322 := n3_
                have HB := n4_
                clear n0_ n1_ n2_ n3_ n4_
                (try clear hb)
                (try clear hb2)
                (try clear hk)
                (try clear hi)
                (try clear ho0)
                refine hK.out _ _ trivial (fun hHeld => ?_)
                clear hK K
                refine norm_ (a' := ?_) ?_ ?_
                rotate_left
                ·show Act.put _ (some 70) _ = _
                 exact putq
                refine pure_ (i := 17) (N := some 53) (v := ?_) (a' := ?_) #[true, true, true, true, true, true, true, true, true, true, true, true, true, true, true, true, true, true, false, false, true, false, false] rfl rfl (any_of HT_.out (by kernel_rfl)) (fun _ _ _ h => h) (Or.inl ⟨by rfl, ?_⟩) ?_ ?_
                rotate_left
                ·intro w'
                 go_simp
                 first | with_reducible rfl | (rw [if_neg (by have q_ := c14; have e0_ : (⟨#[131, 0]⟩ : ByteArray).size = 2 := rfl; simp at q_; omega)]; done) | (rw [if_neg (by have q_ := c14; have e0_ : (⟨#[131, 0]⟩ : ByteArray).size = 2 := rfl; simp at q_; omega)]; rfl) | (rw [if_neg (by have q_ := c13; have e0_ : (⟨#[131, 0]⟩ : ByteArray).size = 2 := rfl; simp at q_; omega)]; done) | (rw [if_neg (by have q_ := c13; have e0_ : (⟨#[131, 0]⟩ : ByteArray).size = 2 := rfl; simp at q_; omega)]; rfl) | (rw [if_neg (by have q_ := c12; simp at q_; omega)]; done) | (rw [if_neg (by have q_ := c12; simp at q_; omega)]; rfl)
                rotate_left
                ·exact putq
                refine pure_ (i := 18) (N := some 71) (v := ?_) (a' := ?_) #[true, true, true, true, true, true, true, true, true, true, true, true, true, true, true, true, true, true, true, false, true, false, false] rfl rfl (any_of HT_.out (by kernel_rfl)) (fun _ _ _ h => h) (Or.inl ⟨by rfl, ?_⟩) ?_ ?_
                rotate_left
                ·intro w'
                 go_simp
                 first | with_reducible rfl | (rw [if_neg (by have q_ := c14; have e0_ : (⟨#[131, 0]⟩ : ByteArray).size = 2 := rfl; simp at q_; omega)]; done) | (rw [if_neg (by have q_ := c14; have e0_ : (⟨#[131, 0]⟩ : ByteArray).size = 2 := rfl; simp at q_; omega)]; rfl) | (rw [if_neg (by have q_ := c13; have e0_ : (⟨#[131, 0]⟩ : ByteArray).size = 2 := rfl; simp at q_; omega)]; done) | (rw [if_neg (by have q_ := c13; have e0_ : (⟨#[131, 0]⟩ : ByteArray).size = 2 := rfl; simp at q_; omega)]; rfl) | (rw [if_neg (by have q_ := c12; simp at q_; omega)]; done) | (rw [if_neg (by have q_ := c12; simp at q_; omega)]; rfl)
                rotate_left
                ·exact putq
                refine pure_ (i := 19) (N := some 72) (v := ?_) (a' := ?_) #[true, true, true, true, true, true, true, true, true, true, true, true, true, true, true, true, true, true, true, true, true, false, false] rfl rfl (any_of HT_.out (by kernel_rfl)) (fun _ _ _ h => h) (Or.inl ⟨by rfl, ?_⟩) ?_ ?_
                rotate_left
                ·intro w'
                 go_simp
                 first | with_reducible rfl | (rw [if_neg (by have q_ := c14; have e0_ : (⟨#[131, 0]⟩ : ByteArray).size = 2 := rfl; simp at q_; omega)]; done) | (rw [if_neg (by have q_ := c14; have e0_ : (⟨#[131, 0]⟩ : ByteArray).size = 2 := rfl; simp at q_; omega)]; rfl) | (rw [if_neg (by have q_ := c13; have e0_ : (⟨#[131, 0]⟩ : ByteArray).size = 2 := rfl; simp at q_; omega)]; done) | (rw [if_neg (by have q_ := c13; have e0_ : (⟨#[131, 0]⟩ : ByteArray).size = 2 := rfl; simp at q_; omega)]; rfl) | (rw [if_neg (by have q_ := c12; simp at q_; omega)]; done) | (rw [if_neg (by have q_ := c12; simp at q_; omega)]; rfl)
                rotate_left
                ·exact putq
                exact norm_ (by simp only [putAll, Act.put, List.setIfInBounds_toArray, List.set_cons_zero, List.set_cons_succ]) (hCont (v314, v319, gb322) _ ⟨(rkq HO315.out), (by refine rkq ?_; exact Kd.R_mono HO320.out (fun _ hk => ⟨hk.1.2, hk.2⟩)), (bkq BK310.out), (bkq BK322.out), GW322.out, GE322.out, NB310_322.out, NB322_310.out, q0_⟩)
              ·skip
               refine box_step ?hg (N := 9) ?hd (cs := #[.int .i64 0, .string (⟨#[]⟩ : ByteArray), .slice none 0 0]) (t := 24) ?hr ?_; (case hd => rfl); (case hg => rfl); (case hr => first | (go_simp; done) | (go_simp; rfl))
               intro gb322 hg w26 hbox hb
               have n0_ := Aside0.mk (Kd.R_below (rkq HO315.out) hb)
               have n1_ := Aside0.mk (blk_below (g := gb310) (o := .cells #[.int .i64 a1, .string sx4_0, .slice none 0 0] 24 (0, 0)) (bkq BK310.out) hb)
               have n2_ := Aside0.mk (below_step q0_ hb)
               have n3_ := Aside0.mk (hbox)
               have n4_ := Aside0.mk ((by rw [hg]; exact (below_size q0_) : w.heap.size ≤ gb322))
               have n5_ := Aside0.mk ((by rw [hg]; exact (below_size q0_) : w.heap.size ≤ gb322))
               have n6_ := Aside0.mk ((by rw [hg]; exact Nat.ne_of_lt (blk_lt (g := gb310) (o := .cells #[.int .i64 a1, .string sx4_0, .slice none 0 0] 24 (0, 0)) (bkq BK310.out)) : gb310 ≠ gb322))
               have n7_ := Aside0.mk ((by rw [hg]; exact Nat.ne_of_gt (blk_lt (g := gb310) (o := .cells #[.int .i64 a1, .string sx4_0, .slice none 0 0] 24 (0, 0)) (bkq BK310.out)) : gb322 ≠ gb310))
               clear HO315
               clear BK310
               clear HB
               have HO315 := n0_
               have BK310 := n1_
               have HB := n2_
               have BK322 := n3_
               have GW322 := n4_
               have GE322 := n5_
               have NB310_322 := n6_
               have NB322_310 := n7_
               clear n0_ n1_ n2_ n3_ n4_ n5_ n6_ n7_
               clear hb hbox hg
               refine hK.out _ _ trivial (fun hHeld => ?_)
               clear hK K
               refine norm_ (a' := ?_) ?_ ?_
               rotate_left
               ·show Act.put _ (some 9) _ = _
                exact putq
               refine one_ (i := 12) (N := some 66) #[true, true, true, true, true, true, true, true, true, true, true, true, true, false, true, false, false, false, false, false, true, false, false] rfl rfl (one_of HT_.out (by kernel_rfl)) (by decide) (fun K hK => ?_)
               have hcv27 := own_string (P := Tryd.prog) Tryd.underlying41 Tryd.underlying5 Tryd.underlying9 (Kd.own_of_R HO315.out)
               refine value_ (w1 := ?_) (v := ?_) (by rfl) rfl ?_ ?_
               rotate_left 2
               ·go_simp
                constructor
                ·rfl
                ·rfl
               clear hcv27
               refine hK.out _ _ trivial (fun hHeld => ?_)
               clear hK K
               refine norm_ (a' := ?_) ?_ ?_
               rotate_left
               ·show Act.put _ (some 66) _ = _
                exact putq
               refine pure_ (i := 13) (N := some 67) (v := ?_) (a' := ?_) #[true, true, true, true, true, true, true, true, true, true, true, true, true, true, true, false, false, false, false, false, true, false, false] rfl rfl (any_of HT_.out (by kernel_rfl)) (fun _ _ _ h => h) (Or.inl ⟨by rfl, ?_⟩) ?_ ?_
               rotate_left
               ·intro w'
                go_simp
                first | with_reducible rfl | (rw [if_neg (by have q_ := c14; have e0_ : (⟨#[131, 0]⟩ : ByteArray).size = 2 := rfl; simp at q_; omega)]; done) | (rw [if_neg (by have q_ := c14; have e0_ : (⟨#[131, 0]⟩ : ByteArray).size = 2 := rfl; simp at q_; omega)]; rfl) | (rw [if_neg (by have q_ := c13; have e0_ : (⟨#[131, 0]⟩ : ByteArray).size = 2 := rfl; simp at q_; omega)]; done) | (rw [if_neg (by have q_ := c13; have e0_ : (⟨#[131, 0]⟩ : ByteArray).size = 2 := rfl; simp at q_; omega)]; rfl) | (rw [if_neg (by have q_ := c12; simp at q_; omega)]; done) | (rw [if_neg (by have q_ := c12; simp at q_; omega)]; rfl)
               rotate_left
               ·exact putq
               refine pure_ (i := 15) (N := some 69) (v := ?_) (a' := ?_) #[true, true, true, true, true, true, true, true, true, true, true, true, true, true, true, true, false, false, false, false, true, false, false] rfl rfl (any_of HT_.out (by kernel_rfl)) (fun _ _ _ h => h) (Or.inl ⟨by rfl, ?_⟩) ?_ ?_
               rotate_left
               ·intro w'
                go_simp
                first | with_reducible rfl | (rw [if_neg (by have q_ := c14; have e0_ : (⟨#[131, 0]⟩ : ByteArray).size = 2 := rfl; simp at q_; omega)]; done) | (rw [if_neg (by have q_ := c14; have e0_ : (⟨#[131, 0]⟩ : ByteArray).size = 2 := rfl; simp at q_; omega)]; rfl) | (rw [if_neg (by have q_ := c13; have e0_ : (⟨#[131, 0]⟩ : ByteArray).size = 2 := rfl; simp at q_; omega)]; done) | (rw [if_neg (by have q_ := c13; have e0_ : (⟨#[131, 0]⟩ : ByteArray).size = 2 := rfl; simp at q_; omega)]; rfl) | (rw [if_neg (by have q_ := c12; simp at q_; omega)]; done) | (rw [if_neg (by have q_ := c12; simp at q_; omega)]; rfl)
               rotate_left
               ·exact putq
               refine one_ (i := 16) (N := some 70) #[true, true, true, true, true, true, true, true, true, true, true, true, true, true, true, true, true, false, false, false, true, false, false] rfl rfl (one_of HT_.out (by kernel_rfl)) (by decide) (fun K hK => ?_)
               refine goes_ Tryd.func19 (by kernel_rfl) rfl #[.string ((((t311.extract 0 1) ++ (⟨#[131, 0]⟩ : ByteArray)) ++ (strOfNums y313)) ++ sx4_0)] (by rfl) rfl rfl (by (try simp only [List.map_toArray, List.map_cons, List.map_nil]); first | done | (simp only [hji4]; rfl) | rfl | (simp only [List.length_drop, List.length_take]; rfl)) ?_
               with_reducible refine (tlv_Whole.calls (G := G) k ((((t311.extract 0 1) ++ (⟨#[131, 0]⟩ : ByteArray)) ++ (strOfNums y313)) ++ sx4_0) t316 t317 t318 t321 _ ?side1 A15.out).mono ?_
               (case side1 => first | exact hG | exact GW.below hG q0_)
               rintro e w28 ⟨v319, rfl, ho0, hb⟩
               refine ⟨_, rfl, ?_⟩
               have n0_ := Aside0.mk (Kd.R_below (rkq HO315.out) hb)
               have n1_ := Aside0.mk (Kd.R_lower (Kd.R_newB (Kd.R_newB ho0 (g := gb310) (o := .cells #[.int .i64 a1, .string sx4_0, .slice none 0 0] 24 (0, 0)) (bkq BK310.out)) (g := gb322) (o := .cells #[.int .i64 0, .string (⟨#[]⟩ : ByteArray), .slice none 0 0] 24 (0, 0)) (bkq BK322.out)) (below_size q0_))
               have n2_ := Aside0.mk (blk_below (g := gb310) (o := .cells #[.int .i64 a1, .string sx4_0, .slice none 0 0] 24 (0, 0)) (bkq BK310.out) hb)
               have n3_ := Aside0.mk (blk_below (g := gb322) (o := .cells #[.int .i64 0, .string (⟨#[]⟩ : ByteArray), .slice none 0 0] 24 (0, 0)) (bkq BK322.out) hb)
               have n4_ := Aside0.mk (below_step q0_ hb)
               clear HO315
               clear BK310
               clear BK322
               clear HB
               have HO315 := n0_
               have HO320 := n1_
               have BK310 := n2_
               have BK322 := n3_
               have HB := n4_
               clear n0_ n1_ n2_ n3_ n4_
               (try clear hb)
               (try clear hb2)
               (try clear hk)
               (try clear hi)
               (try clear ho0)
               refine hK.out _ _ trivial (fun hHeld => ?_)
               clear hK K
               refine norm_ (a' := ?_) ?_ ?_
               rotate_left
               ·show Act.put _ (some 70) _ = _
                exact putq
               refine pure_ (i := 17) (N := some 53) (v := ?_) (a' := ?_) #[true, true, true, true, true, true, true, true, true, true, true, true, true, true, true, true, true, true, false, false, true, false, false] rfl rfl (any_of HT_.out (by kernel_rfl)) (fun _ _ _ h => h) (Or.inl ⟨by rfl, ?_⟩) ?_ ?_
               rotate_left
               ·intro w'
                go_simp
                first | with_reducible rfl | (rw [if_neg (by have q_ := c14; have e0_ : (⟨#[131, 0]⟩ : ByteArray).size = 2 := rfl; simp at q_; omega)]; done) | (rw [if_neg (by have q_ := c14; have e0_ : (⟨#[131, 0]⟩ : ByteArray).size = 2 := rfl; simp at q_; omega)]; rfl) | (rw [if_neg (by have q_ := c13; have e0_ : (⟨#[131, 0]⟩ : ByteArray).size = 2 := rfl; simp at q_; omega)]; done) | (rw [if_neg (by have q_ := c13; have e0_ : (⟨#[131, 0]⟩ : ByteArray).size = 2 := rfl; simp at q_; omega)]; rfl) | (rw [if_neg (by have q_ := c12; simp at q_; omega)]; done) | (rw [if_neg (by have q_ := c12; simp at q_; omega)]; rfl)
               rotate_left
               ·exact putq
               refine pure_ (i := 18) (N := some 71) (v := ?_) (a' := ?_) #[true, true, true, true, true, true, true, true, true, true, true, true, true, true, true, true, true, true, true, false, true, false, false] rfl rfl (any_of HT_.out (by kernel_rfl)) (fun _ _ _ h => h) (Or.inl ⟨by rfl, ?_⟩) ?_ ?_
               rotate_left
               ·intro w'
                go_simp
                first | with_reducible rfl | (rw [if_neg (by have q_ := c14; have e0_ : (⟨#[131, 0]⟩ : ByteArray).size = 2 := rfl; simp at q_; omega)]; done) | (rw [if_neg (by have q_ := c14; have e0_ : (⟨#[131, 0]⟩ : ByteArray).size = 2 := rfl; simp at q_; omega)]; rfl) | (rw [if_neg (by have q_ := c13; have e0_ : (⟨#[131, 0]⟩ : ByteArray).size = 2 := rfl; simp at q_; omega)]; done) | (rw [if_neg (by have q_ := c13; have e0_ : (⟨#[131, 0]⟩ : ByteArray).size = 2 := rfl; simp at q_; omega)]; rfl) | (rw [if_neg (by have q_ := c12; simp at q_; omega)]; done) | (rw [if_neg (by have q_ := c12; simp at q_; omega)]; rfl)
               rotate_left
               ·exact putq
               refine pure_ (i := 19) (N := some 72) (v := ?_) (a' := ?_) #[true, true, true, true, true, true, true, true, true, true, true, true, true, true, true, true, true, true, true, true, true, false, false] rfl rfl (any_of HT_.out (by kernel_rfl)) (fun _ _ _ h => h) (Or.inl ⟨by rfl, ?_⟩) ?_ ?_
               rotate_left
               ·intro w'
                go_simp
                first | with_reducible rfl | (rw [if_neg (by have q_ := c14; have e0_ : (⟨#[131, 0]⟩ : ByteArray).size = 2 := rfl; simp at q_; omega)]; done) | (rw [if_neg (by have q_ := c14; have e0_ : (⟨#[131, 0]⟩ : ByteArray).size = 2 := rfl; simp at q_; omega)]; rfl) | (rw [if_neg (by have q_ := c13; have e0_ : (⟨#[131, 0]⟩ : ByteArray).size = 2 := rfl; simp at q_; omega)]; done) | (rw [if_neg (by have q_ := c13; have e0_ : (⟨#[131, 0]⟩ : ByteArray).size = 2 := rfl; simp at q_; omega)]; rfl) | (rw [if_neg (by have q_ := c12; simp at q_; omega)]; done) | (rw [if_neg (by have q_ := c12; simp at q_; omega)]; rfl)
               rotate_left
               ·exact putq
               exact norm_ (by simp only [putAll, Act.put, List.setIfInBounds_toArray, List.set_cons_zero, List.set_cons_succ]) (hCont (v314, v319, gb322) _ ⟨(rkq HO315.out), (by refine rkq ?_; exact Kd.R_mono HO320.out (fun _ hk => ⟨hk.1.2, hk.2⟩)), (bkq BK310.out), (bkq BK322.out), GW322.out, GE322.out, NB310_322.out, NB322_310.out, q0_⟩)
             ·skip
              refine box_step ?hg (N := 9) ?hd (cs := #[.int .i64 0, .string (⟨#[]⟩ : ByteArray), .slice none 0 0]) (t := 24) ?hr ?_; (case hd => rfl); (case hg => rfl); (case hr => first | (go_simp; done) | (go_simp; rfl))
              intro gb322 hg w24 hbox hb
              have n0_ := Aside0.mk (blk_below (g := gb310) (o := .cells #[.int .i64 a1, .string sx4_0, .slice none 0 0] 24 (0, 0)) (bkq BK310.out) hb)
              have n1_ := Aside0.mk (below_step q0_ hb)
              have n2_ := Aside0.mk (hbox)
              have n3_ := Aside0.mk ((by rw [hg]; exact (below_size q0_) : w.heap.size ≤ gb322))
              have n4_ := Aside0.mk ((by rw [hg]; exact (below_size q0_) : w.heap.size ≤ gb322))
              have n5_ := Aside0.mk ((by rw [hg]; exact Nat.ne_of_lt (blk_lt (g := gb310) (o := .cells #[.int .i64 a1, .string sx4_0, .slice none 0 0] 24 (0, 0)) (bkq BK310.out)) : gb310 ≠ gb322))
              have n6_ := Aside0.mk ((by rw [hg]; exact Nat.ne_of_gt (blk_lt (g := gb310) (o := .cells #[.int .i64 a1, .string sx4_0, .slice none 0 0] 24 (0, 0)) (bkq BK310.out)) : gb322 ≠ gb310))
              clear BK310
              clear HB
              have BK310 := n0_
              have HB := n1_
              have BK322 := n2_
              have GW322 := n3_
              have GE322 := n4_
              have NB310_322 := n5_
              have NB322_310 := n6_
              clear n0_ n1_ n2_ n3_ n4_ n5_ n6_
              clear hb hbox hg
              refine hK.out _ _ trivial (fun hHeld => ?_)
              clear hK K
              refine norm_ (a' := ?_) ?_ ?_
              rotate_left
              ·show Act.put _ (some 9) _ = _
               exact putq
              refine one_ (i := 11) (N := some 65) #[true, true, true, true, true, true, true, true, true, true, true, true, false, false, true, false, false, false, false, false, true, false, false] rfl rfl (one_of HT_.out (by kernel_rfl)) (by decide) (fun K hK => ?_)
              refine Kd.R_lit_step (Kd.int .u8) _ 5 ?hg (N := 65) ?hd (xs := ([(wrap64 ((sx4_0.size : Int) / 256)) % 256, (sx4_0.size : Int) % 256] : List Int)) (inner := [.int .u8 ((wrap64 ((sx4_0.size : Int) / 256)) % 256), .int .u8 ((sx4_0.size : Int) % 256)]) (ok := fun _ => True) (okp := fun _ => True) ?hr ?hp (fun _ hk => hk) trivial (Below.refl _ _) (Nat.le_refl _) (by simp) ?_; (case hd => rfl); (case hg => rfl); (case hr => first | (go_simp; done) | (go_simp; rfl)); (case hp => exact (Reps.one (show Kd.M (Kd.int .u8) _ _ _ ((wrap64 ((sx4_0.size : Int) / 256)) % 256) [.int .u8 ((wrap64 ((sx4_0.size : Int) / 256)) % 256)] from rfl) (Reps.one (show Kd.M (Kd.int .u8) _ _ _ ((sx4_0.size : Int) % 256) [.int .u8 ((sx4_0.size : Int) % 256)] from rfl) (Reps.none _ _))))
              intro v314 w25 ho26 hb hg_ hnew_
              clear hg_ hnew_
              (first | rw [← Ny313.out] at ho26 | (simp only [Int.reduceToNat] at ho26; rw [← Ny313.out] at ho26))
              have n0_ := Aside0.mk (Kd.R_lower ho26 (below_size q0_))
              have n1_ := Aside0.mk (blk_below (g := gb310) (o := .cells #[.int .i64 a1, .string sx4_0, .slice none 0 0] 24 (0, 0)) (bkq BK310.out) hb)
              have n2_ := Aside0.mk (blk_below (g := gb322) (o := .cells #[.int .i64 0, .string (⟨#[]⟩ : ByteArray), .slice none 0 0] 24 (0, 0)) (bkq BK322.out) hb)
              have n3_ := Aside0.mk (below_step q0_ hb)
              clear BK310
              clear BK322
              clear HB
              have HO315 := n0_
              have BK310 := n1_
              have BK322 := n2_
              have HB := n3_
              clear n0_ n1_ n2_ n3_
              clear hb ho26
              refine hK.out _ _ trivial (fun hHeld => ?_)
              clear hK K
              refine norm_ (a' := ?_) ?_ ?_
              rotate_left
              ·show Act.put _ (some 65) _ = _
               exact putq
              refine one_ (i := 12) (N := some 66) #[true, true, true, true, true, true, true, true, true, true, true, true, true, false, true, false, false, false, false, false, true, false, false] rfl rfl (one_of HT_.out (by kernel_rfl)) (by decide) (fun K hK => ?_)
              have hcv27 := own_string (P := Tryd.prog) Tryd.underlying41 Tryd.underlying5 Tryd.underlying9 (Kd.own_of_R HO315.out)
              refine value_ (w1 := ?_) (v := ?_) (by rfl) rfl ?_ ?_
              rotate_left 2
              ·go_simp
               constructor
               ·rfl
               ·rfl
              clear hcv27
              refine hK.out _ _ trivial (fun hHeld => ?_)
              clear hK K
              refine norm_ (a' := ?_) ?_ ?_
              rotate_left
              ·show Act.put _ (some 66) _ = _
               exact putq
              refine pure_ (i := 13) (N := some 67) (v := ?_) (a' := ?_) #[true, true, true, true, true, true, true, true, true, true, true, true, true, true, true, false, false, false, false, false, true, false, false] rfl rfl (any_of HT_.out (by kernel_rfl)) (fun _ _ _ h => h) (Or.inl ⟨by rfl, ?_⟩) ?_ ?_
              rotate_left
              ·intro w'
               go_simp
               first | with_reducible rfl | (rw [if_neg (by have q_ := c14; have e0_ : (⟨#[131, 0]⟩ : ByteArray).size = 2 := rfl; simp at q_; omega)]; done) | (rw [if_neg (by have q_ := c14; have e0_ : (⟨#[131, 0]⟩ : ByteArray).size = 2 := rfl; simp at q_; omega)]; rfl) | (rw [if_neg (by have q_ := c13; have e0_ : (⟨#[131, 0]⟩ : ByteArray).size = 2 := rfl; simp at q_; omega)]; done) | (rw [if_neg (by have q_ := c13; have e0_ : (⟨#[131, 0]⟩ : ByteArray).size = 2 := rfl; simp at q_; omega)]; rfl) | (rw [if_neg (by have q_ := c12; simp at q_; omega)]; done) | (rw [if_neg (by have q_ := c12; simp at q_; omega)]; rfl)
              rotate_left
              ·exact putq
              refine pure_ (i := 15) (N := some 69) (v := ?_) (a' := ?_) #[true, true, true, true, true, true, true, true, true, true, true, true, true, true, true, true, false, false, false, false, true, false, false] rfl rfl (any_of HT_.out (by kernel_rfl)) (fun _ _ _ h => h) (Or.inl ⟨by rfl, ?_⟩) ?_ ?_
              rotate_left
              ·intro w'
               go_simp
               first | with_reducible rfl | (rw [if_neg (by have q_ := c14; have e0_ : (⟨#[131, 0]⟩ : ByteArray).size = 2 := rfl; simp at q_; omega)]; done) | (rw [if_neg (by have q_ := c14; have e0_ : (⟨#[131, 0]⟩ : ByteArray).size = 2 := rfl; simp at q_; omega)]; rfl) | (rw [if_neg (by have q_ := c13; have e0_ : (⟨#[131, 0]⟩ : ByteArray).size = 2 := rfl; simp at q_; omega)]; done) | (rw [if_neg (by have q_ := c13; have e0_ : (⟨#[131, 0]⟩ : ByteArray).size = 2 := rfl; simp at q_; omega)]; rfl) | (rw [if_neg (by have q_ := c12; simp at q_; omega)]; done) | (rw [if_neg (by have q_ := c12; simp at q_; omega)]; rfl)
              rotate_left
              ·exact putq
              refine one_ (i := 16) (N := some 70) #[true, true, true, true, true, true, true, true, true, true, true, true, true, true, true, true, true, false, false, false, true, false, false] rfl rfl (one_of HT_.out (by kernel_rfl)) (by decide) (fun K hK => ?_)
              refine goes_ Tryd.func19 (by kernel_rfl) rfl #[.string ((((t311.extract 0 1) ++ (⟨#[131, 0]⟩ : ByteArray)) ++ (strOfNums y313)) ++ sx4_0)] (by rfl) rfl rfl (by (try simp only [List.map_toArray, List.map_cons, List.map_nil]); first | done | (simp only [hji4]; rfl) | rfl | (simp only [List.length_drop, List.length_take]; rfl)) ?_
              with_reducible refine (tlv_Whole.calls (G := G) k ((((t311.extract 0 1) ++ (⟨#[131, 0]⟩ : ByteArray)) ++ (strOfNums y313)) ++ sx4_0) t316 t317 t318 t321 _ ?side1 A15.out).mono ?_
              (case side1 => first | exact hG | exact GW.below hG q0_)
              rintro e w28 ⟨v319, rfl, ho0, hb⟩
              refine ⟨_, rfl, ?_⟩
              have n0_ := Aside0.mk (Kd.R_below (rkq HO315.out) hb)
              have n1_ := Aside0.mk (Kd.R_lower (Kd.R_newB (Kd.R_newB ho0 (g := gb310) (o := .cells #[.int .i64 a1, .string sx4_0, .slice none 0 0] 24 (0, 0)) (bkq BK310.out)) (g := gb322) (o := .cells #[.int .i64 0, .string (⟨#[]⟩ : ByteArray), .slice none 0 0] 24 (0, 0)) (bkq BK322.out)) (below_size q0_))
              have n2_ := Aside0.mk (blk_below (g := gb310) (o := .cells #[.int .i64 a1, .string sx4_0, .slice none 0 0] 24 (0, 0)) (bkq BK310.out) hb)
              have n3_ := Aside0.mk (blk_below (g := gb322) (o := .cells #[.int .i64 0, .string (⟨#[]⟩ : ByteArray), .slice none 0 0] 24 (0, 0)) (bkq BK322.out) hb)
              have n4_ := Aside0.mk (below_step q0_ hb)
              clear HO315
              clear BK310
              clear BK322
              clear HB
              have HO315 := n0_
              have HO320 := n1_
              have BK310 := n2_
              have BK322 := n3_
              have HB := n4_
              clear n0_ n1_ n2_ n3_ n4_
              (try clear hb)
              (try clear hb2)
              (try clear hk)
              (try clear hi)
              (try clear ho0)
              refine hK.out _ _ trivial (fun hHeld => ?_)
              clear hK K
              refine norm_ (a' := ?_) ?_ ?_
              rotate_left
              ·show Act.put _ (some 70) _ = _
               exact putq
              refine pure_ (i := 17) (N := some 53) (v := ?_) (a' := ?_) #[true, true, true, true, true, true, true, true, true, true, true, true, true, true, true, true, true, true, false, false, true, false, false] rfl rfl (any_of HT_.out (by kernel_rfl)) (fun _ _ _ h => h) (Or.inl ⟨by rfl, ?_⟩) ?_ ?_
              rotate_left
              ·intro w'
               go_simp
               first | with_reducible rfl | (rw [if_neg (by have q_ := c14; have e0_ : (⟨#[131, 0]⟩ : ByteArray).size = 2 := rfl; simp at q_; omega)]; done) | (rw [if_neg (by have q_ := c14; have e0_ : (⟨#[131, 0]⟩ : ByteArray).size = 2 := rfl; simp at q_; omega)]; rfl) | (rw [if_neg (by have q_ := c13; have e0_ : (⟨#[131, 0]⟩ : ByteArray).size = 2 := rfl; simp at q_; omega)]; done) | (rw [if_neg (by have q_ := c13; have e0_ : (⟨#[131, 0]⟩ : ByteArray).size = 2 := rfl; simp at q_; omega)]; rfl) | (rw [if_neg (by have q_ := c12; simp at q_; omega)]; done) | (rw [if_neg (by have q_ := c12; simp at q_; omega)]; rfl)
              rotate_left
              ·exact putq
              refine pure_ (i := 18) (N := some 71) (v := ?_) (a' := ?_) #[true, true, true, true, true, true, true, true, true, true, true, true, true, true, true, true, true, true, true, false, true, false, false] rfl rfl (any_of HT_.out (by kernel_rfl)) (fun _ _ _ h => h) (Or.inl ⟨by rfl, ?_⟩) ?_ ?_
              rotate_left
              ·intro w'
               go_simp
               first | with_reducible rfl | (rw [if_neg (by have q_ := c14; have e0_ : (⟨#[131, 0]⟩ : ByteArray).size = 2 := rfl; simp at q_; omega)]; done) | (rw [if_neg (by have q_ := c14; have e0_ : (⟨#[131, 0]⟩ : ByteArray).size = 2 := rfl; simp at q_; omega)]; rfl) | (rw [if_neg (by have q_ := c13; have e0_ : (⟨#[131, 0]⟩ : ByteArray).size = 2 := rfl; simp at q_; omega)]; done) | (rw [if_neg (by have q_ := c13; have e0_ : (⟨#[131, 0]⟩ : ByteArray).size = 2 := rfl; simp at q_; omega)]; rfl) | (rw [if_neg (by have q_ := c12; simp at q_; omega)]; done) | (rw [if_neg (by have q_ := c12; simp at q_; omega)]; rfl)
              rotate_left
              ·exact putq
              refine pure_ (i := 19) (N := some 72) (v := ?_) (a' := ?_) #[true, true, true, true, true, true, true, true, true, true, true, true, true, true, true, true, true, true, true, true, true, false, false] rfl rfl (any_of HT_.out (by kernel_rfl)) (fun _ _ _ h => h) (Or.inl ⟨by rfl, ?_⟩) ?_ ?_
              rotate_left
              ·intro w'
               go_simp
               first | with_reducible rfl | (rw [if_neg (by have q_ := c14; have e0_ : (⟨#[131, 0]⟩ : ByteArray).size = 2 := rfl; simp at q_; omega)]; done) | (rw [if_neg (by have q_ := c14; have e0_ : (⟨#[131, 0]⟩ : ByteArray).size = 2 := rfl; simp at q_; omega)]; rfl) | (rw [if_neg (by have q_ := c13; have e0_ : (⟨#[131, 0]⟩ : ByteArray).size = 2 := rfl; simp at q_; omega)]; done) | (rw [if_neg (by have q_ := c13; have e0_ : (⟨#[131, 0]⟩ : ByteArray).size = 2 := rfl; simp at q_; omega)]; rfl) | (rw [if_neg (by have q_ := c12; simp at q_; omega)]; done) | (rw [if_neg (by have q_ := c12; simp at q_; omega)]; rfl)
              rotate_left
              ·exact putq
              exact norm_ (by simp only [putAll, Act.put, List.setIfInBounds_toArray, List.set_cons_zero, List.set_cons_succ]) (hCont (v314, v319, gb322) _ ⟨(rkq HO315.out), (by refine rkq ?_; exact Kd.R_mono HO320.out (fun _ hk => ⟨hk.1.2, hk.2⟩)), (bkq BK310.out), (bkq BK322.out), GW322.out, GE322.out, NB310_322.out, NB322_310.out, q0_⟩)
            rintro ⟨v314, v319, gb322⟩ w29 ⟨h0_, h1_, h2_, h3_, h4_, h5_, h6_, h7_, h8_⟩
            have n0_ : Aside0 (Kd.R (Kd.int .u8) 5 w29 w.heap.size (fun _ => True) v314 y313) := ⟨h0_⟩
            have n1_ : Aside0 (Kd.R k24 24 w29 w.heap.size (fun k_ => k_ ≠ gb310 ∧ k_ ≠ gb322) v319 t318) := ⟨h1_⟩
            have n2_ : Aside0 (w29.heap[gb310]? = some (.cells #[.int .i64 a1, .string sx4_0, .slice none 0 0] 24 (0, 0))) := ⟨h2_⟩
            have n3_ : Aside0 (w29.heap[gb322]? = some (.cells #[.int .i64 0, .string (⟨#[]⟩ : ByteArray), .slice none 0 0] 24 (0, 0))) := ⟨h3_⟩
            have n4_ : Aside0 (w.heap.size ≤ gb322) := ⟨h4_⟩
            have n5_ : Aside0 (w.heap.size ≤ gb322) := ⟨h5_⟩
            have n6_ : Aside0 (gb310 ≠ gb322) := ⟨h6_⟩
            have n7_ : Aside0 (gb322 ≠ gb310) := ⟨h7_⟩
            have n8_ : Aside0 (Below w.heap.size w w29) := ⟨h8_⟩
            clear BK310
            clear HB
            clear h0_ h1_ h2_ h3_ h4_ h5_ h6_ h7_ h8_
            have HO315 := n0_
            have HO320 := n1_
            have BK310 := n2_
            have BK322 := n3_
            have GW322 := n4_
            have GE322 := n5_
            have NB310_322 := n6_
            have NB322_310 := n7_
            have HB := n8_
            clear n0_ n1_ n2_ n3_ n4_ n5_ n6_ n7_ n8_
            have hHeld := trivial
            obtain ⟨Ao32, co32, eo32⟩ := Kd.R_slice HO320.out
            (first | subst eo32 | (injection eo32 with f1_ f2_ f3_; have f4_ := f1_.symm; have f5_ := f3_.symm; clear f1_ f2_ f3_; subst f4_; subst f5_))
            refine norm_ (a' := ?_) ?_ ?_
            rotate_left
            ·simp only [putAll, Act.put, List.setIfInBounds_toArray, List.set_cons_zero, List.set_cons_succ]
             rfl
            refine one_ (i := 21) (N := none) #[true, true, true, true, true, true, true, true, true, true, true, true, true, true, true, true, true, true, true, true, true, true, false] rfl rfl (one_of HT_.out (by kernel_rfl)) (by decide) (fun K hK => ?_)
            have hs30 : w29.cell? ⟨gb322, 0, none⟩ = some (.int .i64 0) := (blk_cell BK322.out 0).trans rfl
            have hfs30 := blk_frozen BK322.out 0
            have hns30_0 := NB310_322.out
            have hms30_0 := NB322_310.out
            have hs31 : w29.cell? ⟨gb322, 1, none⟩ = some (.string (⟨#[]⟩ : ByteArray)) := (blk_cell BK322.out 1).trans rfl
            have hfs31 := blk_frozen BK322.out 1
            have hns31_0 := NB310_322.out
            have hms31_0 := NB322_310.out
            have hs33 : w29.cell? ⟨gb322, 2, none⟩ = some (.slice none 0 0) := (blk_cell BK322.out 2).trans rfl
            have hfs33 := blk_frozen BK322.out 2
            have hns33_0 := NB310_322.out
            have hms33_0 := NB322_310.out
            refine skip_ (w1 := ?_) (by rfl) rfl ?_ ?_
            rotate_left
            ·go_simp
             rfl
            refine hK.out _ _ trivial (fun hHeld => ?_)
            clear hK K
            refine pure_ (i := 22) (N := some 10) (v := ?_) (a' := ?_) #[true, true, true, true, true, true, true, true, true, true, true, true, true, true, true, true, true, true, true, true, true, true, true] rfl rfl (any_of HT_.out (by kernel_rfl)) (fun _ _ _ h => h) (Or.inl ⟨by rfl, ?_⟩) ?_ ?_
            rotate_left
            ·intro w'
             go_simp
             first | with_reducible rfl | (rw [if_neg (by have q_ := c14; have e0_ : (⟨#[131, 0]⟩ : ByteArray).size = 2 := rfl; simp at q_; omega)]; done) | (rw [if_neg (by have q_ := c14; have e0_ : (⟨#[131, 0]⟩ : ByteArray).size = 2 := rfl; simp at q_; omega)]; rfl) | (rw [if_neg (by have q_ := c13; have e0_ : (⟨#[131, 0]⟩ : ByteArray).size = 2 := rfl; simp at q_; omega)]; done) | (rw [if_neg (by have q_ := c13; have e0_ : (⟨#[131, 0]⟩ : ByteArray).size = 2 := rfl; simp at q_; omega)]; rfl) | (rw [if_neg (by have q_ := c12; simp at q_; omega)]; done) | (rw [if_neg (by have q_ := c12; simp at q_; omega)]; rfl)
            rotate_left
            ·exact putq
            refine done_ (done_of HT_.out (by kernel_rfl)) ?_
            have hnb34 := NB310_322.out
            have hnc34 := NB322_310.out
            have hcz35_0 : w29.cell? ⟨gb310, 0, none⟩ = some (.int .i64 a1) := (blk_cell BK310.out 0).trans rfl
            have hcz35_1 : w29.cell? ⟨gb310, 1, none⟩ = some (.string sx4_0) := (blk_cell BK310.out 1).trans rfl
            have hcz35_2 : w29.cell? ⟨gb310, 2, none⟩ = some (.slice none 0 0) := (blk_cell BK310.out 2).trans rfl
            have hfz35_0 := blk_frozen BK310.out 0
            have hfz35_1 := blk_frozen BK310.out 1
            have hfz35_2 := blk_frozen BK310.out 2
            have hcz36_0 : w29.cell? ⟨gb322, 0, none⟩ = some (.int .i64 0) := (blk_cell BK322.out 0).trans rfl
            have hcz36_1 : w29.cell? ⟨gb322, 1, none⟩ = some (.string (⟨#[]⟩ : ByteArray)) := (blk_cell BK322.out 1).trans rfl
            have hcz36_2 : w29.cell? ⟨gb322, 2, none⟩ = some (.slice none 0 0) := (blk_cell BK322.out 2).trans rfl
            have hfz36_0 := blk_frozen BK322.out 0
            have hfz36_1 := blk_frozen BK322.out 1
            have hfz36_2 := blk_frozen BK322.out 2
            try go_wp2_with (first | (go_at_call 23; (refine (tlv_Same.calls a1 sx4_0 _ _ ([] : List (S24)) t316 t317 _ _ t318 t323 _ ?side1 ?side2 ?side3 ?side4 A18.out).mono ?_); (case side1 => exact Kd.C_nil _ _); (case side2 => exact Nat.le_refl _); (case side3 => refine (Kd.R_reads' (e := 24) (base := w.heap.size) (ok := fun k_ => (k_ ≠ gb310 ∧ k_ ≠ gb322)) (n := t318.length) (c := co32) ?_).2.2; exact (by refine rkq ?_; exact (Kd.R_mono (Kd.R_far (p := ⟨gb322, 2, none⟩) (Kd.R_far (p := ⟨gb322, 1, none⟩) (Kd.R_far (p := ⟨gb322, 0, none⟩) (Kd.R_mono HO320.out (fun k_ hk => (⟨hk, hk.2⟩ : _ ∧ k_ ≠ gb322))) (fun _ hk => hk.2) (.int .i64 t316)) (fun _ hk => hk.2) (.string t317)) (fun _ hk => hk.2) (.slice Ao32 t318.length co32)) (fun _ h_ => h_.1)))); (case side4 => exact (Kd.R_reads' HO320.out).2.1); rintro e w37 ⟨rfl, hb⟩; have n0_ := Aside0.mk (Kd.R_below (by refine rkq ?_; exact (Kd.R_mono (Kd.R_far (p := ⟨gb322, 2, none⟩) (Kd.R_far (p := ⟨gb322, 1, none⟩) (Kd.R_far (p := ⟨gb322, 0, none⟩) (Kd.R_types HO315.out BK322.out (by decide)) (fun _ hk => hk.2) (.int .i64 t316)) (fun _ hk => hk.2) (.string t317)) (fun _ hk => hk.2) (.slice Ao32 t318.length co32)) (fun _ h_ => h_.1))) hb); have n1_ := Aside0.mk (Kd.R_below (by refine rkq ?_; exact (Kd.R_mono (Kd.R_far (p := ⟨gb322, 2, none⟩) (Kd.R_far (p := ⟨gb322, 1, none⟩) (Kd.R_far (p := ⟨gb322, 0, none⟩) (Kd.R_mono HO320.out (fun k_ hk => (⟨hk, hk.2⟩ : _ ∧ k_ ≠ gb322))) (fun _ hk => hk.2) (.int .i64 t316)) (fun _ hk => hk.2) (.string t317)) (fun _ hk => hk.2) (.slice Ao32 t318.length co32)) (fun _ h_ => h_.1))) hb); have n2_ := Aside0.mk (blk_below (g := gb310) (o := .cells #[.int .i64 a1, .string sx4_0, .slice none 0 0] 24 (0, 0)) (by refine bkq ?_; refine blk_far ?_ NB310_322.out _; refine bkq ?_; refine blk_far ?_ NB310_322.out _; refine bkq ?_; refine blk_far ?_ NB310_322.out _; refine bkq ?_; exact BK310.out) hb); have n3_ := Aside0.mk (blk_below (g := gb322) (o := .cells #[.int .i64 t316, .string t317, .slice Ao32 t318.length co32] 24 (0, 0)) (by refine bkq ?_; refine blk_put (cs := #[.int .i64 t316, .string t317, .slice none 0 0]) ?_ 2 _ rfl; refine bkq ?_; refine blk_put (cs := #[.int .i64 t316, .string (⟨#[]⟩ : ByteArray), .slice none 0 0]) ?_ 1 _ rfl; refine bkq ?_; refine blk_put (cs := #[.int .i64 0, .string (⟨#[]⟩ : ByteArray), .slice none 0 0]) ?_ 0 _ rfl; refine bkq ?_; exact BK322.out) hb); have n4_ := Aside0.mk (below_step q0_ hb); clear HO315; clear HO320; clear BK310; clear BK322; clear HB; have HO315 := n0_; have HO320 := n1_; have BK310 := n2_; have BK322 := n3_; have HB := n4_; clear n0_ n1_ n2_ n3_ n4_; (try clear hb); (try clear hb2); (try clear hk); (try clear hi)))
            go_ret
            exact ⟨q14_, q0_⟩
           ·rw [if_neg c17] at H
            exact absurd H (by simp)
          ·replace c16 := Bool.eq_false_iff.mpr c16
           subst c16
           have H1 : (none) = some r := by rw [if_neg (show ¬ (false = true) by decide)] at H; exact H
           clear H
           have H := H1
           clear H1
           exact absurd H (by simp)
         ·rw [if_neg c14] at H
          exact absurd H (by simp)
        ·rw [if_neg c13] at H
         exact absurd H (by simp)
       ·rw [if_neg c12] at H
        exact absurd H (by simp)
      ·rw [if_neg c11] at H
       exact absurd H (by simp)
     ·rw [if_neg c10] at H
      exact absurd H (by simp)
   ·rw [if_neg c8] at H
    have c8b0 : (t312 == 0) = false := beq_eq_false_iff_ne.mpr c8
    have c8b1 : (t312 != 0) = true := bne_iff_ne.mpr c8
    by_cases c38 : t309 = true
    ·subst c38
     have H1 : (if t311.toList = ([] : List UInt8) then (if a1 < 0 then (some true) else (if a1 > 255 then (some true) else (if (Int.tmod a1 32) = 31 then (some true) else (some ((Int.tmod (wrap64 (Int.tdiv a1 32)) 2) == 1))))) else (none)) = some r := by rw [if_pos rfl] at H; exact H
     clear H
     have H := H1
     clear H1
     by_cases c39 : t311.toList = ([] : List UInt8)
     ·rw [if_pos c39] at H
      have c39b0 : (t311.toList == ([] : List UInt8)) = true := beq_iff_eq.mpr c39
      have c39b1 : (t311.toList != ([] : List UInt8)) = false := bne_eq_false_iff_eq.mpr c39
      clear c39
      by_cases c40 : a1 < 0
      ·rw [if_pos c40] at H
       have c40b0 : decide (a1 < 0) = true := decide_eq_true c40
       clear c40
       obtain rfl := Option.some.inj H
       go_enter Tryd.func10, Tryd.ntmps10
       go_wp2_with (first | ((with_reducible refine gate_callee (f := 12) rfl ?_); refine goesL_ (some 11) rfl rfl Tryd.func12 (by kernel_rfl) rfl #[] rfl argq ?_; (with_reducible refine (latinerlaw02_shown.calls (G := G) k  true _ ?side1 A3.out).mono ?_); (case side1 => first | exact hG | exact GW.below hG q0_); rintro e w41 ⟨rfl, hb⟩; refine ⟨_, rfl, ?_⟩; have n0_ := Aside0.mk (below_step q0_ hb); clear HB; have HB := n0_; clear n0_; (try clear hb); (try clear hb2); (try clear hk); (try clear hi)) | ((with_reducible refine gate_dst (N := 6) rfl ?_); refine box_event ?hg (N := 6) ?hd (cs := #[.int .i64 0, .string (⟨#[]⟩ : ByteArray), .slice none 0 0]) (t := 24) ?hr ?_; (case hd => rfl); (case hg => rfl); (case hr => first | (go_simp; done) | (go_simp; rfl)); intro gb310 hg w42 hbox hb; have n0_ := Aside0.mk (below_step q0_ hb); have n1_ := Aside0.mk (hbox); have n2_ := Aside0.mk ((by rw [hg]; exact (below_size q0_) : w.heap.size ≤ gb310)); have n3_ := Aside0.mk ((by rw [hg]; exact (below_size q0_) : w.heap.size ≤ gb310)); clear HB; have HB := n0_; have BK310 := n1_; have GW310 := n2_; have GE310 := n3_; clear n0_ n1_ n2_ n3_; clear hb hbox hg; have hcz43_0 : w42.cell? ⟨gb310, 0, none⟩ = some (.int .i64 0) := (blk_cell BK310.out 0).trans rfl; have hcz43_1 : w42.cell? ⟨gb310, 1, none⟩ = some (.string (⟨#[]⟩ : ByteArray)) := (blk_cell BK310.out 1).trans rfl; have hcz43_2 : w42.cell? ⟨gb310, 2, none⟩ = some (.slice none 0 0) := (blk_cell BK310.out 2).trans rfl; have hfz43_0 := blk_frozen BK310.out 0; have hfz43_1 := blk_frozen BK310.out 1; have hfz43_2 := blk_frozen BK310.out 2) | ((with_reducible refine gate_callee (f := 15) rfl ?_); refine goesL_ (some 22) rfl rfl Tryd.func15 (by kernel_rfl) rfl #[.agg #[.int .i64 a1, .string sx4_0, .slice none 0 0]] rfl (by (try simp only [List.map_toArray, List.map_cons, List.map_nil]); first | done | (simp only [hji4]; rfl) | rfl | (simp only [List.length_drop, List.length_take]; rfl)) ?_; (refine (tlv_Encode.calls (G := G) a1 sx4_0 _ _ ([] : List (S24)) t311 t312 _ ?side1 ?side2 ?side3 A7.out).mono ?_); (case side1 => exact Kd.C_nil _ _); (case side2 => exact Nat.le_refl _); (case side3 => first | exact hG | exact GW.below hG q0_); rintro e w44 ⟨rfl, hb⟩; refine ⟨_, rfl, ?_⟩; have n0_ := Aside0.mk (blk_below (g := gb310) (o := .cells #[.int .i64 a1, .string sx4_0, .slice none 0 0] 24 (0, 0)) (by refine bkq ?_; refine blk_put (cs := #[.int .i64 a1, .string sx4_0, .slice none 0 0]) ?_ 2 _ rfl; refine bkq ?_; refine blk_put (cs := #[.int .i64 a1, .string (⟨#[]⟩ : ByteArray), .slice none 0 0]) ?_ 1 _ rfl; refine bkq ?_; refine blk_put (cs := #[.int .i64 0, .string (⟨#[]⟩ : ByteArray), .slice none 0 0]) ?_ 0 _ rfl; refine bkq ?_; exact BK310.out) hb); have n1_ := Aside0.mk (below_step q0_ hb); clear BK310; clear HB; have BK310 := n0_; have HB := n1_; clear n0_ n1_; (try clear hb); (try clear hb2); (try clear hk); (try clear hi)))
       all_goals first | (exfalso; have q_ := c14; have e0_ : (⟨#[131, 0]⟩ : ByteArray).size = 2 := rfl; simp at q_; omega) | (exfalso; have q_ := c13; have e0_ : (⟨#[131, 0]⟩ : ByteArray).size = 2 := rfl; simp at q_; omega) | (exfalso; have q_ := c12; simp at q_; omega) | skip
       go_ret
       exact ⟨q14_, q0_⟩
      ·rw [if_neg c40] at H
       have c40b0 : decide (a1 < 0) = false := decide_eq_false c40
       clear c40
       by_cases c45 : a1 > 255
       ·rw [if_pos c45] at H
        have c45b0 : decide (255 < a1) = true := decide_eq_true c45
        clear c45
        obtain rfl := Option.some.inj H
        go_enter Tryd.func10, Tryd.ntmps10
        go_wp2_with (first | ((with_reducible refine gate_callee (f := 12) rfl ?_); refine goesL_ (some 11) rfl rfl Tryd.func12 (by kernel_rfl) rfl #[] rfl argq ?_; (with_reducible refine (latinerlaw02_shown.calls (G := G) k  true _ ?side1 A3.out).mono ?_); (case side1 => first | exact hG | exact GW.below hG q0_); rintro e w46 ⟨rfl, hb⟩; refine ⟨_, rfl, ?_⟩; have n0_ := Aside0.mk (below_step q0_ hb); clear HB; have HB := n0_; clear n0_; (try clear hb); (try clear hb2); (try clear hk); (try clear hi)) | ((with_reducible refine gate_dst (N := 6) rfl ?_); refine box_event ?hg (N := 6) ?hd (cs := #[.int .i64 0, .string (⟨#[]⟩ : ByteArray), .slice none 0 0]) (t := 24) ?hr ?_; (case hd => rfl); (case hg => rfl); (case hr => first | (go_simp; done) | (go_simp; rfl)); intro gb310 hg w47 hbox hb; have n0_ := Aside0.mk (below_step q0_ hb); have n1_ := Aside0.mk (hbox); have n2_ := Aside0.mk ((by rw [hg]; exact (below_size q0_) : w.heap.size ≤ gb310)); have n3_ := Aside0.mk ((by rw [hg]; exact (below_size q0_) : w.heap.size ≤ gb310)); clear HB; have HB := n0_; have BK310 := n1_; have GW310 := n2_; have GE310 := n3_; clear n0_ n1_ n2_ n3_; clear hb hbox hg; have hcz48_0 : w47.cell? ⟨gb310, 0, none⟩ = some (.int .i64 0) := (blk_cell BK310.out 0).trans rfl; have hcz48_1 : w47.cell? ⟨gb310, 1, none⟩ = some (.string (⟨#[]⟩ : ByteArray)) := (blk_cell BK310.out 1).trans rfl; have hcz48_2 : w47.cell? ⟨gb310, 2, none⟩ = some (.slice none 0 0) := (blk_cell BK310.out 2).trans rfl; have hfz48_0 := blk_frozen BK310.out 0; have hfz48_1 := blk_frozen BK310.out 1; have hfz48_2 := blk_frozen BK310.out 2) | ((with_reducible refine gate_callee (f := 15) rfl ?_); refine goesL_ (some 22) rfl rfl Tryd.func15 (by kernel_rfl) rfl #[.agg #[.int .i64 a1, .string sx4_0, .slice none 0 0]] rfl (by (try simp only [List.map_toArray, List.map_cons, List.map_nil]); first | done | (simp only [hji4]; rfl) | rfl | (simp only [List.length_drop, List.length_take]; rfl)) ?_; (refine (tlv_Encode.calls (G := G) a1 sx4_0 _ _ ([] : List (S24)) t311 t312 _ ?side1 ?side2 ?side3 A7.out).mono ?_); (case side1 => exact Kd.C_nil _ _); (case side2 => exact Nat.le_refl _); (case side3 => first | exact hG | exact GW.below hG q0_); rintro e w49 ⟨rfl, hb⟩; refine ⟨_, rfl, ?_⟩; have n0_ := Aside0.mk (blk_below (g := gb310) (o := .cells #[.int .i64 a1, .string sx4_0, .slice none 0 0] 24 (0, 0)) (by refine bkq ?_; refine blk_put (cs := #[.int .i64 a1, .string sx4_0, .slice none 0 0]) ?_ 2 _ rfl; refine bkq ?_; refine blk_put (cs := #[.int .i64 a1, .string (⟨#[]⟩ : ByteArray), .slice none 0 0]) ?_ 1 _ rfl; refine bkq ?_; refine blk_put (cs := #[.int .i64 0, .string (⟨#[]⟩ : ByteArray), .slice none 0 0]) ?_ 0 _ rfl; refine bkq ?_; exact BK310.out) hb); have n1_ := Aside0.mk (below_step q0_ hb); clear BK310; clear HB; have BK310 := n0_; have HB := n1_; clear n0_ n1_; (try clear hb); (try clear hb2); (try clear hk); (try clear hi)))
        all_goals first | (exfalso; have q_ := c14; have e0_ : (⟨#[131, 0]⟩ : ByteArray).size = 2 := rfl; simp at q_; omega) | (exfalso; have q_ := c13; have e0_ : (⟨#[131, 0]⟩ : ByteArray).size = 2 := rfl; simp at q_; omega) | (exfalso; have q_ := c12; simp at q_; omega) | skip
        go_ret
        exact ⟨q14_, q0_⟩
       ·rw [if_neg c45] at H
        have c45b0 : decide (255 < a1) = false := decide_eq_false c45
        clear c45
        by_cases c50 : (Int.tmod a1 32) = 31
        ·rw [if_pos c50] at H
         have c50b0 : ((Int.tmod a1 32) == 31) = true := beq_iff_eq.mpr c50
         have c50b1 : ((Int.tmod a1 32) != 31) = false := bne_eq_false_iff_eq.mpr c50
         clear c50
         obtain rfl := Option.some.inj H
         go_enter Tryd.func10, Tryd.ntmps10
         go_wp2_with (first | ((with_reducible refine gate_callee (f := 12) rfl ?_); refine goesL_ (some 11) rfl rfl Tryd.func12 (by kernel_rfl) rfl #[] rfl argq ?_; (with_reducible refine (latinerlaw02_shown.calls (G := G) k  true _ ?side1 A3.out).mono ?_); (case side1 => first | exact hG | exact GW.below hG q0_); rintro e w51 ⟨rfl, hb⟩; refine ⟨_, rfl, ?_⟩; have n0_ := Aside0.mk (below_step q0_ hb); clear HB; have HB := n0_; clear n0_; (try clear hb); (try clear hb2); (try clear hk); (try clear hi)) | ((with_reducible refine gate_dst (N := 6) rfl ?_); refine box_event ?hg (N := 6) ?hd (cs := #[.int .i64 0, .string (⟨#[]⟩ : ByteArray), .slice none 0 0]) (t := 24) ?hr ?_; (case hd => rfl); (case hg => rfl); (case hr => first | (go_simp; done) | (go_simp; rfl)); intro gb310 hg w52 hbox hb; have n0_ := Aside0.mk (below_step q0_ hb); have n1_ := Aside0.mk (hbox); have n2_ := Aside0.mk ((by rw [hg]; exact (below_size q0_) : w.heap.size ≤ gb310)); have n3_ := Aside0.mk ((by rw [hg]; exact (below_size q0_) : w.heap.size ≤ gb310)); clear HB; have HB := n0_; have BK310 := n1_; have GW310 := n2_; have GE310 := n3_; clear n0_ n1_ n2_ n3_; clear hb hbox hg; have hcz53_0 : w52.cell? ⟨gb310, 0, none⟩ = some (.int .i64 0) := (blk_cell BK310.out 0).trans rfl; have hcz53_1 : w52.cell? ⟨gb310, 1, none⟩ = some (.string (⟨#[]⟩ : ByteArray)) := (blk_cell BK310.out 1).trans rfl; have hcz53_2 : w52.cell? ⟨gb310, 2, none⟩ = some (.slice none 0 0) := (blk_cell BK310.out 2).trans rfl; have hfz53_0 := blk_frozen BK310.out 0; have hfz53_1 := blk_frozen BK310.out 1; have hfz53_2 := blk_frozen BK310.out 2) | ((with_reducible refine gate_callee (f := 15) rfl ?_); refine goesL_ (some 22) rfl rfl Tryd.func15 (by kernel_rfl) rfl #[.agg #[.int .i64 a1, .string sx4_0, .slice none 0 0]] rfl (by (try simp only [List.map_toArray, List.map_cons, List.map_nil]); first | done | (simp only [hji4]; rfl) | rfl | (simp only [List.length_drop, List.length_take]; rfl)) ?_; (refine (tlv_Encode.calls (G := G) a1 sx4_0 _ _ ([] : List (S24)) t311 t312 _ ?side1 ?side2 ?side3 A7.out).mono ?_); (case side1 => exact Kd.C_nil _ _); (case side2 => exact Nat.le_refl _); (case side3 => first | exact hG | exact GW.below hG q0_); rintro e w54 ⟨rfl, hb⟩; refine ⟨_, rfl, ?_⟩; have n0_ := Aside0.mk (blk_below (g := gb310) (o := .cells #[.int .i64 a1, .string sx4_0, .slice none 0 0] 24 (0, 0)) (by refine bkq ?_; refine blk_put (cs := #[.int .i64 a1, .string sx4_0, .slice none 0 0]) ?_ 2 _ rfl; refine bkq ?_; refine blk_put (cs := #[.int .i64 a1, .string (⟨#[]⟩ : ByteArray), .slice none 0 0]) ?_ 1 _ rfl; refine bkq ?_; refine blk_put (cs := #[.int .i64 0, .string (⟨#[]⟩ : ByteArray), .slice none 0 0]) ?_ 0 _ rfl; refine bkq ?_; exact BK310.out) hb); have n1_ := Aside0.mk (below_step q0_ hb); clear BK310; clear HB; have BK310 := n0_; have HB := n1_; clear n0_ n1_; (try clear hb); (try clear hb2); (try clear hk); (try clear hi)))
         all_goals first | (exfalso; have q_ := c14; have e0_ : (⟨#[131, 0]⟩ : ByteArray).size = 2 := rfl; simp at q_; omega) | (exfalso; have q_ := c13; have e0_ : (⟨#[131, 0]⟩ : ByteArray).size = 2 := rfl; simp at q_; omega) | (exfalso; have q_ := c12; simp at q_; omega) | skip
         go_ret
         exact ⟨q14_, q0_⟩
        ·rw [if_neg c50] at H
         have c50b0 : ((Int.tmod a1 32) == 31) = false := beq_eq_false_iff_ne.mpr c50
         have c50b1 : ((Int.tmod a1 32) != 31) = true := bne_iff_ne.mpr c50
         obtain rfl := Option.some.inj H
         go_enter Tryd.func10, Tryd.ntmps10
         go_wp2_with (first | ((with_reducible refine gate_callee (f := 12) rfl ?_); refine goesL_ (some 11) rfl rfl Tryd.func12 (by kernel_rfl) rfl #[] rfl argq ?_; (with_reducible refine (latinerlaw02_shown.calls (G := G) k  true _ ?side1 A3.out).mono ?_); (case side1 => first | exact hG | exact GW.below hG q0_); rintro e w55 ⟨rfl, hb⟩; refine ⟨_, rfl, ?_⟩; have n0_ := Aside0.mk (below_step q0_ hb); clear HB; have HB := n0_; clear n0_; (try clear hb); (try clear hb2); (try clear hk); (try clear hi)) | ((with_reducible refine gate_dst (N := 6) rfl ?_); refine box_event ?hg (N := 6) ?hd (cs := #[.int .i64 0, .string (⟨#[]⟩ : ByteArray), .slice none 0 0]) (t := 24) ?hr ?_; (case hd => rfl); (case hg => rfl); (case hr => first | (go_simp; done) | (go_simp; rfl)); intro gb310 hg w56 hbox hb; have n0_ := Aside0.mk (below_step q0_ hb); have n1_ := Aside0.mk (hbox); have n2_ := Aside0.mk ((by rw [hg]; exact (below_size q0_) : w.heap.size ≤ gb310)); have n3_ := Aside0.mk ((by rw [hg]; exact (below_size q0_) : w.heap.size ≤ gb310)); clear HB; have HB := n0_; have BK310 := n1_; have GW310 := n2_; have GE310 := n3_; clear n0_ n1_ n2_ n3_; clear hb hbox hg; have hcz57_0 : w56.cell? ⟨gb310, 0, none⟩ = some (.int .i64 0) := (blk_cell BK310.out 0).trans rfl; have hcz57_1 : w56.cell? ⟨gb310, 1, none⟩ = some (.string (⟨#[]⟩ : ByteArray)) := (blk_cell BK310.out 1).trans rfl; have hcz57_2 : w56.cell? ⟨gb310, 2, none⟩ = some (.slice none 0 0) := (blk_cell BK310.out 2).trans rfl; have hfz57_0 := blk_frozen BK310.out 0; have hfz57_1 := blk_frozen BK310.out 1; have hfz57_2 := blk_frozen BK310.out 2) | ((with_reducible refine gate_callee (f := 15) rfl ?_); refine goesL_ (some 22) rfl rfl Tryd.func15 (by kernel_rfl) rfl #[.agg #[.int .i64 a1, .string sx4_0, .slice none 0 0]] rfl (by (try simp only [List.map_toArray, List.map_cons, List.map_nil]); first | done | (simp only [hji4]; rfl) | rfl | (simp only [List.length_drop, List.length_take]; rfl)) ?_; (refine (tlv_Encode.calls (G := G) a1 sx4_0 _ _ ([] : List (S24)) t311 t312 _ ?side1 ?side2 ?side3 A7.out).mono ?_); (case side1 => exact Kd.C_nil _ _); (case side2 => exact Nat.le_refl _); (case side3 => first | exact hG | exact GW.below hG q0_); rintro e w58 ⟨rfl, hb⟩; refine ⟨_, rfl, ?_⟩; have n0_ := Aside0.mk (blk_below (g := gb310) (o := .cells #[.int .i64 a1, .string sx4_0, .slice none 0 0] 24 (0, 0)) (by refine bkq ?_; refine blk_put (cs := #[.int .i64 a1, .string sx4_0, .slice none 0 0]) ?_ 2 _ rfl; refine bkq ?_; refine blk_put (cs := #[.int .i64 a1, .string (⟨#[]⟩ : ByteArray), .slice none 0 0]) ?_ 1 _ rfl; refine bkq ?_; refine blk_put (cs := #[.int .i64 0, .string (⟨#[]⟩ : ByteArray), .slice none 0 0]) ?_ 0 _ rfl; refine bkq ?_; exact BK310.out) hb); have n1_ := Aside0.mk (below_step q0_ hb); clear BK310; clear HB; have BK310 := n0_; have HB := n1_; clear n0_ n1_; (try clear hb); (try clear hb2); (try clear hk); (try clear hi)))
         all_goals first | (exfalso; have q_ := c14; have e0_ : (⟨#[131, 0]⟩ : ByteArray).size = 2 := rfl; simp at q_; omega) | (exfalso; have q_ := c13; have e0_ : (⟨#[131, 0]⟩ : ByteArray).size = 2 := rfl; simp at q_; omega) | (exfalso; have q_ := c12; simp at q_; omega) | skip
         go_ret
         exact ⟨q14_, q0_⟩
     ·rw [if_neg c39] at H
      exact absurd H (by simp)
    ·replace c38 := Bool.eq_false_iff.mpr c38
     subst c38
     have H1 : (none) = some r := by rw [if_neg (show ¬ (false = true) by decide)] at H; exact H
     clear H
     have H := H1
     clear H1
     exact absurd H (by simp)
  ·rw [if_neg c6] at H
   exact absurd H (by simp)
 ·rw [if_neg c5] at H
  exact absurd H (by simp)
end Go.Proofs.YthnddhgkjkpmfaaDoor.LTlvC
/- TlvLong, plainly. -/
namespace Go.Proofs.YthnddhgkjkpmfaaDoor
set_option linter.unusedSimpArgs false
set_option linter.unusedVariables false
namespace Tlv
open Go.RowKit Go.Proofs.YthnddhgkjkpmfaaDoorW.PrintWords Go.Proofs.YthnddhgkjkpmfaaDoorW.PrintMore Go.Proofs.YthnddhgkjkpmfaaDoor.PureB Go.Proofs.YthnddhgkjkpmfaaDoor.KTlv Go.Proofs.YthnddhgkjkpmfaaDoor.ExtTlvC Go.Proofs.YthnddhgkjkpmfaaDoor.LTlvC
theorem TlvLong (s : ByteArray) (t : Int) (ht : (Lit.int .i64 t).wf = true) : ∃ k, latinerlaw02_TlvLong.f k s t = some true := by
  have htr : -9223372036854775808 ≤ t ∧ t ≤ 9223372036854775807 := by
    have := ht
    simp [Lit.wf] at this
    have e1 : IntKind.i64.min = -9223372036854775808 := by decide +kernel
    have e2 : IntKind.i64.max = 9223372036854775807 := by decide +kernel
    omega
  obtain ⟨k, hk⟩ : ∃ k : Nat, k = 4000 := ⟨_, rfl⟩
  refine ⟨k, ?_⟩
  unfold latinerlaw02_TlvLong.f
  have hm := mn_nat s.size 3000
  rw [show ((3000 : Nat) : Int) = 3000 from rfl] at hm
  have hz : (s.extract 0 (min s.size 3000)).size = min s.size 3000 - 0 := extract_size s 0 _ (by omega)
  rw [shown_f k (by omega), hm]
  simp only [Option.bind_some]
  rw [if_pos (show (0 : Int) ≤ ((min s.size 3000 : Nat) : Int) by omega), if_pos (show ((min s.size 3000 : Nat) : Int) ≤ (s.size : Int) by omega), Int.toNat_natCast]
  simp only [Option.bind_some, if_true]
  generalize s.extract 0 (min s.size 3000) = b at hz ⊢
  have hb3 : b.size ≤ 3000 := by omega
  have hlen : (pre 1 (⟨t, b, []⟩ : Nd)).length = 1 := by rw [pre]; rfl
  have hf : few ⟨t, b, []⟩ = true := few_of_len (by omega)
  have henc := enc_f ⟨t, b, []⟩ hf
  simp only at henc
  rw [henc]
  simp only [Option.bind_some]
  have hlaid : laid ⟨t, b, []⟩ = joined t b := by rw [laid, laidL, nil_app]
  have hsz := joined_size t b
  have hle := enc_le (b.size : Int)
  by_cases he : (enc ⟨t, b, []⟩).2 = 0
  · obtain ⟨hr, e⟩ := enc_ok he
    rw [if_pos he, e, hlaid]
    simp only
    obtain ⟨_, h2, _⟩ := right_parts hr
    obtain ⟨hx, _⟩ := all_pre h2
    obtain ⟨_, k2, k3, _, k5, _⟩ := (okAt_iff _ _).1 hx
    simp only at k2 k3 k5
    rw [if_neg (fun h => by have := toList_nil.1 h; omega), if_pos (by decide), if_pos (by omega)]
    have h1 : (joined t b).extract 0 1 = strOfNums [t] := by
      have hs1 : (strOfNums [t]).size = 1 := son_size _
      refine ba_ext (by rw [extract_size _ 0 1 (by omega)]; omega) fun j hj => ?_
      rw [extract_size _ 0 1 (by omega)] at hj
      rw [bt_extract _ 0 1 j (by omega) (by omega)]
      have e0 : joined t b = strOfNums [t] ++ (Size.encS (b.size : Int) ++ b) := by unfold joined; rw [ByteArray.append_assoc]
      rw [e0]
      have := bt_app_l (strOfNums [t]) (Size.encS (b.size : Int) ++ b) j (by omega)
      simpa using this
    rw [h1]
    have hs1 : (strOfNums [t]).size = 1 := son_size _
    have hs2 : ∀ a c : Int, (strOfNums [a, c]).size = 2 := fun a c => son_size _
    have hs3 : (⟨#[131, 0]⟩ : ByteArray).size = 2 := rfl
    have e1 : wrap64 ((b.size : Int) / 256) % 256 = (b.size : Int) / 256 := by rw [w64 (by omega) (by omega)]; omega
    rw [e1, if_pos (by omega)]
    rw [if_pos (by rw [ByteArray.size_append, hs1, hs2, hs3]; omega), if_pos (by rw [ByteArray.size_append, ByteArray.size_append, hs1, hs2, hs3]; omega)]
    have hw := whole_long hr (by omega)
    rw [show strOfNums [131, 0] = (⟨#[131, 0]⟩ : ByteArray) from rfl] at hw
    rw [whole_f _ (by rw [ByteArray.size_append, ByteArray.size_append, ByteArray.size_append, hs1, hs2, hs3]; omega) k (by omega), hw]
    simp only [Option.bind_some, if_true]
    have := same_f ⟨t, b, []⟩ ⟨t, b, []⟩
    simp only at this
    rw [this, same_self]
    rfl
  · obtain ⟨hr, e⟩ := enc_no he
    rw [if_neg he, e, if_pos nil_list]
    by_cases h0 : t < 0
    · rw [if_pos h0]
    by_cases h1 : t > 255
    · rw [if_neg h0, if_pos h1]
    rw [if_neg h0, if_neg h1, Int.tmod_eq_emod_of_nonneg (by omega), Int.tdiv_eq_ediv_of_nonneg (by omega), w64 (n := t / 32) (by omega) (by omega), Int.tmod_eq_emod_of_nonneg (by omega)]
    by_cases h2 : t % 32 = 31
    · rw [if_pos h2]
    rw [if_neg h2]
    by_cases h3 : t / 32 % 2 = 1
    · rw [h3]; rfl
    · exfalso
      have hni : ¬ inner t = true := by unfold inner; simp [h3]
      have hok : okAt (1, (⟨t, b, []⟩ : Nd)) = true := (okAt_iff _ _).2 ⟨by omega, by show 0 ≤ t; omega, by show t ≤ 255; omega, h2, fun h => absurd h hni, fun _ => rfl, by show b.size ≤ 4000; omega⟩
      have : right ⟨t, b, []⟩ = true := right_of (by omega) (by rw [pre, List.all_cons, hok]; rfl) (by rw [hlaid]; omega)
      rw [this] at hr
      cases hr
end Tlv
end Go.Proofs.YthnddhgkjkpmfaaDoor
namespace Go.Proofs.YthnddhgkjkpmfaaDoor.tlvLong
set_option linter.unusedSimpArgs false
open Go.ChangeShapes Go.WideShapes Go.ChangeAt Go.RowKit
open Go.ChangeMaps (open_string shut_string)
open Go.Proofs.YthnddhgkjkpmfaaDoor.KTlv
open Go.Proofs.YthnddhgkjkpmfaaDoor.TlvL (laid ga_of_laid door_met own rowStart rowStart_os rowStart_shaped)
set_option linter.unusedVariables false
set_option maxRecDepth 100000 in
theorem lifted (os : Os) (started : os.Started) (H : Type) (enc : TypeId × Value → H) :
    ReturnsInHanded {} Tryd.checked os 10 .any (fun w args => (Rows.tlvLongSpec.pre enc Tryd.prog Tryd.f10 [] false w args ∧ laidMetH Tryd.prog laid w) ∧ sizedMet enc Tryd.prog Tryd.f10 (OpenSpec.ofChange Rows.tlvLongSpec) false w args)
      (Rows.tlvLongSpec.post enc Tryd.prog Tryd.f10 false true false false) := by
  refine returnsInHanded_of_change_and (C := Tryd.checked) (X := fun w _ => laidMetH Tryd.prog laid w) (fun _ _ _ hh h => h.of_heap hh) own started (by kernel_rfl) Tryd.func10
    (ChangeSpec.witness_shaped (enc := enc) (C := Tryd.checked) (os := os) (X := fun w _ => laidMetH Tryd.prog laid w) false (rowStart os) #[.string ByteArray.empty, .int .i64 0] 8 (rowStart_os os) (rowStart_shaped os _) (by kernel_rfl) (by kernel_rfl) (by kernel_rfl) (door_met os _)) ?_
  intro W base args ds gs before hval0 hW _ hsz0 hL _
  have hsz : (DataW.weightsEach Tryd.prog (Tryd.f10.params.toList ++ Rows.tlvLongSpec.plain.varTypes Tryd.prog) (ds ++ gs)).all (· ≤ reachBytes) = true := hsz0
  have hval : ∀ (j : Nat) t v, Tryd.f10.params[j]? = some t → args[j]? = some v → Value.okWide Tryd.prog W .any base t v := hval0
  have hW' := hW
  obtain ⟨p, q, hA0, hV, rfl, hfz, hnd⟩ := hW
  have hA : DataW.TrodAll enc Tryd.prog W 0 (fun _ => true) true Tryd.f10.params.toList args.toList ds p := hA0
  rw [Tryd.params10] at hA hval hsz
  obtain ⟨v0, vs0, d0, ds0, p0, q0, hargs, rfl, rfl, h0, r0⟩ := trodAll_cons hA
  obtain ⟨v1, vs1, d1, ds1, p1, q1, rfl, rfl, rfl, h1, r1⟩ := trodAll_cons r0
  obtain ⟨rfl, rfl, rfl⟩ := trodAll_nil r1
  obtain rfl : args = #[v0, v1] := by cases args; simp_all
  obtain ⟨rfl, rfl⟩ := trodVars_none hV
  obtain ⟨a0, rfl, rfl, rfl, y0⟩ := open_string Tryd.underlying9 (hval 0 9 v0 rfl rfl) h0
  have w0 : a0.size ≤ 140737488351232 := by
    have z := sized_string hsz (j := 0) (t := 9) rfl rfl
    rw [Array.length_toList] at z
    exact z
  obtain ⟨a1, rfl, rfl, rfl, w1⟩ := open_int Tryd.underlying3 (hval 1 3 v1 rfl rfl) h1
  clear hA0 hval0 hsz0 hsz
  obtain ⟨G, hG⟩ := ga_of_laid hL
  obtain ⟨k, hk⟩ := Tlv.TlvLong a0 a1 w1
  refine (LTlvC.latinerlaw02_TlvLong.calls (G := G) k a0 a1 true W  hG hk).mono fun e W' ⟨he, bel⟩ => ?_
  subst he
  exact ⟨_, rfl, _, _, _, [], _, [], hW', trodAll_mk1 (shut_bool Tryd.underlying4 _), (trodAll_cons_mk (shut_string Tryd.underlying9 y0) (trodAll_cons_mk (shut_int Tryd.underlying3 w1) trodAll_mk0)), rfl, bel.frame _, fun h => by cases h⟩
theorem said : Rows.TlvLongSaid :=
  OpenClaim.holds_of_wide 10 Tryd.f10 rfl rfl rfl rfl rfl rfl rfl ⟨rfl, rfl, rfl, rfl, rfl⟩ rfl rfl rfl rfl rfl (by kernel_rfl) Tryd.func10 (by kernel_rfl)
    (of_decide_eq_true (by kernel_rfl)) (by unfold Func.isWrapper; first | (rw [if_pos (by decide +kernel)]; kernel_rfl) | (rw [if_neg (by decide +kernel)]; exact ⟨rfl, rfl⟩))
    (fun os started H enc _ => lifted os started H enc)
theorem plain (f : FuncId) (fn : Func) (hf : Tryd.pinned.checked.prog.funcNamed "latiner/latinerlaw02.TlvLong" = some f) (hfn : Tryd.pinned.checked.prog.funcs[f]? = some fn) :
    true = Tryd.pinned.checked.prog.looks [] ∧ ∀ (j : Nat) t, fn.params[j]? = some t → Tryd.pinned.checked.prog.wantsStandIn t = false := by
  obtain rfl : f = 10 := Option.some.inj ((show Tryd.prog.funcNamed "latiner/latinerlaw02.TlvLong" = some 10 by kernel_rfl).symm.trans hf) |>.symm
  obtain rfl : fn = Tryd.f10 := (Option.some.inj (Tryd.func10.symm.trans hfn)).symm
  refine ⟨by kernel_rfl, fun j t ht => ?_⟩
  rw [Tryd.params10] at ht
  have s_int : Tryd.prog.wantsStandIn 3 = false := by kernel_rfl
  have s_str : Tryd.prog.wantsStandIn 9 = false := by kernel_rfl
  have hm := Array.mem_of_getElem? ht
  simp at hm
  have hm2 : t = 9 ∨ t = 3 := by omega
  clear hm
  rcases hm2 with rfl | rfl
  · exact s_str
  · exact s_int
theorem card : Rows.TlvLongCardSaid :=
  Claim7.holds_tied_plain_at .later [] _ _ _ _ said (fun _ h => by cases h) (by kernel_rfl) (fun _ h => by cases h) tlvLong_row_tie rfl ⟨rfl, rfl⟩ (by kernel_rfl) rfl plain (by kernel_rfl)
end Go.Proofs.YthnddhgkjkpmfaaDoor.tlvLong
namespace Go.Proofs.YthnddhgkjkpmfaaDoor
theorem tlvLong_holds : Rows.TlvLongCardSaid := tlvLong.card
end Go.Proofs.YthnddhgkjkpmfaaDoor
