/- TTlvCodes6: own texts of this seat, laid as one. -/
import Derived.Test.YthnddhgkjkpmfaaDoorTTlvCodes5
-- Written by this repo's own program over the kit's printer: YthnddhgkjkpmfaaDoor.LTlvC
namespace Go.Proofs.YthnddhgkjkpmfaaDoor.LTlvC
open Go.Proofs.YthnddhgkjkpmfaaDoor.ExtTlvC
open Go.Proofs.YthnddhgkjkpmfaaDoor.KTlv
open Go.RowKit Go.Proofs.YthnddhgkjkpmfaaDoorW.PrintWords Go.Proofs.YthnddhgkjkpmfaaDoorW.PrintLast Go.Proofs.YthnddhgkjkpmfaaDoorW.PrintMore
attribute [local go_sem] max2_int min2_int max_two min_two max_three min_three max_four min_four   -- for this text's walks alone
attribute [local go_sem] some_set
set_option linter.unusedVariables false
set_option linter.unusedSimpArgs false
variable {G : Gl}
mutual
def latinerlaw02_cutAt.l0 : Nat → Int → Int → Int → ByteArray → List (S24) → Int → ByteArray → List (S24) → Option (Int × ByteArray × (List (S24)))
 | 0, _, _, _, _, _, _, _, _ => none
 | k + 1, x1, x6, x232000, x232001, x232002, x234000, x234001, x234002 => if x6 < (x232002.length : Int) then (if x6 < 60 then (if x1 > 1 then (if 0 ≤ x6 then ((latinerlaw02_cutAt.f k ((rd_T24 x232002 x6).f0) ((rd_T24 x232002 x6).f1) ((rd_T24 x232002 x6).f2) (wrap64 (x1 - 1))).bind fun bt235 => (if x234002.length < 2932031007402 then (latinerlaw02_cutAt.l0 k x1 (wrap64 (x6 + 1)) x232000 x232001 x232002 x234000 x234001 (x234002 ++ [(⟨bt235.1, bt235.2.1, bt235.2.2⟩ : S24)])) else (none))) else (none)) else (some (x234000, x234001, x234002))) else (some (x234000, x234001, x234002))) else (some (x234000, x234001, x234002))
def latinerlaw02_cutAt.f : Nat → Int → ByteArray → List (S24) → Int → Option (Int × ByteArray × (List (S24)))
 | 0, _, _, _, _ => none
 | k + 1, a0_0, a0_1, l0_2, a1 => if 0 ≤ (mn (a0_1.size : Int) 4000) then (if (mn (a0_1.size : Int) 4000) ≤ (a0_1.size : Int) then (latinerlaw02_cutAt.l0 k a1 0 a0_0 a0_1 l0_2 a0_0 (a0_1.extract 0 ((mn (a0_1.size : Int) 4000) : Int).toNat) ([] : List (S24))) else (none)) else (none)
end
def latinerlaw02_cutAt.T1 : Bool × List (List Nat × List Nat) := (true, [([], []), ([0], [0]), ([], []), ([2], [2]), ([], []), ([4], [4]), ([5], [5]), ([6], [6]), ([3, 7], [3, 7]), ([1, 8], [1, 8]), ([], []), ([10, 9, 0, 1, 2, 3, 4, 5, 6, 7, 8, 9, 10], [9, 10])])
def latinerlaw02_cutAt.B1 : List Nat := [0, 1, 0, 4, 0, 16, 48, 112, 252, 511, 0, 2047]
theorem latinerlaw02_cutAt.tab1 : rtab .any (opsOf Tryd.f27 1) = latinerlaw02_cutAt.T1 := by kernel_rfl
theorem latinerlaw02_cutAt.bits1 : waitsOk latinerlaw02_cutAt.T1.2 latinerlaw02_cutAt.B1 = true := by kernel_rfl
def latinerlaw02_cutAt.T5 : Bool × List (List Nat × List Nat) := (true, [([], []), ([0], [0]), ([], []), ([2], [2]), ([], []), ([3, 4], [3, 4]), ([5], [5]), ([], []), ([7], [7]), ([6, 8], [6, 8]), ([9], [9]), ([1, 10, 9], [1, 10]), ([0, 1, 2, 3, 4, 5, 6, 7, 8, 9, 10, 11], []), ([12, 11, 11, 0, 1, 2, 3, 4, 5, 6, 7, 8, 9, 10, 11], [11, 12])])
def latinerlaw02_cutAt.B5 : List Nat := [0, 1, 0, 4, 0, 28, 60, 0, 128, 508, 1020, 2047, 4095, 8191]
theorem latinerlaw02_cutAt.tab5 : rtab .any (opsOf Tryd.f27 5) = latinerlaw02_cutAt.T5 := by kernel_rfl
theorem latinerlaw02_cutAt.bits5 : waitsOk latinerlaw02_cutAt.T5.2 latinerlaw02_cutAt.B5 = true := by kernel_rfl
set_option maxHeartbeats 8000000 in
set_option maxRecDepth 100000 in
theorem latinerlaw02_cutAt.calls (k : Nat) : ∀ (a0_0 : Int) (a0_1 : ByteArray) (A0_2 : Option Addr) (c0_2 : Nat) (l0_2 : List (S24)) (a1 : Int) (r1 : Int) (r2 : ByteArray) (r3 : List (S24)) (w : World) (hr0_2 : Kd.C k24 w A0_2 l0_2.length l0_2) (hc0_2 : l0_2.length ≤ c0_2) (h : latinerlaw02_cutAt.f k a0_0 a0_1 l0_2 a1 = some (r1, r2, r3)),
  Calls Tryd.prog 27 #[.agg #[.int .i64 a0_0, .string a0_1, .slice A0_2 l0_2.length c0_2], .int .i64 a1] w fun e w' => ∃ v2_ : Value, e = .returned (.agg #[.int .i64 r1, .string r2, v2_]) ∧ Kd.R k24 24 w' w.heap.size (fun _ => True) v2_ r3 ∧ Below w.heap.size w w' := by
 induction k using Nat.strongRecOn with
 | _ k ih =>
 intro a0_0 a0_1 A0_2 c0_2 l0_2 a1 r1 r2 r3 w hr0_2 hc0_2 h
 cases k with
 | zero => exact absurd h (by simp [latinerlaw02_cutAt.f])
 | succ k =>
 simp only [latinerlaw02_cutAt.f] at h
 have hu24 := Tryd.underlying24
 have HR0_2 := Aside0.mk hr0_2
 have HC0_2 := Aside0.mk hc0_2
 clear hr0_2 hc0_2
 have HB := Aside0.mk (Below.refl w.heap.size w)
 have H : (if 0 ≤ (mn (a0_1.size : Int) 4000) then (if (mn (a0_1.size : Int) 4000) ≤ (a0_1.size : Int) then (latinerlaw02_cutAt.l0 k a1 0 a0_0 a0_1 l0_2 a0_0 (a0_1.extract 0 ((mn (a0_1.size : Int) 4000) : Int).toNat) ([] : List (S24))) else (none)) else (none)) = some (r1, r2, r3) := h
 clear h
 obtain ⟨ji3, hji3⟩ : ∃ j_ : Int, (mn (a0_1.size : Int) 4000) = j_ := ⟨_, rfl⟩
 replace H : (if 0 ≤ (ji3) then (if (ji3) ≤ (a0_1.size : Int) then (latinerlaw02_cutAt.l0 k a1 0 a0_0 a0_1 l0_2 a0_0 (a0_1.extract 0 ((ji3) : Int).toNat) ([] : List (S24))) else (none)) else (none)) = some (r1, r2, r3) := by first | (rw [hji3] at H; exact H) | (simp only [hji3] at H ⊢; exact H)
 (try (have hji3h : ji3 ≤ 4000 := by (rw [← hji3]; unfold mn; (repeat' split) <;> omega)))
 (try (have hji3g : ji3 ≤ 64 := by omega))
 (try (have hji3l : 0 ≤ ji3 := by (rw [← hji3]; unfold mn; (repeat' split) <;> omega)))
 (try (have hji3m : 0 ≤ ji3 := by omega))
 have hji3_ : (if 4000 < (a0_1.size : Int) then 4000 else (a0_1.size : Int)) = ji3 := hji3
 by_cases c4 : 0 ≤ (ji3)
 ·rw [if_pos c4] at H
  have c4b0 := eq_true c4
  have c4b1 : decide (0 ≤ (ji3)) = true := decide_eq_true c4
  clear c4
  by_cases c5 : (ji3) ≤ (a0_1.size : Int)
  ·rw [if_pos c5] at H
   have c5b0 := eq_true c5
   have c5b1 : decide ((ji3) ≤ (a0_1.size : Int)) = true := decide_eq_true c5
   clear c5
   have H' := Aside0.mk H
   clear H
   go_enter Tryd.func27, Tryd.ntmps27
   try go_wp2_with (first | ((with_reducible refine gate_dst (N := 2) rfl ?_); refine box_event ?hg (N := 2) ?hd (cs := #[.int .i64 a0_0, .string a0_1, .slice A0_2 l0_2.length c0_2]) (t := 24) ?hr ?_; (case hd => rfl); (case hg => rfl); (case hr => first | (go_simp; done) | (go_simp; rfl)); intro gb231 hg w6 hbox hb; have n0_ := Aside0.mk (below_step q0_ hb); have n1_ := Aside0.mk (hbox); have n2_ := Aside0.mk ((by rw [hg]; exact (below_size q0_) : w.heap.size ≤ gb231)); have n3_ := Aside0.mk ((by rw [hg]; exact (below_size q0_) : w.heap.size ≤ gb231)); clear HB; have HB := n0_; have BK231 := n1_; have GW231 := n2_; have GE231 := n3_; clear n0_ n1_ n2_ n3_; clear hb hbox hg) | ((with_reducible refine gate_dst (N := 4) rfl ?_); refine box_event ?hg (N := 4) ?hd (cs := #[.int .i64 0, .string (⟨#[]⟩ : ByteArray), .slice none 0 0]) (t := 24) ?hr ?_; (case hd => rfl); (case hg => rfl); (case hr => first | (go_simp; done) | (go_simp; rfl)); intro gb232 hg w7 hbox hb; have n0_ := Aside0.mk (blk_below (g := gb231) (o := .cells #[.int .i64 a0_0, .string a0_1, .slice A0_2 l0_2.length c0_2] 24 (0, 0)) (bkq BK231.out) hb); have n1_ := Aside0.mk (below_step q0_ hb); have n2_ := Aside0.mk (hbox); have n3_ := Aside0.mk ((by rw [hg]; exact (below_size q0_) : w.heap.size ≤ gb232)); have n4_ := Aside0.mk ((by rw [hg]; exact (below_size q0_) : w.heap.size ≤ gb232)); have n5_ := Aside0.mk ((by rw [hg]; exact Nat.ne_of_lt (blk_lt (g := gb231) (o := .cells #[.int .i64 a0_0, .string a0_1, .slice A0_2 l0_2.length c0_2] 24 (0, 0)) (bkq BK231.out)) : gb231 ≠ gb232)); have n6_ := Aside0.mk ((by rw [hg]; exact Nat.ne_of_gt (blk_lt (g := gb231) (o := .cells #[.int .i64 a0_0, .string a0_1, .slice A0_2 l0_2.length c0_2] 24 (0, 0)) (bkq BK231.out)) : gb232 ≠ gb231)); clear BK231; clear HB; have BK231 := n0_; have HB := n1_; have BK232 := n2_; have GW232 := n3_; have GE232 := n4_; have NB231_232 := n5_; have NB232_231 := n6_; clear n0_ n1_ n2_ n3_ n4_ n5_ n6_; clear hb hbox hg))
   have n0_ := Aside0.mk (blk_drew BK231.out)
   have n1_ := Aside0.mk (blk_drew BK232.out)
   have n2_ := Aside0.mk (below_drew1 HB.out)
   clear BK231
   clear BK232
   clear HB
   have BK231 := n0_
   have BK232 := n1_
   have HB := n2_
   clear n0_ n1_ n2_
   refine start_ (n := 12) (S := fun w' => w'.cell? ⟨gb231, 0, none⟩ = some (.int .i64 a0_0) ∧ w'.cell? ⟨gb231, 1, none⟩ = some (.string a0_1) ∧ w'.cell? ⟨gb231, 2, none⟩ = some (.slice A0_2 l0_2.length c0_2)) (ds := []) #[false, false, false, false, false, false, false, false, false, false, false, false] (by kernel_rfl) rfl rfl ⟨(blk_cell BK231.out 0).trans rfl, (blk_cell BK231.out 1).trans rfl, (blk_cell BK231.out 2).trans rfl⟩ (fun hHeld => ?_); refine with_tabW latinerlaw02_cutAt.tab1 latinerlaw02_cutAt.bits1 (fun HT_ HW_ => ?_)
   generalize w7.drew = w8 at BK231 BK232 HB hHeld ⊢
   refine p_ 0 (some 7) ?_
   refine p_ 2 (some 9) ?_
   refine p_ 4 (some 11) ?_
   refine t0_ 1 (some 8) ?_
   refine t0_ 3 (some 10) ?_
   refine t0_ 5 (some 12) ?_
   refine p_ 6 (some 13) ?_
   refine p_ 7 (some 14) ?_
   refine p_ 8 (some 15) ?_
   refine p_ 9 (some 16) ?_
   refine one_ (i := 10) (N := some 5) #[true, true, true, true, true, true, true, true, true, true, true, false] rfl rfl (one_of HT_.out (by kernel_rfl)) (by decide) (fun K hK => ?_)
   refine box_step ?hg (N := 5) ?hd (cs := #[.int .i64 0, .string (⟨#[]⟩ : ByteArray), .slice none 0 0]) (t := 24) ?hr ?_; (case hd => rfl); (case hg => rfl); (case hr => first | (go_simp; done) | (go_simp; rfl))
   intro gb233 hg w9 hbox hb
   have n0_ := Aside0.mk (blk_below (g := gb231) (o := .cells #[.int .i64 a0_0, .string a0_1, .slice A0_2 l0_2.length c0_2] 24 (0, 0)) (bkq BK231.out) hb)
   have n1_ := Aside0.mk (blk_below (g := gb232) (o := .cells #[.int .i64 0, .string (⟨#[]⟩ : ByteArray), .slice none 0 0] 24 (0, 0)) (bkq BK232.out) hb)
   have n2_ := Aside0.mk (below_step q0_ hb)
   have n3_ := Aside0.mk (hbox)
   have n4_ := Aside0.mk ((by rw [hg]; exact (below_size q0_) : w.heap.size ≤ gb233))
   have n5_ := Aside0.mk ((by rw [hg]; exact (below_size q0_) : w.heap.size ≤ gb233))
   have n6_ := Aside0.mk ((by rw [hg]; exact Nat.ne_of_lt (blk_lt (g := gb231) (o := .cells #[.int .i64 a0_0, .string a0_1, .slice A0_2 l0_2.length c0_2] 24 (0, 0)) (bkq BK231.out)) : gb231 ≠ gb233))
   have n7_ := Aside0.mk ((by rw [hg]; exact Nat.ne_of_gt (blk_lt (g := gb231) (o := .cells #[.int .i64 a0_0, .string a0_1, .slice A0_2 l0_2.length c0_2] 24 (0, 0)) (bkq BK231.out)) : gb233 ≠ gb231))
   have n8_ := Aside0.mk ((by rw [hg]; exact Nat.ne_of_lt (blk_lt (g := gb232) (o := .cells #[.int .i64 0, .string (⟨#[]⟩ : ByteArray), .slice none 0 0] 24 (0, 0)) (bkq BK232.out)) : gb232 ≠ gb233))
   have n9_ := Aside0.mk ((by rw [hg]; exact Nat.ne_of_gt (blk_lt (g := gb232) (o := .cells #[.int .i64 0, .string (⟨#[]⟩ : ByteArray), .slice none 0 0] 24 (0, 0)) (bkq BK232.out)) : gb233 ≠ gb232))
   clear BK231
   clear BK232
   clear HB
   have BK231 := n0_
   have BK232 := n1_
   have HB := n2_
   have BK233 := n3_
   have GW233 := n4_
   have GE233 := n5_
   have NB231_233 := n6_
   have NB233_231 := n7_
   have NB232_233 := n8_
   have NB233_232 := n9_
   clear n0_ n1_ n2_ n3_ n4_ n5_ n6_ n7_ n8_ n9_
   clear hb hbox hg
   refine hK.out _ _ ⟨(blk_cell BK231.out 0).trans rfl, (blk_cell BK231.out 1).trans rfl, (blk_cell BK231.out 2).trans rfl⟩ (fun hHeld => ?_)
   clear hK K
   refine norm_ (a' := ?_) ?_ ?_
   rotate_left
   ·show Act.put _ (some 5) _ = _
    exact putq
   refine one_ (i := 11) (N := none) #[true, true, true, true, true, true, true, true, true, true, true, true] rfl rfl (one_of HT_.out (by kernel_rfl)) (by decide) (fun K hK => ?_)
   have hs10 : w9.cell? ⟨gb233, 0, none⟩ = some (.int .i64 0) := (blk_cell BK233.out 0).trans rfl
   have hfs10 := blk_frozen BK233.out 0
   have hns10_0 := NB231_233.out
   have hns10_1 := NB232_233.out
   have hms10_0 := NB233_231.out
   have hms10_1 := NB233_232.out
   have hs11 : w9.cell? ⟨gb233, 1, none⟩ = some (.string (⟨#[]⟩ : ByteArray)) := (blk_cell BK233.out 1).trans rfl
   have hfs11 := blk_frozen BK233.out 1
   have hns11_0 := NB231_233.out
   have hns11_1 := NB232_233.out
   have hms11_0 := NB233_231.out
   have hms11_1 := NB233_232.out
   have hs12 : w9.cell? ⟨gb233, 2, none⟩ = some (.slice none 0 0) := (blk_cell BK233.out 2).trans rfl
   have hfs12 := blk_frozen BK233.out 2
   have hns12_0 := NB231_233.out
   have hns12_1 := NB232_233.out
   have hms12_0 := NB233_231.out
   have hms12_1 := NB233_232.out
   refine skip_ (w1 := ?_) (by rfl) rfl ?_ ?_
   rotate_left
   ·go_simp
    rfl
   refine hK.out _ _ ⟨((cell_far (p := ⟨gb233, _, none⟩) NB231_233.out _).trans (((cell_far (p := ⟨gb233, _, none⟩) NB231_233.out _).trans (((cell_far (p := ⟨gb233, _, none⟩) NB231_233.out _).trans (hHeld.1)))))), ((cell_far (p := ⟨gb233, _, none⟩) NB231_233.out _).trans (((cell_far (p := ⟨gb233, _, none⟩) NB231_233.out _).trans (((cell_far (p := ⟨gb233, _, none⟩) NB231_233.out _).trans (hHeld.2.1)))))), ((cell_far (p := ⟨gb233, _, none⟩) NB231_233.out _).trans (((cell_far (p := ⟨gb233, _, none⟩) NB231_233.out _).trans (((cell_far (p := ⟨gb233, _, none⟩) NB231_233.out _).trans (hHeld.2.2))))))⟩ (fun hHeld => ?_)
   clear hK K
   refine done_ (done_of HT_.out (by kernel_rfl)) ?_
   try go_wp2
   go_loopg [6] k (fun kq v6 w' => ∃ (x6_1 : Int) (x234002_1 : List (S24)) (u234002 : Value), v6 = .int .i64 x6_1 ∧ Aside0 (latinerlaw02_cutAt.l0 kq a1 x6_1 a0_0 a0_1 l0_2 a0_0 (a0_1.extract 0 ((ji3) : Int).toNat) x234002_1 = some (r1, r2, r3)) ∧ Aside0 (kq ≤ k) ∧ Aside0 (Kd.R k24 24 w' w.heap.size (fun k_ => k_ ≠ gb231 ∧ k_ ≠ gb232 ∧ k_ ≠ gb233) u234002 x234002_1) ∧ Aside0 (w'.heap[gb231]? = some (.cells #[.int .i64 a0_0, .string a0_1, (.slice A0_2 l0_2.length c0_2)] 24 (0, 0))) ∧ Aside0 (w'.heap[gb232]? = some (.cells #[.int .i64 0, .string (⟨#[]⟩ : ByteArray), (.slice none 0 0)] 24 (0, 0))) ∧ Aside0 (w'.heap[gb233]? = some (.cells #[.int .i64 a0_0, .string (a0_1.extract 0 ((ji3) : Int).toNat), u234002] 24 (0, 0))) ∧ Aside0 (Below w.heap.size w w'))
   case atStart => exact ⟨(0), (([] : List (S24))), (.slice none 0 0), q3_, H', ⟨Nat.le_refl _⟩, ⟨q8_⟩, ⟨by refine bkq ?_; refine blk_far ?_ NB231_233.out _; refine bkq ?_; refine blk_far ?_ NB231_233.out _; refine bkq ?_; refine blk_far ?_ NB231_233.out _; refine bkq ?_; exact BK231.out⟩, ⟨by refine bkq ?_; refine blk_far ?_ NB232_233.out _; refine bkq ?_; refine blk_far ?_ NB232_233.out _; refine bkq ?_; refine blk_far ?_ NB232_233.out _; refine bkq ?_; exact BK232.out⟩, ⟨by refine bkq ?_; refine blk_put (cs := #[.int .i64 a0_0, .string (a0_1.extract 0 ((ji3) : Int).toNat), .slice none 0 0]) ?_ 2 _ rfl; refine bkq ?_; refine blk_put (cs := #[.int .i64 a0_0, .string (⟨#[]⟩ : ByteArray), .slice none 0 0]) ?_ 1 _ rfl; refine bkq ?_; refine blk_put (cs := #[.int .i64 0, .string (⟨#[]⟩ : ByteArray), .slice none 0 0]) ?_ 0 _ rfl; refine bkq ?_; exact BK233.out⟩, ⟨q0_⟩⟩
   case round =>
    clear H'
    try clear c2
    try clear p2
    try clear c4
    try clear c4b0
    try clear c4b1
    try clear c5
    try clear c5b0
    try clear c5b1
    obtain ⟨x6_1, x234002_1, u234002, rfl, HA, HK1, HO_234002, BK231, BK232, BK233, HB⟩ := hrel
    cases gk with
    | zero => exact absurd HA.out (by simp [latinerlaw02_cutAt.l0])
    | succ k1 =>
     have H := HA.out
     clear HA
     simp only [latinerlaw02_cutAt.l0] at H
     by_cases c13 : x6_1 < (l0_2.length : Int)
     ·rw [if_pos c13] at H
      have c13b0 : decide (x6_1 < (l0_2.length : Int)) = true := decide_eq_true c13
      clear c13
      by_cases c14 : x6_1 < 60
      ·rw [if_pos c14] at H
       have c14b0 : decide (x6_1 < 60) = true := decide_eq_true c14
       clear c14
       by_cases c15 : a1 > 1
       ·rw [if_pos c15] at H
        have c15b0 : decide (1 < a1) = true := decide_eq_true c15
        clear c15
        by_cases c16 : 0 ≤ x6_1
        ·rw [if_pos c16] at H
         have c16b0 : decide (0 ≤ x6_1) = true := decide_eq_true c16
         clear c16
         replace H := Option.bind_eq_some_iff.mp H
         obtain ⟨⟨t235, t236, t237⟩, A170, H⟩ := H
         replace H : (if x234002_1.length < 2932031007402 then (latinerlaw02_cutAt.l0 k1 a1 (wrap64 (x6_1 + 1)) a0_0 a0_1 l0_2 a0_0 (a0_1.extract 0 ((ji3) : Int).toNat) (x234002_1 ++ [(⟨t235, t236, t237⟩ : S24)])) else (none)) = some (r1, r2, r3) := H
         have A17 := Aside0.mk A170
         clear A170
         by_cases c18 : x234002_1.length < 2932031007402
         ·rw [if_pos c18] at H
          have LMc18 := Aside0.mk c18
          clear c18
          obtain ⟨y240, hy240⟩ : ∃ y_ : List (S24), y_ = (x234002_1 ++ [(⟨t235, t236, t237⟩ : S24)]) := ⟨_, rfl⟩
          replace H : (latinerlaw02_cutAt.l0 k1 a1 (wrap64 (x6_1 + 1)) a0_0 a0_1 l0_2 a0_0 (a0_1.extract 0 ((ji3) : Int).toNat) y240) = some (r1, r2, r3) := by first | (rw [hy240]; with_reducible exact H) | (have H2_ := (Option.bind_some _ _).symm.trans H; rw [hy240]; with_reducible exact H2_) | (have H2_ := (Option.bind_some _ _).symm.trans H; with_reducible exact H2_) | with_reducible exact H | (rw [hy240]; exact H) | exact H
          have Ny240 := Aside0.mk hy240
          clear hy240
          have H' := Aside0.mk H
          clear H
          have hnb19 := NB231_232.out
          have hnc19 := NB232_231.out
          have hnb20 := NB231_233.out
          have hnc20 := NB233_231.out
          have hcz21_0 : wr.cell? ⟨gb231, 0, none⟩ = some (.int .i64 a0_0) := (blk_cell BK231.out 0).trans rfl
          have hcz21_1 : wr.cell? ⟨gb231, 1, none⟩ = some (.string a0_1) := (blk_cell BK231.out 1).trans rfl
          have hcz21_2 : wr.cell? ⟨gb231, 2, none⟩ = some (.slice A0_2 l0_2.length c0_2) := (blk_cell BK231.out 2).trans rfl
          have hfz21_0 := blk_frozen BK231.out 0
          have hfz21_1 := blk_frozen BK231.out 1
          have hfz21_2 := blk_frozen BK231.out 2
          try go_wp2
          have n0_ := Aside0.mk (Kd.R_drew HO_234002.out)
          have n1_ := Aside0.mk (blk_drew BK231.out)
          have n2_ := Aside0.mk (blk_drew BK232.out)
          have n3_ := Aside0.mk (blk_drew BK233.out)
          have n4_ := Aside0.mk (below_drew1 HB.out)
          clear HO_234002
          clear BK231
          clear BK232
          clear BK233
          clear HB
          have HO_234002 := n0_
          have BK231 := n1_
          have BK232 := n2_
          have BK233 := n3_
          have HB := n4_
          clear n0_ n1_ n2_ n3_ n4_
          have p234 : 0 ≤ (x6_1 : Int) := of_decide_eq_true q4_
          have q234 : x6_1 < (l0_2.length : Int) := of_decide_eq_true q4_
          obtain ⟨ad234, A234_2, c234_2, e234, hx234_0, hx234_1, hx234_2, hl234_2, hi234_2⟩ := at_T24 HR0_2.out x6_1 p234 q234
          have hw234_2 := hx234_2
          have hw234_1 := hx234_1
          have hw234_0 := hx234_0
          cases e234
          replace hx234_0 := (HB.out.cell (World.block_lt_of_cell? w _ hx234_0)).trans hx234_0
          replace hx234_1 := (HB.out.cell (World.block_lt_of_cell? w _ hx234_1)).trans hx234_1
          replace hx234_2 := (HB.out.cell (World.block_lt_of_cell? w _ hx234_2)).trans hx234_2
          have HR234_2 := Aside0.mk hi234_2
          have HC234_2 := Aside0.mk hl234_2
          clear hi234_2 hl234_2
          replace p234 := eq_true p234
          replace q234 := eq_true q234
          refine start_ (n := 14) (S := fun w' => w'.cell? ⟨gb233, 0, none⟩ = some (.int .i64 a0_0) ∧ w'.cell? ⟨gb233, 1, none⟩ = some (.string (a0_1.extract 0 ((ji3) : Int).toNat)) ∧ w'.cell? ⟨gb233, 2, none⟩ = some (u234002) ∧ w'.cell? ⟨gb231, 0, none⟩ = some (.int .i64 a0_0) ∧ w'.cell? ⟨gb231, 1, none⟩ = some (.string a0_1) ∧ w'.cell? ⟨gb231, 2, none⟩ = some (.slice (some ad234) l0_2.length c0_2) ∧ w'.cell? (ad234.add ((x6_1).toNat * 3)) = some (.int .i64 ((rd_T24 l0_2 x6_1).f0)) ∧ w'.cell? ⟨(ad234.add ((x6_1).toNat * 3)).block, (ad234.add ((x6_1).toNat * 3)).off + 1, none⟩ = some (.string ((rd_T24 l0_2 x6_1).f1)) ∧ w'.cell? ⟨(ad234.add ((x6_1).toNat * 3)).block, (ad234.add ((x6_1).toNat * 3)).off + 2, none⟩ = some (.slice A234_2 ((rd_T24 l0_2 x6_1).f2).length c234_2)) (ds := [13]) #[false, false, false, false, false, false, false, false, false, false, false, false, false, false] (by kernel_rfl) rfl rfl ⟨(blk_cell BK233.out 0).trans rfl, (blk_cell BK233.out 1).trans rfl, (blk_cell BK233.out 2).trans rfl, (blk_cell BK231.out 0).trans rfl, (blk_cell BK231.out 1).trans rfl, (blk_cell BK231.out 2).trans rfl, ((HB.out.cell (World.block_lt_of_cell? w _ hw234_0)).trans hw234_0), ((HB.out.cell (World.block_lt_of_cell? w _ hw234_1)).trans hw234_1), ((HB.out.cell (World.block_lt_of_cell? w _ hw234_2)).trans hw234_2)⟩ (fun hHeld => ?_); refine with_tabW latinerlaw02_cutAt.tab5 latinerlaw02_cutAt.bits5 (fun HT_ HW_ => ?_)
          generalize wr.drew = w22 at HO_234002 BK231 BK232 BK233 HB HR234_2 hx234_0 hx234_1 hx234_2 hHeld ⊢
          refine p_ 0 (some 32) ?_
          refine p_ 2 (some 34) ?_
          refine p_ 4 (some 36) ?_
          refine p_ 7 (some 39) ?_
          refine p_ 8 (some 40) ?_
          refine t3_ 1 (some 33) ?_
          refine t3_ 3 (some 35) ?_
          refine p_ 5 (some 37) ?_
          refine t3_ 6 (some 38) ?_
          refine one_ (i := 9) (N := some 41) #[true, true, true, true, true, true, true, true, true, true, false, false, false, false] rfl rfl (one_of HT_.out (by kernel_rfl)) (by decide) (fun K hK => ?_)
          refine goes_ Tryd.func27 (by kernel_rfl) rfl #[.agg #[.int .i64 ((rd_T24 l0_2 x6_1).f0), .string ((rd_T24 l0_2 x6_1).f1), .slice A234_2 ((rd_T24 l0_2 x6_1).f2).length c234_2], .int .i64 (wrap64 (a1 - 1))] (by rfl) rfl rfl argq ?_
          with_reducible refine (ih k1 (by have := HK1.out; omega) ((rd_T24 l0_2 x6_1).f0) ((rd_T24 l0_2 x6_1).f1) _ _ ((rd_T24 l0_2 x6_1).f2) (wrap64 (a1 - 1)) t235 t236 t237 _ ?side1 ?side2 A17.out).mono ?_
          (case side1 => repeat (first | exact (Kd.C_below HR234_2.out HB.out) | (with_reducible refine Kd.C_alloc ?_ _) | (with_reducible refine Kd.C_drewN ?_ _) | (with_reducible refine Kd.C_drew ?_)))
          (case side2 => exact HC234_2.out)
          rintro e w23 ⟨v238, rfl, ho0, hb⟩
          refine ⟨_, rfl, ?_⟩
          have n0_ := Aside0.mk (Kd.R_elder' (rkq HO_234002.out) (Kd.R_base ho0) hb)
          have n1_ := Aside0.mk (Kd.R_lower (Kd.R_newB (Kd.R_newB (Kd.R_newB (Kd.R_new' ho0 (Kd.R_lt (rkq HO_234002.out))) (g := gb231) (o := .cells #[.int .i64 a0_0, .string a0_1, .slice (some ad234) l0_2.length c0_2] 24 (0, 0)) (bkq BK231.out)) (g := gb232) (o := .cells #[.int .i64 0, .string (⟨#[]⟩ : ByteArray), .slice none 0 0] 24 (0, 0)) (bkq BK232.out)) (g := gb233) (o := .cells #[.int .i64 a0_0, .string (a0_1.extract 0 ((ji3) : Int).toNat), u234002] 24 (0, 0)) (bkq BK233.out)) (below_size q0_))
          have n2_ := Aside0.mk (blk_below (g := gb231) (o := .cells #[.int .i64 a0_0, .string a0_1, .slice (some ad234) l0_2.length c0_2] 24 (0, 0)) (bkq BK231.out) hb)
          have n3_ := Aside0.mk (blk_below (g := gb232) (o := .cells #[.int .i64 0, .string (⟨#[]⟩ : ByteArray), .slice none 0 0] 24 (0, 0)) (bkq BK232.out) hb)
          have n4_ := Aside0.mk (blk_below (g := gb233) (o := .cells #[.int .i64 a0_0, .string (a0_1.extract 0 ((ji3) : Int).toNat), u234002] 24 (0, 0)) (bkq BK233.out) hb)
          have n5_ := Aside0.mk (below_step q0_ hb)
          clear HO_234002
          clear BK231
          clear BK232
          clear BK233
          clear HB
          have HO_234002 := n0_
          have HO239 := n1_
          have BK231 := n2_
          have BK232 := n3_
          have BK233 := n4_
          have HB := n5_
          clear n0_ n1_ n2_ n3_ n4_ n5_
          (try clear hb)
          (try clear hb2)
          (try clear hk)
          (try clear hi)
          (try clear ho0)
          obtain ⟨Ao25, co25, eo25⟩ := Kd.R_slice HO239.out
          (first | subst eo25 | (injection eo25 with f1_ f2_ f3_; have f4_ := f1_.symm; have f5_ := f3_.symm; clear f1_ f2_ f3_; subst f4_; subst f5_))
          refine hK.out _ _ ⟨(blk_cell BK233.out 0).trans rfl, (blk_cell BK233.out 1).trans rfl, (blk_cell BK233.out 2).trans rfl, (blk_cell BK231.out 0).trans rfl, (blk_cell BK231.out 1).trans rfl, (blk_cell BK231.out 2).trans rfl, ((HB.out.cell (World.block_lt_of_cell? w _ hw234_0)).trans hw234_0), ((HB.out.cell (World.block_lt_of_cell? w _ hw234_1)).trans hw234_1), ((HB.out.cell (World.block_lt_of_cell? w _ hw234_2)).trans hw234_2)⟩ (fun hHeld => ?_)
          clear hK K
          refine norm_ (a' := ?_) ?_ ?_
          rotate_left
          ·show Act.put _ (some 41) _ = _
           exact putq
          refine one_ (i := 10) (N := some 42) #[true, true, true, true, true, true, true, true, true, true, true, false, false, false] rfl rfl (one_of HT_.out (by kernel_rfl)) (by decide) (fun K hK => ?_)
          refine value_ (w1 := ?_) (v := ?_) (by rfl) rfl ?_ ?_
          rotate_left 2
          ·go_simp
           constructor
           ·rfl
           ·rfl
          refine hK.out _ _ ⟨(blk_cell (blk_alloc BK233.out _) 0).trans rfl, (blk_cell (blk_alloc BK233.out _) 1).trans rfl, (blk_cell (blk_alloc BK233.out _) 2).trans rfl, (blk_cell (blk_alloc BK231.out _) 0).trans rfl, (blk_cell (blk_alloc BK231.out _) 1).trans rfl, (blk_cell (blk_alloc BK231.out _) 2).trans rfl, (World.cell?_alloc_lt _ _ _ (World.block_lt_of_cell? _ _ (((HB.out.cell (World.block_lt_of_cell? w _ hw234_0)).trans hw234_0)))).trans (((HB.out.cell (World.block_lt_of_cell? w _ hw234_0)).trans hw234_0)), (World.cell?_alloc_lt _ _ _ (World.block_lt_of_cell? _ _ (((HB.out.cell (World.block_lt_of_cell? w _ hw234_1)).trans hw234_1)))).trans (((HB.out.cell (World.block_lt_of_cell? w _ hw234_1)).trans hw234_1)), (World.cell?_alloc_lt _ _ _ (World.block_lt_of_cell? _ _ (((HB.out.cell (World.block_lt_of_cell? w _ hw234_2)).trans hw234_2)))).trans (((HB.out.cell (World.block_lt_of_cell? w _ hw234_2)).trans hw234_2))⟩ (fun hHeld => ?_)
          clear hK K
          refine norm_ (a' := ?_) ?_ ?_
          rotate_left
          ·show Act.put _ (some 42) _ = _
           exact putq
          refine one_ (i := 11) (N := some 43) #[true, true, true, true, true, true, true, true, true, true, true, true, false, false] rfl rfl (one_of HT_.out (by kernel_rfl)) (by decide) (fun K hK => ?_)
          refine Kd.R_append_step k24 (w0 := w) w.heap.size (by rfl) (.tmp 33) (.tmp 42) 22 24 (.agg #[(.int .i64 0), (.string ⟨#[]⟩), (.slice none 0 0)]) 48 rfl Tryd.underlying22 info24 rfl (by decide) (by omega) u234002 x234002_1 (⟨t235, t236, t237⟩ : S24) [.int .i64 t235, .string t236, .slice Ao25 t237.length co25] (fun k_ => k_ ≠ gb231 ∧ k_ ≠ gb232 ∧ k_ ≠ gb233) (fun k_ => ((fun k_ => k_ ≠ gb231 ∧ k_ ≠ gb232 ∧ k_ ≠ gb233)) k_ ∧ some k_ ≠ (u234002 : Value).ownBlock) rfl rfl ?aP (fun _ hk => hk) ?aF ?aO ?aB ?aS ?aL ?_
          (case aP => exact k24_mkM _ _ _ (⟨t235, t236, t237⟩ : S24) (Kd.R_mono (HO239.out) (fun k_ hk => ⟨⟨hk.1.1.2, ⟨hk.1.2, hk.2⟩⟩, hk.1.1.1.2⟩)))
          (case aB => exact q0_)
          (case aF => exact (fun k_ hk => ⟨Kd.freshB (g := gb231) (o := .cells #[.int .i64 a0_0, .string a0_1, .slice (some ad234) l0_2.length c0_2] 24 (0, 0)) (bkq BK231.out) k_ hk, Kd.freshB (g := gb232) (o := .cells #[.int .i64 0, .string (⟨#[]⟩ : ByteArray), .slice none 0 0] 24 (0, 0)) (bkq BK232.out) k_ hk, Kd.freshB (g := gb233) (o := .cells #[.int .i64 a0_0, .string (a0_1.extract 0 ((ji3) : Int).toNat), u234002] 24 (0, 0)) (bkq BK233.out) k_ hk⟩))
          (case aO => exact (by refine rkq ?_; exact Kd.R_mono HO_234002.out (fun _ hk => ⟨hk.1.1, ⟨hk.1.2.1, hk.1.2.2⟩⟩)))
          (case aS => exact (below_size q0_))
          (case aL => have := LMc18.out; omega)
          intro v241 w24 ho hb hg hat
          rw [← Ny240.out] at ho
          have n0_ := Aside0.mk (blk_grown (g := gb231) (o := .cells #[.int .i64 a0_0, .string a0_1, .slice (some ad234) l0_2.length c0_2] 24 (0, 0)) (bkq BK231.out) hg (Kd.R_away HO_234002.out (fun _ hk => hk.1.1)))
          have n1_ := Aside0.mk (blk_grown (g := gb232) (o := .cells #[.int .i64 0, .string (⟨#[]⟩ : ByteArray), .slice none 0 0] 24 (0, 0)) (bkq BK232.out) hg (Kd.R_away HO_234002.out (fun _ hk => hk.1.2.1)))
          have n2_ := Aside0.mk (blk_grown (g := gb233) (o := .cells #[.int .i64 a0_0, .string (a0_1.extract 0 ((ji3) : Int).toNat), u234002] 24 (0, 0)) (bkq BK233.out) hg (Kd.R_away HO_234002.out (fun _ hk => hk.1.2.2)))
          have n3_ := Aside0.mk (hb)
          have n4_ := Aside0.mk (ho)
          clear BK231
          clear BK232
          clear BK233
          clear HB
          clear HO_234002
          clear HO239
          have BK231 := n0_
          have BK232 := n1_
          have BK233 := n2_
          have HB := n3_
          have HO242 := n4_
          clear n0_ n1_ n2_ n3_ n4_
          clear ho hb hg hat
          obtain ⟨Ao26, co26, eo26⟩ := Kd.R_slice HO242.out
          (first | subst eo26 | (injection eo26 with f1_ f2_ f3_; have f4_ := f1_.symm; have f5_ := f3_.symm; clear f1_ f2_ f3_; subst f4_; subst f5_))
          refine hK.out _ _ ⟨(blk_cell BK233.out 0).trans rfl, (blk_cell BK233.out 1).trans rfl, (blk_cell BK233.out 2).trans rfl, (blk_cell BK231.out 0).trans rfl, (blk_cell BK231.out 1).trans rfl, (blk_cell BK231.out 2).trans rfl, ((HB.out.cell (World.block_lt_of_cell? w _ hw234_0)).trans hw234_0), ((HB.out.cell (World.block_lt_of_cell? w _ hw234_1)).trans hw234_1), ((HB.out.cell (World.block_lt_of_cell? w _ hw234_2)).trans hw234_2)⟩ (fun hHeld => ?_)
          clear hK K
          refine norm_ (a' := ?_) ?_ ?_
          rotate_left
          ·show Act.put _ (some 43) _ = _
           exact putq
          refine p_ 12 (some 44) ?_
          refine last_ (i := 13) (N := none) #[true, true, true, true, true, true, true, true, true, true, true, true, true, true] rfl rfl (one_of HT_.out (by kernel_rfl)) (by decide) (fun K hK => ?_)
          have hs27 : w24.cell? ⟨gb233, 2, none⟩ = some (u234002) := (blk_cell BK233.out 2).trans rfl
          have hfs27 := blk_frozen BK233.out 2
          have hns27_0 := NB231_233.out
          have hns27_1 := NB232_233.out
          have hms27_0 := NB233_231.out
          have hms27_1 := NB233_232.out
          refine skip_ (w1 := ?_) (by rfl) rfl ?_ ?_
          rotate_left
          ·go_simp
           rfl
          refine hK.out _ _ ?_
          clear hK K
          refine done_ (done_of HT_.out (by kernel_rfl)) ?_
          try go_wp2
          go_roundg k1
          case measure => have := HK1.out; omega
          case rel => exact ⟨(wrap64 (x6_1 + 1)), (y240), (.slice Ao26 y240.length co26), q3_, H', ⟨by have := HK1.out; omega⟩, ⟨by refine rkq ?_; exact Kd.R_mono (Kd.R_far (p := ⟨gb233, 2, none⟩) (Kd.R_mono HO242.out (fun k_ hk => (⟨hk, hk.2.2⟩ : _ ∧ k_ ≠ gb233))) (fun _ hk => hk.2) (.slice Ao26 y240.length co26)) (fun _ hk => ⟨hk.1.1, ⟨hk.1.2.1, hk.1.2.2⟩⟩)⟩, ⟨by refine bkq ?_; refine blk_far ?_ NB231_233.out _; refine bkq ?_; exact BK231.out⟩, ⟨by refine bkq ?_; refine blk_far ?_ NB232_233.out _; refine bkq ?_; exact BK232.out⟩, ⟨by refine bkq ?_; refine blk_put (cs := #[.int .i64 a0_0, .string (a0_1.extract 0 ((ji3) : Int).toNat), u234002]) ?_ 2 _ rfl; refine bkq ?_; exact BK233.out⟩, ⟨q0_⟩⟩
         ·rw [if_neg c18] at H
          exact absurd H (by simp)
        ·rw [if_neg c16] at H
         exact absurd H (by simp)
       ·rw [if_neg c15] at H
        have c15b0 : decide (1 < a1) = false := decide_eq_false c15
        clear c15
        simp only [Option.some.injEq, Prod.mk.injEq] at H
        obtain ⟨rfl, rfl, rfl⟩ := H
        have hnb28 := NB231_232.out
        have hnc28 := NB232_231.out
        have hnb29 := NB231_233.out
        have hnc29 := NB233_231.out
        have hcz30_0 : wr.cell? ⟨gb231, 0, none⟩ = some (.int .i64 a0_0) := (blk_cell BK231.out 0).trans rfl
        have hcz30_1 : wr.cell? ⟨gb231, 1, none⟩ = some (.string a0_1) := (blk_cell BK231.out 1).trans rfl
        have hcz30_2 : wr.cell? ⟨gb231, 2, none⟩ = some (.slice A0_2 l0_2.length c0_2) := (blk_cell BK231.out 2).trans rfl
        have hfz30_0 := blk_frozen BK231.out 0
        have hfz30_1 := blk_frozen BK231.out 1
        have hfz30_2 := blk_frozen BK231.out 2
        have hnb31 := NB233_232.out
        have hnc31 := NB232_233.out
        have hcz32_0 : wr.cell? ⟨gb233, 0, none⟩ = some (.int .i64 a0_0) := (blk_cell BK233.out 0).trans rfl
        have hcz32_1 : wr.cell? ⟨gb233, 1, none⟩ = some (.string (a0_1.extract 0 ((ji3) : Int).toNat)) := (blk_cell BK233.out 1).trans rfl
        have hcz32_2 : wr.cell? ⟨gb233, 2, none⟩ = some (u234002) := (blk_cell BK233.out 2).trans rfl
        have hfz32_0 := blk_frozen BK233.out 0
        have hfz32_1 := blk_frozen BK233.out 1
        have hfz32_2 := blk_frozen BK233.out 2
        have hcz33_0 : wr.cell? ⟨gb232, 0, none⟩ = some (.int .i64 0) := (blk_cell BK232.out 0).trans rfl
        have hcz33_1 : wr.cell? ⟨gb232, 1, none⟩ = some (.string (⟨#[]⟩ : ByteArray)) := (blk_cell BK232.out 1).trans rfl
        have hcz33_2 : wr.cell? ⟨gb232, 2, none⟩ = some (.slice none 0 0) := (blk_cell BK232.out 2).trans rfl
        have hfz33_0 := blk_frozen BK232.out 0
        have hfz33_1 := blk_frozen BK232.out 1
        have hfz33_2 := blk_frozen BK232.out 2
        obtain ⟨Ao34, co34, eo34⟩ := Kd.R_slice HO_234002.out
        subst eo34
        go_wp2
        refine bodyPost_ret (results_cell_row rfl _ _ gb232 24 #[.int .i64 a0_0, .string (a0_1.extract 0 ((ji3) : Int).toNat), .slice Ao34 x234002_1.length co34] (0, 0) _ rfl (by refine bkq ?_; refine blk_put (cs := #[.int .i64 a0_0, .string (a0_1.extract 0 ((ji3) : Int).toNat), .slice none 0 0]) ?_ 2 _ rfl; refine bkq ?_; refine blk_put (cs := #[.int .i64 a0_0, .string (⟨#[]⟩ : ByteArray), .slice none 0 0]) ?_ 1 _ rfl; refine bkq ?_; refine blk_put (cs := #[.int .i64 0, .string (⟨#[]⟩ : ByteArray), .slice none 0 0]) ?_ 0 _ rfl; refine bkq ?_; exact BK232.out) Tryd.underlying24 rfl (by kernel_rfl)) rfl ?_
        exact ⟨_, q23_, by refine rkq ?_; exact Kd.R_mono (Kd.R_far (p := ⟨gb232, 2, none⟩) (Kd.R_far (p := ⟨gb232, 1, none⟩) (Kd.R_far (p := ⟨gb232, 0, none⟩) (Kd.R_mono HO_234002.out (fun k_ hk => (⟨hk, hk.2.1⟩ : _ ∧ k_ ≠ gb232))) (fun _ hk => hk.2) (.int .i64 a0_0)) (fun _ hk => hk.2) (.string (a0_1.extract 0 ((ji3) : Int).toNat))) (fun _ hk => hk.2) (.slice Ao34 x234002_1.length co34)) (fun _ hk => trivial), q0_⟩
      ·rw [if_neg c14] at H
       have c14b0 : decide (x6_1 < 60) = false := decide_eq_false c14
       clear c14
       simp only [Option.some.injEq, Prod.mk.injEq] at H
       obtain ⟨rfl, rfl, rfl⟩ := H
       have hnb35 := NB231_232.out
       have hnc35 := NB232_231.out
       have hnb36 := NB231_233.out
       have hnc36 := NB233_231.out
       have hcz37_0 : wr.cell? ⟨gb231, 0, none⟩ = some (.int .i64 a0_0) := (blk_cell BK231.out 0).trans rfl
       have hcz37_1 : wr.cell? ⟨gb231, 1, none⟩ = some (.string a0_1) := (blk_cell BK231.out 1).trans rfl
       have hcz37_2 : wr.cell? ⟨gb231, 2, none⟩ = some (.slice A0_2 l0_2.length c0_2) := (blk_cell BK231.out 2).trans rfl
       have hfz37_0 := blk_frozen BK231.out 0
       have hfz37_1 := blk_frozen BK231.out 1
       have hfz37_2 := blk_frozen BK231.out 2
       have hnb38 := NB233_232.out
       have hnc38 := NB232_233.out
       have hcz39_0 : wr.cell? ⟨gb233, 0, none⟩ = some (.int .i64 a0_0) := (blk_cell BK233.out 0).trans rfl
       have hcz39_1 : wr.cell? ⟨gb233, 1, none⟩ = some (.string (a0_1.extract 0 ((ji3) : Int).toNat)) := (blk_cell BK233.out 1).trans rfl
       have hcz39_2 : wr.cell? ⟨gb233, 2, none⟩ = some (u234002) := (blk_cell BK233.out 2).trans rfl
       have hfz39_0 := blk_frozen BK233.out 0
       have hfz39_1 := blk_frozen BK233.out 1
       have hfz39_2 := blk_frozen BK233.out 2
       have hcz40_0 : wr.cell? ⟨gb232, 0, none⟩ = some (.int .i64 0) := (blk_cell BK232.out 0).trans rfl
       have hcz40_1 : wr.cell? ⟨gb232, 1, none⟩ = some (.string (⟨#[]⟩ : ByteArray)) := (blk_cell BK232.out 1).trans rfl
       have hcz40_2 : wr.cell? ⟨gb232, 2, none⟩ = some (.slice none 0 0) := (blk_cell BK232.out 2).trans rfl
       have hfz40_0 := blk_frozen BK232.out 0
       have hfz40_1 := blk_frozen BK232.out 1
       have hfz40_2 := blk_frozen BK232.out 2
       obtain ⟨Ao41, co41, eo41⟩ := Kd.R_slice HO_234002.out
       subst eo41
       go_wp2
       refine bodyPost_ret (results_cell_row rfl _ _ gb232 24 #[.int .i64 a0_0, .string (a0_1.extract 0 ((ji3) : Int).toNat), .slice Ao41 x234002_1.length co41] (0, 0) _ rfl (by refine bkq ?_; refine blk_put (cs := #[.int .i64 a0_0, .string (a0_1.extract 0 ((ji3) : Int).toNat), .slice none 0 0]) ?_ 2 _ rfl; refine bkq ?_; refine blk_put (cs := #[.int .i64 a0_0, .string (⟨#[]⟩ : ByteArray), .slice none 0 0]) ?_ 1 _ rfl; refine bkq ?_; refine blk_put (cs := #[.int .i64 0, .string (⟨#[]⟩ : ByteArray), .slice none 0 0]) ?_ 0 _ rfl; refine bkq ?_; exact BK232.out) Tryd.underlying24 rfl (by kernel_rfl)) rfl ?_
       exact ⟨_, q23_, by refine rkq ?_; exact Kd.R_mono (Kd.R_far (p := ⟨gb232, 2, none⟩) (Kd.R_far (p := ⟨gb232, 1, none⟩) (Kd.R_far (p := ⟨gb232, 0, none⟩) (Kd.R_mono HO_234002.out (fun k_ hk => (⟨hk, hk.2.1⟩ : _ ∧ k_ ≠ gb232))) (fun _ hk => hk.2) (.int .i64 a0_0)) (fun _ hk => hk.2) (.string (a0_1.extract 0 ((ji3) : Int).toNat))) (fun _ hk => hk.2) (.slice Ao41 x234002_1.length co41)) (fun _ hk => trivial), q0_⟩
     ·rw [if_neg c13] at H
      have c13b0 : decide (x6_1 < (l0_2.length : Int)) = false := decide_eq_false c13
      clear c13
      simp only [Option.some.injEq, Prod.mk.injEq] at H
      obtain ⟨rfl, rfl, rfl⟩ := H
      have hnb42 := NB231_232.out
      have hnc42 := NB232_231.out
      have hnb43 := NB231_233.out
      have hnc43 := NB233_231.out
      have hcz44_0 : wr.cell? ⟨gb231, 0, none⟩ = some (.int .i64 a0_0) := (blk_cell BK231.out 0).trans rfl
      have hcz44_1 : wr.cell? ⟨gb231, 1, none⟩ = some (.string a0_1) := (blk_cell BK231.out 1).trans rfl
      have hcz44_2 : wr.cell? ⟨gb231, 2, none⟩ = some (.slice A0_2 l0_2.length c0_2) := (blk_cell BK231.out 2).trans rfl
      have hfz44_0 := blk_frozen BK231.out 0
      have hfz44_1 := blk_frozen BK231.out 1
      have hfz44_2 := blk_frozen BK231.out 2
      have hnb45 := NB233_232.out
      have hnc45 := NB232_233.out
      have hcz46_0 : wr.cell? ⟨gb233, 0, none⟩ = some (.int .i64 a0_0) := (blk_cell BK233.out 0).trans rfl
      have hcz46_1 : wr.cell? ⟨gb233, 1, none⟩ = some (.string (a0_1.extract 0 ((ji3) : Int).toNat)) := (blk_cell BK233.out 1).trans rfl
      have hcz46_2 : wr.cell? ⟨gb233, 2, none⟩ = some (u234002) := (blk_cell BK233.out 2).trans rfl
      have hfz46_0 := blk_frozen BK233.out 0
      have hfz46_1 := blk_frozen BK233.out 1
      have hfz46_2 := blk_frozen BK233.out 2
      have hcz47_0 : wr.cell? ⟨gb232, 0, none⟩ = some (.int .i64 0) := (blk_cell BK232.out 0).trans rfl
      have hcz47_1 : wr.cell? ⟨gb232, 1, none⟩ = some (.string (⟨#[]⟩ : ByteArray)) := (blk_cell BK232.out 1).trans rfl
      have hcz47_2 : wr.cell? ⟨gb232, 2, none⟩ = some (.slice none 0 0) := (blk_cell BK232.out 2).trans rfl
      have hfz47_0 := blk_frozen BK232.out 0
      have hfz47_1 := blk_frozen BK232.out 1
      have hfz47_2 := blk_frozen BK232.out 2
      obtain ⟨Ao48, co48, eo48⟩ := Kd.R_slice HO_234002.out
      subst eo48
      go_wp2
      refine bodyPost_ret (results_cell_row rfl _ _ gb232 24 #[.int .i64 a0_0, .string (a0_1.extract 0 ((ji3) : Int).toNat), .slice Ao48 x234002_1.length co48] (0, 0) _ rfl (by refine bkq ?_; refine blk_put (cs := #[.int .i64 a0_0, .string (a0_1.extract 0 ((ji3) : Int).toNat), .slice none 0 0]) ?_ 2 _ rfl; refine bkq ?_; refine blk_put (cs := #[.int .i64 a0_0, .string (⟨#[]⟩ : ByteArray), .slice none 0 0]) ?_ 1 _ rfl; refine bkq ?_; refine blk_put (cs := #[.int .i64 0, .string (⟨#[]⟩ : ByteArray), .slice none 0 0]) ?_ 0 _ rfl; refine bkq ?_; exact BK232.out) Tryd.underlying24 rfl (by kernel_rfl)) rfl ?_
      exact ⟨_, q23_, by refine rkq ?_; exact Kd.R_mono (Kd.R_far (p := ⟨gb232, 2, none⟩) (Kd.R_far (p := ⟨gb232, 1, none⟩) (Kd.R_far (p := ⟨gb232, 0, none⟩) (Kd.R_mono HO_234002.out (fun k_ hk => (⟨hk, hk.2.1⟩ : _ ∧ k_ ≠ gb232))) (fun _ hk => hk.2) (.int .i64 a0_0)) (fun _ hk => hk.2) (.string (a0_1.extract 0 ((ji3) : Int).toNat))) (fun _ hk => hk.2) (.slice Ao48 x234002_1.length co48)) (fun _ hk => trivial), q0_⟩
  ·rw [if_neg c5] at H
   exact absurd H (by simp)
 ·rw [if_neg c4] at H
  exact absurd H (by simp)
def latinerlaw02_Cut.f (k : Nat) (a0_0 : Int) (a0_1 : ByteArray) (l0_2 : List (S24)) : Option (Int × ByteArray × (List (S24))) := (latinerlaw02_cutAt.f k a0_0 a0_1 l0_2 13).bind fun bt245 => (some (bt245.1, bt245.2.1, bt245.2.2))
set_option maxHeartbeats 8000000 in
set_option maxRecDepth 100000 in
theorem latinerlaw02_Cut.calls (k : Nat) (a0_0 : Int) (a0_1 : ByteArray) (A0_2 : Option Addr) (c0_2 : Nat) (l0_2 : List (S24)) (r1 : Int) (r2 : ByteArray) (r3 : List (S24)) (w : World) (hr0_2 : Kd.C k24 w A0_2 l0_2.length l0_2) (hc0_2 : l0_2.length ≤ c0_2) (h : latinerlaw02_Cut.f k a0_0 a0_1 l0_2 = some (r1, r2, r3)) :
  Calls Tryd.prog 13 #[.agg #[.int .i64 a0_0, .string a0_1, .slice A0_2 l0_2.length c0_2]] w fun e w' => ∃ v2_ : Value, e = .returned (.agg #[.int .i64 r1, .string r2, v2_]) ∧ Kd.R k24 24 w' w.heap.size (fun _ => True) v2_ r3 ∧ Below w.heap.size w w' := by
 have hu24 := Tryd.underlying24
 have HR0_2 := Aside0.mk hr0_2
 have HC0_2 := Aside0.mk hc0_2
 clear hr0_2 hc0_2
 have HB := Aside0.mk (Below.refl w.heap.size w)
 have H : ((latinerlaw02_cutAt.f k a0_0 a0_1 l0_2 13).bind fun bt245 => (some (bt245.1, bt245.2.1, bt245.2.2))) = some (r1, r2, r3) := h
 clear h
 replace H := Option.bind_eq_some_iff.mp H
 obtain ⟨⟨t245, t246, t247⟩, A20, H⟩ := H
 replace H : (some (t245, t246, t247)) = some (r1, r2, r3) := H
 have A2 := Aside0.mk A20
 clear A20
 simp only [Option.some.injEq, Prod.mk.injEq] at H
 obtain ⟨rfl, rfl, rfl⟩ := H
 go_enter Tryd.func13, Tryd.ntmps13
 go_wp2_with (first | ((with_reducible refine gate_dst (N := 1) rfl ?_); refine box_event ?hg (N := 1) ?hd (cs := #[.int .i64 a0_0, .string a0_1, .slice A0_2 l0_2.length c0_2]) (t := 24) ?hr ?_; (case hd => rfl); (case hg => rfl); (case hr => first | (go_simp; done) | (go_simp; rfl)); intro gb243 hg w3 hbox hb; have n0_ := Aside0.mk (below_step q0_ hb); have n1_ := Aside0.mk (hbox); have n2_ := Aside0.mk ((by rw [hg]; exact (below_size q0_) : w.heap.size ≤ gb243)); have n3_ := Aside0.mk ((by rw [hg]; exact (below_size q0_) : w.heap.size ≤ gb243)); clear HB; have HB := n0_; have BK243 := n1_; have GW243 := n2_; have GE243 := n3_; clear n0_ n1_ n2_ n3_; clear hb hbox hg) | ((with_reducible refine gate_dst (N := 2) rfl ?_); refine box_event ?hg (N := 2) ?hd (cs := #[.int .i64 0, .string (⟨#[]⟩ : ByteArray), .slice none 0 0]) (t := 24) ?hr ?_; (case hd => rfl); (case hg => rfl); (case hr => first | (go_simp; done) | (go_simp; rfl)); intro gb244 hg w4 hbox hb; have n0_ := Aside0.mk (blk_below (g := gb243) (o := .cells #[.int .i64 a0_0, .string a0_1, .slice A0_2 l0_2.length c0_2] 24 (0, 0)) (bkq BK243.out) hb); have n1_ := Aside0.mk (below_step q0_ hb); have n2_ := Aside0.mk (hbox); have n3_ := Aside0.mk ((by rw [hg]; exact (below_size q0_) : w.heap.size ≤ gb244)); have n4_ := Aside0.mk ((by rw [hg]; exact (below_size q0_) : w.heap.size ≤ gb244)); have n5_ := Aside0.mk ((by rw [hg]; exact Nat.ne_of_lt (blk_lt (g := gb243) (o := .cells #[.int .i64 a0_0, .string a0_1, .slice A0_2 l0_2.length c0_2] 24 (0, 0)) (bkq BK243.out)) : gb243 ≠ gb244)); have n6_ := Aside0.mk ((by rw [hg]; exact Nat.ne_of_gt (blk_lt (g := gb243) (o := .cells #[.int .i64 a0_0, .string a0_1, .slice A0_2 l0_2.length c0_2] 24 (0, 0)) (bkq BK243.out)) : gb244 ≠ gb243)); clear BK243; clear HB; have BK243 := n0_; have HB := n1_; have BK244 := n2_; have GW244 := n3_; have GE244 := n4_; have NB243_244 := n5_; have NB244_243 := n6_; clear n0_ n1_ n2_ n3_ n4_ n5_ n6_; clear hb hbox hg; have hnb5 := NB243_244.out; have hnc5 := NB244_243.out; have hcz6_0 : w4.cell? ⟨gb243, 0, none⟩ = some (.int .i64 a0_0) := (blk_cell BK243.out 0).trans rfl; have hcz6_1 : w4.cell? ⟨gb243, 1, none⟩ = some (.string a0_1) := (blk_cell BK243.out 1).trans rfl; have hcz6_2 : w4.cell? ⟨gb243, 2, none⟩ = some (.slice A0_2 l0_2.length c0_2) := (blk_cell BK243.out 2).trans rfl; have hfz6_0 := blk_frozen BK243.out 0; have hfz6_1 := blk_frozen BK243.out 1; have hfz6_2 := blk_frozen BK243.out 2) | ((with_reducible refine gate_callee (f := 27) rfl ?_); refine goesL_ (some 4) rfl rfl Tryd.func27 (by kernel_rfl) rfl #[.agg #[.int .i64 a0_0, .string a0_1, .slice A0_2 l0_2.length c0_2], .int .i64 13] rfl argq ?_; (with_reducible refine (latinerlaw02_cutAt.calls k a0_0 a0_1 _ _ l0_2 13 t245 t246 t247 _ ?side1 ?side2 A2.out).mono ?_); (case side1 => repeat (first | exact (Kd.C_below HR0_2.out HB.out) | (with_reducible refine Kd.C_alloc ?_ _) | (with_reducible refine Kd.C_drewN ?_ _) | (with_reducible refine Kd.C_drew ?_))); (case side2 => exact HC0_2.out); rintro e w7 ⟨v248, rfl, ho0, hb⟩; refine ⟨_, rfl, ?_⟩; have n0_ := Aside0.mk (Kd.R_lower (Kd.R_newB (Kd.R_newB ho0 (g := gb243) (o := .cells #[.int .i64 a0_0, .string a0_1, .slice A0_2 l0_2.length c0_2] 24 (0, 0)) (bkq BK243.out)) (g := gb244) (o := .cells #[.int .i64 0, .string (⟨#[]⟩ : ByteArray), .slice none 0 0] 24 (0, 0)) (bkq BK244.out)) (below_size q0_)); have n1_ := Aside0.mk (blk_below (g := gb243) (o := .cells #[.int .i64 a0_0, .string a0_1, .slice A0_2 l0_2.length c0_2] 24 (0, 0)) (bkq BK243.out) hb); have n2_ := Aside0.mk (blk_below (g := gb244) (o := .cells #[.int .i64 0, .string (⟨#[]⟩ : ByteArray), .slice none 0 0] 24 (0, 0)) (bkq BK244.out) hb); have n3_ := Aside0.mk (below_step q0_ hb); clear BK243; clear BK244; clear HB; have HO249 := n0_; have BK243 := n1_; have BK244 := n2_; have HB := n3_; clear n0_ n1_ n2_ n3_; (try clear hb); (try clear hb2); (try clear hk); (try clear hi); (try clear ho0); have hcz8_0 : w7.cell? ⟨gb244, 0, none⟩ = some (.int .i64 0) := (blk_cell BK244.out 0).trans rfl; have hcz8_1 : w7.cell? ⟨gb244, 1, none⟩ = some (.string (⟨#[]⟩ : ByteArray)) := (blk_cell BK244.out 1).trans rfl; have hcz8_2 : w7.cell? ⟨gb244, 2, none⟩ = some (.slice none 0 0) := (blk_cell BK244.out 2).trans rfl; have hfz8_0 := blk_frozen BK244.out 0; have hfz8_1 := blk_frozen BK244.out 1; have hfz8_2 := blk_frozen BK244.out 2; obtain ⟨Ao9, co9, eo9⟩ := Kd.R_slice HO249.out; subst eo9))
 refine bodyPost_ret (results_cell_row rfl _ _ gb244 24 #[.int .i64 t245, .string t246, .slice Ao9 t247.length co9] (0, 0) _ rfl (by refine bkq ?_; refine blk_put (cs := #[.int .i64 t245, .string t246, .slice none 0 0]) ?_ 2 _ rfl; refine bkq ?_; refine blk_put (cs := #[.int .i64 t245, .string (⟨#[]⟩ : ByteArray), .slice none 0 0]) ?_ 1 _ rfl; refine bkq ?_; refine blk_put (cs := #[.int .i64 0, .string (⟨#[]⟩ : ByteArray), .slice none 0 0]) ?_ 0 _ rfl; refine bkq ?_; exact BK244.out) Tryd.underlying24 rfl (by kernel_rfl)) rfl ?_
 exact ⟨_, q2_, by refine rkq ?_; exact Kd.R_mono (Kd.R_far (p := ⟨gb244, 2, none⟩) (Kd.R_far (p := ⟨gb244, 1, none⟩) (Kd.R_far (p := ⟨gb244, 0, none⟩) (Kd.R_mono HO249.out (fun k_ hk => (⟨hk, hk.2⟩ : _ ∧ k_ ≠ gb244))) (fun _ hk => hk.2) (.int .i64 t245)) (fun _ hk => hk.2) (.string t246)) (fun _ hk => hk.2) (.slice Ao9 t247.length co9)) (fun _ hk => trivial), q0_⟩
end Go.Proofs.YthnddhgkjkpmfaaDoor.LTlvC
/- Trees' laws, plainly: what all of them begin with. -/
namespace Go.Proofs.YthnddhgkjkpmfaaDoor
set_option linter.unusedSimpArgs false
set_option linter.unusedVariables false
namespace Tlv
open Go.RowKit Go.Proofs.YthnddhgkjkpmfaaDoorW.PrintWords Go.Proofs.YthnddhgkjkpmfaaDoorW.PrintMore Go.Proofs.YthnddhgkjkpmfaaDoor.PureB Go.Proofs.YthnddhgkjkpmfaaDoor.KTlv Go.Proofs.YthnddhgkjkpmfaaDoor.ExtTlvC Go.Proofs.YthnddhgkjkpmfaaDoor.LTlvC
theorem shown_true : latinerlaw02_shown.f 3000 = some true := by decide +kernel
theorem shown_f (k : Nat) (hk : 3000 ≤ k) : latinerlaw02_shown.f k = some true := at_rounds (g := latinerlaw02_shown.f) latinerlaw02_shown.mono hk shown_true
mutual
def cutT : Nat → Nd → Nd
  | d, ⟨t, b, ks⟩ => ⟨t, b.extract 0 (min b.size 4000), if d ≤ 1 then [] else cutL (d - 1) 60 ks⟩
def cutL : Nat → Nat → List Nd → List Nd
  | _, _, [] => []
  | _, 0, _ :: _ => []
  | d, n + 1, k :: ks => cutT d k :: cutL d n ks
end
theorem cutL_len : ∀ (n d : Nat) (ks : List Nd), (cutL d n ks).length ≤ n
  | _, _, [] => by simp [cutL]
  | 0, _, _ :: _ => by simp [cutL]
  | n + 1, d, k :: ks => by rw [cutL, List.length_cons]; have := cutL_len n d ks; omega
theorem cutL_eq : ∀ (n d : Nat) (ks : List Nd), cutL d n ks = (ks.take n).map (cutT d)
  | _, _, [] => by simp [cutL]
  | 0, _, _ :: _ => by simp [cutL]
  | n + 1, d, k :: ks => by rw [cutL, cutL_eq n d ks]; rfl
theorem cut_eq (d : Nat) (x : Nd) : cutT d x = ⟨x.f0, x.f1.extract 0 (min x.f1.size 4000), if d ≤ 1 then [] else (x.f2.take 60).map (cutT (d - 1))⟩ := by
  obtain ⟨t, b, ks⟩ := x
  rw [cutT]
  congr 1
  split
  · rfl
  · exact cutL_eq _ _ _
theorem mn_nat (n : Nat) (m : Nat) : mn (n : Int) (m : Int) = ((min n m : Nat) : Int) := by unfold mn; split <;> omega
theorem cutAt_f : ∀ (m : Nat) (x : Nd), SizeOf.sizeOf x < m → ∀ (d k : Nat), 1 ≤ d → d ≤ 1000 → 63 * d ≤ k → latinerlaw02_cutAt.f k x.f0 x.f1 x.f2 (d : Int) = some ((cutT d x).f0, (cutT d x).f1, (cutT d x).f2) := by
  intro m
  induction m with
  | zero => intro x h; exact absurd h (Nat.not_lt_zero _)
  | succ m ih =>
    intro x hx d k hd hd2 hk
    obtain ⟨k, rfl⟩ : ∃ j, k = j + 1 := ⟨k - 1, by omega⟩
    rw [cut_eq]
    simp only [latinerlaw02_cutAt.f]
    have hm := mn_nat x.f1.size 4000
    rw [show ((4000 : Nat) : Int) = 4000 from rfl] at hm
    rw [hm, if_pos (by omega), if_pos (by omega), Int.toNat_natCast]
    have loop : ∀ (r i k : Nat) (acc : List Nd), i + r = 60 → 63 * (d - 1) + r + 1 ≤ k → acc.length ≤ i →
        latinerlaw02_cutAt.l0 k (d : Int) (i : Int) x.f0 x.f1 x.f2 x.f0 (x.f1.extract 0 (min x.f1.size 4000)) acc = some (x.f0, x.f1.extract 0 (min x.f1.size 4000), if d ≤ 1 then acc else acc ++ ((x.f2.drop i).take r).map (cutT (d - 1))) := by
      intro r
      induction r with
      | zero =>
        intro i k acc hi hk _
        obtain ⟨k, rfl⟩ : ∃ j, k = j + 1 := ⟨k - 1, by omega⟩
        simp only [latinerlaw02_cutAt.l0]
        have e : ((x.f2.drop i).take 0).map (cutT (d - 1)) = [] := by simp
        rw [e, List.append_nil, ite_self]
        by_cases h1 : (i : Int) < (x.f2.length : Int)
        · rw [if_pos h1, if_neg (by omega)]
        · rw [if_neg h1]
      | succ r ihr =>
        intro i k acc hi hk hacc
        obtain ⟨k, rfl⟩ : ∃ j, k = j + 1 := ⟨k - 1, by omega⟩
        simp only [latinerlaw02_cutAt.l0]
        by_cases h1 : i < x.f2.length
        · rw [if_pos (show (i : Int) < (x.f2.length : Int) by omega), if_pos (show (i : Int) < 60 by omega)]
          by_cases h2 : d ≤ 1
          · rw [if_neg (show ¬ (d : Int) > 1 by omega), if_pos h2]
          · rw [if_pos (show (d : Int) > 1 by omega), if_pos (show (0 : Int) ≤ i by omega), rd_at x.f2 i h1, w64 (n := (d : Int) - 1) (by omega) (by omega), show (d : Int) - 1 = ((d - 1 : Nat) : Int) by omega]
            have hmem : x.f2[i] ∈ x.f2 := List.getElem_mem h1
            rw [ih x.f2[i] (by have := kid_lt5 hmem; omega) (d - 1) k (by omega) (by omega) (by omega)]
            simp only [Option.bind_some]
            rw [if_pos (by omega), w64 (n := (i : Int) + 1) (by omega) (by omega), eta]
            have := ihr (i + 1) k (acc ++ [cutT (d - 1) x.f2[i]]) (by omega) (by omega) (by rw [List.length_append, List.length_singleton]; omega)
            rw [show (i : Int) + 1 = ((i + 1 : Nat) : Int) by omega, this, if_neg h2, if_neg h2, List.drop_eq_getElem_cons h1, List.take_succ_cons, List.map_cons, List.append_assoc]
            rfl
        · rw [if_neg (show ¬ (i : Int) < (x.f2.length : Int) by omega), List.drop_eq_nil_of_le (by omega)]
          simp
    have := loop 60 0 k [] rfl (by omega) (by simp)
    rw [List.nil_append, List.drop_zero] at this
    exact this
theorem cut_f (x : Nd) (k : Nat) (hk : 1000 ≤ k) : latinerlaw02_Cut.f k x.f0 x.f1 x.f2 = some ((cutT 13 x).f0, (cutT 13 x).f1, (cutT 13 x).f2) := by
  unfold latinerlaw02_Cut.f
  have := cutAt_f _ x (Nat.lt_succ_self _) 13 k (by omega) (by omega) (by omega)
  rw [show ((13 : Nat) : Int) = 13 from rfl] at this
  rw [this]
  rfl
theorem cut_few (x : Nd) : few (cutT 13 x) = true := by
  rw [few_iff]
  have key : ∀ (n : Nat) (x : Nd) (e : Int), ∀ p ∈ pre e (cutT n x), p.2.f2.length ≤ 60 := by
    intro n
    induction n with
    | zero =>
      intro x e p hp
      rw [cut_eq, if_pos (by omega), pre, preL] at hp
      rw [List.mem_singleton.1 hp]
      simp
    | succ n ih =>
      intro x e p hp
      rw [cut_eq, pre, preL_flat'] at hp
      rcases List.mem_cons.1 hp with rfl | hp
      · show (if n + 1 ≤ 1 then [] else List.map (cutT (n + 1 - 1)) (List.take 60 x.f2)).length ≤ 60
        split
        · simp
        · rw [List.length_map, List.length_take]; omega
      · obtain ⟨y, hy, hpy⟩ := List.mem_flatMap.1 hp
        split at hy
        · cases hy
        · obtain ⟨z, _, rfl⟩ := List.mem_map.1 hy
          exact ih z _ p hpy
  intro p hp
  have := key 13 x 1 p hp
  omega
theorem cuts_f (s : ByteArray) : latinerlaw02_cut.f s = some (s.extract 0 (min s.size 4100)) ∧ (s.extract 0 (min s.size 4100)).size ≤ 4100 := by
  unfold latinerlaw02_cut.f
  have hm := mn_nat s.size 4100
  rw [show ((4100 : Nat) : Int) = 4100 from rfl] at hm
  rw [hm, if_pos (by omega), if_pos (by omega), Int.toNat_natCast]
  refine ⟨rfl, ?_⟩
  rw [extract_size s 0 _ (by omega)]
  omega
theorem same_self (x : Nd) : same x x = true := (same_iff x x).2 rfl
theorem same_f (x y : Nd) : tlv_Same.f x.f0 x.f1 x.f2 y.f0 y.f1 y.f2 = some (same x y) := by unfold tlv_Same.f; rw [eta, eta]
end Tlv
end Go.Proofs.YthnddhgkjkpmfaaDoor
-- Written by this repo's own program over the kit's printer: YthnddhgkjkpmfaaDoor.LTlvC
namespace Go.Proofs.YthnddhgkjkpmfaaDoor.LTlvC
open Go.Proofs.YthnddhgkjkpmfaaDoor.ExtTlvC
open Go.Proofs.YthnddhgkjkpmfaaDoor.KTlv
open Go.RowKit Go.Proofs.YthnddhgkjkpmfaaDoorW.PrintWords Go.Proofs.YthnddhgkjkpmfaaDoorW.PrintLast Go.Proofs.YthnddhgkjkpmfaaDoorW.PrintMore
attribute [local go_sem] max2_int min2_int max_two min_two max_three min_three max_four min_four   -- for this text's walks alone
attribute [local go_sem] some_set
set_option linter.unusedVariables false
set_option linter.unusedSimpArgs false
variable {G : Gl}
mutual
def latinerref01_Encode.j0 : Nat → Int → Bool → Option (ByteArray × Int)
 | 0, _, _ => none
 | k + 1, x0, x10 => if x10 = true then (some ((⟨#[]⟩ : ByteArray), 12)) else (if x0 < 128 then (some (strOfNums (([(x0) % 256] : List Int)), 0)) else (latinerref01_Encode.l0 k x0 (⟨#[]⟩ : ByteArray)))
def latinerref01_Encode.l0 : Nat → Int → ByteArray → Option (ByteArray × Int)
 | 0, _, _ => none
 | k + 1, x0, x4 => if x0 > 0 then ((some (([(Int.tmod x0 256) % 256] : List Int) : List Int)).bind fun y327 => (if (strOfNums y327).size + x4.size ≤ 9223372036854775807 then (latinerref01_Encode.l0 k (wrap64 (Int.tdiv x0 256)) ((strOfNums y327) ++ x4)) else (none))) else ((some (([(wrap64 (128 + (x4.size : Int))) % 256] : List Int) : List Int)).bind fun y330 => (if (strOfNums y330).size + x4.size ≤ 9223372036854775807 then (some ((strOfNums y330) ++ x4, 0)) else (none)))
end
def latinerref01_Encode.f (k : Nat) (a0 : Int) : Option (ByteArray × Int) := if a0 < 0 then (latinerref01_Encode.j0 k a0 true) else (latinerref01_Encode.j0 k a0 (decide (a0 > 16777215)))
set_option maxHeartbeats 8000000 in
set_option maxRecDepth 100000 in
theorem latinerref01_Encode.calls (k : Nat) (a0 : Int) (r1 : ByteArray) (r2 : Int) (w : World) (h : latinerref01_Encode.f k a0 = some (r1, r2)) :
  Calls Tryd.prog 43 #[.int .i64 a0] w fun e w' => e = .returned (.tuple #[.string r1, .int .i64 r2]) ∧ Below w.heap.size w w' := by
 have HB := Aside0.mk (Below.refl w.heap.size w)
 have H : (if a0 < 0 then (latinerref01_Encode.j0 k a0 true) else (latinerref01_Encode.j0 k a0 (decide (a0 > 16777215)))) = some (r1, r2) := h
 clear h
 have HC2 := Aside0.mk H
 clear H
 go_enter Tryd.func43, Tryd.ntmps43
 go_upto_region 1 with (fail)
 go_cut [10] (fun v10 wc => ∃ (kq : Nat) (x10_1 : Bool), v10 = .bool x10_1 ∧ Aside0 (latinerref01_Encode.j0 kq a0 x10_1 = some (r1, r2)) ∧ Aside0 (kq ≤ k) ∧ Aside0 (Below w.heap.size w wc))
 case first =>
  have H := HC2.out
  clear HC2
  by_cases c3 : a0 < 0
  ·rw [if_pos c3] at H
   have c3b0 : decide (a0 < 0) = true := decide_eq_true c3
   clear c3
   (first | rw [c3b0] | (simp only [i64_w, i32_w]; rw [c3b0]) | skip)
   have H' := Aside0.mk H
   clear H
   go_wp2
   go_meet
   case rel => exact ⟨_, (true), q3_, H', ⟨q12_⟩, ⟨q0_⟩⟩
  ·rw [if_neg c3] at H
   have c3b0 : decide (a0 < 0) = false := decide_eq_false c3
   clear c3
   (first | rw [c3b0] | (simp only [i64_w, i32_w]; rw [c3b0]) | skip)
   have H' := Aside0.mk H
   clear H
   go_wp2
   go_meet
   case rel => exact ⟨_, (decide (a0 > 16777215)), q3_, H', ⟨q12_⟩, ⟨q0_⟩⟩
 case rest =>
  clear HC2
  try clear p2
  try clear c3
  try clear c3b0
  obtain ⟨kq, x10_1, rfl, HA, HJ1, HB⟩ := hcut
  cases kq with
  | zero => exact absurd HA.out (by simp [latinerref01_Encode.j0])
  | succ kj1 =>
   have H := HA.out
   clear HA
   simp only [latinerref01_Encode.j0] at H
   by_cases c4 : x10_1 = true
   ·subst c4
    have H1 : (some ((⟨#[]⟩ : ByteArray), 12)) = some (r1, r2) := by rw [if_pos rfl] at H; exact H
    clear H
    have H := H1
    clear H1
    simp only [Option.some.injEq, Prod.mk.injEq] at H
    obtain ⟨rfl, rfl⟩ := H
    go_wp2
    go_ret2
    exact ⟨q2_, q0_⟩
   ·replace c4 := Bool.eq_false_iff.mpr c4
    subst c4
    have H1 : (if a0 < 128 then (some (strOfNums (([(a0) % 256] : List Int)), 0)) else (latinerref01_Encode.l0 kj1 a0 (⟨#[]⟩ : ByteArray))) = some (r1, r2) := by rw [if_neg (show ¬ (false = true) by decide)] at H; exact H
    clear H
    have H := H1
    clear H1
    by_cases c5 : a0 < 128
    ·rw [if_pos c5] at H
     have c5b0 : decide (a0 < 128) = true := decide_eq_true c5
     clear c5
     obtain ⟨y324, hy324⟩ : ∃ y_ : List Int, y_ = (([(a0) % 256] : List Int)) := ⟨_, rfl⟩
     replace H : (some (strOfNums y324, 0)) = some (r1, r2) := by first | (rw [hy324]; with_reducible exact H) | (have H2_ := (Option.bind_some _ _).symm.trans H; rw [hy324]; with_reducible exact H2_) | (have H2_ := (Option.bind_some _ _).symm.trans H; with_reducible exact H2_) | with_reducible exact H | (rw [hy324]; exact H) | exact H
     have Ny324 := Aside0.mk hy324
     clear hy324
     simp only [Option.some.injEq, Prod.mk.injEq] at H
     obtain ⟨rfl, rfl⟩ := H
     go_wp2_with (first | ((with_reducible refine gate_dst (N := 15) rfl ?_); refine Kd.R_lit (Kd.int .u8) _ 5 ?hg (N := 15) ?hd (xs := ([(a0) % 256] : List Int)) (inner := [.int .u8 ((a0) % 256)]) (ok := fun _ => True) (okp := fun _ => True) ?hr ?hp (fun _ hk => hk) trivial (Below.refl _ _) (Nat.le_refl _) (by simp) ?_; (case hd => rfl); (case hg => rfl); (case hr => first | (go_simp; done) | (go_simp; rfl)); (case hp => exact (Reps.one (show Kd.M (Kd.int .u8) _ _ _ ((a0) % 256) [.int .u8 ((a0) % 256)] from rfl) (Reps.none _ _))); intro v325 w6 ho7 hb hg_ hnew_; clear hg_ hnew_; (first | rw [← Ny324.out] at ho7 | (simp only [Int.reduceToNat] at ho7; rw [← Ny324.out] at ho7)); have n0_ := Aside0.mk (Kd.R_lower ho7 (below_size q0_)); have n1_ := Aside0.mk (below_step q0_ hb); clear HB; have HO326 := n0_; have HB := n1_; clear n0_ n1_; clear hb ho7; have hcv8 := own_string (P := Tryd.prog) Tryd.underlying41 Tryd.underlying5 Tryd.underlying9 (Kd.own_of_R HO326.out)))
     go_ret2
     exact ⟨q2_, q0_⟩
    ·rw [if_neg c5] at H
     have c5b0 : decide (a0 < 128) = false := decide_eq_false c5
     clear c5
     have H' := Aside0.mk H
     clear H
     go_wp2
     go_loopg [0, 4] kj1 (fun kq v0 v4 w' => ∃ (x0_2 : Int) (x4_2 : ByteArray), v0 = .int .i64 x0_2 ∧ v4 = .string x4_2 ∧ Aside0 (latinerref01_Encode.l0 kq x0_2 x4_2 = some (r1, r2)) ∧ Aside0 (kq ≤ kj1) ∧ Aside0 (Below w.heap.size w w'))
     case atStart => exact ⟨(a0), ((⟨#[]⟩ : ByteArray)), q3_, q3_, H', ⟨Nat.le_refl _⟩, ⟨q0_⟩⟩
     case round =>
      clear H'
      try clear p2
      try clear c3
      try clear c3b0
      try clear c4
      try clear c5
      try clear c5b0
      try clear hcv8
      try clear p2
      obtain ⟨x0_2, x4_2, rfl, rfl, HA, HK2, HB⟩ := hrel
      cases gk with
      | zero => exact absurd HA.out (by simp [latinerref01_Encode.l0])
      | succ k2 =>
       have H := HA.out
       clear HA
       simp only [latinerref01_Encode.l0] at H
       by_cases c9 : x0_2 > 0
       ·rw [if_pos c9] at H
        have c9b0 : decide (0 < x0_2) = true := decide_eq_true c9
        clear c9
        obtain ⟨y327, hy327⟩ : ∃ y_ : List Int, y_ = (([(Int.tmod x0_2 256) % 256] : List Int)) := ⟨_, rfl⟩
        replace H : (if (strOfNums y327).size + x4_2.size ≤ 9223372036854775807 then (latinerref01_Encode.l0 k2 (wrap64 (Int.tdiv x0_2 256)) ((strOfNums y327) ++ x4_2)) else (none)) = some (r1, r2) := by first | (rw [hy327]; with_reducible exact H) | (have H2_ := (Option.bind_some _ _).symm.trans H; rw [hy327]; with_reducible exact H2_) | (have H2_ := (Option.bind_some _ _).symm.trans H; with_reducible exact H2_) | with_reducible exact H | (rw [hy327]; exact H) | exact H
        have Ny327 := Aside0.mk hy327
        clear hy327
        by_cases c10 : (strOfNums y327).size + x4_2.size ≤ 9223372036854775807
        ·rw [if_pos c10] at H
         have c10b0 := eq_true c10
         have c10b1 : decide ((strOfNums y327).size + x4_2.size ≤ 9223372036854775807) = true := decide_eq_true c10
         try have c10b2 : (9223372036854775807 < (strOfNums y327).size + x4_2.size) = False := eq_false (Nat.not_lt.2 c10)
         have H' := Aside0.mk H
         clear H
         go_wp2_with (first | ((with_reducible refine gate_dst (N := 22) rfl ?_); refine Kd.R_lit (Kd.int .u8) _ 5 ?hg (N := 22) ?hd (xs := ([(Int.tmod x0_2 256) % 256] : List Int)) (inner := [.int .u8 ((Int.tmod x0_2 256) % 256)]) (ok := fun _ => True) (okp := fun _ => True) ?hr ?hp (fun _ hk => hk) trivial (Below.refl _ _) (Nat.le_refl _) (by simp) ?_; (case hd => rfl); (case hg => rfl); (case hr => first | (go_simp; done) | (go_simp; rfl)); (case hp => exact (Reps.one (show Kd.M (Kd.int .u8) _ _ _ ((Int.tmod x0_2 256) % 256) [.int .u8 ((Int.tmod x0_2 256) % 256)] from rfl) (Reps.none _ _))); intro v328 w11 ho12 hb hg_ hnew_; clear hg_ hnew_; (first | rw [← Ny327.out] at ho12 | (simp only [Int.reduceToNat] at ho12; rw [← Ny327.out] at ho12)); have n0_ := Aside0.mk (Kd.R_lower ho12 (below_size q0_)); have n1_ := Aside0.mk (below_step q0_ hb); clear HB; have HO329 := n0_; have HB := n1_; clear n0_ n1_; clear hb ho12; have hcv13 := own_string (P := Tryd.prog) Tryd.underlying41 Tryd.underlying5 Tryd.underlying9 (Kd.own_of_R HO329.out)))
         go_roundg k2
         case measure => have := HJ1.out; have := HK2.out; omega
         case rel => exact ⟨(wrap64 (Int.tdiv x0_2 256)), ((strOfNums y327) ++ x4_2), q3_, q3_, H', ⟨by have := HJ1.out; have := HK2.out; omega⟩, ⟨q0_⟩⟩
        ·rw [if_neg c10] at H
         exact absurd H (by simp)
       ·rw [if_neg c9] at H
        have c9b0 : decide (0 < x0_2) = false := decide_eq_false c9
        clear c9
        obtain ⟨y330, hy330⟩ : ∃ y_ : List Int, y_ = (([(wrap64 (128 + (x4_2.size : Int))) % 256] : List Int)) := ⟨_, rfl⟩
        replace H : (if (strOfNums y330).size + x4_2.size ≤ 9223372036854775807 then (some ((strOfNums y330) ++ x4_2, 0)) else (none)) = some (r1, r2) := by first | (rw [hy330]; with_reducible exact H) | (have H2_ := (Option.bind_some _ _).symm.trans H; rw [hy330]; with_reducible exact H2_) | (have H2_ := (Option.bind_some _ _).symm.trans H; with_reducible exact H2_) | with_reducible exact H | (rw [hy330]; exact H) | exact H
        have Ny330 := Aside0.mk hy330
        clear hy330
        by_cases c14 : (strOfNums y330).size + x4_2.size ≤ 9223372036854775807
        ·rw [if_pos c14] at H
         have c14b0 := eq_true c14
         have c14b1 : decide ((strOfNums y330).size + x4_2.size ≤ 9223372036854775807) = true := decide_eq_true c14
         try have c14b2 : (9223372036854775807 < (strOfNums y330).size + x4_2.size) = False := eq_false (Nat.not_lt.2 c14)
         simp only [Option.some.injEq, Prod.mk.injEq] at H
         obtain ⟨rfl, rfl⟩ := H
         go_wp2_with (first | ((with_reducible refine gate_dst (N := 32) rfl ?_); refine Kd.R_lit (Kd.int .u8) _ 5 ?hg (N := 32) ?hd (xs := ([(wrap64 (128 + (x4_2.size : Int))) % 256] : List Int)) (inner := [.int .u8 ((wrap64 (128 + (x4_2.size : Int))) % 256)]) (ok := fun _ => True) (okp := fun _ => True) ?hr ?hp (fun _ hk => hk) trivial (Below.refl _ _) (Nat.le_refl _) (by simp) ?_; (case hd => rfl); (case hg => rfl); (case hr => first | (go_simp; done) | (go_simp; rfl)); (case hp => exact (Reps.one (show Kd.M (Kd.int .u8) _ _ _ ((wrap64 (128 + (x4_2.size : Int))) % 256) [.int .u8 ((wrap64 (128 + (x4_2.size : Int))) % 256)] from rfl) (Reps.none _ _))); intro v331 w15 ho16 hb hg_ hnew_; clear hg_ hnew_; (first | rw [← Ny330.out] at ho16 | (simp only [Int.reduceToNat] at ho16; rw [← Ny330.out] at ho16)); have n0_ := Aside0.mk (Kd.R_lower ho16 (below_size q0_)); have n1_ := Aside0.mk (below_step q0_ hb); clear HB; have HO332 := n0_; have HB := n1_; clear n0_ n1_; clear hb ho16; have hcv17 := own_string (P := Tryd.prog) Tryd.underlying41 Tryd.underlying5 Tryd.underlying9 (Kd.own_of_R HO332.out)))
         go_ret2
         exact ⟨q2_, q0_⟩
        ·rw [if_neg c14] at H
         exact absurd H (by simp)
def latinerref01_Size.f (k : Nat) (a0 : Int) : Option (Int × Int) := (latinerref01_Encode.f k a0).bind fun bt333 => (some ((bt333.1.size : Int), bt333.2))
set_option maxHeartbeats 8000000 in
set_option maxRecDepth 100000 in
theorem latinerref01_Size.calls (k : Nat) (a0 : Int) (r1 : Int) (r2 : Int) (w : World) (h : latinerref01_Size.f k a0 = some (r1, r2)) :
  Calls Tryd.prog 46 #[.int .i64 a0] w fun e w' => e = .returned (.tuple #[.int .i64 r1, .int .i64 r2]) ∧ Below w.heap.size w w' := by
 have HB := Aside0.mk (Below.refl w.heap.size w)
 have H : ((latinerref01_Encode.f k a0).bind fun bt333 => (some ((bt333.1.size : Int), bt333.2))) = some (r1, r2) := h
 clear h
 replace H := Option.bind_eq_some_iff.mp H
 obtain ⟨⟨t333, t334⟩, A20, H⟩ := H
 replace H : (some ((t333.size : Int), t334)) = some (r1, r2) := H
 have A2 := Aside0.mk A20
 clear A20
 simp only [Option.some.injEq, Prod.mk.injEq] at H
 obtain ⟨rfl, rfl⟩ := H
 go_enter Tryd.func46, Tryd.ntmps46
 go_wp2_with (first | ((with_reducible refine gate_callee (f := 43) rfl ?_); refine goesL_ (some 8) rfl rfl Tryd.func43 (by kernel_rfl) rfl #[.int .i64 a0] rfl argq ?_; (with_reducible refine (latinerref01_Encode.calls k a0 t333 t334 _ A2.out).mono ?_); rintro e w3 ⟨rfl, hb⟩; refine ⟨_, rfl, ?_⟩; have n0_ := Aside0.mk (below_step q0_ hb); clear HB; have HB := n0_; clear n0_; (try clear hb); (try clear hb2); (try clear hk); (try clear hi)))
 go_ret2
 exact ⟨q2_, q0_⟩
mutual
def latinerref02_long.l0 : Nat → Int → Int → Int → ByteArray → List (S24) → Option (Int)
 | 0, _, _, _, _, _ => none
 | k + 1, x3, x4, x336000, x336001, x336002 => if x4 < (x336002.length : Int) then (if x3 ≤ 5000 then (if 0 ≤ x4 then ((latinerref02_long.f k ((rd_T24 x336002 x4).f0) ((rd_T24 x336002 x4).f1) ((rd_T24 x336002 x4).f2)).bind fun t337 => (latinerref02_long.l0 k (wrap64 (x3 + t337)) (wrap64 (x4 + 1)) x336000 x336001 x336002)) else (none)) else ((latinerref01_Size.f k (mn x3 5000)).bind fun bt338 => (some (wrap64 ((wrap64 (1 + bt338.1)) + (mn x3 5000)))))) else ((latinerref01_Size.f k (mn x3 5000)).bind fun bt340 => (some (wrap64 ((wrap64 (1 + bt340.1)) + (mn x3 5000)))))
def latinerref02_long.f : Nat → Int → ByteArray → List (S24) → Option (Int)
 | 0, _, _, _ => none
 | k + 1, a0_0, a0_1, l0_2 => latinerref02_long.l0 k (a0_1.size : Int) 0 a0_0 a0_1 l0_2
end
set_option maxHeartbeats 8000000 in
set_option maxRecDepth 100000 in
theorem latinerref02_long.calls (k : Nat) : ∀ (a0_0 : Int) (a0_1 : ByteArray) (A0_2 : Option Addr) (c0_2 : Nat) (l0_2 : List (S24)) (r : Int) (w : World) (hr0_2 : Kd.C k24 w A0_2 l0_2.length l0_2) (hc0_2 : l0_2.length ≤ c0_2) (h : latinerref02_long.f k a0_0 a0_1 l0_2 = some r),
  Calls Tryd.prog 33 #[.agg #[.int .i64 a0_0, .string a0_1, .slice A0_2 l0_2.length c0_2]] w fun e w' => e = .returned (.int .i64 r) ∧ Below w.heap.size w w' := by
 induction k using Nat.strongRecOn with
 | _ k ih =>
 intro a0_0 a0_1 A0_2 c0_2 l0_2 r w hr0_2 hc0_2 h
 cases k with
 | zero => exact absurd h (by simp [latinerref02_long.f])
 | succ k =>
 simp only [latinerref02_long.f] at h
 have hu24 := Tryd.underlying24
 have HR0_2 := Aside0.mk hr0_2
 have HC0_2 := Aside0.mk hc0_2
 clear hr0_2 hc0_2
 have HB := Aside0.mk (Below.refl w.heap.size w)
 have H : (latinerref02_long.l0 k (a0_1.size : Int) 0 a0_0 a0_1 l0_2) = some r := h
 clear h
 have H' := Aside0.mk H
 clear H
 go_enter Tryd.func33, Tryd.ntmps33
 go_wp2_with (first | ((with_reducible refine gate_dst (N := 1) rfl ?_); refine box_event ?hg (N := 1) ?hd (cs := #[.int .i64 a0_0, .string a0_1, .slice A0_2 l0_2.length c0_2]) (t := 24) ?hr ?_; (case hd => rfl); (case hg => rfl); (case hr => first | (go_simp; done) | (go_simp; rfl)); intro gb335 hg w2 hbox hb; have n0_ := Aside0.mk (below_step q0_ hb); have n1_ := Aside0.mk (hbox); have n2_ := Aside0.mk ((by rw [hg]; exact (below_size q0_) : w.heap.size ≤ gb335)); have n3_ := Aside0.mk ((by rw [hg]; exact (below_size q0_) : w.heap.size ≤ gb335)); clear HB; have HB := n0_; have BK335 := n1_; have GW335 := n2_; have GE335 := n3_; clear n0_ n1_ n2_ n3_; clear hb hbox hg; have hcz3_0 : w2.cell? ⟨gb335, 0, none⟩ = some (.int .i64 a0_0) := (blk_cell BK335.out 0).trans rfl; have hcz3_1 : w2.cell? ⟨gb335, 1, none⟩ = some (.string a0_1) := (blk_cell BK335.out 1).trans rfl; have hcz3_2 : w2.cell? ⟨gb335, 2, none⟩ = some (.slice A0_2 l0_2.length c0_2) := (blk_cell BK335.out 2).trans rfl; have hfz3_0 := blk_frozen BK335.out 0; have hfz3_1 := blk_frozen BK335.out 1; have hfz3_2 := blk_frozen BK335.out 2))
 go_loopg [3, 4] k (fun kq v3 v4 w' => ∃ (x3_1 : Int) (x4_1 : Int), v3 = .int .i64 x3_1 ∧ v4 = .int .i64 x4_1 ∧ Aside0 (latinerref02_long.l0 kq x3_1 x4_1 a0_0 a0_1 l0_2 = some r) ∧ Aside0 (kq ≤ k) ∧ Aside0 (w'.heap[gb335]? = some (.cells #[.int .i64 a0_0, .string a0_1, (.slice A0_2 l0_2.length c0_2)] 24 (0, 0))) ∧ Aside0 (Below w.heap.size w w'))
 case atStart => exact ⟨((a0_1.size : Int)), (0), q3_, q3_, H', ⟨Nat.le_refl _⟩, ⟨by refine bkq ?_; exact BK335.out⟩, ⟨q0_⟩⟩
 case round =>
  clear H'
  try clear p2
  try clear c3
  try clear hcz3_0
  try clear hcz3_1
  try clear hcz3_2
  try clear hfz3_0
  try clear hfz3_1
  try clear hfz3_2
  obtain ⟨x3_1, x4_1, rfl, rfl, HA, HK1, BK335, HB⟩ := hrel
  cases gk with
  | zero => exact absurd HA.out (by simp [latinerref02_long.l0])
  | succ k1 =>
   have H := HA.out
   clear HA
   simp only [latinerref02_long.l0] at H
   by_cases c4 : x4_1 < (l0_2.length : Int)
   ·rw [if_pos c4] at H
    have c4b0 : decide (x4_1 < (l0_2.length : Int)) = true := decide_eq_true c4
    clear c4
    by_cases c5 : x3_1 ≤ 5000
    ·rw [if_pos c5] at H
     have c5b0 : decide (x3_1 ≤ 5000) = true := decide_eq_true c5
     clear c5
     by_cases c6 : 0 ≤ x4_1
     ·rw [if_pos c6] at H
      have c6b0 : decide (0 ≤ x4_1) = true := decide_eq_true c6
      clear c6
      replace H := Option.bind_eq_some_iff.mp H
      obtain ⟨t337, A70, H⟩ := H
      replace H : (latinerref02_long.l0 k1 (wrap64 (x3_1 + t337)) (wrap64 (x4_1 + 1)) a0_0 a0_1 l0_2) = some r := H
      have A7 := Aside0.mk A70
      clear A70
      have H' := Aside0.mk H
      clear H
      have hcz8_0 : wr.cell? ⟨gb335, 0, none⟩ = some (.int .i64 a0_0) := (blk_cell BK335.out 0).trans rfl
      have hcz8_1 : wr.cell? ⟨gb335, 1, none⟩ = some (.string a0_1) := (blk_cell BK335.out 1).trans rfl
      have hcz8_2 : wr.cell? ⟨gb335, 2, none⟩ = some (.slice A0_2 l0_2.length c0_2) := (blk_cell BK335.out 2).trans rfl
      have hfz8_0 := blk_frozen BK335.out 0
      have hfz8_1 := blk_frozen BK335.out 1
      have hfz8_2 := blk_frozen BK335.out 2
      have p336 : 0 ≤ (x4_1 : Int) := of_decide_eq_true q4_
      have q336 : x4_1 < (l0_2.length : Int) := of_decide_eq_true q4_
      obtain ⟨ad336, A336_2, c336_2, e336, hx336_0, hx336_1, hx336_2, hl336_2, hi336_2⟩ := at_T24 HR0_2.out x4_1 p336 q336
      cases e336
      replace hx336_0 := (HB.out.cell (World.block_lt_of_cell? w _ hx336_0)).trans hx336_0
      replace hx336_1 := (HB.out.cell (World.block_lt_of_cell? w _ hx336_1)).trans hx336_1
      replace hx336_2 := (HB.out.cell (World.block_lt_of_cell? w _ hx336_2)).trans hx336_2
      have HR336_2 := Aside0.mk hi336_2
      have HC336_2 := Aside0.mk hl336_2
      clear hi336_2 hl336_2
      replace p336 := eq_true p336
      replace q336 := eq_true q336
      go_wp2_with (first | ((with_reducible refine gate_callee (f := 33) rfl ?_); refine goesL_ (some 27) rfl rfl Tryd.func33 (by kernel_rfl) rfl #[.agg #[.int .i64 ((rd_T24 l0_2 x4_1).f0), .string ((rd_T24 l0_2 x4_1).f1), .slice A336_2 ((rd_T24 l0_2 x4_1).f2).length c336_2]] rfl argq ?_; (with_reducible refine (ih k1 (by have := HK1.out; omega) ((rd_T24 l0_2 x4_1).f0) ((rd_T24 l0_2 x4_1).f1) _ _ ((rd_T24 l0_2 x4_1).f2) t337 _ ?side1 ?side2 A7.out).mono ?_); (case side1 => repeat (first | exact (Kd.C_below HR336_2.out HB.out) | (with_reducible refine Kd.C_alloc ?_ _) | (with_reducible refine Kd.C_drewN ?_ _) | (with_reducible refine Kd.C_drew ?_))); (case side2 => exact HC336_2.out); rintro e w9 ⟨rfl, hb⟩; refine ⟨_, rfl, ?_⟩; have n0_ := Aside0.mk (blk_below (g := gb335) (o := .cells #[.int .i64 a0_0, .string a0_1, .slice (some ad336) l0_2.length c0_2] 24 (0, 0)) (bkq BK335.out) hb); have n1_ := Aside0.mk (below_step q0_ hb); clear BK335; clear HB; have BK335 := n0_; have HB := n1_; clear n0_ n1_; (try clear hb); (try clear hb2); (try clear hk); (try clear hi)))
      go_roundg k1
      case measure => have := HK1.out; omega
      case rel => exact ⟨(wrap64 (x3_1 + t337)), (wrap64 (x4_1 + 1)), q3_, q3_, H', ⟨by have := HK1.out; omega⟩, ⟨by refine bkq ?_; exact BK335.out⟩, ⟨q0_⟩⟩
     ·rw [if_neg c6] at H
      exact absurd H (by simp)
    ·rw [if_neg c5] at H
     have c5b0 : decide (x3_1 ≤ 5000) = false := decide_eq_false c5
     clear c5
     obtain ⟨ji10, hji10⟩ : ∃ j_ : Int, (mn x3_1 5000) = j_ := ⟨_, rfl⟩
     replace H : ((latinerref01_Size.f k1 (ji10)).bind fun bt338 => (some (wrap64 ((wrap64 (1 + bt338.1)) + (ji10))))) = some r := by first | (rw [hji10] at H; exact H) | (simp only [hji10] at H ⊢; exact H)
     have hji10_ : (if 5000 < x3_1 then 5000 else x3_1) = ji10 := hji10
     replace H := Option.bind_eq_some_iff.mp H
     obtain ⟨⟨t338, t339⟩, A110, H⟩ := H
     replace H : (some (wrap64 ((wrap64 (1 + t338)) + (ji10)))) = some r := H
     have A11 := Aside0.mk A110
     clear A110
     obtain rfl := Option.some.inj H
     have hcz12_0 : wr.cell? ⟨gb335, 0, none⟩ = some (.int .i64 a0_0) := (blk_cell BK335.out 0).trans rfl
     have hcz12_1 : wr.cell? ⟨gb335, 1, none⟩ = some (.string a0_1) := (blk_cell BK335.out 1).trans rfl
     have hcz12_2 : wr.cell? ⟨gb335, 2, none⟩ = some (.slice A0_2 l0_2.length c0_2) := (blk_cell BK335.out 2).trans rfl
     have hfz12_0 := blk_frozen BK335.out 0
     have hfz12_1 := blk_frozen BK335.out 1
     have hfz12_2 := blk_frozen BK335.out 2
     go_wp2_with (first | ((with_reducible refine gate_callee (f := 46) rfl ?_); refine goesL_ (some 33) rfl rfl Tryd.func46 (by kernel_rfl) rfl #[.int .i64 ji10] rfl (by (try simp only [List.map_toArray, List.map_cons, List.map_nil]); first | done | (simp only [hji10]; rfl) | rfl | (simp only [List.length_drop, List.length_take]; rfl)) ?_; (with_reducible refine (latinerref01_Size.calls k1 ji10 t338 t339 _ A11.out).mono ?_); rintro e w13 ⟨rfl, hb⟩; refine ⟨_, rfl, ?_⟩; have n0_ := Aside0.mk (blk_below (g := gb335) (o := .cells #[.int .i64 a0_0, .string a0_1, .slice A0_2 l0_2.length c0_2] 24 (0, 0)) (bkq BK335.out) hb); have n1_ := Aside0.mk (below_step q0_ hb); clear BK335; clear HB; have BK335 := n0_; have HB := n1_; clear n0_ n1_; (try clear hb); (try clear hb2); (try clear hk); (try clear hi)))
     go_ret
     exact ⟨by first | rfl | (simp [eW] <;> rfl) | (simp only [← hji10]; first | rfl | (simp [eW] <;> rfl)) | (simp [*, eW] <;> rfl), q0_⟩
   ·rw [if_neg c4] at H
    have c4b0 : decide (x4_1 < (l0_2.length : Int)) = false := decide_eq_false c4
    clear c4
    obtain ⟨ji14, hji14⟩ : ∃ j_ : Int, (mn x3_1 5000) = j_ := ⟨_, rfl⟩
    replace H : ((latinerref01_Size.f k1 (ji14)).bind fun bt340 => (some (wrap64 ((wrap64 (1 + bt340.1)) + (ji14))))) = some r := by first | (rw [hji14] at H; exact H) | (simp only [hji14] at H ⊢; exact H)
    have hji14_ : (if 5000 < x3_1 then 5000 else x3_1) = ji14 := hji14
    replace H := Option.bind_eq_some_iff.mp H
    obtain ⟨⟨t340, t341⟩, A150, H⟩ := H
    replace H : (some (wrap64 ((wrap64 (1 + t340)) + (ji14)))) = some r := H
    have A15 := Aside0.mk A150
    clear A150
    obtain rfl := Option.some.inj H
    have hcz16_0 : wr.cell? ⟨gb335, 0, none⟩ = some (.int .i64 a0_0) := (blk_cell BK335.out 0).trans rfl
    have hcz16_1 : wr.cell? ⟨gb335, 1, none⟩ = some (.string a0_1) := (blk_cell BK335.out 1).trans rfl
    have hcz16_2 : wr.cell? ⟨gb335, 2, none⟩ = some (.slice A0_2 l0_2.length c0_2) := (blk_cell BK335.out 2).trans rfl
    have hfz16_0 := blk_frozen BK335.out 0
    have hfz16_1 := blk_frozen BK335.out 1
    have hfz16_2 := blk_frozen BK335.out 2
    go_wp2_with (first | ((with_reducible refine gate_callee (f := 46) rfl ?_); refine goesL_ (some 33) rfl rfl Tryd.func46 (by kernel_rfl) rfl #[.int .i64 ji14] rfl (by (try simp only [List.map_toArray, List.map_cons, List.map_nil]); first | done | (simp only [hji14]; rfl) | rfl | (simp only [List.length_drop, List.length_take]; rfl)) ?_; (with_reducible refine (latinerref01_Size.calls k1 ji14 t340 t341 _ A15.out).mono ?_); rintro e w17 ⟨rfl, hb⟩; refine ⟨_, rfl, ?_⟩; have n0_ := Aside0.mk (blk_below (g := gb335) (o := .cells #[.int .i64 a0_0, .string a0_1, .slice A0_2 l0_2.length c0_2] 24 (0, 0)) (bkq BK335.out) hb); have n1_ := Aside0.mk (below_step q0_ hb); clear BK335; clear HB; have BK335 := n0_; have HB := n1_; clear n0_ n1_; (try clear hb); (try clear hb2); (try clear hk); (try clear hi)))
    go_ret
    exact ⟨by first | rfl | (simp [eW] <;> rfl) | (simp only [← hji14]; first | rfl | (simp [eW] <;> rfl)) | (simp [*, eW] <;> rfl), q0_⟩
end Go.Proofs.YthnddhgkjkpmfaaDoor.LTlvC
-- Written by this repo's own program over the kit's printer: YthnddhgkjkpmfaaDoor.LTlvC
namespace Go.Proofs.YthnddhgkjkpmfaaDoor.LTlvC
open Go.Proofs.YthnddhgkjkpmfaaDoor.ExtTlvC
open Go.Proofs.YthnddhgkjkpmfaaDoor.KTlv
open Go.RowKit Go.Proofs.YthnddhgkjkpmfaaDoorW.PrintWords Go.Proofs.YthnddhgkjkpmfaaDoorW.PrintLast Go.Proofs.YthnddhgkjkpmfaaDoorW.PrintMore
attribute [local go_sem] max2_int min2_int max_two min_two max_three min_three max_four min_four   -- for this text's walks alone
attribute [local go_sem] some_set
set_option linter.unusedVariables false
set_option linter.unusedSimpArgs false
variable {G : Gl}
mutual
def latinerref02_shape.j0 : Nat → Int → Bool → Int → ByteArray → List (S24) → Option (Bool)
 | 0, _, _, _, _, _ => none
 | k + 1, x1, x24, x343000, x343001, x343002 => if x24 = true then (some false) else (if (Int.tmod (wrap64 (Int.tdiv x343000 32)) 2) = 1 then (if x343001.toList = ([] : List UInt8) then (if ((Int.tmod (wrap64 (Int.tdiv x343000 32)) 2) = 1) then (latinerref02_shape.j1 k x1 false x343000 x343001 x343002) else (latinerref02_shape.j1 k x1 (decide ((x343002.length : Int) > 0)) x343000 x343001 x343002)) else (latinerref02_shape.j1 k x1 true x343000 x343001 x343002)) else (if ((Int.tmod (wrap64 (Int.tdiv x343000 32)) 2) = 1) then (latinerref02_shape.j1 k x1 false x343000 x343001 x343002) else (latinerref02_shape.j1 k x1 (decide ((x343002.length : Int) > 0)) x343000 x343001 x343002)))
def latinerref02_shape.j1 : Nat → Int → Bool → Int → ByteArray → List (S24) → Option (Bool)
 | 0, _, _, _, _, _ => none
 | k + 1, x1, x45, x343000, x343001, x343002 => if x45 = true then (some false) else (latinerref02_shape.l0 k x1 0 x343000 x343001 x343002)
def latinerref02_shape.l0 : Nat → Int → Int → Int → ByteArray → List (S24) → Option (Bool)
 | 0, _, _, _, _, _ => none
 | k + 1, x1, x6, x343000, x343001, x343002 => if x6 < (x343002.length : Int) then (if 0 ≤ x6 then ((latinerref02_shape.f k ((rd_T24 x343002 x6).f0) ((rd_T24 x343002 x6).f1) ((rd_T24 x343002 x6).f2) (wrap64 (x1 - 1))).bind fun t344 => (if t344 = true then (latinerref02_shape.l0 k x1 (wrap64 (x6 + 1)) x343000 x343001 x343002) else (some false))) else (none)) else (some true)
def latinerref02_shape.f : Nat → Int → ByteArray → List (S24) → Int → Option (Bool)
 | 0, _, _, _, _ => none
 | k + 1, a0_0, a0_1, l0_2, a1 => if a0_0 < 0 then (latinerref02_shape.j0 k a1 true a0_0 a0_1 l0_2) else (if a0_0 > 255 then (latinerref02_shape.j0 k a1 true a0_0 a0_1 l0_2) else (if (Int.tmod a0_0 32) = 31 then (latinerref02_shape.j0 k a1 true a0_0 a0_1 l0_2) else (latinerref02_shape.j0 k a1 (decide (a1 < 1)) a0_0 a0_1 l0_2)))
end
set_option maxHeartbeats 8000000 in
set_option maxRecDepth 100000 in
theorem latinerref02_shape.calls (k : Nat) : ∀ (a0_0 : Int) (a0_1 : ByteArray) (A0_2 : Option Addr) (c0_2 : Nat) (l0_2 : List (S24)) (a1 : Int) (r : Bool) (w : World) (hr0_2 : Kd.C k24 w A0_2 l0_2.length l0_2) (hc0_2 : l0_2.length ≤ c0_2) (h : latinerref02_shape.f k a0_0 a0_1 l0_2 a1 = some r),
  Calls Tryd.prog 35 #[.agg #[.int .i64 a0_0, .string a0_1, .slice A0_2 l0_2.length c0_2], .int .i64 a1] w fun e w' => e = .returned (.bool r) ∧ Below w.heap.size w w' := by
 induction k using Nat.strongRecOn with
 | _ k ih =>
 intro a0_0 a0_1 A0_2 c0_2 l0_2 a1 r w hr0_2 hc0_2 h
 cases k with
 | zero => exact absurd h (by simp [latinerref02_shape.f])
 | succ k =>
 simp only [latinerref02_shape.f] at h
 have hu24 := Tryd.underlying24
 have HR0_2 := Aside0.mk hr0_2
 have HC0_2 := Aside0.mk hc0_2
 clear hr0_2 hc0_2
 have HB := Aside0.mk (Below.refl w.heap.size w)
 have H : (if a0_0 < 0 then (latinerref02_shape.j0 k a1 true a0_0 a0_1 l0_2) else (if a0_0 > 255 then (latinerref02_shape.j0 k a1 true a0_0 a0_1 l0_2) else (if (Int.tmod a0_0 32) = 31 then (latinerref02_shape.j0 k a1 true a0_0 a0_1 l0_2) else (latinerref02_shape.j0 k a1 (decide (a1 < 1)) a0_0 a0_1 l0_2)))) = some r := h
 clear h
 have HC3 := Aside0.mk H
 clear H
 go_enter Tryd.func35, Tryd.ntmps35
 go_upto_region 1 with (first | ((with_reducible refine gate_dst (N := 2) rfl ?_); (try (refine gate_guard (by rfl) ?_; dsimp only)); refine box_event ?hg (N := 2) ?hd (cs := #[.int .i64 a0_0, .string a0_1, .slice A0_2 l0_2.length c0_2]) (t := 24) ?hr ?_; (case hd => rfl); (case hg => rfl); (case hr => first | (go_simp; done) | (go_simp; rfl)); intro gb342 hg w4 hbox hb; have n0_ := Aside0.mk (below_step q0_ hb); have n1_ := Aside0.mk (hbox); have n2_ := Aside0.mk ((by rw [hg]; exact (below_size q0_) : w.heap.size ≤ gb342)); have n3_ := Aside0.mk ((by rw [hg]; exact (below_size q0_) : w.heap.size ≤ gb342)); clear HB; have HB := n0_; have BK342 := n1_; have GW342 := n2_; have GE342 := n3_; clear n0_ n1_ n2_ n3_; clear hb hbox hg))
 (try simp only [Act.put, List.setIfInBounds_toArray, List.set_cons_zero, List.set_cons_succ])
 go_cut [24] (fun v24 wc => ∃ (kq : Nat) (x24_2 : Bool), v24 = .bool x24_2 ∧ Aside0 (latinerref02_shape.j0 kq a1 x24_2 a0_0 a0_1 l0_2 = some r) ∧ Aside0 (kq ≤ k) ∧ Aside0 (wc.heap[gb342]? = some (.cells #[.int .i64 a0_0, .string a0_1, (.slice A0_2 l0_2.length c0_2)] 24 (0, 0))) ∧ Aside0 (Below w.heap.size w wc))
 case first =>
  have H := HC3.out
  clear HC3
  by_cases c5 : a0_0 < 0
  ·rw [if_pos c5] at H
   have c5b0 : decide (a0_0 < 0) = true := decide_eq_true c5
   clear c5
   (first | rw [c5b0] | (simp only [i64_w, i32_w]; rw [c5b0]) | skip)
   have H' := Aside0.mk H
   clear H
   have hcz6_0 : w4.cell? ⟨gb342, 0, none⟩ = some (.int .i64 a0_0) := (blk_cell BK342.out 0).trans rfl
   have hcz6_1 : w4.cell? ⟨gb342, 1, none⟩ = some (.string a0_1) := (blk_cell BK342.out 1).trans rfl
   have hcz6_2 : w4.cell? ⟨gb342, 2, none⟩ = some (.slice A0_2 l0_2.length c0_2) := (blk_cell BK342.out 2).trans rfl
   have hfz6_0 := blk_frozen BK342.out 0
   have hfz6_1 := blk_frozen BK342.out 1
   have hfz6_2 := blk_frozen BK342.out 2
   go_wp2
   go_meet
   case rel => exact ⟨_, (true), q3_, H', ⟨q12_⟩, ⟨by refine bkq ?_; exact BK342.out⟩, ⟨q0_⟩⟩
  ·rw [if_neg c5] at H
   have c5b0 : decide (a0_0 < 0) = false := decide_eq_false c5
   clear c5
   (first | rw [c5b0] | (simp only [i64_w, i32_w]; rw [c5b0]) | skip)
   by_cases c7 : a0_0 > 255
   ·rw [if_pos c7] at H
    have c7b0 : decide (255 < a0_0) = true := decide_eq_true c7
    clear c7
    have H' := Aside0.mk H
    clear H
    have hcz8_0 : w4.cell? ⟨gb342, 0, none⟩ = some (.int .i64 a0_0) := (blk_cell BK342.out 0).trans rfl
    have hcz8_1 : w4.cell? ⟨gb342, 1, none⟩ = some (.string a0_1) := (blk_cell BK342.out 1).trans rfl
    have hcz8_2 : w4.cell? ⟨gb342, 2, none⟩ = some (.slice A0_2 l0_2.length c0_2) := (blk_cell BK342.out 2).trans rfl
    have hfz8_0 := blk_frozen BK342.out 0
    have hfz8_1 := blk_frozen BK342.out 1
    have hfz8_2 := blk_frozen BK342.out 2
    go_wp2
    go_meet
    case rel => exact ⟨_, (true), q3_, H', ⟨q12_⟩, ⟨by refine bkq ?_; exact BK342.out⟩, ⟨q0_⟩⟩
   ·rw [if_neg c7] at H
    have c7b0 : decide (255 < a0_0) = false := decide_eq_false c7
    clear c7
    by_cases c9 : (Int.tmod a0_0 32) = 31
    ·rw [if_pos c9] at H
     have c9b0 : ((Int.tmod a0_0 32) == 31) = true := beq_iff_eq.mpr c9
     have c9b1 : ((Int.tmod a0_0 32) != 31) = false := bne_eq_false_iff_eq.mpr c9
     clear c9
     have H' := Aside0.mk H
     clear H
     have hcz10_0 : w4.cell? ⟨gb342, 0, none⟩ = some (.int .i64 a0_0) := (blk_cell BK342.out 0).trans rfl
     have hcz10_1 : w4.cell? ⟨gb342, 1, none⟩ = some (.string a0_1) := (blk_cell BK342.out 1).trans rfl
     have hcz10_2 : w4.cell? ⟨gb342, 2, none⟩ = some (.slice A0_2 l0_2.length c0_2) := (blk_cell BK342.out 2).trans rfl
     have hfz10_0 := blk_frozen BK342.out 0
     have hfz10_1 := blk_frozen BK342.out 1
     have hfz10_2 := blk_frozen BK342.out 2
     go_wp2
     go_meet
     case rel => exact ⟨_, (true), q3_, H', ⟨q12_⟩, ⟨by refine bkq ?_; exact BK342.out⟩, ⟨q0_⟩⟩
    ·rw [if_neg c9] at H
     have c9b0 : ((Int.tmod a0_0 32) == 31) = false := beq_eq_false_iff_ne.mpr c9
     have c9b1 : ((Int.tmod a0_0 32) != 31) = true := bne_iff_ne.mpr c9
     have H' := Aside0.mk H
     clear H
     have hcz11_0 : w4.cell? ⟨gb342, 0, none⟩ = some (.int .i64 a0_0) := (blk_cell BK342.out 0).trans rfl
     have hcz11_1 : w4.cell? ⟨gb342, 1, none⟩ = some (.string a0_1) := (blk_cell BK342.out 1).trans rfl
     have hcz11_2 : w4.cell? ⟨gb342, 2, none⟩ = some (.slice A0_2 l0_2.length c0_2) := (blk_cell BK342.out 2).trans rfl
     have hfz11_0 := blk_frozen BK342.out 0
     have hfz11_1 := blk_frozen BK342.out 1
     have hfz11_2 := blk_frozen BK342.out 2
     go_wp2
     go_meet
     case rel => exact ⟨_, (decide (a1 < 1)), q3_, H', ⟨q12_⟩, ⟨by refine bkq ?_; exact BK342.out⟩, ⟨q0_⟩⟩
 case rest =>
  clear HC3
  try clear p2
  try clear c3
  try clear c5
  try clear c5b0
  try clear c7
  try clear c7b0
  try clear c9
  try clear c9b0
  try clear c9b1
  try clear hcz10_0
  try clear hcz10_1
  try clear hcz10_2
  try clear hcz11_0
  try clear hcz11_1
  try clear hcz11_2
  try clear hcz6_0
  try clear hcz6_1
  try clear hcz6_2
  try clear hcz8_0
  try clear hcz8_1
  try clear hcz8_2
  try clear hfz10_0
  try clear hfz10_1
  try clear hfz10_2
  try clear hfz11_0
  try clear hfz11_1
  try clear hfz11_2
  try clear hfz6_0
  try clear hfz6_1
  try clear hfz6_2
  try clear hfz8_0
  try clear hfz8_1
  try clear hfz8_2
  obtain ⟨kq, x24_2, rfl, HA, HJ2, BK342, HB⟩ := hcut
  cases kq with
  | zero => exact absurd HA.out (by simp [latinerref02_shape.j0])
  | succ kj2 =>
   have H := HA.out
   clear HA
   simp only [latinerref02_shape.j0] at H
   by_cases c12 : x24_2 = true
   ·subst c12
    have H1 : (some false) = some r := by rw [if_pos rfl] at H; exact H
    clear H
    have H := H1
    clear H1
    obtain rfl := Option.some.inj H
    go_wp2
    go_ret
    exact ⟨q2_, q0_⟩
   ·replace c12 := Bool.eq_false_iff.mpr c12
    subst c12
    have H1 : (if (Int.tmod (wrap64 (Int.tdiv a0_0 32)) 2) = 1 then (if a0_1.toList = ([] : List UInt8) then (if ((Int.tmod (wrap64 (Int.tdiv a0_0 32)) 2) = 1) then (latinerref02_shape.j1 kj2 a1 false a0_0 a0_1 l0_2) else (latinerref02_shape.j1 kj2 a1 (decide ((l0_2.length : Int) > 0)) a0_0 a0_1 l0_2)) else (latinerref02_shape.j1 kj2 a1 true a0_0 a0_1 l0_2)) else (if ((Int.tmod (wrap64 (Int.tdiv a0_0 32)) 2) = 1) then (latinerref02_shape.j1 kj2 a1 false a0_0 a0_1 l0_2) else (latinerref02_shape.j1 kj2 a1 (decide ((l0_2.length : Int) > 0)) a0_0 a0_1 l0_2))) = some r := by rw [if_neg (show ¬ (false = true) by decide)] at H; exact H
    clear H
    have H := H1
    clear H1
    have HC13 := Aside0.mk H
    clear H
    have hcz14_0 : wc.cell? ⟨gb342, 0, none⟩ = some (.int .i64 a0_0) := (blk_cell BK342.out 0).trans rfl
    have hcz14_1 : wc.cell? ⟨gb342, 1, none⟩ = some (.string a0_1) := (blk_cell BK342.out 1).trans rfl
    have hcz14_2 : wc.cell? ⟨gb342, 2, none⟩ = some (.slice A0_2 l0_2.length c0_2) := (blk_cell BK342.out 2).trans rfl
    have hfz14_0 := blk_frozen BK342.out 0
    have hfz14_1 := blk_frozen BK342.out 1
    have hfz14_2 := blk_frozen BK342.out 2
    go_upto_region 4 with (fail)
    go_cut [45, 5] (fun v45 v5 wc => ∃ (kq : Nat) (x45_12 : Bool), v45 = .bool x45_12 ∧ Aside0 (latinerref02_shape.j1 kq a1 x45_12 a0_0 a0_1 l0_2 = some r) ∧ Aside0 (kq ≤ kj2) ∧ Aside0 (wc.heap[gb342]? = some (.cells #[.int .i64 a0_0, .string a0_1, (.slice A0_2 l0_2.length c0_2)] 24 (0, 0))) ∧ Aside0 (Below w.heap.size w wc))
    case first =>
     have H := HC13.out
     clear HC13
     by_cases c15 : (Int.tmod (wrap64 (Int.tdiv a0_0 32)) 2) = 1
     ·rw [if_pos c15] at H
      have c15b0 : ((Int.tmod (wrap64 (Int.tdiv a0_0 32)) 2) == 1) = true := beq_iff_eq.mpr c15
      have c15b1 : ((Int.tmod (wrap64 (Int.tdiv a0_0 32)) 2) != 1) = false := bne_eq_false_iff_eq.mpr c15
      clear c15
      (first | rw [c15b0] | (simp only [i64_w, i32_w]; rw [c15b0]) | skip)
      by_cases c16 : a0_1.toList = ([] : List UInt8)
      ·rw [if_pos c16] at H
       have c16b0 : (a0_1.toList == ([] : List UInt8)) = true := beq_iff_eq.mpr c16
       have c16b1 : (a0_1.toList != ([] : List UInt8)) = false := bne_eq_false_iff_eq.mpr c16
       clear c16
       by_cases c17 : ((Int.tmod (wrap64 (Int.tdiv a0_0 32)) 2) = 1)
       ·rw [if_pos c17] at H
        have c17b0 : ((Int.tmod (wrap64 (Int.tdiv a0_0 32)) 2) == 1) = true := beq_iff_eq.mpr c17
        have c17b1 : ((Int.tmod (wrap64 (Int.tdiv a0_0 32)) 2) != 1) = false := bne_eq_false_iff_eq.mpr c17
        clear c17
        have H' := Aside0.mk H
        clear H
        have hcz18_0 : wc.cell? ⟨gb342, 0, none⟩ = some (.int .i64 a0_0) := (blk_cell BK342.out 0).trans rfl
        have hcz18_1 : wc.cell? ⟨gb342, 1, none⟩ = some (.string a0_1) := (blk_cell BK342.out 1).trans rfl
        have hcz18_2 : wc.cell? ⟨gb342, 2, none⟩ = some (.slice A0_2 l0_2.length c0_2) := (blk_cell BK342.out 2).trans rfl
        have hfz18_0 := blk_frozen BK342.out 0
        have hfz18_1 := blk_frozen BK342.out 1
        have hfz18_2 := blk_frozen BK342.out 2
        go_wp2
        go_meet
        case rel => exact ⟨_, (false), q3_, H', ⟨by have := HJ2.out; first | omega | exact Nat.le_refl _⟩, ⟨by refine bkq ?_; exact BK342.out⟩, ⟨q0_⟩⟩
       ·rw [if_neg c17] at H
        have c17b0 : ((Int.tmod (wrap64 (Int.tdiv a0_0 32)) 2) == 1) = false := beq_eq_false_iff_ne.mpr c17
        have c17b1 : ((Int.tmod (wrap64 (Int.tdiv a0_0 32)) 2) != 1) = true := bne_iff_ne.mpr c17
        have H' := Aside0.mk H
        clear H
        have hcz19_0 : wc.cell? ⟨gb342, 0, none⟩ = some (.int .i64 a0_0) := (blk_cell BK342.out 0).trans rfl
        have hcz19_1 : wc.cell? ⟨gb342, 1, none⟩ = some (.string a0_1) := (blk_cell BK342.out 1).trans rfl
        have hcz19_2 : wc.cell? ⟨gb342, 2, none⟩ = some (.slice A0_2 l0_2.length c0_2) := (blk_cell BK342.out 2).trans rfl
        have hfz19_0 := blk_frozen BK342.out 0
        have hfz19_1 := blk_frozen BK342.out 1
        have hfz19_2 := blk_frozen BK342.out 2
        go_wp2
        go_meet
        case rel => exact absurd (c15b0.symm.trans c17b0) (by decide)
      ·rw [if_neg c16] at H
       have c16b0 : (a0_1.toList == ([] : List UInt8)) = false := beq_eq_false_iff_ne.mpr c16
       have c16b1 : (a0_1.toList != ([] : List UInt8)) = true := bne_iff_ne.mpr c16
       have H' := Aside0.mk H
       clear H
       have hcz20_0 : wc.cell? ⟨gb342, 0, none⟩ = some (.int .i64 a0_0) := (blk_cell BK342.out 0).trans rfl
       have hcz20_1 : wc.cell? ⟨gb342, 1, none⟩ = some (.string a0_1) := (blk_cell BK342.out 1).trans rfl
       have hcz20_2 : wc.cell? ⟨gb342, 2, none⟩ = some (.slice A0_2 l0_2.length c0_2) := (blk_cell BK342.out 2).trans rfl
       have hfz20_0 := blk_frozen BK342.out 0
       have hfz20_1 := blk_frozen BK342.out 1
       have hfz20_2 := blk_frozen BK342.out 2
       go_wp2
       go_meet
       case rel => exact ⟨_, (true), q3_, H', ⟨by have := HJ2.out; first | omega | exact Nat.le_refl _⟩, ⟨by refine bkq ?_; exact BK342.out⟩, ⟨q0_⟩⟩
     ·rw [if_neg c15] at H
      have c15b0 : ((Int.tmod (wrap64 (Int.tdiv a0_0 32)) 2) == 1) = false := beq_eq_false_iff_ne.mpr c15
      have c15b1 : ((Int.tmod (wrap64 (Int.tdiv a0_0 32)) 2) != 1) = true := bne_iff_ne.mpr c15
      (first | rw [c15b0] | (simp only [i64_w, i32_w]; rw [c15b0]) | skip)
      by_cases c21 : ((Int.tmod (wrap64 (Int.tdiv a0_0 32)) 2) = 1)
      ·rw [if_pos c21] at H
       have c21b0 : ((Int.tmod (wrap64 (Int.tdiv a0_0 32)) 2) == 1) = true := beq_iff_eq.mpr c21
       have c21b1 : ((Int.tmod (wrap64 (Int.tdiv a0_0 32)) 2) != 1) = false := bne_eq_false_iff_eq.mpr c21
       clear c21
       have H' := Aside0.mk H
       clear H
       go_wp2
       go_meet
       case rel => exact absurd (c15b0.symm.trans c21b0) (by decide)
      ·rw [if_neg c21] at H
       have c21b0 : ((Int.tmod (wrap64 (Int.tdiv a0_0 32)) 2) == 1) = false := beq_eq_false_iff_ne.mpr c21
       have c21b1 : ((Int.tmod (wrap64 (Int.tdiv a0_0 32)) 2) != 1) = true := bne_iff_ne.mpr c21
       have H' := Aside0.mk H
       clear H
       have hcz22_0 : wc.cell? ⟨gb342, 0, none⟩ = some (.int .i64 a0_0) := (blk_cell BK342.out 0).trans rfl
       have hcz22_1 : wc.cell? ⟨gb342, 1, none⟩ = some (.string a0_1) := (blk_cell BK342.out 1).trans rfl
       have hcz22_2 : wc.cell? ⟨gb342, 2, none⟩ = some (.slice A0_2 l0_2.length c0_2) := (blk_cell BK342.out 2).trans rfl
       have hfz22_0 := blk_frozen BK342.out 0
       have hfz22_1 := blk_frozen BK342.out 1
       have hfz22_2 := blk_frozen BK342.out 2
       go_wp2
       go_meet
       case rel => exact ⟨_, (decide ((l0_2.length : Int) > 0)), q3_, H', ⟨by have := HJ2.out; first | omega | exact Nat.le_refl _⟩, ⟨by refine bkq ?_; exact BK342.out⟩, ⟨q0_⟩⟩
    case rest =>
     clear HC13
     try clear c1
     try clear c2
     try clear p2
     try clear c3
     try clear c5
     try clear c5b0
     try clear p6
     try clear c7
     try clear c7b0
     try clear c9
     try clear c9b0
     try clear c9b1
     try clear c12
     try clear c15
     try clear c15b0
     try clear c15b1
     try clear c16
     try clear c16b0
     try clear c16b1
     try clear c17
     try clear c17b0
     try clear c17b1
     try clear c21
     try clear c21b0
     try clear c21b1
     try clear hcz10_0
     try clear hcz10_1
     try clear hcz10_2
     try clear hcz11_0
     try clear hcz11_1
     try clear hcz11_2
     try clear hcz14_0
     try clear hcz14_1
     try clear hcz14_2
     try clear hcz18_0
     try clear hcz18_1
     try clear hcz18_2
     try clear hcz19_0
     try clear hcz19_1
     try clear hcz19_2
     try clear hcz20_0
     try clear hcz20_1
     try clear hcz20_2
     try clear hcz22_0
     try clear hcz22_1
     try clear hcz22_2
     try clear hcz6_0
     try clear hcz6_1
     try clear hcz6_2
     try clear hcz8_0
     try clear hcz8_1
     try clear hcz8_2
     try clear hfz10_0
     try clear hfz10_1
     try clear hfz10_2
     try clear hfz11_0
     try clear hfz11_1
     try clear hfz11_2
     try clear hfz14_0
     try clear hfz14_1
     try clear hfz14_2
     try clear hfz18_0
     try clear hfz18_1
     try clear hfz18_2
     try clear hfz19_0
     try clear hfz19_1
     try clear hfz19_2
     try clear hfz20_0
     try clear hfz20_1
     try clear hfz20_2
     try clear hfz22_0
     try clear hfz22_1
     try clear hfz22_2
     try clear hfz6_0
     try clear hfz6_1
     try clear hfz6_2
     try clear hfz8_0
     try clear hfz8_1
     try clear hfz8_2
     try clear p2
     obtain ⟨kq, x45_12, rfl, HA, HJ12, BK342, HB⟩ := hcut
     cases kq with
     | zero => exact absurd HA.out (by simp [latinerref02_shape.j1])
     | succ kj12 =>
      have H := HA.out
      clear HA
      simp only [latinerref02_shape.j1] at H
      by_cases c23 : x45_12 = true
      ·subst c23
       have H1 : (some false) = some r := by rw [if_pos rfl] at H; exact H
       clear H
       have H := H1
       clear H1
       obtain rfl := Option.some.inj H
       go_wp2
       go_ret
       exact ⟨q2_, q0_⟩
      ·replace c23 := Bool.eq_false_iff.mpr c23
       subst c23
       have H1 : (latinerref02_shape.l0 kj12 a1 0 a0_0 a0_1 l0_2) = some r := by rw [if_neg (show ¬ (false = true) by decide)] at H; exact H
       clear H
       have H := H1
       clear H1
       have H' := Aside0.mk H
       clear H
       go_wp2
       go_loopg [6] kj12 (fun kq v6 w' => ∃ (x6_3 : Int), v6 = .int .i64 x6_3 ∧ Aside0 (latinerref02_shape.l0 kq a1 x6_3 a0_0 a0_1 l0_2 = some r) ∧ Aside0 (kq ≤ kj12) ∧ Aside0 (w'.heap[gb342]? = some (.cells #[.int .i64 a0_0, .string a0_1, (.slice A0_2 l0_2.length c0_2)] 24 (0, 0))) ∧ Aside0 (Below w.heap.size w w'))
       case atStart => exact ⟨(0), q3_, H', ⟨Nat.le_refl _⟩, ⟨by refine bkq ?_; exact BK342.out⟩, ⟨q0_⟩⟩
       case round =>
        clear H'
        try clear c1
        try clear c2
        try clear p2
        try clear c3
        try clear c5
        try clear c5b0
        try clear p6
        try clear c7
        try clear c7b0
        try clear c9
        try clear c9b0
        try clear c9b1
        try clear c12
        try clear c15
        try clear c15b0
        try clear c15b1
        try clear c16
        try clear c16b0
        try clear c16b1
        try clear c17
        try clear c17b0
        try clear c17b1
        try clear c21
        try clear c21b0
        try clear c21b1
        try clear c23
        try clear hcz10_0
        try clear hcz10_1
        try clear hcz10_2
        try clear hcz11_0
        try clear hcz11_1
        try clear hcz11_2
        try clear hcz14_0
        try clear hcz14_1
        try clear hcz14_2
        try clear hcz18_0
        try clear hcz18_1
        try clear hcz18_2
        try clear hcz19_0
        try clear hcz19_1
        try clear hcz19_2
        try clear hcz20_0
        try clear hcz20_1
        try clear hcz20_2
        try clear hcz22_0
        try clear hcz22_1
        try clear hcz22_2
        try clear hcz6_0
        try clear hcz6_1
        try clear hcz6_2
        try clear hcz8_0
        try clear hcz8_1
        try clear hcz8_2
        try clear hfz10_0
        try clear hfz10_1
        try clear hfz10_2
        try clear hfz11_0
        try clear hfz11_1
        try clear hfz11_2
        try clear hfz14_0
        try clear hfz14_1
        try clear hfz14_2
        try clear hfz18_0
        try clear hfz18_1
        try clear hfz18_2
        try clear hfz19_0
        try clear hfz19_1
        try clear hfz19_2
        try clear hfz20_0
        try clear hfz20_1
        try clear hfz20_2
        try clear hfz22_0
        try clear hfz22_1
        try clear hfz22_2
        try clear hfz6_0
        try clear hfz6_1
        try clear hfz6_2
        try clear hfz8_0
        try clear hfz8_1
        try clear hfz8_2
        try clear p2
        try clear p6
        obtain ⟨x6_3, rfl, HA, HK3, BK342, HB⟩ := hrel
        cases gk with
        | zero => exact absurd HA.out (by simp [latinerref02_shape.l0])
        | succ k3 =>
         have H := HA.out
         clear HA
         simp only [latinerref02_shape.l0] at H
         by_cases c24 : x6_3 < (l0_2.length : Int)
         ·rw [if_pos c24] at H
          have c24b0 : decide (x6_3 < (l0_2.length : Int)) = true := decide_eq_true c24
          clear c24
          by_cases c25 : 0 ≤ x6_3
          ·rw [if_pos c25] at H
           have c25b0 : decide (0 ≤ x6_3) = true := decide_eq_true c25
           clear c25
           replace H := Option.bind_eq_some_iff.mp H
           obtain ⟨t344, A260, H⟩ := H
           replace H : (if t344 = true then (latinerref02_shape.l0 k3 a1 (wrap64 (x6_3 + 1)) a0_0 a0_1 l0_2) else (some false)) = some r := H
           have A26 := Aside0.mk A260
           clear A260
           by_cases c27 : t344 = true
           ·subst c27
            have H1 : (latinerref02_shape.l0 k3 a1 (wrap64 (x6_3 + 1)) a0_0 a0_1 l0_2) = some r := by rw [if_pos rfl] at H; exact H
            clear H
            have H := H1
            clear H1
            have H' := Aside0.mk H
            clear H
            have hcz28_0 : wr.cell? ⟨gb342, 0, none⟩ = some (.int .i64 a0_0) := (blk_cell BK342.out 0).trans rfl
            have hcz28_1 : wr.cell? ⟨gb342, 1, none⟩ = some (.string a0_1) := (blk_cell BK342.out 1).trans rfl
            have hcz28_2 : wr.cell? ⟨gb342, 2, none⟩ = some (.slice A0_2 l0_2.length c0_2) := (blk_cell BK342.out 2).trans rfl
            have hfz28_0 := blk_frozen BK342.out 0
            have hfz28_1 := blk_frozen BK342.out 1
            have hfz28_2 := blk_frozen BK342.out 2
            have p343 : 0 ≤ (x6_3 : Int) := of_decide_eq_true q4_
            have q343 : x6_3 < (l0_2.length : Int) := of_decide_eq_true q4_
            obtain ⟨ad343, A343_2, c343_2, e343, hx343_0, hx343_1, hx343_2, hl343_2, hi343_2⟩ := at_T24 HR0_2.out x6_3 p343 q343
            cases e343
            replace hx343_0 := (HB.out.cell (World.block_lt_of_cell? w _ hx343_0)).trans hx343_0
            replace hx343_1 := (HB.out.cell (World.block_lt_of_cell? w _ hx343_1)).trans hx343_1
            replace hx343_2 := (HB.out.cell (World.block_lt_of_cell? w _ hx343_2)).trans hx343_2
            have HR343_2 := Aside0.mk hi343_2
            have HC343_2 := Aside0.mk hl343_2
            clear hi343_2 hl343_2
            replace p343 := eq_true p343
            replace q343 := eq_true q343
            go_wp2_with (first | ((with_reducible refine gate_callee (f := 35) rfl ?_); refine goesL_ (some 60) rfl rfl Tryd.func35 (by kernel_rfl) rfl #[.agg #[.int .i64 ((rd_T24 l0_2 x6_3).f0), .string ((rd_T24 l0_2 x6_3).f1), .slice A343_2 ((rd_T24 l0_2 x6_3).f2).length c343_2], .int .i64 (wrap64 (a1 - 1))] rfl argq ?_; (with_reducible refine (ih k3 (by have := HJ2.out; have := HJ12.out; have := HK3.out; omega) ((rd_T24 l0_2 x6_3).f0) ((rd_T24 l0_2 x6_3).f1) _ _ ((rd_T24 l0_2 x6_3).f2) (wrap64 (a1 - 1)) true _ ?side1 ?side2 A26.out).mono ?_); (case side1 => repeat (first | exact (Kd.C_below HR343_2.out HB.out) | (with_reducible refine Kd.C_alloc ?_ _) | (with_reducible refine Kd.C_drewN ?_ _) | (with_reducible refine Kd.C_drew ?_))); (case side2 => exact HC343_2.out); rintro e w29 ⟨rfl, hb⟩; refine ⟨_, rfl, ?_⟩; have n0_ := Aside0.mk (blk_below (g := gb342) (o := .cells #[.int .i64 a0_0, .string a0_1, .slice (some ad343) l0_2.length c0_2] 24 (0, 0)) (bkq BK342.out) hb); have n1_ := Aside0.mk (below_step q0_ hb); clear BK342; clear HB; have BK342 := n0_; have HB := n1_; clear n0_ n1_; (try clear hb); (try clear hb2); (try clear hk); (try clear hi)))
            go_roundg k3
            case measure => have := HJ2.out; have := HJ12.out; have := HK3.out; omega
            case rel => exact ⟨(wrap64 (x6_3 + 1)), q3_, H', ⟨by have := HJ2.out; have := HJ12.out; have := HK3.out; omega⟩, ⟨by refine bkq ?_; exact BK342.out⟩, ⟨q0_⟩⟩
           ·replace c27 := Bool.eq_false_iff.mpr c27
            subst c27
            have H1 : (some false) = some r := by rw [if_neg (show ¬ (false = true) by decide)] at H; exact H
            clear H
            have H := H1
            clear H1
            obtain rfl := Option.some.inj H
            have hcz30_0 : wr.cell? ⟨gb342, 0, none⟩ = some (.int .i64 a0_0) := (blk_cell BK342.out 0).trans rfl
            have hcz30_1 : wr.cell? ⟨gb342, 1, none⟩ = some (.string a0_1) := (blk_cell BK342.out 1).trans rfl
            have hcz30_2 : wr.cell? ⟨gb342, 2, none⟩ = some (.slice A0_2 l0_2.length c0_2) := (blk_cell BK342.out 2).trans rfl
            have hfz30_0 := blk_frozen BK342.out 0
            have hfz30_1 := blk_frozen BK342.out 1
            have hfz30_2 := blk_frozen BK342.out 2
            have p343 : 0 ≤ (x6_3 : Int) := of_decide_eq_true q4_
            have q343 : x6_3 < (l0_2.length : Int) := of_decide_eq_true q4_
            obtain ⟨ad343, A343_2, c343_2, e343, hx343_0, hx343_1, hx343_2, hl343_2, hi343_2⟩ := at_T24 HR0_2.out x6_3 p343 q343
            cases e343
            replace hx343_0 := (HB.out.cell (World.block_lt_of_cell? w _ hx343_0)).trans hx343_0
            replace hx343_1 := (HB.out.cell (World.block_lt_of_cell? w _ hx343_1)).trans hx343_1
            replace hx343_2 := (HB.out.cell (World.block_lt_of_cell? w _ hx343_2)).trans hx343_2
            have HR343_2 := Aside0.mk hi343_2
            have HC343_2 := Aside0.mk hl343_2
            clear hi343_2 hl343_2
            replace p343 := eq_true p343
            replace q343 := eq_true q343
            go_wp2_with (first | ((with_reducible refine gate_callee (f := 35) rfl ?_); refine goesL_ (some 60) rfl rfl Tryd.func35 (by kernel_rfl) rfl #[.agg #[.int .i64 ((rd_T24 l0_2 x6_3).f0), .string ((rd_T24 l0_2 x6_3).f1), .slice A343_2 ((rd_T24 l0_2 x6_3).f2).length c343_2], .int .i64 (wrap64 (a1 - 1))] rfl argq ?_; (with_reducible refine (ih k3 (by have := HJ2.out; have := HJ12.out; have := HK3.out; omega) ((rd_T24 l0_2 x6_3).f0) ((rd_T24 l0_2 x6_3).f1) _ _ ((rd_T24 l0_2 x6_3).f2) (wrap64 (a1 - 1)) false _ ?side1 ?side2 A26.out).mono ?_); (case side1 => repeat (first | exact (Kd.C_below HR343_2.out HB.out) | (with_reducible refine Kd.C_alloc ?_ _) | (with_reducible refine Kd.C_drewN ?_ _) | (with_reducible refine Kd.C_drew ?_))); (case side2 => exact HC343_2.out); rintro e w31 ⟨rfl, hb⟩; refine ⟨_, rfl, ?_⟩; have n0_ := Aside0.mk (blk_below (g := gb342) (o := .cells #[.int .i64 a0_0, .string a0_1, .slice (some ad343) l0_2.length c0_2] 24 (0, 0)) (bkq BK342.out) hb); have n1_ := Aside0.mk (below_step q0_ hb); clear BK342; clear HB; have BK342 := n0_; have HB := n1_; clear n0_ n1_; (try clear hb); (try clear hb2); (try clear hk); (try clear hi)))
            go_ret
            exact ⟨q2_, q0_⟩
          ·rw [if_neg c25] at H
           exact absurd H (by simp)
         ·rw [if_neg c24] at H
          have c24b0 : decide (x6_3 < (l0_2.length : Int)) = false := decide_eq_false c24
          clear c24
          obtain rfl := Option.some.inj H
          have hcz32_0 : wr.cell? ⟨gb342, 0, none⟩ = some (.int .i64 a0_0) := (blk_cell BK342.out 0).trans rfl
          have hcz32_1 : wr.cell? ⟨gb342, 1, none⟩ = some (.string a0_1) := (blk_cell BK342.out 1).trans rfl
          have hcz32_2 : wr.cell? ⟨gb342, 2, none⟩ = some (.slice A0_2 l0_2.length c0_2) := (blk_cell BK342.out 2).trans rfl
          have hfz32_0 := blk_frozen BK342.out 0
          have hfz32_1 := blk_frozen BK342.out 1
          have hfz32_2 := blk_frozen BK342.out 2
          go_wp2
          go_ret
          exact ⟨q2_, q0_⟩
mutual
def latinerref02_count.l0 : Nat → Int → Int → Int → ByteArray → List (S24) → Option (Int)
 | 0, _, _, _, _, _ => none
 | k + 1, x3, x4, x346000, x346001, x346002 => if x4 < (x346002.length : Int) then (if 0 ≤ x4 then ((latinerref02_count.f k ((rd_T24 x346002 x4).f0) ((rd_T24 x346002 x4).f1) ((rd_T24 x346002 x4).f2)).bind fun t347 => (latinerref02_count.l0 k (wrap64 (x3 + t347)) (wrap64 (x4 + 1)) x346000 x346001 x346002)) else (none)) else (some x3)
def latinerref02_count.f : Nat → Int → ByteArray → List (S24) → Option (Int)
 | 0, _, _, _ => none
 | k + 1, a0_0, a0_1, l0_2 => latinerref02_count.l0 k 1 0 a0_0 a0_1 l0_2
end
set_option maxHeartbeats 8000000 in
set_option maxRecDepth 100000 in
theorem latinerref02_count.calls (k : Nat) : ∀ (a0_0 : Int) (a0_1 : ByteArray) (A0_2 : Option Addr) (c0_2 : Nat) (l0_2 : List (S24)) (r : Int) (w : World) (hr0_2 : Kd.C k24 w A0_2 l0_2.length l0_2) (hc0_2 : l0_2.length ≤ c0_2) (h : latinerref02_count.f k a0_0 a0_1 l0_2 = some r),
  Calls Tryd.prog 36 #[.agg #[.int .i64 a0_0, .string a0_1, .slice A0_2 l0_2.length c0_2]] w fun e w' => e = .returned (.int .i64 r) ∧ Below w.heap.size w w' := by
 induction k using Nat.strongRecOn with
 | _ k ih =>
 intro a0_0 a0_1 A0_2 c0_2 l0_2 r w hr0_2 hc0_2 h
 cases k with
 | zero => exact absurd h (by simp [latinerref02_count.f])
 | succ k =>
 simp only [latinerref02_count.f] at h
 have hu24 := Tryd.underlying24
 have HR0_2 := Aside0.mk hr0_2
 have HC0_2 := Aside0.mk hc0_2
 clear hr0_2 hc0_2
 have HB := Aside0.mk (Below.refl w.heap.size w)
 have H : (latinerref02_count.l0 k 1 0 a0_0 a0_1 l0_2) = some r := h
 clear h
 have H' := Aside0.mk H
 clear H
 go_enter Tryd.func36, Tryd.ntmps36
 go_wp2_with (first | ((with_reducible refine gate_dst (N := 1) rfl ?_); refine box_event ?hg (N := 1) ?hd (cs := #[.int .i64 a0_0, .string a0_1, .slice A0_2 l0_2.length c0_2]) (t := 24) ?hr ?_; (case hd => rfl); (case hg => rfl); (case hr => first | (go_simp; done) | (go_simp; rfl)); intro gb345 hg w2 hbox hb; have n0_ := Aside0.mk (below_step q0_ hb); have n1_ := Aside0.mk (hbox); have n2_ := Aside0.mk ((by rw [hg]; exact (below_size q0_) : w.heap.size ≤ gb345)); have n3_ := Aside0.mk ((by rw [hg]; exact (below_size q0_) : w.heap.size ≤ gb345)); clear HB; have HB := n0_; have BK345 := n1_; have GW345 := n2_; have GE345 := n3_; clear n0_ n1_ n2_ n3_; clear hb hbox hg))
 go_loopg [3, 4] k (fun kq v3 v4 w' => ∃ (x3_1 : Int) (x4_1 : Int), v3 = .int .i64 x3_1 ∧ v4 = .int .i64 x4_1 ∧ Aside0 (latinerref02_count.l0 kq x3_1 x4_1 a0_0 a0_1 l0_2 = some r) ∧ Aside0 (kq ≤ k) ∧ Aside0 (w'.heap[gb345]? = some (.cells #[.int .i64 a0_0, .string a0_1, (.slice A0_2 l0_2.length c0_2)] 24 (0, 0))) ∧ Aside0 (Below w.heap.size w w'))
 case atStart => exact ⟨(1), (0), q3_, q3_, H', ⟨Nat.le_refl _⟩, ⟨by refine bkq ?_; exact BK345.out⟩, ⟨q0_⟩⟩
 case round =>
  clear H'
  try clear p2
  obtain ⟨x3_1, x4_1, rfl, rfl, HA, HK1, BK345, HB⟩ := hrel
  cases gk with
  | zero => exact absurd HA.out (by simp [latinerref02_count.l0])
  | succ k1 =>
   have H := HA.out
   clear HA
   simp only [latinerref02_count.l0] at H
   by_cases c3 : x4_1 < (l0_2.length : Int)
   ·rw [if_pos c3] at H
    have c3b0 : decide (x4_1 < (l0_2.length : Int)) = true := decide_eq_true c3
    clear c3
    by_cases c4 : 0 ≤ x4_1
    ·rw [if_pos c4] at H
     have c4b0 : decide (0 ≤ x4_1) = true := decide_eq_true c4
     clear c4
     replace H := Option.bind_eq_some_iff.mp H
     obtain ⟨t347, A50, H⟩ := H
     replace H : (latinerref02_count.l0 k1 (wrap64 (x3_1 + t347)) (wrap64 (x4_1 + 1)) a0_0 a0_1 l0_2) = some r := H
     have A5 := Aside0.mk A50
     clear A50
     have H' := Aside0.mk H
     clear H
     have hcz6_0 : wr.cell? ⟨gb345, 0, none⟩ = some (.int .i64 a0_0) := (blk_cell BK345.out 0).trans rfl
     have hcz6_1 : wr.cell? ⟨gb345, 1, none⟩ = some (.string a0_1) := (blk_cell BK345.out 1).trans rfl
     have hcz6_2 : wr.cell? ⟨gb345, 2, none⟩ = some (.slice A0_2 l0_2.length c0_2) := (blk_cell BK345.out 2).trans rfl
     have hfz6_0 := blk_frozen BK345.out 0
     have hfz6_1 := blk_frozen BK345.out 1
     have hfz6_2 := blk_frozen BK345.out 2
     have p346 : 0 ≤ (x4_1 : Int) := of_decide_eq_true q4_
     have q346 : x4_1 < (l0_2.length : Int) := of_decide_eq_true q4_
     obtain ⟨ad346, A346_2, c346_2, e346, hx346_0, hx346_1, hx346_2, hl346_2, hi346_2⟩ := at_T24 HR0_2.out x4_1 p346 q346
     cases e346
     replace hx346_0 := (HB.out.cell (World.block_lt_of_cell? w _ hx346_0)).trans hx346_0
     replace hx346_1 := (HB.out.cell (World.block_lt_of_cell? w _ hx346_1)).trans hx346_1
     replace hx346_2 := (HB.out.cell (World.block_lt_of_cell? w _ hx346_2)).trans hx346_2
     have HR346_2 := Aside0.mk hi346_2
     have HC346_2 := Aside0.mk hl346_2
     clear hi346_2 hl346_2
     replace p346 := eq_true p346
     replace q346 := eq_true q346
     go_wp2_with (first | ((with_reducible refine gate_callee (f := 36) rfl ?_); refine goesL_ (some 18) rfl rfl Tryd.func36 (by kernel_rfl) rfl #[.agg #[.int .i64 ((rd_T24 l0_2 x4_1).f0), .string ((rd_T24 l0_2 x4_1).f1), .slice A346_2 ((rd_T24 l0_2 x4_1).f2).length c346_2]] rfl argq ?_; (with_reducible refine (ih k1 (by have := HK1.out; omega) ((rd_T24 l0_2 x4_1).f0) ((rd_T24 l0_2 x4_1).f1) _ _ ((rd_T24 l0_2 x4_1).f2) t347 _ ?side1 ?side2 A5.out).mono ?_); (case side1 => repeat (first | exact (Kd.C_below HR346_2.out HB.out) | (with_reducible refine Kd.C_alloc ?_ _) | (with_reducible refine Kd.C_drewN ?_ _) | (with_reducible refine Kd.C_drew ?_))); (case side2 => exact HC346_2.out); rintro e w7 ⟨rfl, hb⟩; refine ⟨_, rfl, ?_⟩; have n0_ := Aside0.mk (blk_below (g := gb345) (o := .cells #[.int .i64 a0_0, .string a0_1, .slice (some ad346) l0_2.length c0_2] 24 (0, 0)) (bkq BK345.out) hb); have n1_ := Aside0.mk (below_step q0_ hb); clear BK345; clear HB; have BK345 := n0_; have HB := n1_; clear n0_ n1_; (try clear hb); (try clear hb2); (try clear hk); (try clear hi)))
     go_roundg k1
     case measure => have := HK1.out; omega
     case rel => exact ⟨(wrap64 (x3_1 + t347)), (wrap64 (x4_1 + 1)), q3_, q3_, H', ⟨by have := HK1.out; omega⟩, ⟨by refine bkq ?_; exact BK345.out⟩, ⟨q0_⟩⟩
    ·rw [if_neg c4] at H
     exact absurd H (by simp)
   ·rw [if_neg c3] at H
    have c3b0 : decide (x4_1 < (l0_2.length : Int)) = false := decide_eq_false c3
    clear c3
    obtain rfl := Option.some.inj H
    have hcz8_0 : wr.cell? ⟨gb345, 0, none⟩ = some (.int .i64 a0_0) := (blk_cell BK345.out 0).trans rfl
    have hcz8_1 : wr.cell? ⟨gb345, 1, none⟩ = some (.string a0_1) := (blk_cell BK345.out 1).trans rfl
    have hcz8_2 : wr.cell? ⟨gb345, 2, none⟩ = some (.slice A0_2 l0_2.length c0_2) := (blk_cell BK345.out 2).trans rfl
    have hfz8_0 := blk_frozen BK345.out 0
    have hfz8_1 := blk_frozen BK345.out 1
    have hfz8_2 := blk_frozen BK345.out 2
    go_wp2
    go_ret
    exact ⟨q2_, q0_⟩
def latinerref02_Right.f (k : Nat) (a0_0 : Int) (a0_1 : ByteArray) (l0_2 : List (S24)) : Option (Bool) := (latinerref02_shape.f k a0_0 a0_1 l0_2 12).bind fun t349 => (if t349 = true then ((latinerref02_count.f k a0_0 a0_1 l0_2).bind fun t350 => (if t350 ≤ 200 then ((latinerref02_long.f k a0_0 a0_1 l0_2).bind fun t351 => (some (decide (t351 ≤ 4000)))) else (some false))) else (some false))
set_option maxHeartbeats 8000000 in
set_option maxRecDepth 100000 in
theorem latinerref02_Right.calls (k : Nat) (a0_0 : Int) (a0_1 : ByteArray) (A0_2 : Option Addr) (c0_2 : Nat) (l0_2 : List (S24)) (r : Bool) (w : World) (hr0_2 : Kd.C k24 w A0_2 l0_2.length l0_2) (hc0_2 : l0_2.length ≤ c0_2) (h : latinerref02_Right.f k a0_0 a0_1 l0_2 = some r) :
  Calls Tryd.prog 22 #[.agg #[.int .i64 a0_0, .string a0_1, .slice A0_2 l0_2.length c0_2]] w fun e w' => e = .returned (.bool r) ∧ Below w.heap.size w w' := by
 have hu24 := Tryd.underlying24
 have HR0_2 := Aside0.mk hr0_2
 have HC0_2 := Aside0.mk hc0_2
 clear hr0_2 hc0_2
 have HB := Aside0.mk (Below.refl w.heap.size w)
 have H : ((latinerref02_shape.f k a0_0 a0_1 l0_2 12).bind fun t349 => (if t349 = true then ((latinerref02_count.f k a0_0 a0_1 l0_2).bind fun t350 => (if t350 ≤ 200 then ((latinerref02_long.f k a0_0 a0_1 l0_2).bind fun t351 => (some (decide (t351 ≤ 4000)))) else (some false))) else (some false))) = some r := h
 clear h
 replace H := Option.bind_eq_some_iff.mp H
 obtain ⟨t349, A20, H⟩ := H
 replace H : (if t349 = true then ((latinerref02_count.f k a0_0 a0_1 l0_2).bind fun t350 => (if t350 ≤ 200 then ((latinerref02_long.f k a0_0 a0_1 l0_2).bind fun t351 => (some (decide (t351 ≤ 4000)))) else (some false))) else (some false)) = some r := H
 have A2 := Aside0.mk A20
 clear A20
 by_cases c3 : t349 = true
 ·subst c3
  have H1 : ((latinerref02_count.f k a0_0 a0_1 l0_2).bind fun t350 => (if t350 ≤ 200 then ((latinerref02_long.f k a0_0 a0_1 l0_2).bind fun t351 => (some (decide (t351 ≤ 4000)))) else (some false))) = some r := by rw [if_pos rfl] at H; exact H
  clear H
  have H := H1
  clear H1
  replace H := Option.bind_eq_some_iff.mp H
  obtain ⟨t350, A40, H⟩ := H
  replace H : (if t350 ≤ 200 then ((latinerref02_long.f k a0_0 a0_1 l0_2).bind fun t351 => (some (decide (t351 ≤ 4000)))) else (some false)) = some r := H
  have A4 := Aside0.mk A40
  clear A40
  by_cases c5 : t350 ≤ 200
  ·rw [if_pos c5] at H
   have c5b0 : decide (t350 ≤ 200) = true := decide_eq_true c5
   clear c5
   replace H := Option.bind_eq_some_iff.mp H
   obtain ⟨t351, A60, H⟩ := H
   replace H : (some (decide (t351 ≤ 4000))) = some r := H
   have A6 := Aside0.mk A60
   clear A60
   obtain rfl := Option.some.inj H
   go_enter Tryd.func22, Tryd.ntmps22
   go_wp2_with (first | ((with_reducible refine gate_dst (N := 1) rfl ?_); refine box_event ?hg (N := 1) ?hd (cs := #[.int .i64 a0_0, .string a0_1, .slice A0_2 l0_2.length c0_2]) (t := 24) ?hr ?_; (case hd => rfl); (case hg => rfl); (case hr => first | (go_simp; done) | (go_simp; rfl)); intro gb348 hg w7 hbox hb; have n0_ := Aside0.mk (below_step q0_ hb); have n1_ := Aside0.mk (hbox); have n2_ := Aside0.mk ((by rw [hg]; exact (below_size q0_) : w.heap.size ≤ gb348)); have n3_ := Aside0.mk ((by rw [hg]; exact (below_size q0_) : w.heap.size ≤ gb348)); clear HB; have HB := n0_; have BK348 := n1_; have GW348 := n2_; have GE348 := n3_; clear n0_ n1_ n2_ n3_; clear hb hbox hg; have hcz8_0 : w7.cell? ⟨gb348, 0, none⟩ = some (.int .i64 a0_0) := (blk_cell BK348.out 0).trans rfl; have hcz8_1 : w7.cell? ⟨gb348, 1, none⟩ = some (.string a0_1) := (blk_cell BK348.out 1).trans rfl; have hcz8_2 : w7.cell? ⟨gb348, 2, none⟩ = some (.slice A0_2 l0_2.length c0_2) := (blk_cell BK348.out 2).trans rfl; have hfz8_0 := blk_frozen BK348.out 0; have hfz8_1 := blk_frozen BK348.out 1; have hfz8_2 := blk_frozen BK348.out 2) | ((with_reducible refine gate_callee (f := 35) rfl ?_); refine goesL_ (some 4) rfl rfl Tryd.func35 (by kernel_rfl) rfl #[.agg #[.int .i64 a0_0, .string a0_1, .slice A0_2 l0_2.length c0_2], .int .i64 12] rfl argq ?_; (with_reducible refine (latinerref02_shape.calls k a0_0 a0_1 _ _ l0_2 12 true _ ?side1 ?side2 A2.out).mono ?_); (case side1 => repeat (first | exact (Kd.C_below HR0_2.out HB.out) | (with_reducible refine Kd.C_alloc ?_ _) | (with_reducible refine Kd.C_drewN ?_ _) | (with_reducible refine Kd.C_drew ?_))); (case side2 => exact HC0_2.out); rintro e w9 ⟨rfl, hb⟩; refine ⟨_, rfl, ?_⟩; have n0_ := Aside0.mk (blk_below (g := gb348) (o := .cells #[.int .i64 a0_0, .string a0_1, .slice A0_2 l0_2.length c0_2] 24 (0, 0)) (bkq BK348.out) hb); have n1_ := Aside0.mk (below_step q0_ hb); clear BK348; clear HB; have BK348 := n0_; have HB := n1_; clear n0_ n1_; (try clear hb); (try clear hb2); (try clear hk); (try clear hi); have hcz10_0 : w9.cell? ⟨gb348, 0, none⟩ = some (.int .i64 a0_0) := (blk_cell BK348.out 0).trans rfl; have hcz10_1 : w9.cell? ⟨gb348, 1, none⟩ = some (.string a0_1) := (blk_cell BK348.out 1).trans rfl; have hcz10_2 : w9.cell? ⟨gb348, 2, none⟩ = some (.slice A0_2 l0_2.length c0_2) := (blk_cell BK348.out 2).trans rfl; have hfz10_0 := blk_frozen BK348.out 0; have hfz10_1 := blk_frozen BK348.out 1; have hfz10_2 := blk_frozen BK348.out 2) | (go_at_call 36; (with_reducible refine (latinerref02_count.calls k a0_0 a0_1 _ _ l0_2 t350 _ ?side1 ?side2 A4.out).mono ?_); (case side1 => repeat (first | exact (Kd.C_below HR0_2.out HB.out) | (with_reducible refine Kd.C_alloc ?_ _) | (with_reducible refine Kd.C_drewN ?_ _) | (with_reducible refine Kd.C_drew ?_))); (case side2 => exact HC0_2.out); rintro e w11 ⟨rfl, hb⟩; have n0_ := Aside0.mk (blk_below (g := gb348) (o := .cells #[.int .i64 a0_0, .string a0_1, .slice A0_2 l0_2.length c0_2] 24 (0, 0)) (bkq BK348.out) hb); have n1_ := Aside0.mk (below_step q0_ hb); clear BK348; clear HB; have BK348 := n0_; have HB := n1_; clear n0_ n1_; (try clear hb); (try clear hb2); (try clear hk); (try clear hi); have hcz12_0 : w11.cell? ⟨gb348, 0, none⟩ = some (.int .i64 a0_0) := (blk_cell BK348.out 0).trans rfl; have hcz12_1 : w11.cell? ⟨gb348, 1, none⟩ = some (.string a0_1) := (blk_cell BK348.out 1).trans rfl; have hcz12_2 : w11.cell? ⟨gb348, 2, none⟩ = some (.slice A0_2 l0_2.length c0_2) := (blk_cell BK348.out 2).trans rfl; have hfz12_0 := blk_frozen BK348.out 0; have hfz12_1 := blk_frozen BK348.out 1; have hfz12_2 := blk_frozen BK348.out 2) | (go_at_call 33; (with_reducible refine (latinerref02_long.calls k a0_0 a0_1 _ _ l0_2 t351 _ ?side1 ?side2 A6.out).mono ?_); (case side1 => repeat (first | exact (Kd.C_below HR0_2.out HB.out) | (with_reducible refine Kd.C_alloc ?_ _) | (with_reducible refine Kd.C_drewN ?_ _) | (with_reducible refine Kd.C_drew ?_))); (case side2 => exact HC0_2.out); rintro e w13 ⟨rfl, hb⟩; have n0_ := Aside0.mk (blk_below (g := gb348) (o := .cells #[.int .i64 a0_0, .string a0_1, .slice A0_2 l0_2.length c0_2] 24 (0, 0)) (bkq BK348.out) hb); have n1_ := Aside0.mk (below_step q0_ hb); clear BK348; clear HB; have BK348 := n0_; have HB := n1_; clear n0_ n1_; (try clear hb); (try clear hb2); (try clear hk); (try clear hi)))
   go_ret
   exact ⟨q2_, q0_⟩
  ·rw [if_neg c5] at H
   have c5b0 : decide (t350 ≤ 200) = false := decide_eq_false c5
   clear c5
   obtain rfl := Option.some.inj H
   go_enter Tryd.func22, Tryd.ntmps22
   go_wp2_with (first | ((with_reducible refine gate_dst (N := 1) rfl ?_); refine box_event ?hg (N := 1) ?hd (cs := #[.int .i64 a0_0, .string a0_1, .slice A0_2 l0_2.length c0_2]) (t := 24) ?hr ?_; (case hd => rfl); (case hg => rfl); (case hr => first | (go_simp; done) | (go_simp; rfl)); intro gb348 hg w14 hbox hb; have n0_ := Aside0.mk (below_step q0_ hb); have n1_ := Aside0.mk (hbox); have n2_ := Aside0.mk ((by rw [hg]; exact (below_size q0_) : w.heap.size ≤ gb348)); have n3_ := Aside0.mk ((by rw [hg]; exact (below_size q0_) : w.heap.size ≤ gb348)); clear HB; have HB := n0_; have BK348 := n1_; have GW348 := n2_; have GE348 := n3_; clear n0_ n1_ n2_ n3_; clear hb hbox hg; have hcz15_0 : w14.cell? ⟨gb348, 0, none⟩ = some (.int .i64 a0_0) := (blk_cell BK348.out 0).trans rfl; have hcz15_1 : w14.cell? ⟨gb348, 1, none⟩ = some (.string a0_1) := (blk_cell BK348.out 1).trans rfl; have hcz15_2 : w14.cell? ⟨gb348, 2, none⟩ = some (.slice A0_2 l0_2.length c0_2) := (blk_cell BK348.out 2).trans rfl; have hfz15_0 := blk_frozen BK348.out 0; have hfz15_1 := blk_frozen BK348.out 1; have hfz15_2 := blk_frozen BK348.out 2) | ((with_reducible refine gate_callee (f := 35) rfl ?_); refine goesL_ (some 4) rfl rfl Tryd.func35 (by kernel_rfl) rfl #[.agg #[.int .i64 a0_0, .string a0_1, .slice A0_2 l0_2.length c0_2], .int .i64 12] rfl argq ?_; (with_reducible refine (latinerref02_shape.calls k a0_0 a0_1 _ _ l0_2 12 true _ ?side1 ?side2 A2.out).mono ?_); (case side1 => repeat (first | exact (Kd.C_below HR0_2.out HB.out) | (with_reducible refine Kd.C_alloc ?_ _) | (with_reducible refine Kd.C_drewN ?_ _) | (with_reducible refine Kd.C_drew ?_))); (case side2 => exact HC0_2.out); rintro e w16 ⟨rfl, hb⟩; refine ⟨_, rfl, ?_⟩; have n0_ := Aside0.mk (blk_below (g := gb348) (o := .cells #[.int .i64 a0_0, .string a0_1, .slice A0_2 l0_2.length c0_2] 24 (0, 0)) (bkq BK348.out) hb); have n1_ := Aside0.mk (below_step q0_ hb); clear BK348; clear HB; have BK348 := n0_; have HB := n1_; clear n0_ n1_; (try clear hb); (try clear hb2); (try clear hk); (try clear hi); have hcz17_0 : w16.cell? ⟨gb348, 0, none⟩ = some (.int .i64 a0_0) := (blk_cell BK348.out 0).trans rfl; have hcz17_1 : w16.cell? ⟨gb348, 1, none⟩ = some (.string a0_1) := (blk_cell BK348.out 1).trans rfl; have hcz17_2 : w16.cell? ⟨gb348, 2, none⟩ = some (.slice A0_2 l0_2.length c0_2) := (blk_cell BK348.out 2).trans rfl; have hfz17_0 := blk_frozen BK348.out 0; have hfz17_1 := blk_frozen BK348.out 1; have hfz17_2 := blk_frozen BK348.out 2) | (go_at_call 36; (with_reducible refine (latinerref02_count.calls k a0_0 a0_1 _ _ l0_2 t350 _ ?side1 ?side2 A4.out).mono ?_); (case side1 => repeat (first | exact (Kd.C_below HR0_2.out HB.out) | (with_reducible refine Kd.C_alloc ?_ _) | (with_reducible refine Kd.C_drewN ?_ _) | (with_reducible refine Kd.C_drew ?_))); (case side2 => exact HC0_2.out); rintro e w18 ⟨rfl, hb⟩; have n0_ := Aside0.mk (blk_below (g := gb348) (o := .cells #[.int .i64 a0_0, .string a0_1, .slice A0_2 l0_2.length c0_2] 24 (0, 0)) (bkq BK348.out) hb); have n1_ := Aside0.mk (below_step q0_ hb); clear BK348; clear HB; have BK348 := n0_; have HB := n1_; clear n0_ n1_; (try clear hb); (try clear hb2); (try clear hk); (try clear hi)))
   go_ret
   exact ⟨q2_, q0_⟩
 ·replace c3 := Bool.eq_false_iff.mpr c3
  subst c3
  have H1 : (some false) = some r := by rw [if_neg (show ¬ (false = true) by decide)] at H; exact H
  clear H
  have H := H1
  clear H1
  obtain rfl := Option.some.inj H
  go_enter Tryd.func22, Tryd.ntmps22
  go_wp2_with (first | ((with_reducible refine gate_dst (N := 1) rfl ?_); refine box_event ?hg (N := 1) ?hd (cs := #[.int .i64 a0_0, .string a0_1, .slice A0_2 l0_2.length c0_2]) (t := 24) ?hr ?_; (case hd => rfl); (case hg => rfl); (case hr => first | (go_simp; done) | (go_simp; rfl)); intro gb348 hg w19 hbox hb; have n0_ := Aside0.mk (below_step q0_ hb); have n1_ := Aside0.mk (hbox); have n2_ := Aside0.mk ((by rw [hg]; exact (below_size q0_) : w.heap.size ≤ gb348)); have n3_ := Aside0.mk ((by rw [hg]; exact (below_size q0_) : w.heap.size ≤ gb348)); clear HB; have HB := n0_; have BK348 := n1_; have GW348 := n2_; have GE348 := n3_; clear n0_ n1_ n2_ n3_; clear hb hbox hg; have hcz20_0 : w19.cell? ⟨gb348, 0, none⟩ = some (.int .i64 a0_0) := (blk_cell BK348.out 0).trans rfl; have hcz20_1 : w19.cell? ⟨gb348, 1, none⟩ = some (.string a0_1) := (blk_cell BK348.out 1).trans rfl; have hcz20_2 : w19.cell? ⟨gb348, 2, none⟩ = some (.slice A0_2 l0_2.length c0_2) := (blk_cell BK348.out 2).trans rfl; have hfz20_0 := blk_frozen BK348.out 0; have hfz20_1 := blk_frozen BK348.out 1; have hfz20_2 := blk_frozen BK348.out 2) | ((with_reducible refine gate_callee (f := 35) rfl ?_); refine goesL_ (some 4) rfl rfl Tryd.func35 (by kernel_rfl) rfl #[.agg #[.int .i64 a0_0, .string a0_1, .slice A0_2 l0_2.length c0_2], .int .i64 12] rfl argq ?_; (with_reducible refine (latinerref02_shape.calls k a0_0 a0_1 _ _ l0_2 12 false _ ?side1 ?side2 A2.out).mono ?_); (case side1 => repeat (first | exact (Kd.C_below HR0_2.out HB.out) | (with_reducible refine Kd.C_alloc ?_ _) | (with_reducible refine Kd.C_drewN ?_ _) | (with_reducible refine Kd.C_drew ?_))); (case side2 => exact HC0_2.out); rintro e w21 ⟨rfl, hb⟩; refine ⟨_, rfl, ?_⟩; have n0_ := Aside0.mk (blk_below (g := gb348) (o := .cells #[.int .i64 a0_0, .string a0_1, .slice A0_2 l0_2.length c0_2] 24 (0, 0)) (bkq BK348.out) hb); have n1_ := Aside0.mk (below_step q0_ hb); clear BK348; clear HB; have BK348 := n0_; have HB := n1_; clear n0_ n1_; (try clear hb); (try clear hb2); (try clear hk); (try clear hi)))
  go_ret
  exact ⟨q2_, q0_⟩
end Go.Proofs.YthnddhgkjkpmfaaDoor.LTlvC
-- Written by this repo's own program over the kit's printer: YthnddhgkjkpmfaaDoor.LTlvC
namespace Go.Proofs.YthnddhgkjkpmfaaDoor.LTlvC
open Go.Proofs.YthnddhgkjkpmfaaDoor.ExtTlvC
open Go.Proofs.YthnddhgkjkpmfaaDoor.KTlv
open Go.RowKit Go.Proofs.YthnddhgkjkpmfaaDoorW.PrintWords Go.Proofs.YthnddhgkjkpmfaaDoorW.PrintLast Go.Proofs.YthnddhgkjkpmfaaDoorW.PrintMore
attribute [local go_sem] max2_int min2_int max_two min_two max_three min_three max_four min_four   -- for this text's walks alone
attribute [local go_sem] some_set
set_option linter.unusedVariables false
set_option linter.unusedSimpArgs false
variable {G : Gl}
mutual
def latinerref02_bytes.l0 : Nat → ByteArray → Int → Int → ByteArray → List (S24) → Option (ByteArray)
 | 0, _, _, _, _, _ => none
 | k + 1, x3, x4, x353000, x353001, x353002 => if x4 < (x353002.length : Int) then (if 0 ≤ x4 then ((latinerref02_bytes.f k ((rd_T24 x353002 x4).f0) ((rd_T24 x353002 x4).f1) ((rd_T24 x353002 x4).f2)).bind fun t354 => (if x3.size + t354.size ≤ 9223372036854775807 then (latinerref02_bytes.l0 k (x3 ++ t354) (wrap64 (x4 + 1)) x353000 x353001 x353002) else (none))) else (none)) else ((latinerref01_Encode.f k (x3.size : Int)).bind fun bt355 => ((some (([(x353000) % 256] : List Int) : List Int)).bind fun y357 => (if (strOfNums y357).size + bt355.1.size ≤ 9223372036854775807 then (if ((strOfNums y357) ++ bt355.1).size + x3.size ≤ 9223372036854775807 then (some (((strOfNums y357) ++ bt355.1) ++ x3)) else (none)) else (none))))
def latinerref02_bytes.f : Nat → Int → ByteArray → List (S24) → Option (ByteArray)
 | 0, _, _, _ => none
 | k + 1, a0_0, a0_1, l0_2 => latinerref02_bytes.l0 k a0_1 0 a0_0 a0_1 l0_2
end
set_option maxHeartbeats 8000000 in
set_option maxRecDepth 100000 in
theorem latinerref02_bytes.calls (k : Nat) : ∀ (a0_0 : Int) (a0_1 : ByteArray) (A0_2 : Option Addr) (c0_2 : Nat) (l0_2 : List (S24)) (r : ByteArray) (w : World) (hr0_2 : Kd.C k24 w A0_2 l0_2.length l0_2) (hc0_2 : l0_2.length ≤ c0_2) (h : latinerref02_bytes.f k a0_0 a0_1 l0_2 = some r),
  Calls Tryd.prog 30 #[.agg #[.int .i64 a0_0, .string a0_1, .slice A0_2 l0_2.length c0_2]] w fun e w' => e = .returned (.string r) ∧ Below w.heap.size w w' := by
 induction k using Nat.strongRecOn with
 | _ k ih =>
 intro a0_0 a0_1 A0_2 c0_2 l0_2 r w hr0_2 hc0_2 h
 cases k with
 | zero => exact absurd h (by simp [latinerref02_bytes.f])
 | succ k =>
 simp only [latinerref02_bytes.f] at h
 have hu24 := Tryd.underlying24
 have HR0_2 := Aside0.mk hr0_2
 have HC0_2 := Aside0.mk hc0_2
 clear hr0_2 hc0_2
 have HB := Aside0.mk (Below.refl w.heap.size w)
 have H : (latinerref02_bytes.l0 k a0_1 0 a0_0 a0_1 l0_2) = some r := h
 clear h
 have H' := Aside0.mk H
 clear H
 go_enter Tryd.func30, Tryd.ntmps30
 go_wp2_with (first | ((with_reducible refine gate_dst (N := 1) rfl ?_); refine box_event ?hg (N := 1) ?hd (cs := #[.int .i64 a0_0, .string a0_1, .slice A0_2 l0_2.length c0_2]) (t := 24) ?hr ?_; (case hd => rfl); (case hg => rfl); (case hr => first | (go_simp; done) | (go_simp; rfl)); intro gb352 hg w2 hbox hb; have n0_ := Aside0.mk (below_step q0_ hb); have n1_ := Aside0.mk (hbox); have n2_ := Aside0.mk ((by rw [hg]; exact (below_size q0_) : w.heap.size ≤ gb352)); have n3_ := Aside0.mk ((by rw [hg]; exact (below_size q0_) : w.heap.size ≤ gb352)); clear HB; have HB := n0_; have BK352 := n1_; have GW352 := n2_; have GE352 := n3_; clear n0_ n1_ n2_ n3_; clear hb hbox hg; have hcz3_0 : w2.cell? ⟨gb352, 0, none⟩ = some (.int .i64 a0_0) := (blk_cell BK352.out 0).trans rfl; have hcz3_1 : w2.cell? ⟨gb352, 1, none⟩ = some (.string a0_1) := (blk_cell BK352.out 1).trans rfl; have hcz3_2 : w2.cell? ⟨gb352, 2, none⟩ = some (.slice A0_2 l0_2.length c0_2) := (blk_cell BK352.out 2).trans rfl; have hfz3_0 := blk_frozen BK352.out 0; have hfz3_1 := blk_frozen BK352.out 1; have hfz3_2 := blk_frozen BK352.out 2))
 go_loopg [3, 4] k (fun kq v3 v4 w' => ∃ (x3_1 : ByteArray) (x4_1 : Int), v3 = .string x3_1 ∧ v4 = .int .i64 x4_1 ∧ Aside0 (latinerref02_bytes.l0 kq x3_1 x4_1 a0_0 a0_1 l0_2 = some r) ∧ Aside0 (kq ≤ k) ∧ Aside0 (w'.heap[gb352]? = some (.cells #[.int .i64 a0_0, .string a0_1, (.slice A0_2 l0_2.length c0_2)] 24 (0, 0))) ∧ Aside0 (Below w.heap.size w w'))
 case atStart => exact ⟨(a0_1), (0), q3_, q3_, H', ⟨Nat.le_refl _⟩, ⟨by refine bkq ?_; exact BK352.out⟩, ⟨q0_⟩⟩
 case round =>
  clear H'
  try clear p2
  try clear c3
  try clear hcz3_0
  try clear hcz3_1
  try clear hcz3_2
  try clear hfz3_0
  try clear hfz3_1
  try clear hfz3_2
  obtain ⟨x3_1, x4_1, rfl, rfl, HA, HK1, BK352, HB⟩ := hrel
  cases gk with
  | zero => exact absurd HA.out (by simp [latinerref02_bytes.l0])
  | succ k1 =>
   have H := HA.out
   clear HA
   simp only [latinerref02_bytes.l0] at H
   by_cases c4 : x4_1 < (l0_2.length : Int)
   ·rw [if_pos c4] at H
    have c4b0 : decide (x4_1 < (l0_2.length : Int)) = true := decide_eq_true c4
    clear c4
    by_cases c5 : 0 ≤ x4_1
    ·rw [if_pos c5] at H
     have c5b0 : decide (0 ≤ x4_1) = true := decide_eq_true c5
     clear c5
     replace H := Option.bind_eq_some_iff.mp H
     obtain ⟨t354, A60, H⟩ := H
     replace H : (if x3_1.size + t354.size ≤ 9223372036854775807 then (latinerref02_bytes.l0 k1 (x3_1 ++ t354) (wrap64 (x4_1 + 1)) a0_0 a0_1 l0_2) else (none)) = some r := H
     have A6 := Aside0.mk A60
     clear A60
     by_cases c7 : x3_1.size + t354.size ≤ 9223372036854775807
     ·rw [if_pos c7] at H
      have c7b0 := eq_true c7
      have c7b1 : decide (x3_1.size + t354.size ≤ 9223372036854775807) = true := decide_eq_true c7
      try have c7b2 : (9223372036854775807 < x3_1.size + t354.size) = False := eq_false (Nat.not_lt.2 c7)
      have H' := Aside0.mk H
      clear H
      have hcz8_0 : wr.cell? ⟨gb352, 0, none⟩ = some (.int .i64 a0_0) := (blk_cell BK352.out 0).trans rfl
      have hcz8_1 : wr.cell? ⟨gb352, 1, none⟩ = some (.string a0_1) := (blk_cell BK352.out 1).trans rfl
      have hcz8_2 : wr.cell? ⟨gb352, 2, none⟩ = some (.slice A0_2 l0_2.length c0_2) := (blk_cell BK352.out 2).trans rfl
      have hfz8_0 := blk_frozen BK352.out 0
      have hfz8_1 := blk_frozen BK352.out 1
      have hfz8_2 := blk_frozen BK352.out 2
      have p353 : 0 ≤ (x4_1 : Int) := of_decide_eq_true q4_
      have q353 : x4_1 < (l0_2.length : Int) := of_decide_eq_true q4_
      obtain ⟨ad353, A353_2, c353_2, e353, hx353_0, hx353_1, hx353_2, hl353_2, hi353_2⟩ := at_T24 HR0_2.out x4_1 p353 q353
      cases e353
      replace hx353_0 := (HB.out.cell (World.block_lt_of_cell? w _ hx353_0)).trans hx353_0
      replace hx353_1 := (HB.out.cell (World.block_lt_of_cell? w _ hx353_1)).trans hx353_1
      replace hx353_2 := (HB.out.cell (World.block_lt_of_cell? w _ hx353_2)).trans hx353_2
      have HR353_2 := Aside0.mk hi353_2
      have HC353_2 := Aside0.mk hl353_2
      clear hi353_2 hl353_2
      replace p353 := eq_true p353
      replace q353 := eq_true q353
      go_wp2_with (first | ((with_reducible refine gate_callee (f := 30) rfl ?_); refine goesL_ (some 22) rfl rfl Tryd.func30 (by kernel_rfl) rfl #[.agg #[.int .i64 ((rd_T24 l0_2 x4_1).f0), .string ((rd_T24 l0_2 x4_1).f1), .slice A353_2 ((rd_T24 l0_2 x4_1).f2).length c353_2]] rfl argq ?_; (with_reducible refine (ih k1 (by have := HK1.out; omega) ((rd_T24 l0_2 x4_1).f0) ((rd_T24 l0_2 x4_1).f1) _ _ ((rd_T24 l0_2 x4_1).f2) t354 _ ?side1 ?side2 A6.out).mono ?_); (case side1 => repeat (first | exact (Kd.C_below HR353_2.out HB.out) | (with_reducible refine Kd.C_alloc ?_ _) | (with_reducible refine Kd.C_drewN ?_ _) | (with_reducible refine Kd.C_drew ?_))); (case side2 => exact HC353_2.out); rintro e w9 ⟨rfl, hb⟩; refine ⟨_, rfl, ?_⟩; have n0_ := Aside0.mk (blk_below (g := gb352) (o := .cells #[.int .i64 a0_0, .string a0_1, .slice (some ad353) l0_2.length c0_2] 24 (0, 0)) (bkq BK352.out) hb); have n1_ := Aside0.mk (below_step q0_ hb); clear BK352; clear HB; have BK352 := n0_; have HB := n1_; clear n0_ n1_; (try clear hb); (try clear hb2); (try clear hk); (try clear hi)))
      go_roundg k1
      case measure => have := HK1.out; omega
      case rel => exact ⟨(x3_1 ++ t354), (wrap64 (x4_1 + 1)), q3_, q3_, H', ⟨by have := HK1.out; omega⟩, ⟨by refine bkq ?_; exact BK352.out⟩, ⟨q0_⟩⟩
     ·rw [if_neg c7] at H
      exact absurd H (by simp)
    ·rw [if_neg c5] at H
     exact absurd H (by simp)
   ·rw [if_neg c4] at H
    have c4b0 : decide (x4_1 < (l0_2.length : Int)) = false := decide_eq_false c4
    clear c4
    replace H := Option.bind_eq_some_iff.mp H
    obtain ⟨⟨t355, t356⟩, A100, H⟩ := H
    replace H : ((some (([(a0_0) % 256] : List Int) : List Int)).bind fun y357 => (if (strOfNums y357).size + t355.size ≤ 9223372036854775807 then (if ((strOfNums y357) ++ t355).size + x3_1.size ≤ 9223372036854775807 then (some (((strOfNums y357) ++ t355) ++ x3_1)) else (none)) else (none))) = some r := H
    have A10 := Aside0.mk A100
    clear A100
    obtain ⟨y357, hy357⟩ : ∃ y_ : List Int, y_ = (([(a0_0) % 256] : List Int)) := ⟨_, rfl⟩
    replace H : (if (strOfNums y357).size + t355.size ≤ 9223372036854775807 then (if ((strOfNums y357) ++ t355).size + x3_1.size ≤ 9223372036854775807 then (some (((strOfNums y357) ++ t355) ++ x3_1)) else (none)) else (none)) = some r := by first | (rw [hy357]; with_reducible exact H) | (have H2_ := (Option.bind_some _ _).symm.trans H; rw [hy357]; with_reducible exact H2_) | (have H2_ := (Option.bind_some _ _).symm.trans H; with_reducible exact H2_) | with_reducible exact H | (rw [hy357]; exact H) | exact H
    have Ny357 := Aside0.mk hy357
    clear hy357
    by_cases c11 : (strOfNums y357).size + t355.size ≤ 9223372036854775807
    ·rw [if_pos c11] at H
     have c11b0 := eq_true c11
     have c11b1 : decide ((strOfNums y357).size + t355.size ≤ 9223372036854775807) = true := decide_eq_true c11
     try have c11b2 : (9223372036854775807 < (strOfNums y357).size + t355.size) = False := eq_false (Nat.not_lt.2 c11)
     by_cases c12 : ((strOfNums y357) ++ t355).size + x3_1.size ≤ 9223372036854775807
     ·rw [if_pos c12] at H
      have c12b0 := eq_true c12
      have c12b1 : decide (((strOfNums y357) ++ t355).size + x3_1.size ≤ 9223372036854775807) = true := decide_eq_true c12
      try have c12b2 : (9223372036854775807 < ((strOfNums y357) ++ t355).size + x3_1.size) = False := eq_false (Nat.not_lt.2 c12)
      obtain rfl := Option.some.inj H
      have hcz13_0 : wr.cell? ⟨gb352, 0, none⟩ = some (.int .i64 a0_0) := (blk_cell BK352.out 0).trans rfl
      have hcz13_1 : wr.cell? ⟨gb352, 1, none⟩ = some (.string a0_1) := (blk_cell BK352.out 1).trans rfl
      have hcz13_2 : wr.cell? ⟨gb352, 2, none⟩ = some (.slice A0_2 l0_2.length c0_2) := (blk_cell BK352.out 2).trans rfl
      have hfz13_0 := blk_frozen BK352.out 0
      have hfz13_1 := blk_frozen BK352.out 1
      have hfz13_2 := blk_frozen BK352.out 2
      go_wp2_with (first | ((with_reducible refine gate_callee (f := 43) rfl ?_); refine goesL_ (some 27) rfl rfl Tryd.func43 (by kernel_rfl) rfl #[.int .i64 (x3_1.size : Int)] rfl argq ?_; (with_reducible refine (latinerref01_Encode.calls k1 (x3_1.size : Int) t355 t356 _ A10.out).mono ?_); rintro e w14 ⟨rfl, hb⟩; refine ⟨_, rfl, ?_⟩; have n0_ := Aside0.mk (blk_below (g := gb352) (o := .cells #[.int .i64 a0_0, .string a0_1, .slice A0_2 l0_2.length c0_2] 24 (0, 0)) (bkq BK352.out) hb); have n1_ := Aside0.mk (below_step q0_ hb); clear BK352; clear HB; have BK352 := n0_; have HB := n1_; clear n0_ n1_; (try clear hb); (try clear hb2); (try clear hk); (try clear hi); have hcz15_0 : w14.cell? ⟨gb352, 0, none⟩ = some (.int .i64 a0_0) := (blk_cell BK352.out 0).trans rfl; have hcz15_1 : w14.cell? ⟨gb352, 1, none⟩ = some (.string a0_1) := (blk_cell BK352.out 1).trans rfl; have hcz15_2 : w14.cell? ⟨gb352, 2, none⟩ = some (.slice A0_2 l0_2.length c0_2) := (blk_cell BK352.out 2).trans rfl; have hfz15_0 := blk_frozen BK352.out 0; have hfz15_1 := blk_frozen BK352.out 1; have hfz15_2 := blk_frozen BK352.out 2) | ((with_reducible refine gate_dst (N := 33) rfl ?_); refine Kd.R_lit (Kd.int .u8) _ 5 ?hg (N := 33) ?hd (xs := ([(a0_0) % 256] : List Int)) (inner := [.int .u8 ((a0_0) % 256)]) (ok := fun _ => True) (okp := fun _ => True) ?hr ?hp (fun _ hk => hk) trivial (Below.refl _ _) (Nat.le_refl _) (by simp) ?_; (case hd => rfl); (case hg => rfl); (case hr => first | (go_simp; done) | (go_simp; rfl)); (case hp => exact (Reps.one (show Kd.M (Kd.int .u8) _ _ _ ((a0_0) % 256) [.int .u8 ((a0_0) % 256)] from rfl) (Reps.none _ _))); intro v358 w16 ho17 hb hg_ hnew_; clear hg_ hnew_; (first | rw [← Ny357.out] at ho17 | (simp only [Int.reduceToNat] at ho17; rw [← Ny357.out] at ho17)); have n0_ := Aside0.mk (Kd.R_lower ho17 (below_size q0_)); have n1_ := Aside0.mk (blk_below (g := gb352) (o := .cells #[.int .i64 a0_0, .string a0_1, .slice A0_2 l0_2.length c0_2] 24 (0, 0)) (bkq BK352.out) hb); have n2_ := Aside0.mk (below_step q0_ hb); clear BK352; clear HB; have HO359 := n0_; have BK352 := n1_; have HB := n2_; clear n0_ n1_ n2_; clear hb ho17; have hcv18 := own_string (P := Tryd.prog) Tryd.underlying41 Tryd.underlying5 Tryd.underlying9 (Kd.own_of_R HO359.out)))
      go_ret
      exact ⟨q2_, q0_⟩
     ·rw [if_neg c12] at H
      exact absurd H (by simp)
    ·rw [if_neg c11] at H
     exact absurd H (by simp)
def latinerref02_Encode.f (k : Nat) (a0_0 : Int) (a0_1 : ByteArray) (l0_2 : List (S24)) : Option (ByteArray × Int) := (latinerref02_Right.f k a0_0 a0_1 l0_2).bind fun t361 => (if t361 = true then ((latinerref02_bytes.f k a0_0 a0_1 l0_2).bind fun t362 => (some (t362, 0))) else (some ((⟨#[]⟩ : ByteArray), 21)))
set_option maxHeartbeats 8000000 in
set_option maxRecDepth 100000 in
theorem latinerref02_Encode.calls (k : Nat) (a0_0 : Int) (a0_1 : ByteArray) (A0_2 : Option Addr) (c0_2 : Nat) (l0_2 : List (S24)) (r1 : ByteArray) (r2 : Int) (w : World) (hr0_2 : Kd.C k24 w A0_2 l0_2.length l0_2) (hc0_2 : l0_2.length ≤ c0_2) (h : latinerref02_Encode.f k a0_0 a0_1 l0_2 = some (r1, r2)) :
  Calls Tryd.prog 16 #[.agg #[.int .i64 a0_0, .string a0_1, .slice A0_2 l0_2.length c0_2]] w fun e w' => e = .returned (.tuple #[.string r1, .int .i64 r2]) ∧ Below w.heap.size w w' := by
 have hu24 := Tryd.underlying24
 have HR0_2 := Aside0.mk hr0_2
 have HC0_2 := Aside0.mk hc0_2
 clear hr0_2 hc0_2
 have HB := Aside0.mk (Below.refl w.heap.size w)
 have H : ((latinerref02_Right.f k a0_0 a0_1 l0_2).bind fun t361 => (if t361 = true then ((latinerref02_bytes.f k a0_0 a0_1 l0_2).bind fun t362 => (some (t362, 0))) else (some ((⟨#[]⟩ : ByteArray), 21)))) = some (r1, r2) := h
 clear h
 replace H := Option.bind_eq_some_iff.mp H
 obtain ⟨t361, A20, H⟩ := H
 replace H : (if t361 = true then ((latinerref02_bytes.f k a0_0 a0_1 l0_2).bind fun t362 => (some (t362, 0))) else (some ((⟨#[]⟩ : ByteArray), 21))) = some (r1, r2) := H
 have A2 := Aside0.mk A20
 clear A20
 by_cases c3 : t361 = true
 ·subst c3
  have H1 : ((latinerref02_bytes.f k a0_0 a0_1 l0_2).bind fun t362 => (some (t362, 0))) = some (r1, r2) := by rw [if_pos rfl] at H; exact H
  clear H
  have H := H1
  clear H1
  replace H := Option.bind_eq_some_iff.mp H
  obtain ⟨t362, A40, H⟩ := H
  replace H : (some (t362, 0)) = some (r1, r2) := H
  have A4 := Aside0.mk A40
  clear A40
  simp only [Option.some.injEq, Prod.mk.injEq] at H
  obtain ⟨rfl, rfl⟩ := H
  go_enter Tryd.func16, Tryd.ntmps16
  go_wp2_with (first | ((with_reducible refine gate_dst (N := 1) rfl ?_); refine box_event ?hg (N := 1) ?hd (cs := #[.int .i64 a0_0, .string a0_1, .slice A0_2 l0_2.length c0_2]) (t := 24) ?hr ?_; (case hd => rfl); (case hg => rfl); (case hr => first | (go_simp; done) | (go_simp; rfl)); intro gb360 hg w5 hbox hb; have n0_ := Aside0.mk (below_step q0_ hb); have n1_ := Aside0.mk (hbox); have n2_ := Aside0.mk ((by rw [hg]; exact (below_size q0_) : w.heap.size ≤ gb360)); have n3_ := Aside0.mk ((by rw [hg]; exact (below_size q0_) : w.heap.size ≤ gb360)); clear HB; have HB := n0_; have BK360 := n1_; have GW360 := n2_; have GE360 := n3_; clear n0_ n1_ n2_ n3_; clear hb hbox hg; have hcz6_0 : w5.cell? ⟨gb360, 0, none⟩ = some (.int .i64 a0_0) := (blk_cell BK360.out 0).trans rfl; have hcz6_1 : w5.cell? ⟨gb360, 1, none⟩ = some (.string a0_1) := (blk_cell BK360.out 1).trans rfl; have hcz6_2 : w5.cell? ⟨gb360, 2, none⟩ = some (.slice A0_2 l0_2.length c0_2) := (blk_cell BK360.out 2).trans rfl; have hfz6_0 := blk_frozen BK360.out 0; have hfz6_1 := blk_frozen BK360.out 1; have hfz6_2 := blk_frozen BK360.out 2) | ((with_reducible refine gate_callee (f := 22) rfl ?_); refine goesL_ (some 5) rfl rfl Tryd.func22 (by kernel_rfl) rfl #[.agg #[.int .i64 a0_0, .string a0_1, .slice A0_2 l0_2.length c0_2]] rfl argq ?_; (with_reducible refine (latinerref02_Right.calls k a0_0 a0_1 _ _ l0_2 true _ ?side1 ?side2 A2.out).mono ?_); (case side1 => repeat (first | exact (Kd.C_below HR0_2.out HB.out) | (with_reducible refine Kd.C_alloc ?_ _) | (with_reducible refine Kd.C_drewN ?_ _) | (with_reducible refine Kd.C_drew ?_))); (case side2 => exact HC0_2.out); rintro e w7 ⟨rfl, hb⟩; refine ⟨_, rfl, ?_⟩; have n0_ := Aside0.mk (blk_below (g := gb360) (o := .cells #[.int .i64 a0_0, .string a0_1, .slice A0_2 l0_2.length c0_2] 24 (0, 0)) (bkq BK360.out) hb); have n1_ := Aside0.mk (below_step q0_ hb); clear BK360; clear HB; have BK360 := n0_; have HB := n1_; clear n0_ n1_; (try clear hb); (try clear hb2); (try clear hk); (try clear hi); have hcz8_0 : w7.cell? ⟨gb360, 0, none⟩ = some (.int .i64 a0_0) := (blk_cell BK360.out 0).trans rfl; have hcz8_1 : w7.cell? ⟨gb360, 1, none⟩ = some (.string a0_1) := (blk_cell BK360.out 1).trans rfl; have hcz8_2 : w7.cell? ⟨gb360, 2, none⟩ = some (.slice A0_2 l0_2.length c0_2) := (blk_cell BK360.out 2).trans rfl; have hfz8_0 := blk_frozen BK360.out 0; have hfz8_1 := blk_frozen BK360.out 1; have hfz8_2 := blk_frozen BK360.out 2) | ((with_reducible refine gate_callee (f := 30) rfl ?_); refine goesL_ (some 8) rfl rfl Tryd.func30 (by kernel_rfl) rfl #[.agg #[.int .i64 a0_0, .string a0_1, .slice A0_2 l0_2.length c0_2]] rfl argq ?_; (with_reducible refine (latinerref02_bytes.calls k a0_0 a0_1 _ _ l0_2 t362 _ ?side1 ?side2 A4.out).mono ?_); (case side1 => repeat (first | exact (Kd.C_below HR0_2.out HB.out) | (with_reducible refine Kd.C_alloc ?_ _) | (with_reducible refine Kd.C_drewN ?_ _) | (with_reducible refine Kd.C_drew ?_))); (case side2 => exact HC0_2.out); rintro e w9 ⟨rfl, hb⟩; refine ⟨_, rfl, ?_⟩; have n0_ := Aside0.mk (blk_below (g := gb360) (o := .cells #[.int .i64 a0_0, .string a0_1, .slice A0_2 l0_2.length c0_2] 24 (0, 0)) (bkq BK360.out) hb); have n1_ := Aside0.mk (below_step q0_ hb); clear BK360; clear HB; have BK360 := n0_; have HB := n1_; clear n0_ n1_; (try clear hb); (try clear hb2); (try clear hk); (try clear hi)))
  go_ret2
  exact ⟨q2_, q0_⟩
 ·replace c3 := Bool.eq_false_iff.mpr c3
  subst c3
  have H1 : (some ((⟨#[]⟩ : ByteArray), 21)) = some (r1, r2) := by rw [if_neg (show ¬ (false = true) by decide)] at H; exact H
  clear H
  have H := H1
  clear H1
  simp only [Option.some.injEq, Prod.mk.injEq] at H
  obtain ⟨rfl, rfl⟩ := H
  go_enter Tryd.func16, Tryd.ntmps16
  go_wp2_with (first | ((with_reducible refine gate_dst (N := 1) rfl ?_); refine box_event ?hg (N := 1) ?hd (cs := #[.int .i64 a0_0, .string a0_1, .slice A0_2 l0_2.length c0_2]) (t := 24) ?hr ?_; (case hd => rfl); (case hg => rfl); (case hr => first | (go_simp; done) | (go_simp; rfl)); intro gb360 hg w10 hbox hb; have n0_ := Aside0.mk (below_step q0_ hb); have n1_ := Aside0.mk (hbox); have n2_ := Aside0.mk ((by rw [hg]; exact (below_size q0_) : w.heap.size ≤ gb360)); have n3_ := Aside0.mk ((by rw [hg]; exact (below_size q0_) : w.heap.size ≤ gb360)); clear HB; have HB := n0_; have BK360 := n1_; have GW360 := n2_; have GE360 := n3_; clear n0_ n1_ n2_ n3_; clear hb hbox hg; have hcz11_0 : w10.cell? ⟨gb360, 0, none⟩ = some (.int .i64 a0_0) := (blk_cell BK360.out 0).trans rfl; have hcz11_1 : w10.cell? ⟨gb360, 1, none⟩ = some (.string a0_1) := (blk_cell BK360.out 1).trans rfl; have hcz11_2 : w10.cell? ⟨gb360, 2, none⟩ = some (.slice A0_2 l0_2.length c0_2) := (blk_cell BK360.out 2).trans rfl; have hfz11_0 := blk_frozen BK360.out 0; have hfz11_1 := blk_frozen BK360.out 1; have hfz11_2 := blk_frozen BK360.out 2) | ((with_reducible refine gate_callee (f := 22) rfl ?_); refine goesL_ (some 5) rfl rfl Tryd.func22 (by kernel_rfl) rfl #[.agg #[.int .i64 a0_0, .string a0_1, .slice A0_2 l0_2.length c0_2]] rfl argq ?_; (with_reducible refine (latinerref02_Right.calls k a0_0 a0_1 _ _ l0_2 false _ ?side1 ?side2 A2.out).mono ?_); (case side1 => repeat (first | exact (Kd.C_below HR0_2.out HB.out) | (with_reducible refine Kd.C_alloc ?_ _) | (with_reducible refine Kd.C_drewN ?_ _) | (with_reducible refine Kd.C_drew ?_))); (case side2 => exact HC0_2.out); rintro e w12 ⟨rfl, hb⟩; refine ⟨_, rfl, ?_⟩; have n0_ := Aside0.mk (blk_below (g := gb360) (o := .cells #[.int .i64 a0_0, .string a0_1, .slice A0_2 l0_2.length c0_2] 24 (0, 0)) (bkq BK360.out) hb); have n1_ := Aside0.mk (below_step q0_ hb); clear BK360; clear HB; have BK360 := n0_; have HB := n1_; clear n0_ n1_; (try clear hb); (try clear hb2); (try clear hk); (try clear hi)))
  go_ret2
  exact ⟨q2_, q0_⟩
mutual
def latinerref01_Decode.j0 : Nat → ByteArray → Int → Bool → Option (Int × Int × Int)
 | 0, _, _, _ => none
 | k + 1, x0, x1, x17 => if x17 = true then (some (0, 0, 10)) else (if 0 ≤ x1 then (if x1 < (x0.size : Int) then (if (wrap64 (bt x0 x1)) < 128 then (some (wrap64 (bt x0 x1), wrap64 (x1 + 1), 0)) else (if (wrap64 (bt x0 x1)) = 128 then (latinerref01_Decode.j1 k x0 x1 (wrap64 (bt x0 x1)) true) else (latinerref01_Decode.j1 k x0 x1 (wrap64 (bt x0 x1)) (decide ((wrap64 (bt x0 x1)) > 132))))) else (none)) else (none))
def latinerref01_Decode.j1 : Nat → ByteArray → Int → Int → Bool → Option (Int × Int × Int)
 | 0, _, _, _, _ => none
 | k + 1, x0, x1, x7, x32 => if x32 = true then (some (0, 0, 11)) else (if (wrap64 ((wrap64 ((x0.size : Int) - x1)) - 1)) < (wrap64 (x7 - 128)) then (some (0, 0, 10)) else (latinerref01_Decode.l0 k x0 x1 x7 0 1))
def latinerref01_Decode.l0 : Nat → ByteArray → Int → Int → Int → Int → Option (Int × Int × Int)
 | 0, _, _, _, _, _ => none
 | k + 1, x0, x1, x7, x8, x9 => if x9 ≤ (wrap64 (x7 - 128)) then (if 0 ≤ (wrap64 (x1 + x9)) then (if (wrap64 (x1 + x9)) < (x0.size : Int) then (latinerref01_Decode.l0 k x0 x1 x7 (wrap64 ((wrap64 (256 * x8)) + (wrap64 (bt x0 (wrap64 (x1 + x9)))))) (wrap64 (x9 + 1))) else (none)) else (none)) else (if x8 > 16777215 then (some (0, 0, 12)) else (some (x8, wrap64 ((wrap64 ((wrap64 (x1 + 1)) + x7)) - 128), 0)))
end
def latinerref01_Decode.f (k : Nat) (a0 : ByteArray) (a1 : Int) : Option (Int × Int × Int) := if a1 < 0 then (latinerref01_Decode.j0 k a0 a1 true) else (latinerref01_Decode.j0 k a0 a1 (decide (a1 ≥ (a0.size : Int))))
set_option maxHeartbeats 8000000 in
set_option maxRecDepth 100000 in
theorem latinerref01_Decode.calls (k : Nat) (a0 : ByteArray) (a1 : Int) (r1 : Int) (r2 : Int) (r3 : Int) (w : World) (h : latinerref01_Decode.f k a0 a1 = some (r1, r2, r3)) :
  Calls Tryd.prog 45 #[.string a0, .int .i64 a1] w fun e w' => e = .returned (.tuple #[.int .i64 r1, .int .i64 r2, .int .i64 r3]) ∧ Drawn0 w w' := by
 have H : (if a1 < 0 then (latinerref01_Decode.j0 k a0 a1 true) else (latinerref01_Decode.j0 k a0 a1 (decide (a1 ≥ (a0.size : Int))))) = some (r1, r2, r3) := h
 clear h
 have HC3 := Aside0.mk H
 clear H
 go_enter Tryd.func45, Tryd.ntmps45
 go_upto_region 1 with (fail)
 go_cut [17] (fun v17 wc => ∃ (kq : Nat) (x17_2 : Bool), v17 = .bool x17_2 ∧ Aside0 (latinerref01_Decode.j0 kq a0 a1 x17_2 = some (r1, r2, r3)) ∧ Aside0 (kq ≤ k) ∧ Drawn0 w wc)
 case first =>
  have H := HC3.out
  clear HC3
  by_cases c4 : a1 < 0
  ·rw [if_pos c4] at H
   have c4b0 : decide (a1 < 0) = true := decide_eq_true c4
   clear c4
   (first | rw [c4b0] | (simp only [i64_w, i32_w]; rw [c4b0]) | skip)
   have H' := Aside0.mk H
   clear H
   go_wp2
   go_meet
   case rel => exact ⟨_, (true), q3_, H', ⟨q12_⟩, q14_⟩
  ·rw [if_neg c4] at H
   have c4b0 : decide (a1 < 0) = false := decide_eq_false c4
   clear c4
   (first | rw [c4b0] | (simp only [i64_w, i32_w]; rw [c4b0]) | skip)
   have H' := Aside0.mk H
   clear H
   go_wp2
   go_meet
   case rel => exact ⟨_, (decide (a1 ≥ (a0.size : Int))), q3_, H', ⟨q12_⟩, q14_⟩
 case rest =>
  clear HC3
  try clear p2
  try clear c4
  try clear c4b0
  obtain ⟨kq, x17_2, rfl, HA, HJ2, ⟨mc2, rfl⟩⟩ := hcut
  cases kq with
  | zero => exact absurd HA.out (by simp [latinerref01_Decode.j0])
  | succ kj2 =>
   have H := HA.out
   clear HA
   simp only [latinerref01_Decode.j0] at H
   by_cases c5 : x17_2 = true
   ·subst c5
    have H1 : (some (0, 0, 10)) = some (r1, r2, r3) := by rw [if_pos rfl] at H; exact H
    clear H
    have H := H1
    clear H1
    simp only [Option.some.injEq, Prod.mk.injEq] at H
    obtain ⟨rfl, rfl, rfl⟩ := H
    go_wp2
    go_ret3
    exact ⟨q3_, q14_⟩
   ·replace c5 := Bool.eq_false_iff.mpr c5
    subst c5
    have H1 : (if 0 ≤ a1 then (if a1 < (a0.size : Int) then (if (wrap64 (bt a0 a1)) < 128 then (some (wrap64 (bt a0 a1), wrap64 (a1 + 1), 0)) else (if (wrap64 (bt a0 a1)) = 128 then (latinerref01_Decode.j1 kj2 a0 a1 (wrap64 (bt a0 a1)) true) else (latinerref01_Decode.j1 kj2 a0 a1 (wrap64 (bt a0 a1)) (decide ((wrap64 (bt a0 a1)) > 132))))) else (none)) else (none)) = some (r1, r2, r3) := by rw [if_neg (show ¬ (false = true) by decide)] at H; exact H
    clear H
    have H := H1
    clear H1
    by_cases c6 : 0 ≤ a1
    ·rw [if_pos c6] at H
     have c6b0 : decide (0 ≤ a1) = true := decide_eq_true c6
     clear c6
     by_cases c7 : a1 < (a0.size : Int)
     ·rw [if_pos c7] at H
      have c7b0 : decide (a1 < (a0.size : Int)) = true := decide_eq_true c7
      clear c7
      by_cases c9 : (wrap64 (bt a0 a1)) < 128
      ·rw [if_pos c9] at H
       have c9b0 : decide ((wrap64 (bt a0 a1)) < 128) = true := decide_eq_true c9
       clear c9
       simp only [Option.some.injEq, Prod.mk.injEq] at H
       obtain ⟨rfl, rfl, rfl⟩ := H
       have p8 : 0 ≤ (a1 : Int) := of_decide_eq_true q4_
       have q8 : a1 < (a0.size : Int) := of_decide_eq_true q4_
       have hx8 := bt_at a0 a1
       replace p8 := eq_true p8
       replace q8 := eq_true q8
       go_wp2
       go_ret3
       exact ⟨q3_, q14_⟩
      ·rw [if_neg c9] at H
       have c9b0 : decide ((wrap64 (bt a0 a1)) < 128) = false := decide_eq_false c9
       clear c9
       have HC10 := Aside0.mk H
       clear H
       have p8 : 0 ≤ (a1 : Int) := of_decide_eq_true q4_
       have q8 : a1 < (a0.size : Int) := of_decide_eq_true q4_
       have hx8 := bt_at a0 a1
       replace p8 := eq_true p8
       replace q8 := eq_true q8
       go_upto_region 6 with (fail)
       go_cut [32] (fun v32 wc => ∃ (kq : Nat) (x32_9 : Bool), v32 = .bool x32_9 ∧ Aside0 (latinerref01_Decode.j1 kq a0 a1 (wrap64 (bt a0 a1)) x32_9 = some (r1, r2, r3)) ∧ Aside0 (kq ≤ kj2) ∧ Drawn0 w wc)
       case first =>
        have H := HC10.out
        clear HC10
        by_cases c11 : (wrap64 (bt a0 a1)) = 128
        ·rw [if_pos c11] at H
         have c11b0 : ((wrap64 (bt a0 a1)) == 128) = true := beq_iff_eq.mpr c11
         have c11b1 : ((wrap64 (bt a0 a1)) != 128) = false := bne_eq_false_iff_eq.mpr c11
         clear c11
         (first | rw [c11b0] | (simp only [i64_w, i32_w]; rw [c11b0]) | skip)
         have H' := Aside0.mk H
         clear H
         go_wp2
         go_meet
         case rel => exact ⟨_, (true), q3_, H', ⟨by have := HJ2.out; first | omega | exact Nat.le_refl _⟩, q14_⟩
        ·rw [if_neg c11] at H
         have c11b0 : ((wrap64 (bt a0 a1)) == 128) = false := beq_eq_false_iff_ne.mpr c11
         have c11b1 : ((wrap64 (bt a0 a1)) != 128) = true := bne_iff_ne.mpr c11
         (first | rw [c11b0] | (simp only [i64_w, i32_w]; rw [c11b0]) | skip)
         have H' := Aside0.mk H
         clear H
         go_wp2
         go_meet
         case rel => exact ⟨_, (decide ((wrap64 (bt a0 a1)) > 132)), q3_, H', ⟨by have := HJ2.out; first | omega | exact Nat.le_refl _⟩, q14_⟩
       case rest =>
        clear HC10
        try clear c1
        try clear c2
        try clear p2
        try clear c4
        try clear c4b0
        try clear c5
        try clear c6
        try clear c6b0
        try clear p6
        try clear c7
        try clear c7b0
        try clear p8
        try clear q8
        try clear hx8
        try clear c9
        try clear c9b0
        try clear c11
        try clear c11b0
        try clear c11b1
        try clear p2
        try clear p8
        try clear q8
        obtain ⟨kq, x32_9, rfl, HA, HJ9, ⟨mc9, rfl⟩⟩ := hcut
        cases kq with
        | zero => exact absurd HA.out (by simp [latinerref01_Decode.j1])
        | succ kj9 =>
         have H := HA.out
         clear HA
         simp only [latinerref01_Decode.j1] at H
         by_cases c12 : x32_9 = true
         ·subst c12
          have H1 : (some (0, 0, 11)) = some (r1, r2, r3) := by rw [if_pos rfl] at H; exact H
          clear H
          have H := H1
          clear H1
          simp only [Option.some.injEq, Prod.mk.injEq] at H
          obtain ⟨rfl, rfl, rfl⟩ := H
          go_wp2
          go_ret3
          exact ⟨q3_, q14_⟩
         ·replace c12 := Bool.eq_false_iff.mpr c12
          subst c12
          have H1 : (if (wrap64 ((wrap64 ((a0.size : Int) - a1)) - 1)) < (wrap64 ((wrap64 (bt a0 a1)) - 128)) then (some (0, 0, 10)) else (latinerref01_Decode.l0 kj9 a0 a1 (wrap64 (bt a0 a1)) 0 1)) = some (r1, r2, r3) := by rw [if_neg (show ¬ (false = true) by decide)] at H; exact H
          clear H
          have H := H1
          clear H1
          by_cases c13 : (wrap64 ((wrap64 ((a0.size : Int) - a1)) - 1)) < (wrap64 ((wrap64 (bt a0 a1)) - 128))
          ·rw [if_pos c13] at H
           have c13b0 : decide ((wrap64 ((wrap64 ((a0.size : Int) - a1)) - 1)) < (wrap64 ((wrap64 (bt a0 a1)) - 128))) = true := decide_eq_true c13
           clear c13
           simp only [Option.some.injEq, Prod.mk.injEq] at H
           obtain ⟨rfl, rfl, rfl⟩ := H
           go_wp2
           go_ret3
           exact ⟨q3_, q14_⟩
          ·rw [if_neg c13] at H
           have c13b0 : decide ((wrap64 ((wrap64 ((a0.size : Int) - a1)) - 1)) < (wrap64 ((wrap64 (bt a0 a1)) - 128))) = false := decide_eq_false c13
           clear c13
           have H' := Aside0.mk H
           clear H
           go_wp2
           go_loopg [8, 9] kj9 (fun kq v8 v9 w' => ∃ (x8_3 : Int) (x9_3 : Int), v8 = .int .i64 x8_3 ∧ v9 = .int .i64 x9_3 ∧ Aside0 (latinerref01_Decode.l0 kq a0 a1 (wrap64 (bt a0 a1)) x8_3 x9_3 = some (r1, r2, r3)) ∧ Aside0 (kq ≤ kj9) ∧ Drawn0 w w')
           case atStart => exact ⟨(0), (1), q3_, q3_, H', ⟨Nat.le_refl _⟩, q14_⟩
           case round =>
            clear H'
            try clear c1
            try clear c2
            try clear p2
            try clear c4
            try clear c4b0
            try clear c5
            try clear c6
            try clear c6b0
            try clear p6
            try clear c7
            try clear c7b0
            try clear p8
            try clear q8
            try clear hx8
            try clear c9
            try clear c9b0
            try clear c11
            try clear c11b0
            try clear c11b1
            try clear c12
            try clear c13
            try clear c13b0
            try clear p2
            try clear p6
            try clear p8
            try clear q8
            obtain ⟨x8_3, x9_3, rfl, rfl, HA, HK3, ⟨m3, rfl⟩⟩ := hrel
            cases gk with
            | zero => exact absurd HA.out (by simp [latinerref01_Decode.l0])
            | succ k3 =>
             have H := HA.out
             clear HA
             simp only [latinerref01_Decode.l0] at H
             by_cases c14 : x9_3 ≤ (wrap64 ((wrap64 (bt a0 a1)) - 128))
             ·rw [if_pos c14] at H
              have c14b0 : decide (x9_3 ≤ (wrap64 ((wrap64 (bt a0 a1)) - 128))) = true := decide_eq_true c14
              clear c14
              obtain ⟨ji15, hji15⟩ : ∃ j_ : Int, (wrap64 (a1 + x9_3)) = j_ := ⟨_, rfl⟩
              replace H : (if 0 ≤ (ji15) then (if (ji15) < (a0.size : Int) then (latinerref01_Decode.l0 k3 a0 a1 (wrap64 (bt a0 a1)) (wrap64 ((wrap64 (256 * x8_3)) + (wrap64 (bt a0 (ji15))))) (wrap64 (x9_3 + 1))) else (none)) else (none)) = some (r1, r2, r3) := by first | (rw [hji15] at H; exact H) | (simp only [hji15] at H ⊢; exact H)
              have hji15w : (IntKind.i64.wrap (a1 + x9_3)) = ji15 := (i64_w _).trans hji15
              by_cases c16 : 0 ≤ (ji15)
              ·rw [if_pos c16] at H
               have c16b0 : decide (0 ≤ (ji15)) = true := decide_eq_true c16
               clear c16
               by_cases c17 : (ji15) < (a0.size : Int)
               ·rw [if_pos c17] at H
                have c17b0 : decide ((ji15) < (a0.size : Int)) = true := decide_eq_true c17
                clear c17
                have H' := Aside0.mk H
                clear H
                have p18 : 0 ≤ ((ji15) : Int) := of_decide_eq_true q4_
                have q18 : (ji15) < (a0.size : Int) := of_decide_eq_true q4_
                have hx18 := bt_at a0 (ji15)
                replace p18 := eq_true p18
                replace q18 := eq_true q18
                go_wp2
                go_roundg k3
                case measure => have := HJ2.out; have := HJ9.out; have := HK3.out; omega
                case rel => exact ⟨(wrap64 ((wrap64 (256 * x8_3)) + (wrap64 (bt a0 (ji15))))), (wrap64 (x9_3 + 1)), (by first | rfl | (simp; done) | (simp only [← hji15] <;> (first | rfl | simp)) | (simp [*]; done)), q3_, H', ⟨by have := HJ2.out; have := HJ9.out; have := HK3.out; omega⟩, q14_⟩
               ·rw [if_neg c17] at H
                exact absurd H (by simp)
              ·rw [if_neg c16] at H
               exact absurd H (by simp)
             ·rw [if_neg c14] at H
              have c14b0 : decide (x9_3 ≤ (wrap64 ((wrap64 (bt a0 a1)) - 128))) = false := decide_eq_false c14
              clear c14
              by_cases c19 : x8_3 > 16777215
              ·rw [if_pos c19] at H
               have c19b0 : decide (16777215 < x8_3) = true := decide_eq_true c19
               clear c19
               simp only [Option.some.injEq, Prod.mk.injEq] at H
               obtain ⟨rfl, rfl, rfl⟩ := H
               go_wp2
               go_ret3
               exact ⟨q3_, q14_⟩
              ·rw [if_neg c19] at H
               have c19b0 : decide (16777215 < x8_3) = false := decide_eq_false c19
               clear c19
               simp only [Option.some.injEq, Prod.mk.injEq] at H
               obtain ⟨rfl, rfl, rfl⟩ := H
               go_wp2
               go_ret3
               exact ⟨q3_, q14_⟩
     ·rw [if_neg c7] at H
      exact absurd H (by simp)
    ·rw [if_neg c6] at H
     exact absurd H (by simp)
end Go.Proofs.YthnddhgkjkpmfaaDoor.LTlvC
/- The reference's lengths, plainly: as the program's. -/
namespace Go.Proofs.YthnddhgkjkpmfaaDoor.SizeQ
set_option linter.unusedSimpArgs false
set_option linter.unusedVariables false
open Go.RowKit Go.Proofs.YthnddhgkjkpmfaaDoor.Size Go.Proofs.YthnddhgkjkpmfaaDoorW.PrintWords Go.Proofs.YthnddhgkjkpmfaaDoorW.PrintLast Go.Proofs.YthnddhgkjkpmfaaDoor.LTlvC
theorem re_step {k : Nat} {n : Int} {acc : ByteArray} (h : 0 < n) (hm : n < 1099511627776) (ha : acc.size ≤ 100) :
    latinerref01_Encode.l0 (k + 1) n acc = latinerref01_Encode.l0 k (n / 256) (strOfNums [n % 256] ++ acc) := by
  simp only [latinerref01_Encode.l0]
  rw [if_pos h]
  simp only [Option.bind_some]
  rw [Int.tmod_eq_emod_of_nonneg (by omega), Int.tdiv_eq_ediv_of_nonneg (by omega), Int.emod_emod_of_dvd _ (by decide), if_pos (by rw [son_size]; simp; omega), w64' (by omega) (by omega)]
theorem re_end {k : Nat} {acc : ByteArray} (ha : acc.size ≤ 100) :
    latinerref01_Encode.l0 (k + 1) 0 acc = some (strOfNums [128 + (acc.size : Int)] ++ acc, 0) := by
  simp only [latinerref01_Encode.l0]
  rw [if_neg (by decide)]
  simp only [Option.bind_some]
  rw [if_pos (by rw [son_size]; simp; omega), w64' (by omega) (by omega), Int.emod_eq_of_lt (by omega) (by omega)]
theorem son_app1 (x : Int) (xs : List Int) : strOfNums [x] ++ strOfNums xs = strOfNums (x :: xs) := by apply ByteArray.ext; simp [strOfNums]
theorem ref_Encode (n : Int) (k : Nat) (hk : 20 ≤ k) : latinerref01_Encode.f k n = some (encS n, encE n) := by
  obtain ⟨k, rfl⟩ : ∃ q, k = q + 8 := ⟨k - 8, by omega⟩
  unfold latinerref01_Encode.f
  by_cases hb : n < 0 ∨ 16777215 < n
  · rw [(encS_bad hb).1, (encS_bad hb).2]
    by_cases h0 : n < 0
    · rw [if_pos h0]; simp [latinerref01_Encode.j0]
    · rw [if_neg h0, decide_eq_true (by omega)]; simp [latinerref01_Encode.j0]
  rw [if_neg (by omega), decide_eq_false (by omega), encE_ok hb]
  simp only [latinerref01_Encode.j0, Bool.false_eq_true, if_false]
  have e0 : ∀ m, strOfNums [m] ++ (⟨#[]⟩ : ByteArray) = strOfNums [m] := fun m => by apply ByteArray.ext; simp
  rcases enc_cases n hb with ⟨h1, e⟩ | ⟨h1, h2, e⟩ | ⟨h1, h2, e⟩ | ⟨h1, h2, e⟩
  · rw [if_pos h1, e, Int.emod_eq_of_lt (by omega) (by omega)]
  · rw [if_neg (by omega), re_step (by omega) (by omega) (by decide), e0, show n / 256 = 0 by omega, re_end (by rw [son_size]; show 1 ≤ 100; decide), son_size, son_app1, e]
    rfl
  · rw [if_neg (by omega), re_step (by omega) (by omega) (by decide), e0, re_step (by omega) (by omega) (by rw [son_size]; show 1 ≤ 100; decide), son_app1, show n / 256 / 256 = 0 by omega, re_end (by rw [son_size]; show 2 ≤ 100; decide), son_size, son_app1, e]
    rfl
  · rw [if_neg (by omega), re_step (by omega) (by omega) (by decide), e0, re_step (by omega) (by omega) (by rw [son_size]; show 1 ≤ 100; decide), son_app1, re_step (by omega) (by omega) (by rw [son_size]; show 2 ≤ 100; decide), son_app1, show n / 256 / 256 / 256 = 0 by omega, re_end (by rw [son_size]; show 3 ≤ 100; decide), son_size, son_app1, e,
      show n / 256 / 256 = n / 65536 by omega]
    rfl
theorem rd_step {k : Nat} {s : ByteArray} {i x7 x8 x9 : Int} (h9 : x9 ≤ x7 - 128) (b7 : 0 ≤ x7) (b7' : x7 ≤ 255) (b9 : 1 ≤ x9) (bi : 0 ≤ i) (hi : i + x9 < s.size) (hs : s.size ≤ 100000) (b8 : 0 ≤ x8) (b8' : x8 < 1099511627776) :
    latinerref01_Decode.l0 (k + 1) s i x7 x8 x9 = latinerref01_Decode.l0 k s i x7 (256 * x8 + bt s (i + x9)) (x9 + 1) := by
  have hb := bt_bd s (i + x9)
  simp only [latinerref01_Decode.l0]
  rw [w64' (n := x7 - 128) (by omega) (by omega), if_pos h9, w64' (n := i + x9) (by omega) (by omega), if_pos (by omega), if_pos hi, w64' (n := 256 * x8) (by omega) (by omega), w64' (n := bt s (i + x9)) (by omega) (by omega), w64' (n := x9 + 1) (by omega) (by omega), w64' (by omega) (by omega)]
theorem rd_end {k : Nat} {s : ByteArray} {i x7 x8 x9 : Int} (h9 : x7 - 128 < x9) (b7 : 0 ≤ x7) (b7' : x7 ≤ 255) (bi : 0 ≤ i) (hi : i ≤ 100000) :
    latinerref01_Decode.l0 (k + 1) s i x7 x8 x9 = some (if 16777215 < x8 then (0, 0, 12) else (x8, i + 1 + (x7 - 128), 0)) := by
  simp only [latinerref01_Decode.l0]
  rw [w64' (n := x7 - 128) (by omega) (by omega), if_neg (by omega)]
  by_cases h : 16777215 < x8
  · rw [if_pos h, if_pos h]
  · rw [if_neg h, if_neg h, w64' (n := i + 1) (by omega) (by omega), w64' (n := i + 1 + x7) (by omega) (by omega), w64' (by omega) (by omega), show i + 1 + x7 - 128 = i + 1 + (x7 - 128) by omega]
theorem rd_run (s : ByteArray) (i : Int) (hs : s.size ≤ 100000) (bi : 0 ≤ i) : ∀ (d k j : Nat) (m : Nat), j + d = m → m ≤ 4 → i + 1 + m ≤ s.size → d + 1 ≤ k →
    latinerref01_Decode.l0 k s i (128 + m) (vl s (i + 1) j) (j + 1) = some (if 16777215 < vl s (i + 1) m then (0, 0, 12) else (vl s (i + 1) m, i + 1 + (m : Int), 0)) := by
  intro d
  induction d with
  | zero =>
    intro k j m h1 h2 h3 h4
    obtain ⟨k, rfl⟩ : ∃ q, k = q + 1 := ⟨k - 1, by omega⟩
    obtain rfl : j = m := by omega
    rw [rd_end (by omega) (by omega) (by omega) bi (by omega), show (128 : Int) + j - 128 = j by omega]
  | succ d ih =>
    intro k j m h1 h2 h3 h4
    obtain ⟨k, rfl⟩ : ∃ q, k = q + 1 := ⟨k - 1, by omega⟩
    have hv := vl_bd s (i + 1) j
    have hv2 : vl s (i + 1) j < 4294967296 := by
      rcases (show j = 0 ∨ j = 1 ∨ j = 2 ∨ j = 3 by omega) with rfl | rfl | rfl | rfl
      · have : vl s (i + 1) 0 < 1 := hv.2; omega
      · have : vl s (i + 1) 1 < 256 := hv.2; omega
      · have : vl s (i + 1) 2 < 65536 := hv.2; omega
      · have : vl s (i + 1) 3 < 16777216 := hv.2; omega
    rw [rd_step (by omega) (by omega) (by omega) (by omega) bi (by omega) hs hv.1 (by omega)]
    have e : 256 * vl s (i + 1) j + bt s (i + (j + 1)) = vl s (i + 1) (j + 1) := by
      rw [vl_succ, show i + 1 + (j : Int) = i + (j + 1) by omega]; omega
    rw [e]
    exact ih k (j + 1) m (by omega) h2 h3 (by omega)
theorem ref_Decode (s : ByteArray) (i : Int) (hs : s.size ≤ 100000) (k : Nat) (hk : 20 ≤ k) : latinerref01_Decode.f k s i = some (decS s i) := by
  obtain ⟨k, rfl⟩ : ∃ q, k = q + 2 := ⟨k - 2, by omega⟩
  have hb := bt_bd s i
  have hin : 0 ≤ i → i < s.size → latinerref01_Decode.f (k + 2) s i = (if bt s i < 128 then some (bt s i, i + 1, 0) else if bt s i = 128 then latinerref01_Decode.j1 (k + 1) s i (bt s i) true else latinerref01_Decode.j1 (k + 1) s i (bt s i) (decide (bt s i > 132))) := by
    intro h0 h1
    unfold latinerref01_Decode.f
    rw [if_neg (by omega), decide_eq_false (by omega)]
    simp only [latinerref01_Decode.j0, Bool.false_eq_true, if_false]
    rw [if_pos h0, if_pos h1, w64' (n := bt s i) (by omega) (by omega), w64' (n := i + 1) (by omega) (by omega)]
  have hj1 : ∀ x, latinerref01_Decode.j1 (k + 1) s i x true = some (0, 0, 11) := fun x => by simp [latinerref01_Decode.j1]
  rcases dec_cases s i with ⟨e, h⟩ | ⟨h0, h1, h2, e⟩ | ⟨h0, h1, h2, e⟩ | ⟨h0, h1, h2, h3, h4, e⟩ | ⟨m, k1, k4, hm, h0, h1, h2, e⟩ | ⟨m, k1, k4, hm, h0, h1, h2, e⟩
  · rw [e]
    unfold latinerref01_Decode.f
    by_cases h0 : i < 0
    · rw [if_pos h0]; simp [latinerref01_Decode.j0]
    · rw [if_neg h0, decide_eq_true (by omega)]; simp [latinerref01_Decode.j0]
  · rw [e, hin h0 h1, if_pos h2]
  · rw [e, hin h0 h1, if_neg (by omega)]
    by_cases h3 : bt s i = 128
    · rw [if_pos h3, hj1]
    · rw [if_neg h3, decide_eq_true (by omega), hj1]
  · rw [e, hin h0 h1, if_neg (by omega), if_neg (by omega), decide_eq_false (by omega)]
    simp only [latinerref01_Decode.j1, Bool.false_eq_true, if_false]
    rw [w64' (n := (s.size : Int) - i) (by omega) (by omega), w64' (n := (s.size : Int) - i - 1) (by omega) (by omega), w64' (n := bt s i - 128) (by omega) (by omega), if_pos (by omega)]
  · rw [e, hin h0 (by omega), if_neg (by omega), if_neg (by omega), decide_eq_false (by omega)]
    simp only [latinerref01_Decode.j1, Bool.false_eq_true, if_false]
    rw [w64' (n := (s.size : Int) - i) (by omega) (by omega), w64' (n := (s.size : Int) - i - 1) (by omega) (by omega), w64' (n := bt s i - 128) (by omega) (by omega), if_neg (by omega), hm]
    have := rd_run s i hs h0 m k 0 m (by omega) k4 h1 (by omega)
    rw [vl0] at this
    have this : latinerref01_Decode.l0 k s i (128 + m) 0 1 = _ := this
    rw [this, if_pos h2]
  · rw [e, hin h0 (by omega), if_neg (by omega), if_neg (by omega), decide_eq_false (by omega)]
    simp only [latinerref01_Decode.j1, Bool.false_eq_true, if_false]
    rw [w64' (n := (s.size : Int) - i) (by omega) (by omega), w64' (n := (s.size : Int) - i - 1) (by omega) (by omega), w64' (n := bt s i - 128) (by omega) (by omega), if_neg (by omega), hm]
    have := rd_run s i hs h0 m k 0 m (by omega) k4 h1 (by omega)
    rw [vl0] at this
    have this : latinerref01_Decode.l0 k s i (128 + m) 0 1 = _ := this
    rw [this, if_neg (by omega)]
theorem ref_Size (n : Int) (k : Nat) (hk : 20 ≤ k) : latinerref01_Size.f k n = some (((encS n).size : Int), encE n) := by
  unfold latinerref01_Size.f
  rw [ref_Encode n k hk]
  rfl
end Go.Proofs.YthnddhgkjkpmfaaDoor.SizeQ
