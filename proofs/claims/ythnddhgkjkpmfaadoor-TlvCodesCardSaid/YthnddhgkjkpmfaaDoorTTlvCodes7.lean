/- TTlvCodes7: own texts of this seat, laid as one. -/
import Derived.Test.YthnddhgkjkpmfaaDoorTTlvCodes6
-- Written by this repo's own program over the kit's printer: YthnddhgkjkpmfaaDoor.LTlvC
namespace Go.Proofs.YthnddhgkjkpmfaaDoor.LTlvC
open Go.Proofs.YthnddhgkjkpmfaaDoor.ExtTlvC
open Go.Proofs.YthnddhgkjkpmfaaDoor.KTlv
open Go.RowKit Go.Proofs.YthnddhgkjkpmfaaDoorW.PrintWords Go.Proofs.YthnddhgkjkpmfaaDoorW.PrintLast Go.Proofs.YthnddhgkjkpmfaaDoorW.PrintMore
attribute [local go_sem] max2_int min2_int max_two min_two max_three min_three max_four min_four   -- for this text's walks alone
attribute [local go_sem] some_set
set_option linter.unusedVariables false
set_option linter.unusedSimpArgs false
variable {G : Gl}
mutual
def latinerref02_Same.j0 : Nat → Bool → Int → ByteArray → List (S24) → Int → ByteArray → List (S24) → Option (Bool)
 | 0, _, _, _, _, _, _, _ => none
 | k + 1, x26, x404000, x404001, x404002, x405000, x405001, x405002 => if x26 = true then (some false) else (latinerref02_Same.l0 k 0 x404000 x404001 x404002 x405000 x405001 x405002)
def latinerref02_Same.l0 : Nat → Int → Int → ByteArray → List (S24) → Int → ByteArray → List (S24) → Option (Bool)
 | 0, _, _, _, _, _, _, _ => none
 | k + 1, x5, x404000, x404001, x404002, x405000, x405001, x405002 => if x5 < (x404002.length : Int) then (if 0 ≤ x5 then (if x5 < (x405002.length : Int) then ((latinerref02_Same.f k ((rd_T24 x404002 x5).f0) ((rd_T24 x404002 x5).f1) ((rd_T24 x404002 x5).f2) ((rd_T24 x405002 x5).f0) ((rd_T24 x405002 x5).f1) ((rd_T24 x405002 x5).f2)).bind fun t407 => (if t407 = true then (latinerref02_Same.l0 k (wrap64 (x5 + 1)) x404000 x404001 x404002 x405000 x405001 x405002) else (some false))) else (none)) else (none)) else (some true)
def latinerref02_Same.f : Nat → Int → ByteArray → List (S24) → Int → ByteArray → List (S24) → Option (Bool)
 | 0, _, _, _, _, _, _ => none
 | k + 1, a0_0, a0_1, l0_2, a1_0, a1_1, l1_2 => if a0_0 = a1_0 then (if a0_1.toList = a1_1.toList then (latinerref02_Same.j0 k ((l0_2.length : Int) != (l1_2.length : Int)) a0_0 a0_1 l0_2 a1_0 a1_1 l1_2) else (latinerref02_Same.j0 k true a0_0 a0_1 l0_2 a1_0 a1_1 l1_2)) else (latinerref02_Same.j0 k true a0_0 a0_1 l0_2 a1_0 a1_1 l1_2)
end
def latinerref02_Same.T6 : Bool × List (List Nat × List Nat) := (true, [([], []), ([0], [0]), ([], []), ([1, 2], [1, 2]), ([3], [3]), ([], []), ([5], [5]), ([], []), ([6, 7], [6, 7]), ([8], [8]), ([4, 9], [4, 9]), ([10], [10])])
def latinerref02_Same.B6 : List Nat := [0, 1, 0, 7, 15, 0, 32, 0, 224, 480, 1023, 2047]
theorem latinerref02_Same.tab6 : rtab .any (opsOf Tryd.f24 6) = latinerref02_Same.T6 := by kernel_rfl
theorem latinerref02_Same.bits6 : waitsOk latinerref02_Same.T6.2 latinerref02_Same.B6 = true := by kernel_rfl
set_option maxHeartbeats 8000000 in
set_option maxRecDepth 100000 in
theorem latinerref02_Same.calls (k : Nat) : ∀ (a0_0 : Int) (a0_1 : ByteArray) (A0_2 : Option Addr) (c0_2 : Nat) (l0_2 : List (S24)) (a1_0 : Int) (a1_1 : ByteArray) (A1_2 : Option Addr) (c1_2 : Nat) (l1_2 : List (S24)) (r : Bool) (w : World) (hr0_2 : Kd.C k24 w A0_2 l0_2.length l0_2) (hc0_2 : l0_2.length ≤ c0_2) (hr1_2 : Kd.C k24 w A1_2 l1_2.length l1_2) (hc1_2 : l1_2.length ≤ c1_2) (h : latinerref02_Same.f k a0_0 a0_1 l0_2 a1_0 a1_1 l1_2 = some r),
  Calls Tryd.prog 24 #[.agg #[.int .i64 a0_0, .string a0_1, .slice A0_2 l0_2.length c0_2], .agg #[.int .i64 a1_0, .string a1_1, .slice A1_2 l1_2.length c1_2]] w fun e w' => e = .returned (.bool r) ∧ Below w.heap.size w w' := by
 induction k using Nat.strongRecOn with
 | _ k ih =>
 intro a0_0 a0_1 A0_2 c0_2 l0_2 a1_0 a1_1 A1_2 c1_2 l1_2 r w hr0_2 hc0_2 hr1_2 hc1_2 h
 cases k with
 | zero => exact absurd h (by simp [latinerref02_Same.f])
 | succ k =>
 simp only [latinerref02_Same.f] at h
 have hu24 := Tryd.underlying24
 have HR0_2 := Aside0.mk hr0_2
 have HC0_2 := Aside0.mk hc0_2
 clear hr0_2 hc0_2
 have HR1_2 := Aside0.mk hr1_2
 have HC1_2 := Aside0.mk hc1_2
 clear hr1_2 hc1_2
 have HB := Aside0.mk (Below.refl w.heap.size w)
 have H : (if a0_0 = a1_0 then (if a0_1.toList = a1_1.toList then (latinerref02_Same.j0 k ((l0_2.length : Int) != (l1_2.length : Int)) a0_0 a0_1 l0_2 a1_0 a1_1 l1_2) else (latinerref02_Same.j0 k true a0_0 a0_1 l0_2 a1_0 a1_1 l1_2)) else (latinerref02_Same.j0 k true a0_0 a0_1 l0_2 a1_0 a1_1 l1_2)) = some r := h
 clear h
 have HC3 := Aside0.mk H
 clear H
 go_enter Tryd.func24, Tryd.ntmps24
 go_upto_region 1 with (first | ((with_reducible refine gate_dst (N := 2) rfl ?_); (try (refine gate_guard (by rfl) ?_; dsimp only)); refine box_event ?hg (N := 2) ?hd (cs := #[.int .i64 a0_0, .string a0_1, .slice A0_2 l0_2.length c0_2]) (t := 24) ?hr ?_; (case hd => rfl); (case hg => rfl); (case hr => first | (go_simp; done) | (go_simp; rfl)); intro gb403 hg w4 hbox hb; have n0_ := Aside0.mk (below_step q0_ hb); have n1_ := Aside0.mk (hbox); have n2_ := Aside0.mk ((by rw [hg]; exact (below_size q0_) : w.heap.size ≤ gb403)); have n3_ := Aside0.mk ((by rw [hg]; exact (below_size q0_) : w.heap.size ≤ gb403)); clear HB; have HB := n0_; have BK403 := n1_; have GW403 := n2_; have GE403 := n3_; clear n0_ n1_ n2_ n3_; clear hb hbox hg) | ((with_reducible refine gate_dst (N := 3) rfl ?_); (try (refine gate_guard (by rfl) ?_; dsimp only)); refine box_event ?hg (N := 3) ?hd (cs := #[.int .i64 a1_0, .string a1_1, .slice A1_2 l1_2.length c1_2]) (t := 24) ?hr ?_; (case hd => rfl); (case hg => rfl); (case hr => first | (go_simp; done) | (go_simp; rfl)); intro gb404 hg w5 hbox hb; have n0_ := Aside0.mk (blk_below (g := gb403) (o := .cells #[.int .i64 a0_0, .string a0_1, .slice A0_2 l0_2.length c0_2] 24 (0, 0)) (bkq BK403.out) hb); have n1_ := Aside0.mk (below_step q0_ hb); have n2_ := Aside0.mk (hbox); have n3_ := Aside0.mk ((by rw [hg]; exact (below_size q0_) : w.heap.size ≤ gb404)); have n4_ := Aside0.mk ((by rw [hg]; exact (below_size q0_) : w.heap.size ≤ gb404)); have n5_ := Aside0.mk ((by rw [hg]; exact Nat.ne_of_lt (blk_lt (g := gb403) (o := .cells #[.int .i64 a0_0, .string a0_1, .slice A0_2 l0_2.length c0_2] 24 (0, 0)) (bkq BK403.out)) : gb403 ≠ gb404)); have n6_ := Aside0.mk ((by rw [hg]; exact Nat.ne_of_gt (blk_lt (g := gb403) (o := .cells #[.int .i64 a0_0, .string a0_1, .slice A0_2 l0_2.length c0_2] 24 (0, 0)) (bkq BK403.out)) : gb404 ≠ gb403)); clear BK403; clear HB; have BK403 := n0_; have HB := n1_; have BK404 := n2_; have GW404 := n3_; have GE404 := n4_; have NB403_404 := n5_; have NB404_403 := n6_; clear n0_ n1_ n2_ n3_ n4_ n5_ n6_; clear hb hbox hg))
 (try simp only [Act.put, List.setIfInBounds_toArray, List.set_cons_zero, List.set_cons_succ])
 go_cut [26] (fun v26 wc => ∃ (kq : Nat) (x26_2 : Bool), v26 = .bool x26_2 ∧ Aside0 (latinerref02_Same.j0 kq x26_2 a0_0 a0_1 l0_2 a1_0 a1_1 l1_2 = some r) ∧ Aside0 (kq ≤ k) ∧ Aside0 (wc.heap[gb403]? = some (.cells #[.int .i64 a0_0, .string a0_1, (.slice A0_2 l0_2.length c0_2)] 24 (0, 0))) ∧ Aside0 (wc.heap[gb404]? = some (.cells #[.int .i64 a1_0, .string a1_1, (.slice A1_2 l1_2.length c1_2)] 24 (0, 0))) ∧ Aside0 (Below w.heap.size w wc))
 case first =>
  have H := HC3.out
  clear HC3
  by_cases c6 : a0_0 = a1_0
  ·rw [if_pos c6] at H
   have c6b0 : (a0_0 == a1_0) = true := beq_iff_eq.mpr c6
   have c6b1 : (a0_0 != a1_0) = false := bne_eq_false_iff_eq.mpr c6
   clear c6
   (first | rw [c6b0] | (simp only [i64_w, i32_w]; rw [c6b0]) | skip)
   by_cases c7 : a0_1.toList = a1_1.toList
   ·rw [if_pos c7] at H
    have c7b0 : (a0_1.toList == a1_1.toList) = true := beq_iff_eq.mpr c7
    have c7b1 : (a0_1.toList != a1_1.toList) = false := bne_eq_false_iff_eq.mpr c7
    clear c7
    have H' := Aside0.mk H
    clear H
    have hnb8 := NB403_404.out
    have hnc8 := NB404_403.out
    have hcz9_0 : w5.cell? ⟨gb403, 0, none⟩ = some (.int .i64 a0_0) := (blk_cell BK403.out 0).trans rfl
    have hcz9_1 : w5.cell? ⟨gb403, 1, none⟩ = some (.string a0_1) := (blk_cell BK403.out 1).trans rfl
    have hcz9_2 : w5.cell? ⟨gb403, 2, none⟩ = some (.slice A0_2 l0_2.length c0_2) := (blk_cell BK403.out 2).trans rfl
    have hfz9_0 := blk_frozen BK403.out 0
    have hfz9_1 := blk_frozen BK403.out 1
    have hfz9_2 := blk_frozen BK403.out 2
    have hcz10_0 : w5.cell? ⟨gb404, 0, none⟩ = some (.int .i64 a1_0) := (blk_cell BK404.out 0).trans rfl
    have hcz10_1 : w5.cell? ⟨gb404, 1, none⟩ = some (.string a1_1) := (blk_cell BK404.out 1).trans rfl
    have hcz10_2 : w5.cell? ⟨gb404, 2, none⟩ = some (.slice A1_2 l1_2.length c1_2) := (blk_cell BK404.out 2).trans rfl
    have hfz10_0 := blk_frozen BK404.out 0
    have hfz10_1 := blk_frozen BK404.out 1
    have hfz10_2 := blk_frozen BK404.out 2
    go_wp2
    go_meet
    case rel => exact ⟨_, (((l0_2.length : Int) != (l1_2.length : Int))), q3_, H', ⟨q12_⟩, ⟨by refine bkq ?_; exact BK403.out⟩, ⟨by refine bkq ?_; exact BK404.out⟩, ⟨q0_⟩⟩
   ·rw [if_neg c7] at H
    have c7b0 : (a0_1.toList == a1_1.toList) = false := beq_eq_false_iff_ne.mpr c7
    have c7b1 : (a0_1.toList != a1_1.toList) = true := bne_iff_ne.mpr c7
    have H' := Aside0.mk H
    clear H
    have hnb11 := NB403_404.out
    have hnc11 := NB404_403.out
    have hcz12_0 : w5.cell? ⟨gb403, 0, none⟩ = some (.int .i64 a0_0) := (blk_cell BK403.out 0).trans rfl
    have hcz12_1 : w5.cell? ⟨gb403, 1, none⟩ = some (.string a0_1) := (blk_cell BK403.out 1).trans rfl
    have hcz12_2 : w5.cell? ⟨gb403, 2, none⟩ = some (.slice A0_2 l0_2.length c0_2) := (blk_cell BK403.out 2).trans rfl
    have hfz12_0 := blk_frozen BK403.out 0
    have hfz12_1 := blk_frozen BK403.out 1
    have hfz12_2 := blk_frozen BK403.out 2
    have hcz13_0 : w5.cell? ⟨gb404, 0, none⟩ = some (.int .i64 a1_0) := (blk_cell BK404.out 0).trans rfl
    have hcz13_1 : w5.cell? ⟨gb404, 1, none⟩ = some (.string a1_1) := (blk_cell BK404.out 1).trans rfl
    have hcz13_2 : w5.cell? ⟨gb404, 2, none⟩ = some (.slice A1_2 l1_2.length c1_2) := (blk_cell BK404.out 2).trans rfl
    have hfz13_0 := blk_frozen BK404.out 0
    have hfz13_1 := blk_frozen BK404.out 1
    have hfz13_2 := blk_frozen BK404.out 2
    go_wp2
    go_meet
    case rel => exact ⟨_, (true), q3_, H', ⟨q12_⟩, ⟨by refine bkq ?_; exact BK403.out⟩, ⟨by refine bkq ?_; exact BK404.out⟩, ⟨q0_⟩⟩
  ·rw [if_neg c6] at H
   have c6b0 : (a0_0 == a1_0) = false := beq_eq_false_iff_ne.mpr c6
   have c6b1 : (a0_0 != a1_0) = true := bne_iff_ne.mpr c6
   (first | rw [c6b0] | (simp only [i64_w, i32_w]; rw [c6b0]) | skip)
   have H' := Aside0.mk H
   clear H
   have hnb14 := NB403_404.out
   have hnc14 := NB404_403.out
   have hcz15_0 : w5.cell? ⟨gb403, 0, none⟩ = some (.int .i64 a0_0) := (blk_cell BK403.out 0).trans rfl
   have hcz15_1 : w5.cell? ⟨gb403, 1, none⟩ = some (.string a0_1) := (blk_cell BK403.out 1).trans rfl
   have hcz15_2 : w5.cell? ⟨gb403, 2, none⟩ = some (.slice A0_2 l0_2.length c0_2) := (blk_cell BK403.out 2).trans rfl
   have hfz15_0 := blk_frozen BK403.out 0
   have hfz15_1 := blk_frozen BK403.out 1
   have hfz15_2 := blk_frozen BK403.out 2
   have hcz16_0 : w5.cell? ⟨gb404, 0, none⟩ = some (.int .i64 a1_0) := (blk_cell BK404.out 0).trans rfl
   have hcz16_1 : w5.cell? ⟨gb404, 1, none⟩ = some (.string a1_1) := (blk_cell BK404.out 1).trans rfl
   have hcz16_2 : w5.cell? ⟨gb404, 2, none⟩ = some (.slice A1_2 l1_2.length c1_2) := (blk_cell BK404.out 2).trans rfl
   have hfz16_0 := blk_frozen BK404.out 0
   have hfz16_1 := blk_frozen BK404.out 1
   have hfz16_2 := blk_frozen BK404.out 2
   go_wp2
   go_meet
   case rel => exact ⟨_, (true), q3_, H', ⟨q12_⟩, ⟨by refine bkq ?_; exact BK403.out⟩, ⟨by refine bkq ?_; exact BK404.out⟩, ⟨q0_⟩⟩
 case rest =>
  clear HC3
  try clear c1
  try clear c2
  try clear p2
  try clear c6
  try clear c6b0
  try clear c6b1
  try clear c7
  try clear c7b0
  try clear c7b1
  try clear c8
  try clear c11
  try clear c14
  try clear hcz10_0
  try clear hcz10_1
  try clear hcz10_2
  try clear hcz12_0
  try clear hcz12_1
  try clear hcz12_2
  try clear hcz13_0
  try clear hcz13_1
  try clear hcz13_2
  try clear hcz15_0
  try clear hcz15_1
  try clear hcz15_2
  try clear hcz16_0
  try clear hcz16_1
  try clear hcz16_2
  try clear hcz9_0
  try clear hcz9_1
  try clear hcz9_2
  try clear hfz10_0
  try clear hfz10_1
  try clear hfz10_2
  try clear hfz12_0
  try clear hfz12_1
  try clear hfz12_2
  try clear hfz13_0
  try clear hfz13_1
  try clear hfz13_2
  try clear hfz15_0
  try clear hfz15_1
  try clear hfz15_2
  try clear hfz16_0
  try clear hfz16_1
  try clear hfz16_2
  try clear hfz9_0
  try clear hfz9_1
  try clear hfz9_2
  obtain ⟨kq, x26_2, rfl, HA, HJ2, BK403, BK404, HB⟩ := hcut
  cases kq with
  | zero => exact absurd HA.out (by simp [latinerref02_Same.j0])
  | succ kj2 =>
   have H := HA.out
   clear HA
   simp only [latinerref02_Same.j0] at H
   by_cases c17 : x26_2 = true
   ·subst c17
    have H1 : (some false) = some r := by rw [if_pos rfl] at H; exact H
    clear H
    have H := H1
    clear H1
    obtain rfl := Option.some.inj H
    go_wp2
    go_ret
    exact ⟨q2_, q0_⟩
   ·replace c17 := Bool.eq_false_iff.mpr c17
    subst c17
    have H1 : (latinerref02_Same.l0 kj2 0 a0_0 a0_1 l0_2 a1_0 a1_1 l1_2) = some r := by rw [if_neg (show ¬ (false = true) by decide)] at H; exact H
    clear H
    have H := H1
    clear H1
    have H' := Aside0.mk H
    clear H
    go_wp2
    go_loopg [5] kj2 (fun kq v5 w' => ∃ (x5_2 : Int), v5 = .int .i64 x5_2 ∧ Aside0 (latinerref02_Same.l0 kq x5_2 a0_0 a0_1 l0_2 a1_0 a1_1 l1_2 = some r) ∧ Aside0 (kq ≤ kj2) ∧ Aside0 (w'.heap[gb403]? = some (.cells #[.int .i64 a0_0, .string a0_1, (.slice A0_2 l0_2.length c0_2)] 24 (0, 0))) ∧ Aside0 (w'.heap[gb404]? = some (.cells #[.int .i64 a1_0, .string a1_1, (.slice A1_2 l1_2.length c1_2)] 24 (0, 0))) ∧ Aside0 (Below w.heap.size w w'))
    case atStart => exact ⟨(0), q3_, H', ⟨Nat.le_refl _⟩, ⟨by refine bkq ?_; exact BK403.out⟩, ⟨by refine bkq ?_; exact BK404.out⟩, ⟨q0_⟩⟩
    case round =>
     clear H'
     try clear c1
     try clear c2
     try clear p2
     try clear c6
     try clear c6b0
     try clear c6b1
     try clear c7
     try clear c7b0
     try clear c7b1
     try clear c8
     try clear c11
     try clear c14
     try clear c17
     try clear hcz10_0
     try clear hcz10_1
     try clear hcz10_2
     try clear hcz12_0
     try clear hcz12_1
     try clear hcz12_2
     try clear hcz13_0
     try clear hcz13_1
     try clear hcz13_2
     try clear hcz15_0
     try clear hcz15_1
     try clear hcz15_2
     try clear hcz16_0
     try clear hcz16_1
     try clear hcz16_2
     try clear hcz9_0
     try clear hcz9_1
     try clear hcz9_2
     try clear hfz10_0
     try clear hfz10_1
     try clear hfz10_2
     try clear hfz12_0
     try clear hfz12_1
     try clear hfz12_2
     try clear hfz13_0
     try clear hfz13_1
     try clear hfz13_2
     try clear hfz15_0
     try clear hfz15_1
     try clear hfz15_2
     try clear hfz16_0
     try clear hfz16_1
     try clear hfz16_2
     try clear hfz9_0
     try clear hfz9_1
     try clear hfz9_2
     try clear p2
     obtain ⟨x5_2, rfl, HA, HK2, BK403, BK404, HB⟩ := hrel
     cases gk with
     | zero => exact absurd HA.out (by simp [latinerref02_Same.l0])
     | succ k2 =>
      have H := HA.out
      clear HA
      simp only [latinerref02_Same.l0] at H
      by_cases c18 : x5_2 < (l0_2.length : Int)
      ·rw [if_pos c18] at H
       have c18b0 : decide (x5_2 < (l0_2.length : Int)) = true := decide_eq_true c18
       clear c18
       by_cases c19 : 0 ≤ x5_2
       ·rw [if_pos c19] at H
        have c19b0 : decide (0 ≤ x5_2) = true := decide_eq_true c19
        clear c19
        by_cases c20 : x5_2 < (l1_2.length : Int)
        ·rw [if_pos c20] at H
         have c20b0 : decide (x5_2 < (l1_2.length : Int)) = true := decide_eq_true c20
         clear c20
         replace H := Option.bind_eq_some_iff.mp H
         obtain ⟨t407, A210, H⟩ := H
         replace H : (if t407 = true then (latinerref02_Same.l0 k2 (wrap64 (x5_2 + 1)) a0_0 a0_1 l0_2 a1_0 a1_1 l1_2) else (some false)) = some r := H
         have A21 := Aside0.mk A210
         clear A210
         by_cases c22 : t407 = true
         ·subst c22
          have H1 : (latinerref02_Same.l0 k2 (wrap64 (x5_2 + 1)) a0_0 a0_1 l0_2 a1_0 a1_1 l1_2) = some r := by rw [if_pos rfl] at H; exact H
          clear H
          have H := H1
          clear H1
          have H' := Aside0.mk H
          clear H
          have hnb23 := NB403_404.out
          have hnc23 := NB404_403.out
          have hcz24_0 : wr.cell? ⟨gb403, 0, none⟩ = some (.int .i64 a0_0) := (blk_cell BK403.out 0).trans rfl
          have hcz24_1 : wr.cell? ⟨gb403, 1, none⟩ = some (.string a0_1) := (blk_cell BK403.out 1).trans rfl
          have hcz24_2 : wr.cell? ⟨gb403, 2, none⟩ = some (.slice A0_2 l0_2.length c0_2) := (blk_cell BK403.out 2).trans rfl
          have hfz24_0 := blk_frozen BK403.out 0
          have hfz24_1 := blk_frozen BK403.out 1
          have hfz24_2 := blk_frozen BK403.out 2
          try go_wp2
          have n0_ := Aside0.mk (blk_drew BK403.out)
          have n1_ := Aside0.mk (blk_drew BK404.out)
          have n2_ := Aside0.mk (below_drew1 HB.out)
          clear BK403
          clear BK404
          clear HB
          have BK403 := n0_
          have BK404 := n1_
          have HB := n2_
          clear n0_ n1_ n2_
          have p405 : 0 ≤ (x5_2 : Int) := of_decide_eq_true q4_
          have q405 : x5_2 < (l0_2.length : Int) := of_decide_eq_true q4_
          obtain ⟨ad405, A405_2, c405_2, e405, hx405_0, hx405_1, hx405_2, hl405_2, hi405_2⟩ := at_T24 HR0_2.out x5_2 p405 q405
          have hw405_2 := hx405_2
          have hw405_1 := hx405_1
          have hw405_0 := hx405_0
          cases e405
          replace hx405_0 := (HB.out.cell (World.block_lt_of_cell? w _ hx405_0)).trans hx405_0
          replace hx405_1 := (HB.out.cell (World.block_lt_of_cell? w _ hx405_1)).trans hx405_1
          replace hx405_2 := (HB.out.cell (World.block_lt_of_cell? w _ hx405_2)).trans hx405_2
          have HR405_2 := Aside0.mk hi405_2
          have HC405_2 := Aside0.mk hl405_2
          clear hi405_2 hl405_2
          replace p405 := eq_true p405
          replace q405 := eq_true q405
          have p406 : 0 ≤ (x5_2 : Int) := of_decide_eq_true q4_
          have q406 : x5_2 < (l1_2.length : Int) := of_decide_eq_true q4_
          obtain ⟨ad406, A406_2, c406_2, e406, hx406_0, hx406_1, hx406_2, hl406_2, hi406_2⟩ := at_T24 HR1_2.out x5_2 p406 q406
          have hw406_2 := hx406_2
          have hw406_1 := hx406_1
          have hw406_0 := hx406_0
          cases e406
          replace hx406_0 := (HB.out.cell (World.block_lt_of_cell? w _ hx406_0)).trans hx406_0
          replace hx406_1 := (HB.out.cell (World.block_lt_of_cell? w _ hx406_1)).trans hx406_1
          replace hx406_2 := (HB.out.cell (World.block_lt_of_cell? w _ hx406_2)).trans hx406_2
          have HR406_2 := Aside0.mk hi406_2
          have HC406_2 := Aside0.mk hl406_2
          clear hi406_2 hl406_2
          replace p406 := eq_true p406
          replace q406 := eq_true q406
          refine start_ (n := 12) (S := fun w' => w'.cell? ⟨gb403, 0, none⟩ = some (.int .i64 a0_0) ∧ w'.cell? ⟨gb403, 1, none⟩ = some (.string a0_1) ∧ w'.cell? ⟨gb403, 2, none⟩ = some (.slice (some ad405) l0_2.length c0_2) ∧ w'.cell? ⟨gb404, 0, none⟩ = some (.int .i64 a1_0) ∧ w'.cell? ⟨gb404, 1, none⟩ = some (.string a1_1) ∧ w'.cell? ⟨gb404, 2, none⟩ = some (.slice (some ad406) l1_2.length c1_2) ∧ w'.cell? (ad405.add ((x5_2).toNat * 3)) = some (.int .i64 ((rd_T24 l0_2 x5_2).f0)) ∧ w'.cell? ⟨(ad405.add ((x5_2).toNat * 3)).block, (ad405.add ((x5_2).toNat * 3)).off + 1, none⟩ = some (.string ((rd_T24 l0_2 x5_2).f1)) ∧ w'.cell? ⟨(ad405.add ((x5_2).toNat * 3)).block, (ad405.add ((x5_2).toNat * 3)).off + 2, none⟩ = some (.slice A405_2 ((rd_T24 l0_2 x5_2).f2).length c405_2) ∧ w'.cell? (ad406.add ((x5_2).toNat * 3)) = some (.int .i64 ((rd_T24 l1_2 x5_2).f0)) ∧ w'.cell? ⟨(ad406.add ((x5_2).toNat * 3)).block, (ad406.add ((x5_2).toNat * 3)).off + 1, none⟩ = some (.string ((rd_T24 l1_2 x5_2).f1)) ∧ w'.cell? ⟨(ad406.add ((x5_2).toNat * 3)).block, (ad406.add ((x5_2).toNat * 3)).off + 2, none⟩ = some (.slice A406_2 ((rd_T24 l1_2 x5_2).f2).length c406_2)) (ds := []) #[false, false, false, false, false, false, false, false, false, false, false, false] (by kernel_rfl) rfl rfl ⟨(blk_cell BK403.out 0).trans rfl, (blk_cell BK403.out 1).trans rfl, (blk_cell BK403.out 2).trans rfl, (blk_cell BK404.out 0).trans rfl, (blk_cell BK404.out 1).trans rfl, (blk_cell BK404.out 2).trans rfl, ((HB.out.cell (World.block_lt_of_cell? w _ hw405_0)).trans hw405_0), ((HB.out.cell (World.block_lt_of_cell? w _ hw405_1)).trans hw405_1), ((HB.out.cell (World.block_lt_of_cell? w _ hw405_2)).trans hw405_2), ((HB.out.cell (World.block_lt_of_cell? w _ hw406_0)).trans hw406_0), ((HB.out.cell (World.block_lt_of_cell? w _ hw406_1)).trans hw406_1), ((HB.out.cell (World.block_lt_of_cell? w _ hw406_2)).trans hw406_2)⟩ (fun hHeld => ?_); refine with_tabW latinerref02_Same.tab6 latinerref02_Same.bits6 (fun HT_ HW_ => ?_)
          generalize wr.drew = w25 at BK403 BK404 HB HR405_2 HR406_2 hx405_0 hx405_1 hx405_2 hx406_0 hx406_1 hx406_2 hHeld ⊢
          refine p_ 0 (some 34) ?_
          refine p_ 2 (some 36) ?_
          refine p_ 5 (some 39) ?_
          refine p_ 7 (some 41) ?_
          refine t4_ 1 (some 35) ?_
          refine p_ 3 (some 37) ?_
          refine t4_ 4 (some 38) ?_
          refine t4_ 6 (some 40) ?_
          refine p_ 8 (some 42) ?_
          refine t4_ 9 (some 43) ?_
          refine one_ (i := 10) (N := some 44) #[true, true, true, true, true, true, true, true, true, true, true, false] rfl rfl (one_of HT_.out (by kernel_rfl)) (by decide) (fun K hK => ?_)
          refine goes_ Tryd.func24 (by kernel_rfl) rfl #[.agg #[.int .i64 ((rd_T24 l0_2 x5_2).f0), .string ((rd_T24 l0_2 x5_2).f1), .slice A405_2 ((rd_T24 l0_2 x5_2).f2).length c405_2], .agg #[.int .i64 ((rd_T24 l1_2 x5_2).f0), .string ((rd_T24 l1_2 x5_2).f1), .slice A406_2 ((rd_T24 l1_2 x5_2).f2).length c406_2]] (by rfl) rfl rfl argq ?_
          with_reducible refine (ih k2 (by have := HJ2.out; have := HK2.out; omega) ((rd_T24 l0_2 x5_2).f0) ((rd_T24 l0_2 x5_2).f1) _ _ ((rd_T24 l0_2 x5_2).f2) ((rd_T24 l1_2 x5_2).f0) ((rd_T24 l1_2 x5_2).f1) _ _ ((rd_T24 l1_2 x5_2).f2) true _ ?side1 ?side2 ?side3 ?side4 A21.out).mono ?_
          (case side1 => repeat (first | exact (Kd.C_below HR405_2.out HB.out) | (with_reducible refine Kd.C_alloc ?_ _) | (with_reducible refine Kd.C_drewN ?_ _) | (with_reducible refine Kd.C_drew ?_)))
          (case side2 => exact HC405_2.out)
          (case side3 => repeat (first | exact (Kd.C_below HR406_2.out HB.out) | (with_reducible refine Kd.C_alloc ?_ _) | (with_reducible refine Kd.C_drewN ?_ _) | (with_reducible refine Kd.C_drew ?_)))
          (case side4 => exact HC406_2.out)
          rintro e w26 ⟨rfl, hb⟩
          refine ⟨_, rfl, ?_⟩
          have n0_ := Aside0.mk (blk_below (g := gb403) (o := .cells #[.int .i64 a0_0, .string a0_1, .slice (some ad405) l0_2.length c0_2] 24 (0, 0)) (bkq BK403.out) hb)
          have n1_ := Aside0.mk (blk_below (g := gb404) (o := .cells #[.int .i64 a1_0, .string a1_1, .slice (some ad406) l1_2.length c1_2] 24 (0, 0)) (bkq BK404.out) hb)
          have n2_ := Aside0.mk (below_step q0_ hb)
          clear BK403
          clear BK404
          clear HB
          have BK403 := n0_
          have BK404 := n1_
          have HB := n2_
          clear n0_ n1_ n2_
          (try clear hb)
          (try clear hb2)
          (try clear hk)
          (try clear hi)
          refine hK.out _ _ ⟨(blk_cell BK403.out 0).trans rfl, (blk_cell BK403.out 1).trans rfl, (blk_cell BK403.out 2).trans rfl, (blk_cell BK404.out 0).trans rfl, (blk_cell BK404.out 1).trans rfl, (blk_cell BK404.out 2).trans rfl, ((HB.out.cell (World.block_lt_of_cell? w _ hw405_0)).trans hw405_0), ((HB.out.cell (World.block_lt_of_cell? w _ hw405_1)).trans hw405_1), ((HB.out.cell (World.block_lt_of_cell? w _ hw405_2)).trans hw405_2), ((HB.out.cell (World.block_lt_of_cell? w _ hw406_0)).trans hw406_0), ((HB.out.cell (World.block_lt_of_cell? w _ hw406_1)).trans hw406_1), ((HB.out.cell (World.block_lt_of_cell? w _ hw406_2)).trans hw406_2)⟩ (fun hHeld => ?_)
          clear hK K
          refine norm_ (a' := ?_) ?_ ?_
          rotate_left
          ·show Act.put _ (some 44) _ = _
           exact putq
          refine p_ 11 (some 45) ?_
          refine done_ (done_of HT_.out (by kernel_rfl)) ?_
          try go_wp2
          go_roundg k2
          case measure => have := HJ2.out; have := HK2.out; omega
          case rel => exact ⟨(wrap64 (x5_2 + 1)), q3_, H', ⟨by have := HJ2.out; have := HK2.out; omega⟩, ⟨by refine bkq ?_; exact BK403.out⟩, ⟨by refine bkq ?_; exact BK404.out⟩, ⟨q0_⟩⟩
         ·replace c22 := Bool.eq_false_iff.mpr c22
          subst c22
          have H1 : (some false) = some r := by rw [if_neg (show ¬ (false = true) by decide)] at H; exact H
          clear H
          have H := H1
          clear H1
          obtain rfl := Option.some.inj H
          have hnb27 := NB403_404.out
          have hnc27 := NB404_403.out
          have hcz28_0 : wr.cell? ⟨gb403, 0, none⟩ = some (.int .i64 a0_0) := (blk_cell BK403.out 0).trans rfl
          have hcz28_1 : wr.cell? ⟨gb403, 1, none⟩ = some (.string a0_1) := (blk_cell BK403.out 1).trans rfl
          have hcz28_2 : wr.cell? ⟨gb403, 2, none⟩ = some (.slice A0_2 l0_2.length c0_2) := (blk_cell BK403.out 2).trans rfl
          have hfz28_0 := blk_frozen BK403.out 0
          have hfz28_1 := blk_frozen BK403.out 1
          have hfz28_2 := blk_frozen BK403.out 2
          try go_wp2
          have n0_ := Aside0.mk (blk_drew BK403.out)
          have n1_ := Aside0.mk (blk_drew BK404.out)
          have n2_ := Aside0.mk (below_drew1 HB.out)
          clear BK403
          clear BK404
          clear HB
          have BK403 := n0_
          have BK404 := n1_
          have HB := n2_
          clear n0_ n1_ n2_
          have p405 : 0 ≤ (x5_2 : Int) := of_decide_eq_true q4_
          have q405 : x5_2 < (l0_2.length : Int) := of_decide_eq_true q4_
          obtain ⟨ad405, A405_2, c405_2, e405, hx405_0, hx405_1, hx405_2, hl405_2, hi405_2⟩ := at_T24 HR0_2.out x5_2 p405 q405
          have hw405_2 := hx405_2
          have hw405_1 := hx405_1
          have hw405_0 := hx405_0
          cases e405
          replace hx405_0 := (HB.out.cell (World.block_lt_of_cell? w _ hx405_0)).trans hx405_0
          replace hx405_1 := (HB.out.cell (World.block_lt_of_cell? w _ hx405_1)).trans hx405_1
          replace hx405_2 := (HB.out.cell (World.block_lt_of_cell? w _ hx405_2)).trans hx405_2
          have HR405_2 := Aside0.mk hi405_2
          have HC405_2 := Aside0.mk hl405_2
          clear hi405_2 hl405_2
          replace p405 := eq_true p405
          replace q405 := eq_true q405
          have p406 : 0 ≤ (x5_2 : Int) := of_decide_eq_true q4_
          have q406 : x5_2 < (l1_2.length : Int) := of_decide_eq_true q4_
          obtain ⟨ad406, A406_2, c406_2, e406, hx406_0, hx406_1, hx406_2, hl406_2, hi406_2⟩ := at_T24 HR1_2.out x5_2 p406 q406
          have hw406_2 := hx406_2
          have hw406_1 := hx406_1
          have hw406_0 := hx406_0
          cases e406
          replace hx406_0 := (HB.out.cell (World.block_lt_of_cell? w _ hx406_0)).trans hx406_0
          replace hx406_1 := (HB.out.cell (World.block_lt_of_cell? w _ hx406_1)).trans hx406_1
          replace hx406_2 := (HB.out.cell (World.block_lt_of_cell? w _ hx406_2)).trans hx406_2
          have HR406_2 := Aside0.mk hi406_2
          have HC406_2 := Aside0.mk hl406_2
          clear hi406_2 hl406_2
          replace p406 := eq_true p406
          replace q406 := eq_true q406
          refine start_ (n := 12) (S := fun w' => w'.cell? ⟨gb403, 0, none⟩ = some (.int .i64 a0_0) ∧ w'.cell? ⟨gb403, 1, none⟩ = some (.string a0_1) ∧ w'.cell? ⟨gb403, 2, none⟩ = some (.slice (some ad405) l0_2.length c0_2) ∧ w'.cell? ⟨gb404, 0, none⟩ = some (.int .i64 a1_0) ∧ w'.cell? ⟨gb404, 1, none⟩ = some (.string a1_1) ∧ w'.cell? ⟨gb404, 2, none⟩ = some (.slice (some ad406) l1_2.length c1_2) ∧ w'.cell? (ad405.add ((x5_2).toNat * 3)) = some (.int .i64 ((rd_T24 l0_2 x5_2).f0)) ∧ w'.cell? ⟨(ad405.add ((x5_2).toNat * 3)).block, (ad405.add ((x5_2).toNat * 3)).off + 1, none⟩ = some (.string ((rd_T24 l0_2 x5_2).f1)) ∧ w'.cell? ⟨(ad405.add ((x5_2).toNat * 3)).block, (ad405.add ((x5_2).toNat * 3)).off + 2, none⟩ = some (.slice A405_2 ((rd_T24 l0_2 x5_2).f2).length c405_2) ∧ w'.cell? (ad406.add ((x5_2).toNat * 3)) = some (.int .i64 ((rd_T24 l1_2 x5_2).f0)) ∧ w'.cell? ⟨(ad406.add ((x5_2).toNat * 3)).block, (ad406.add ((x5_2).toNat * 3)).off + 1, none⟩ = some (.string ((rd_T24 l1_2 x5_2).f1)) ∧ w'.cell? ⟨(ad406.add ((x5_2).toNat * 3)).block, (ad406.add ((x5_2).toNat * 3)).off + 2, none⟩ = some (.slice A406_2 ((rd_T24 l1_2 x5_2).f2).length c406_2)) (ds := []) #[false, false, false, false, false, false, false, false, false, false, false, false] (by kernel_rfl) rfl rfl ⟨(blk_cell BK403.out 0).trans rfl, (blk_cell BK403.out 1).trans rfl, (blk_cell BK403.out 2).trans rfl, (blk_cell BK404.out 0).trans rfl, (blk_cell BK404.out 1).trans rfl, (blk_cell BK404.out 2).trans rfl, ((HB.out.cell (World.block_lt_of_cell? w _ hw405_0)).trans hw405_0), ((HB.out.cell (World.block_lt_of_cell? w _ hw405_1)).trans hw405_1), ((HB.out.cell (World.block_lt_of_cell? w _ hw405_2)).trans hw405_2), ((HB.out.cell (World.block_lt_of_cell? w _ hw406_0)).trans hw406_0), ((HB.out.cell (World.block_lt_of_cell? w _ hw406_1)).trans hw406_1), ((HB.out.cell (World.block_lt_of_cell? w _ hw406_2)).trans hw406_2)⟩ (fun hHeld => ?_); refine with_tabW latinerref02_Same.tab6 latinerref02_Same.bits6 (fun HT_ HW_ => ?_)
          generalize wr.drew = w29 at BK403 BK404 HB HR405_2 HR406_2 hx405_0 hx405_1 hx405_2 hx406_0 hx406_1 hx406_2 hHeld ⊢
          refine p_ 0 (some 34) ?_
          refine p_ 2 (some 36) ?_
          refine p_ 5 (some 39) ?_
          refine p_ 7 (some 41) ?_
          refine t4_ 1 (some 35) ?_
          refine p_ 3 (some 37) ?_
          refine t4_ 4 (some 38) ?_
          refine t4_ 6 (some 40) ?_
          refine p_ 8 (some 42) ?_
          refine t4_ 9 (some 43) ?_
          refine one_ (i := 10) (N := some 44) #[true, true, true, true, true, true, true, true, true, true, true, false] rfl rfl (one_of HT_.out (by kernel_rfl)) (by decide) (fun K hK => ?_)
          refine goes_ Tryd.func24 (by kernel_rfl) rfl #[.agg #[.int .i64 ((rd_T24 l0_2 x5_2).f0), .string ((rd_T24 l0_2 x5_2).f1), .slice A405_2 ((rd_T24 l0_2 x5_2).f2).length c405_2], .agg #[.int .i64 ((rd_T24 l1_2 x5_2).f0), .string ((rd_T24 l1_2 x5_2).f1), .slice A406_2 ((rd_T24 l1_2 x5_2).f2).length c406_2]] (by rfl) rfl rfl argq ?_
          with_reducible refine (ih k2 (by have := HJ2.out; have := HK2.out; omega) ((rd_T24 l0_2 x5_2).f0) ((rd_T24 l0_2 x5_2).f1) _ _ ((rd_T24 l0_2 x5_2).f2) ((rd_T24 l1_2 x5_2).f0) ((rd_T24 l1_2 x5_2).f1) _ _ ((rd_T24 l1_2 x5_2).f2) false _ ?side1 ?side2 ?side3 ?side4 A21.out).mono ?_
          (case side1 => repeat (first | exact (Kd.C_below HR405_2.out HB.out) | (with_reducible refine Kd.C_alloc ?_ _) | (with_reducible refine Kd.C_drewN ?_ _) | (with_reducible refine Kd.C_drew ?_)))
          (case side2 => exact HC405_2.out)
          (case side3 => repeat (first | exact (Kd.C_below HR406_2.out HB.out) | (with_reducible refine Kd.C_alloc ?_ _) | (with_reducible refine Kd.C_drewN ?_ _) | (with_reducible refine Kd.C_drew ?_)))
          (case side4 => exact HC406_2.out)
          rintro e w30 ⟨rfl, hb⟩
          refine ⟨_, rfl, ?_⟩
          have n0_ := Aside0.mk (blk_below (g := gb403) (o := .cells #[.int .i64 a0_0, .string a0_1, .slice (some ad405) l0_2.length c0_2] 24 (0, 0)) (bkq BK403.out) hb)
          have n1_ := Aside0.mk (blk_below (g := gb404) (o := .cells #[.int .i64 a1_0, .string a1_1, .slice (some ad406) l1_2.length c1_2] 24 (0, 0)) (bkq BK404.out) hb)
          have n2_ := Aside0.mk (below_step q0_ hb)
          clear BK403
          clear BK404
          clear HB
          have BK403 := n0_
          have BK404 := n1_
          have HB := n2_
          clear n0_ n1_ n2_
          (try clear hb)
          (try clear hb2)
          (try clear hk)
          (try clear hi)
          refine hK.out _ _ ⟨(blk_cell BK403.out 0).trans rfl, (blk_cell BK403.out 1).trans rfl, (blk_cell BK403.out 2).trans rfl, (blk_cell BK404.out 0).trans rfl, (blk_cell BK404.out 1).trans rfl, (blk_cell BK404.out 2).trans rfl, ((HB.out.cell (World.block_lt_of_cell? w _ hw405_0)).trans hw405_0), ((HB.out.cell (World.block_lt_of_cell? w _ hw405_1)).trans hw405_1), ((HB.out.cell (World.block_lt_of_cell? w _ hw405_2)).trans hw405_2), ((HB.out.cell (World.block_lt_of_cell? w _ hw406_0)).trans hw406_0), ((HB.out.cell (World.block_lt_of_cell? w _ hw406_1)).trans hw406_1), ((HB.out.cell (World.block_lt_of_cell? w _ hw406_2)).trans hw406_2)⟩ (fun hHeld => ?_)
          clear hK K
          refine norm_ (a' := ?_) ?_ ?_
          rotate_left
          ·show Act.put _ (some 44) _ = _
           exact putq
          refine p_ 11 (some 45) ?_
          refine done_ (done_of HT_.out (by kernel_rfl)) ?_
          try go_wp2
          go_ret
          exact ⟨q2_, q0_⟩
        ·rw [if_neg c20] at H
         exact absurd H (by simp)
       ·rw [if_neg c19] at H
        exact absurd H (by simp)
      ·rw [if_neg c18] at H
       have c18b0 : decide (x5_2 < (l0_2.length : Int)) = false := decide_eq_false c18
       clear c18
       obtain rfl := Option.some.inj H
       have hnb31 := NB403_404.out
       have hnc31 := NB404_403.out
       have hcz32_0 : wr.cell? ⟨gb403, 0, none⟩ = some (.int .i64 a0_0) := (blk_cell BK403.out 0).trans rfl
       have hcz32_1 : wr.cell? ⟨gb403, 1, none⟩ = some (.string a0_1) := (blk_cell BK403.out 1).trans rfl
       have hcz32_2 : wr.cell? ⟨gb403, 2, none⟩ = some (.slice A0_2 l0_2.length c0_2) := (blk_cell BK403.out 2).trans rfl
       have hfz32_0 := blk_frozen BK403.out 0
       have hfz32_1 := blk_frozen BK403.out 1
       have hfz32_2 := blk_frozen BK403.out 2
       go_wp2
       go_ret
       exact ⟨q2_, q0_⟩
end Go.Proofs.YthnddhgkjkpmfaaDoor.LTlvC
/- The reference's trees, plainly: which are right, their bytes, which are the same: as the program's. -/
namespace Go.Proofs.YthnddhgkjkpmfaaDoor
set_option linter.unusedSimpArgs false
set_option linter.unusedVariables false
namespace Tlv
open Go.RowKit Go.Proofs.YthnddhgkjkpmfaaDoorW.PrintWords Go.Proofs.YthnddhgkjkpmfaaDoorW.PrintMore Go.Proofs.YthnddhgkjkpmfaaDoor.PureB Go.Proofs.YthnddhgkjkpmfaaDoor.KTlv Go.Proofs.YthnddhgkjkpmfaaDoor.ExtTlvC Go.Proofs.YthnddhgkjkpmfaaDoor.LTlvC
theorem wrap_add (a b : Int) : wrap64 (wrap64 a + wrap64 b) = wrap64 (a + b) := by unfold wrap64; omega
theorem preL_drop {d : Int} {ks : List Nd} {i : Nat} (h : i < ks.length) : preL d (ks.drop i) = pre d ks[i] ++ preL d (ks.drop (i + 1)) := by rw [List.drop_eq_getElem_cons h, preL]
theorem laidL_take {ks : List Nd} {i : Nat} (h : i < ks.length) : laidL (ks.take (i + 1)) = laidL (ks.take i) ++ laid ks[i] := by
  rw [List.take_add_one, List.getElem?_eq_getElem h, laidL_app]
  show laidL (ks.take i) ++ (laid ks[i] ++ laidL []) = _
  rw [laidL, app_nil]
theorem laidL_split (ks : List Nd) (i : Nat) : (laidL ks).size = (laidL (ks.take i)).size + (laidL (ks.drop i)).size := by
  have := congrArg ByteArray.size (show laidL ks = laidL (ks.take i) ++ laidL (ks.drop i) by rw [← laidL_app, List.take_append_drop])
  rwa [ByteArray.size_append] at this
theorem mem_size {t : Int} {b : ByteArray} {ks : List Nd} {m : Nat} (hx : SizeOf.sizeOf (⟨t, b, ks⟩ : Nd) < m + 1) {y : Nd} (hy : y ∈ ks) : SizeOf.sizeOf y < m := by
  have := List.sizeOf_lt_of_mem hy
  simp only [S24.mk.sizeOf_spec] at hx
  omega
theorem len_le_laid : ∀ (m : Nat) (x : Nd), SizeOf.sizeOf x < m → ∀ d, (pre d x).length ≤ (laid x).size := by
  intro m
  induction m with
  | zero => intro x h; exact absurd h (Nat.not_lt_zero _)
  | succ m ih =>
    rintro ⟨t, b, ks⟩ hx d
    have hl : ∀ l : List Nd, (∀ y ∈ l, y ∈ ks) → (preL (d + 1) l).length ≤ (laidL l).size := by
      intro l
      induction l with
      | nil => intro _; exact Nat.zero_le _
      | cons y l ihl =>
        intro h
        have q1 := ihl (fun z hz => h z (List.mem_cons_of_mem _ hz))
        have q2 := ih y (mem_size hx (h y (List.mem_cons_self ..))) (d + 1)
        rw [laidL, preL, ByteArray.size_append, List.length_append]
        omega
    have q := hl ks (fun _ h => h)
    have hz := joined_size t (laidL ks ++ b)
    have hz2 : ((laidL ks ++ b).size : Nat) = (laidL ks).size + b.size := ByteArray.size_append
    rw [laid, pre, List.length_cons]
    omega
theorem pre_snd : ∀ (m : Nat) (x : Nd), SizeOf.sizeOf x < m → ∀ d d', (pre d x).map (·.2) = (pre d' x).map (·.2) := by
  intro m
  induction m with
  | zero => intro x h; exact absurd h (Nat.not_lt_zero _)
  | succ m ih =>
    rintro ⟨t, b, ks⟩ hx d d'
    have hl : ∀ l : List Nd, (∀ y ∈ l, y ∈ ks) → (preL (d + 1) l).map (·.2) = (preL (d' + 1) l).map (·.2) := by
      intro l
      induction l with
      | nil => intro _; rfl
      | cons y l ihl =>
        intro h
        rw [preL, preL, List.map_append, List.map_append, ihl (fun z hz => h z (List.mem_cons_of_mem _ hz)), ih y (mem_size hx (h y (List.mem_cons_self ..))) (d + 1) (d' + 1)]
    rw [pre, pre, List.map_cons, List.map_cons, hl ks (fun _ h => h)]
theorem kid_all {P : Nd → Prop} {t : Int} {b : ByteArray} {ks : List Nd} (h : ∀ p ∈ pre 1 (⟨t, b, ks⟩ : Nd), P p.2) : P ⟨t, b, ks⟩ ∧ ∀ y ∈ ks, ∀ p ∈ pre 1 y, P p.2 := by
  refine ⟨h (1, ⟨t, b, ks⟩) (by rw [pre]; exact List.mem_cons_self ..), fun y hy p hp => ?_⟩
  have h1 : p.2 ∈ (pre 1 y).map (·.2) := List.mem_map.2 ⟨p, hp, rfl⟩
  rw [pre_snd _ y (Nat.lt_succ_self _) 1 (1 + 1)] at h1
  obtain ⟨q, hq, hqp⟩ := List.mem_map.1 h1
  rw [← hqp]
  exact h q (by rw [pre, preL_flat']; exact List.mem_cons_of_mem _ (List.mem_flatMap.2 ⟨y, hy, hq⟩))
theorem one_iff (n : Nd) : one n = true ↔ 0 ≤ n.f0 ∧ n.f0 ≤ 255 ∧ n.f0 % 32 ≠ 31 ∧ (if inner n.f0 = true then n.f1.size = 0 else n.f2.length = 0) := by
  unfold one
  simp only [Bool.and_eq_true, decide_eq_true_eq]
  by_cases h : inner n.f0 = true
  · rw [if_pos h, if_pos h]; simp
  · rw [if_neg h, if_neg h]; simp
theorem shape_f : ∀ (m : Nat) (x : Nd), SizeOf.sizeOf x < m → (∀ p ∈ pre 1 x, p.2.f2.length ≤ 1000) → ∀ (dp : Int) (k : Nat), 0 ≤ dp → dp ≤ 12 → 4 * (pre 1 x).length ≤ k → latinerref02_shape.f k x.f0 x.f1 x.f2 dp = some ((pre (13 - dp) x).all okB) := by
  intro m
  induction m with
  | zero => intro x h; exact absurd h (Nat.not_lt_zero _)
  | succ m ih =>
    rintro ⟨t, b, ks⟩ hx hw dp k hd0 hd1 hk
    obtain ⟨hw0, hwk⟩ := kid_all (P := fun y => y.f2.length ≤ 1000) hw
    simp only at hw0
    have hp := pre_pos 1 ⟨t, b, ks⟩
    obtain ⟨k, rfl⟩ : ∃ j, k = j + 1 := ⟨k - 1, by omega⟩
    obtain ⟨k, rfl⟩ : ∃ j, k = j + 1 := ⟨k - 1, by omega⟩
    obtain ⟨k, rfl⟩ : ∃ j, k = j + 1 := ⟨k - 1, by omega⟩
    rw [pre, List.length_cons] at hk
    have hlen := preL_len (1 + 1) ks
    have j0t : latinerref02_shape.j0 (k + 1 + 1) dp true t b ks = some false := by simp only [latinerref02_shape.j0, if_true]
    have j1t : latinerref02_shape.j1 (k + 1) dp true t b ks = some false := by simp only [latinerref02_shape.j1, if_true]
    have no : one ⟨t, b, ks⟩ = false → (pre (13 - dp) ⟨t, b, ks⟩).all okB = false := fun h => by rw [pre, List.all_cons]; unfold okB; rw [h, Bool.and_false, Bool.false_and]
    rw [latinerref02_shape.f]
    simp only
    by_cases h0 : t < 0
    · rw [if_pos h0, j0t, no (Bool.eq_false_iff.2 fun h => by have := ((one_iff _).1 h).1; simp only at this; omega)]
    rw [if_neg h0]
    by_cases h1 : t > 255
    · rw [if_pos h1, j0t, no (Bool.eq_false_iff.2 fun h => by have := ((one_iff _).1 h).2.1; simp only at this; omega)]
    rw [if_neg h1, Int.tmod_eq_emod_of_nonneg (by omega)]
    by_cases h2 : t % 32 = 31
    · rw [if_pos h2, j0t, no (Bool.eq_false_iff.2 fun h => ((one_iff _).1 h).2.2.1 h2)]
    rw [if_neg h2]
    by_cases h3 : dp < 1
    · rw [decide_eq_true h3, j0t, pre, List.all_cons]
      unfold okB
      rw [decide_eq_false (show ¬ (13 - dp ≤ 12) by omega), Bool.false_and, Bool.false_and]
    rw [decide_eq_false h3, latinerref02_shape.j0]
    simp only [Bool.false_eq_true, if_false]
    rw [Int.tdiv_eq_ediv_of_nonneg (by omega), w64 (n := t / 32) (by omega) (by omega), Int.tmod_eq_emod_of_nonneg (by omega)]
    have loop : ∀ (r i k : Nat), i + r = ks.length → 4 * (preL (1 + 1) (ks.drop i)).length + 1 ≤ k → latinerref02_shape.l0 k dp (i : Int) t b ks = some ((preL (13 - dp + 1) (ks.drop i)).all okB) := by
      intro r
      induction r with
      | zero =>
        intro i k hi hk
        obtain ⟨k, rfl⟩ : ∃ j, k = j + 1 := ⟨k - 1, by omega⟩
        rw [latinerref02_shape.l0, if_neg (by omega), List.drop_eq_nil_of_le (by omega)]
        rfl
      | succ r ihr =>
        intro i k hi hk
        obtain ⟨k, rfl⟩ : ∃ j, k = j + 1 := ⟨k - 1, by omega⟩
        have hlt : i < ks.length := by omega
        have hpp := pre_pos (1 + 1) ks[i]
        rw [preL_drop hlt, List.length_append] at hk
        have hl2 := pre_len' 1 (1 + 1) ks[i]
        rw [latinerref02_shape.l0, if_pos (by omega), if_pos (by omega), rd_at ks i hlt, w64 (n := dp - 1) (by omega) (by omega), ih ks[i] (mem_size hx (List.getElem_mem hlt)) (hwk _ (List.getElem_mem hlt)) (dp - 1) k (by omega) (by omega) (by omega)]
        simp only [Option.bind_some]
        rw [preL_drop hlt, List.all_append, show (13 : Int) - (dp - 1) = 13 - dp + 1 by omega, w64 (n := (i : Int) + 1) (by omega) (by omega), show (i : Int) + 1 = ((i + 1 : Nat) : Int) by omega, ihr (i + 1) k (by omega) (by omega)]
        cases hb : (pre (13 - dp + 1) ks[i]).all okB with
        | true => rw [if_pos rfl, Bool.true_and]
        | false => rw [if_neg Bool.false_ne_true, Bool.false_and]
    have hl0 := loop ks.length 0 k (by omega) (by rw [List.drop_zero]; omega)
    rw [List.drop_zero] at hl0
    have j1f : latinerref02_shape.j1 (k + 1) dp false t b ks = some ((preL (13 - dp + 1) ks).all okB) := by
      rw [latinerref02_shape.j1]
      simp only [Bool.false_eq_true, if_false]
      exact hl0
    have yes : one ⟨t, b, ks⟩ = true → (pre (13 - dp) ⟨t, b, ks⟩).all okB = (preL (13 - dp + 1) ks).all okB := fun h => by
      rw [pre, List.all_cons]
      unfold okB
      rw [h, decide_eq_true (show 13 - dp ≤ 12 by omega)]
      rfl
    by_cases h4 : t / 32 % 2 = 1
    · have hi : inner t = true := decide_eq_true h4
      rw [if_pos h4]
      by_cases h5 : b.toList = []
      · rw [if_pos h5, if_pos h4, j1f, yes ((one_iff _).2 ⟨by show 0 ≤ t; omega, by show t ≤ 255; omega, h2, by show (if inner t = true then b.size = 0 else ks.length = 0); rw [if_pos hi]; exact toList_nil.1 h5⟩)]
      · rw [if_neg h5, j1t, no (Bool.eq_false_iff.2 fun h => h5 (toList_nil.2 (by
          have := ((one_iff _).1 h).2.2.2
          simp only at this
          rwa [if_pos hi] at this)))]
    · have hi : ¬ inner t = true := by unfold inner; simpa using h4
      rw [if_neg h4, if_neg h4]
      by_cases h5 : (ks.length : Int) > 0
      · rw [decide_eq_true h5, j1t, no (Bool.eq_false_iff.2 fun h => by
          have := ((one_iff _).1 h).2.2.2
          simp only at this
          rw [if_neg hi] at this
          omega)]
      · rw [decide_eq_false h5, j1f, yes ((one_iff _).2 ⟨by show 0 ≤ t; omega, by show t ≤ 255; omega, h2, by show (if inner t = true then b.size = 0 else ks.length = 0); rw [if_neg hi]; omega⟩)]
theorem count_f : ∀ (m : Nat) (x : Nd), SizeOf.sizeOf x < m → (∀ p ∈ pre 1 x, p.2.f2.length ≤ 1000) → ∀ (k : Nat), 3 * (pre 1 x).length ≤ k → latinerref02_count.f k x.f0 x.f1 x.f2 = some (wrap64 ((pre 1 x).length : Int)) := by
  intro m
  induction m with
  | zero => intro x h; exact absurd h (Nat.not_lt_zero _)
  | succ m ih =>
    rintro ⟨t, b, ks⟩ hx hw k hk
    obtain ⟨hw0, hwk⟩ := kid_all (P := fun y => y.f2.length ≤ 1000) hw
    simp only at hw0
    have hp := pre_pos 1 ⟨t, b, ks⟩
    obtain ⟨k, rfl⟩ : ∃ j, k = j + 1 := ⟨k - 1, by omega⟩
    rw [pre, List.length_cons] at hk ⊢
    have loop : ∀ (r i k : Nat) (a : Int), i + r = ks.length → 3 * (preL (1 + 1) (ks.drop i)).length + 1 ≤ k → latinerref02_count.l0 k (wrap64 a) (i : Int) t b ks = some (wrap64 (a + (preL (1 + 1) (ks.drop i)).length)) := by
      intro r
      induction r with
      | zero =>
        intro i k a hi hk
        obtain ⟨k, rfl⟩ : ∃ j, k = j + 1 := ⟨k - 1, by omega⟩
        rw [latinerref02_count.l0, if_neg (by omega), List.drop_eq_nil_of_le (by omega)]
        simp [preL]
      | succ r ihr =>
        intro i k a hi hk
        obtain ⟨k, rfl⟩ : ∃ j, k = j + 1 := ⟨k - 1, by omega⟩
        have hlt : i < ks.length := by omega
        have hpp := pre_pos (1 + 1) ks[i]
        rw [preL_drop hlt, List.length_append] at hk
        have hl2 := pre_len' 1 (1 + 1) ks[i]
        rw [latinerref02_count.l0, if_pos (by omega), if_pos (by omega), rd_at ks i hlt, ih ks[i] (mem_size hx (List.getElem_mem hlt)) (hwk _ (List.getElem_mem hlt)) k (by omega)]
        simp only [Option.bind_some]
        rw [preL_drop hlt, List.length_append, w64 (n := (i : Int) + 1) (by omega) (by omega), wrap_add, show (i : Int) + 1 = ((i + 1 : Nat) : Int) by omega, ihr (i + 1) k _ (by omega) (by omega), hl2]
        congr 2
        omega
    have := loop ks.length 0 k 1 (by omega) (by rw [List.drop_zero]; omega)
    rw [List.drop_zero, show wrap64 1 = 1 from w64 (by omega) (by omega)] at this
    rw [latinerref02_count.f]
    simp only
    rw [show ((0 : Nat) : Int) = 0 from rfl] at this
    rw [this]
    congr 2
    omega
theorem mn_le {a : Int} (h : a ≤ 5000) : mn a 5000 = a := by unfold mn; rw [if_neg (by omega)]
theorem mn_gt {a : Int} (h : 5000 < a) : mn a 5000 = 5000 := by unfold mn; rw [if_pos h]
theorem long_f : ∀ (m : Nat) (x : Nd), SizeOf.sizeOf x < m → (∀ p ∈ pre 1 x, p.2.f2.length ≤ 1000) → (∀ p ∈ pre 1 x, p.2.f1.size ≤ 100000) → ∀ (k : Nat), 3 * (pre 1 x).length + 30 ≤ k →
    ∃ v : Int, latinerref02_long.f k x.f0 x.f1 x.f2 = some v ∧ 0 ≤ v ∧ v ≤ 5004 ∧ ((laid x).size ≤ 4900 → v = (laid x).size) ∧ (4900 < (laid x).size → 4901 ≤ v) := by
  intro m
  induction m with
  | zero => intro x h; exact absurd h (Nat.not_lt_zero _)
  | succ m ih =>
    rintro ⟨t, b, ks⟩ hx hw hd k hk
    obtain ⟨hw0, hwk⟩ := kid_all (P := fun y => y.f2.length ≤ 1000) hw
    obtain ⟨hd0, hdk⟩ := kid_all (P := fun y => y.f1.size ≤ 100000) hd
    simp only at hw0 hd0
    have hp := pre_pos 1 ⟨t, b, ks⟩
    obtain ⟨k, rfl⟩ : ∃ j, k = j + 1 := ⟨k - 1, by omega⟩
    rw [pre, List.length_cons] at hk
    have hz := joined_size t (laidL ks ++ b)
    have hz2 : ((laidL ks ++ b).size : Nat) = (laidL ks).size + b.size := ByteArray.size_append
    have hL : laid ⟨t, b, ks⟩ = joined t (laidL ks ++ b) := by rw [laid]
    have hle := enc_le ((laidL ks ++ b).size : Int)
    -- what is told of a body
    have fin : ∀ (k : Nat) (a : Int), 20 ≤ k → 0 ≤ a → ∃ v : Int, ((latinerref01_Size.f k (mn a 5000)).bind fun bt => some (wrap64 ((wrap64 (1 + bt.1)) + (mn a 5000)))) = some v ∧ (a ≤ 5000 → v = 1 + (Size.encS a).size + a) ∧ (5000 < a → v = 5004) ∧ 0 ≤ v ∧ v ≤ 5004 := by
      intro k a hk ha
      rw [SizeQ.ref_Size _ k hk]
      simp only [Option.bind_some]
      have he := enc_le (mn a 5000)
      have hm : 0 ≤ mn a 5000 ∧ mn a 5000 ≤ 5000 := by
        by_cases h : 5000 < a
        · rw [mn_gt h]; omega
        · rw [mn_le (by omega)]; omega
      refine ⟨_, rfl, fun h => ?_, fun h => ?_, ?_, ?_⟩
      · rw [mn_le h] at he ⊢; rw [w64 (n := 1 + _) (by omega) (by omega), w64 (by omega) (by omega)]
      · rw [mn_gt h, show (Size.encS 5000).size = 3 from by decide +kernel]; unfold wrap64; omega
      · rw [w64 (n := 1 + _) (by omega) (by omega), w64 (by omega) (by omega)]; omega
      · have h3 : (Size.encS (mn a 5000)).size ≤ 3 := by
          rw [SizeQ.enc_size _ (by omega)]
          split <;> (try split) <;> (try split) <;> omega
        rw [w64 (n := 1 + _) (by omega) (by omega), w64 (by omega) (by omega)]; omega
    have loop : ∀ (r i k : Nat) (a : Int), i + r = ks.length → 3 * (preL (1 + 1) (ks.drop i)).length + 31 ≤ k → 0 ≤ a → a ≤ 200000 → (a = (b.size : Int) + (laidL (ks.take i)).size ∨ (4901 ≤ a ∧ 4900 < (laid ⟨t, b, ks⟩).size)) →
        ∃ v : Int, latinerref02_long.l0 k a (i : Int) t b ks = some v ∧ 0 ≤ v ∧ v ≤ 5004 ∧ ((laid ⟨t, b, ks⟩).size ≤ 4900 → v = (laid ⟨t, b, ks⟩).size) ∧ (4900 < (laid ⟨t, b, ks⟩).size → 4901 ≤ v) := by
      intro r
      induction r with
      | zero =>
        intro i k a hi hk ha ha2 hinv
        obtain ⟨k, rfl⟩ : ∃ j, k = j + 1 := ⟨k - 1, by omega⟩
        obtain rfl : i = ks.length := by omega
        rw [List.take_length] at hinv
        rw [latinerref02_long.l0, if_neg (by omega)]
        obtain ⟨v, h1, h2, h3, h4, h5⟩ := fin k a (by omega) ha
        refine ⟨v, h1, h4, h5, fun hs => ?_, fun hs => ?_⟩
        · rcases hinv with hinv | hinv
          · rw [h2 (by rw [hL] at hs; omega), hL, hz, hinv, show (b.size : Int) + ((laidL ks).size : Int) = ((laidL ks ++ b).size : Int) by omega]; omega
          · omega
        · by_cases h6 : a ≤ 5000
          · have := h2 h6
            have hee : 1 ≤ (Size.encS a).size := enc_pos (by omega)
            rcases hinv with hinv | hinv
            · rw [show a = ((laidL ks ++ b).size : Int) by omega] at this
              rw [hL] at hs; omega
            · omega
          · have := h3 (by omega); omega
      | succ r ihr =>
        intro i k a hi hk ha ha2 hinv
        obtain ⟨k, rfl⟩ : ∃ j, k = j + 1 := ⟨k - 1, by omega⟩
        have hlt : i < ks.length := by omega
        have hmem : ks[i] ∈ ks := List.getElem_mem hlt
        have hsp := laidL_split ks (i + 1)
        have hst := laidL_take hlt
        have hss : (laidL (ks.take (i + 1))).size = (laidL (ks.take i)).size + (laid ks[i]).size := by rw [hst, ByteArray.size_append]
        rw [latinerref02_long.l0, if_pos (by omega)]
        by_cases h5 : a ≤ 5000
        · have hpp := pre_pos (1 + 1) ks[i]
          rw [preL_drop hlt, List.length_append] at hk
          have hl2 := pre_len' 1 (1 + 1) ks[i]
          obtain ⟨u, u1, u2, u3, u4, u5⟩ := ih ks[i] (mem_size hx hmem) (hwk _ hmem) (hdk _ hmem) k (by omega)
          rw [if_pos h5, if_pos (by omega), rd_at ks i hlt, u1]
          simp only [Option.bind_some]
          rw [w64 (n := a + u) (by omega) (by omega), w64 (n := (i : Int) + 1) (by omega) (by omega), show (i : Int) + 1 = ((i + 1 : Nat) : Int) by omega]
          refine ihr (i + 1) k (a + u) (by omega) (by omega) (by omega) (by omega) ?_
          rw [hL]
          rw [hL] at hinv
          by_cases hk9 : (laid ks[i]).size ≤ 4900
          · have := u4 hk9
            rcases hinv with hinv | hinv
            · left; omega
            · right; omega
          · have := u5 (by omega)
            right; omega
        · rw [if_neg h5]
          obtain ⟨v, h1, h2, h3, h4, h6⟩ := fin k a (by omega) ha
          have hv := h3 (by omega)
          have hsi := laidL_split ks i
          refine ⟨v, h1, h4, h6, fun hs => ?_, fun _ => by omega⟩
          rcases hinv with hinv | hinv
          · rw [hL] at hs; omega
          · omega
    have := loop ks.length 0 k (b.size : Int) (by omega) (by rw [List.drop_zero]; omega) (by omega) (by omega) (.inl (by rw [List.take_zero]; show _ = _ + ((0 : Nat) : Int); omega))
    rw [latinerref02_long.f]
    exact this
theorem bytes_f : ∀ (m : Nat) (x : Nd), SizeOf.sizeOf x < m → ∀ (d : Int) (k : Nat), 3 * (pre d x).length + 30 ≤ k → (pre d x).length ≤ 1000 → (laid x).size ≤ 100000 → (pre d x).all okAt = true → latinerref02_bytes.f k x.f0 x.f1 x.f2 = some (laid x) := by
  intro m
  induction m with
  | zero => intro x h; exact absurd h (Nat.not_lt_zero _)
  | succ m ih =>
    rintro ⟨t, b, ks⟩ hx d k hk hn hz hok
    obtain ⟨h1, h2⟩ := all_pre hok
    obtain ⟨_, k2, k3, _, k5, k6, _⟩ := (okAt_iff _ _).1 h1
    simp only at k2 k3 k5 k6
    have hp := pre_pos d ⟨t, b, ks⟩
    obtain ⟨k, rfl⟩ : ∃ j, k = j + 1 := ⟨k - 1, by omega⟩
    rw [pre, List.length_cons] at hk hn
    have hlen := preL_len (d + 1) ks
    have hzj := joined_size t (laidL ks ++ b)
    have hz2 : ((laidL ks ++ b).size : Nat) = (laidL ks).size + b.size := ByteArray.size_append
    rw [laid] at hz ⊢
    have hbody : b ++ laidL ks = laidL ks ++ b := by
      by_cases hi : inner t = true
      · rw [nil_of_size (k5 hi), app_nil, nil_app]
      · rw [k6 hi, laidL, app_nil, nil_app]
    have loop : ∀ (r i k : Nat), i + r = ks.length → 3 * (preL (d + 1) (ks.drop i)).length + 31 ≤ k → latinerref02_bytes.l0 k (b ++ laidL (ks.take i)) (i : Int) t b ks = some (joined t (laidL ks ++ b)) := by
      intro r
      induction r with
      | zero =>
        intro i k hi hk
        obtain ⟨k, rfl⟩ : ∃ j, k = j + 1 := ⟨k - 1, by omega⟩
        obtain rfl : i = ks.length := by omega
        have hle := enc_le ((laidL ks ++ b).size : Int)
        have hs : (strOfNums [t % 256]).size = 1 := son_size _
        have e : t % 256 = t := by omega
        rw [latinerref02_bytes.l0, if_neg (by omega), List.take_length, hbody, SizeQ.ref_Encode _ k (by omega)]
        simp only [Option.bind_some]
        rw [if_pos (by omega), if_pos (by rw [ByteArray.size_append]; omega), e]
        rfl
      | succ r ihr =>
        intro i k hi hk
        obtain ⟨k, rfl⟩ : ∃ j, k = j + 1 := ⟨k - 1, by omega⟩
        have hlt : i < ks.length := by omega
        have hmem : ks[i] ∈ ks := List.getElem_mem hlt
        have hle := laidL_mem hmem
        have hpp := pre_pos (d + 1) ks[i]
        have hdr : (preL (d + 1) (ks.drop i)).length ≤ (preL (d + 1) ks).length := by
          conv => rhs; rw [← List.take_append_drop i ks, preL_app, List.length_append]
          omega
        rw [preL_drop hlt, List.length_append] at hk hdr
        have hsp := laidL_split ks i
        rw [latinerref02_bytes.l0, if_pos (by omega), if_pos (by omega), rd_at ks i hlt, ih ks[i] (mem_size hx hmem) (d + 1) k (by omega) (by omega) (by omega) (h2 _ hmem)]
        simp only [Option.bind_some]
        rw [if_pos (by rw [ByteArray.size_append]; omega), w64 (n := (i : Int) + 1) (by omega) (by omega), ByteArray.append_assoc, ← laidL_take hlt, show (i : Int) + 1 = ((i + 1 : Nat) : Int) by omega]
        exact ihr (i + 1) k (by omega) (by omega)
    have := loop ks.length 0 k (by omega) (by rw [List.drop_zero]; omega)
    rw [List.take_zero, laidL, app_nil] at this
    rw [latinerref02_bytes.f]
    exact this
theorem same_ref : ∀ (m : Nat) (x : Nd), SizeOf.sizeOf x < m → (∀ p ∈ pre 1 x, p.2.f2.length ≤ 1000) → ∀ (y : Nd) (k : Nat), 3 * (pre 1 x).length ≤ k → latinerref02_Same.f k x.f0 x.f1 x.f2 y.f0 y.f1 y.f2 = some (same x y) := by
  intro m
  induction m with
  | zero => intro x h; exact absurd h (Nat.not_lt_zero _)
  | succ m ih =>
    rintro ⟨t, b, ks⟩ hx hw y k hk
    obtain ⟨hw0, hwk⟩ := kid_all (P := fun y => y.f2.length ≤ 1000) hw
    simp only at hw0
    have hp := pre_pos 1 ⟨t, b, ks⟩
    obtain ⟨k, rfl⟩ : ∃ j, k = j + 1 := ⟨k - 1, by omega⟩
    obtain ⟨k, rfl⟩ : ∃ j, k = j + 1 := ⟨k - 1, by omega⟩
    rw [pre, List.length_cons] at hk
    have j0t : latinerref02_Same.j0 (k + 1) true t b ks y.f0 y.f1 y.f2 = some false := by simp only [latinerref02_Same.j0, if_true]
    rw [latinerref02_Same.f, same]
    simp only
    by_cases h0 : t = y.f0
    · rw [if_pos h0, decide_eq_true h0]
      by_cases h1 : b = y.f1
      · rw [if_pos (toList_inj.2 h1), decide_eq_true h1]
        by_cases h2 : ks.length = y.f2.length
        · have loop : ∀ (r i k : Nat), i + r = ks.length → 3 * (preL (1 + 1) (ks.drop i)).length + 1 ≤ k → latinerref02_Same.l0 k (i : Int) t b ks y.f0 y.f1 y.f2 = some (sameL (ks.drop i) (y.f2.drop i)) := by
            intro r
            induction r with
            | zero =>
              intro i k hi hk
              obtain ⟨k, rfl⟩ : ∃ j, k = j + 1 := ⟨k - 1, by omega⟩
              rw [latinerref02_Same.l0, if_neg (by omega), List.drop_eq_nil_of_le (by omega), List.drop_eq_nil_of_le (by omega)]
              rfl
            | succ r ihr =>
              intro i k hi hk
              obtain ⟨k, rfl⟩ : ∃ j, k = j + 1 := ⟨k - 1, by omega⟩
              have hlt : i < ks.length := by omega
              have hlt2 : i < y.f2.length := by omega
              have hpp := pre_pos (1 + 1) ks[i]
              rw [preL_drop hlt, List.length_append] at hk
              have hl2 := pre_len' 1 (1 + 1) ks[i]
              rw [latinerref02_Same.l0, if_pos (by omega), if_pos (by omega), if_pos (by omega), rd_at ks i hlt, rd_at y.f2 i hlt2, ih ks[i] (mem_size hx (List.getElem_mem hlt)) (hwk _ (List.getElem_mem hlt)) _ k (by omega)]
              simp only [Option.bind_some]
              rw [List.drop_eq_getElem_cons hlt, List.drop_eq_getElem_cons hlt2, sameL, w64 (n := (i : Int) + 1) (by omega) (by omega), show (i : Int) + 1 = ((i + 1 : Nat) : Int) by omega, ihr (i + 1) k (by omega) (by omega)]
              cases same ks[i] y.f2[i] with
              | true => rw [if_pos rfl]; rfl
              | false => rw [if_neg Bool.false_ne_true]; rfl
          have := loop ks.length 0 k (by omega) (by rw [List.drop_zero]; omega)
          rw [List.drop_zero, List.drop_zero] at this
          have hne : ((ks.length : Int) != (y.f2.length : Int)) = false := by rw [bne_eq_false_iff_eq]; omega
          rw [hne, latinerref02_Same.j0]
          simp only [Bool.false_eq_true, if_false]
          rw [show ((0 : Nat) : Int) = 0 from rfl] at this
          rw [this]
          rfl
        · have hne : ((ks.length : Int) != (y.f2.length : Int)) = true := by rw [bne_iff_ne]; omega
          rw [hne, j0t, sameL_len ks y.f2 h2]
          rfl
      · rw [if_neg (fun h => h1 (toList_inj.1 h)), j0t, decide_eq_false h1]
        rfl
    · rw [if_neg h0, j0t, decide_eq_false h0]
      rfl
end Tlv
end Go.Proofs.YthnddhgkjkpmfaaDoor
/- The reference's trees, plainly: Right, Encode. -/
namespace Go.Proofs.YthnddhgkjkpmfaaDoor
set_option linter.unusedSimpArgs false
set_option linter.unusedVariables false
namespace Tlv
open Go.RowKit Go.Proofs.YthnddhgkjkpmfaaDoorW.PrintWords Go.Proofs.YthnddhgkjkpmfaaDoorW.PrintMore Go.Proofs.YthnddhgkjkpmfaaDoor.PureB Go.Proofs.YthnddhgkjkpmfaaDoor.KTlv Go.Proofs.YthnddhgkjkpmfaaDoor.ExtTlvC Go.Proofs.YthnddhgkjkpmfaaDoor.LTlvC
theorem all_okB (x : Nd) (hd : ∀ p ∈ pre 1 x, p.2.f1.size ≤ 4000) : (pre 1 x).all okAt = (pre 1 x).all okB := by
  rw [Bool.eq_iff_iff, List.all_eq_true, List.all_eq_true]
  refine forall_congr' fun p => forall_congr' fun hp => ?_
  have := hd p hp
  unfold okAt okB
  simp only [Bool.and_eq_true, decide_eq_true_eq]
  exact ⟨fun h => ⟨h.1, h.2.1⟩, fun h => ⟨h.1, h.2, this⟩⟩
theorem wrap_few {n : Nat} (h : ¬ n ≤ 200) (h2 : wrap64 (n : Int) ≤ 200) : 4900 < n := by unfold wrap64 at h2; omega
theorem right_no {x : Nd} (h : (pre 1 x).all okAt = false) : right x = false := by unfold right shaped; rw [h, Bool.and_false, Bool.false_and]
theorem right_yes {x : Nd} (h : (pre 1 x).all okAt = true) : right x = (decide ((pre 1 x).length ≤ 200) && decide ((laid x).size ≤ 4000)) := by unfold right shaped; rw [h, Bool.and_true]
theorem ref_Right (x : Nd) (hw : few x = true) (hd : ∀ p ∈ pre 1 x, p.2.f1.size ≤ 4000) (k : Nat) (hk : 4 * (pre 1 x).length + 100 ≤ k) : latinerref02_Right.f k x.f0 x.f1 x.f2 = some (right x) := by
  have hw' := (few_iff x).1 hw
  have hs := shape_f _ x (Nat.lt_succ_self _) hw' 12 k (by omega) (by omega) (by omega)
  rw [show (13 : Int) - 12 = 1 from rfl, ← all_okB x hd] at hs
  have hcn := count_f _ x (Nat.lt_succ_self _) hw' k (by omega)
  obtain ⟨v, v1, v2, v3, v4, v5⟩ := long_f _ x (Nat.lt_succ_self _) hw' (fun p hp => by have := hd p hp; omega) k (by omega)
  have hll := len_le_laid _ x (Nat.lt_succ_self _) 1
  unfold latinerref02_Right.f
  rw [hs]
  cases hb : (pre 1 x).all okAt with
  | false =>
    rw [right_no hb, Option.bind_some, if_neg Bool.false_ne_true]
  | true =>
    rw [right_yes hb, Option.bind_some, if_pos rfl, hcn, Option.bind_some]
    generalize (pre 1 x).length = n at *
    generalize (laid x).size = z at *
    by_cases h2 : n ≤ 200
    · rw [w64 (n := (n : Int)) (by omega) (by omega), if_pos (by omega), v1, decide_eq_true h2, Bool.true_and, Option.bind_some]
      have : (v ≤ 4000) ↔ (z ≤ 4000) := by
        by_cases h3 : z ≤ 4900
        · have := v4 h3; omega
        · have := v5 (by omega); omega
      rw [decide_eq_decide.2 this]
    · rw [decide_eq_false h2, Bool.false_and]
      by_cases h3 : wrap64 (n : Int) ≤ 200
      · have h4 := wrap_few h2 h3
        have := v5 (by omega)
        rw [if_pos h3, v1, Option.bind_some, decide_eq_false (by omega)]
      · rw [if_neg h3]
theorem ref_Encode (x : Nd) (hw : few x = true) (hd : ∀ p ∈ pre 1 x, p.2.f1.size ≤ 4000) (k : Nat) (hk : 4 * (pre 1 x).length + 100 ≤ k) : latinerref02_Encode.f k x.f0 x.f1 x.f2 = some (enc x) := by
  unfold latinerref02_Encode.f enc
  rw [ref_Right x hw hd k hk]
  simp only [Option.bind_some]
  by_cases hr : right x = true
  · obtain ⟨h1, h2, h3⟩ := right_parts hr
    rw [if_pos hr, if_pos hr, bytes_f _ x (Nat.lt_succ_self _) 1 k (by omega) (by omega) (by omega) h2]
    rfl
  · rw [if_neg hr, if_neg hr]
end Tlv
end Go.Proofs.YthnddhgkjkpmfaaDoor
-- Written by this repo's own program over the kit's printer: YthnddhgkjkpmfaaDoor.LTlvC
namespace Go.Proofs.YthnddhgkjkpmfaaDoor.LTlvC
open Go.Proofs.YthnddhgkjkpmfaaDoor.ExtTlvC
open Go.Proofs.YthnddhgkjkpmfaaDoor.KTlv
open Go.RowKit Go.Proofs.YthnddhgkjkpmfaaDoorW.PrintWords Go.Proofs.YthnddhgkjkpmfaaDoorW.PrintLast Go.Proofs.YthnddhgkjkpmfaaDoorW.PrintMore
attribute [local go_sem] max2_int min2_int max_two min_two max_three min_three max_four min_four   -- for this text's walks alone
attribute [local go_sem] some_set
set_option linter.unusedVariables false
set_option linter.unusedSimpArgs false
variable {G : Gl}
def IsS57 (w0 W : World) (g : Nat) (f0 : ByteArray) (f1 : Int) : Prop := W.heap[g]? = some (.cells #[.string f0, .int .i64 f1] 57 (0, 0)) ∧ w0.heap.size ≤ g
theorem IsS57.grown {w0 W : World} {g : Nat} {f0 : ByteArray} {f1 : Int} {W1 : World} {row : Option Nat} (h : IsS57 w0 W g f0 f1) (hw : W.grownBy W1 row) (hne : some g ≠ row) : IsS57 w0 W1 g f0 f1 := by
 obtain ⟨hb, hg⟩ := h
 exact ⟨blk_grown hb hw hne, hg⟩
theorem IsS57.below {w0 W : World} {g : Nat} {f0 : ByteArray} {f1 : Int} {W1 : World} (h : IsS57 w0 W g f0 f1) (hw : Below W.heap.size W W1) : IsS57 w0 W1 g f0 f1 := h.grown (grown_of_below hw none) (by simp)
theorem IsS57.drewN {w0 W : World} {g : Nat} {f0 : ByteArray} {f1 : Int} (h : IsS57 w0 W g f0 f1) (m : Nat) : IsS57 w0 (W.drewN m) g f0 f1 := h
theorem IsS57.apart {w0 W : World} {g : Nat} {f0 : ByteArray} {f1 : Int} {α : Type} {d : Kd α} {e : Nat} {base : Nat} {ok : Nat → Prop} {v : Value} {xs : List α} (h : IsS57 w0 W g f0 f1) (ho : d.R e W base ok v xs) (ht : ∀ q, q ∈ e :: d.E → q ≠ 57) : d.R e W base (fun k => ok k ∧ k ≠ g) v xs := by
 obtain ⟨hb, hg⟩ := h
 exact Kd.R_types ho hb ht
theorem IsS57.own_ne {w0 W : World} {g : Nat} {f0 : ByteArray} {f1 : Int} {α : Type} {d : Kd α} {e : Nat} {base : Nat} {ok : Nat → Prop} {v : Value} {xs : List α} (h : IsS57 w0 W g f0 f1) (ho : d.R e W base ok v xs) (ht : e ≠ 57) : some g ≠ v.ownBlock := by
 obtain ⟨hb, hg⟩ := h
 exact Kd.R_ne ho hb ht
theorem IsS57.lt {w0 W : World} {g : Nat} {f0 : ByteArray} {f1 : Int} (h : IsS57 w0 W g f0 f1) : g < W.heap.size := by
 obtain ⟨hb, hg⟩ := h
 exact blk_lt hb
theorem IsS57.ge {w0 W : World} {g : Nat} {f0 : ByteArray} {f1 : Int} (h : IsS57 w0 W g f0 f1) : w0.heap.size ≤ g := by
 obtain ⟨hb, hg⟩ := h
 exact hg
theorem IsS57.far {w0 W : World} {g : Nat} {f0 : ByteArray} {f1 : Int} {p : Addr} (h : IsS57 w0 W g f0 f1) (hne : g ≠ p.block) (u : Value) : IsS57 w0 (W.setCell p u) g f0 f1 := by
 obtain ⟨hb, hg⟩ := h
 exact ⟨blk_far hb hne u, hg⟩
theorem cellS57_0 {W : World} {g : Nat} {f0 : ByteArray} {f1 : Int} (h : W.heap[g]? = some (.cells #[.string f0, .int .i64 f1] 57 (0, 0))) : W.cell? ⟨g, 0, none⟩ = some (.string f0) := (blk_cell h 0).trans rfl
theorem cellS57_1 {W : World} {g : Nat} {f0 : ByteArray} {f1 : Int} (h : W.heap[g]? = some (.cells #[.string f0, .int .i64 f1] 57 (0, 0))) : W.cell? ⟨g, 1, none⟩ = some (.int .i64 f1) := (blk_cell h 1).trans rfl
theorem IsS57.set_1 {w0 W : World} {g : Nat} {f0 : ByteArray} {f1 : Int} (h : IsS57 w0 W g f0 f1) (x : Int) : IsS57 w0 (W.setCell ⟨g, 1, none⟩ (.int .i64 x)) g f0 x := by
 obtain ⟨hb, hg⟩ := h
 exact ⟨by simpa using blk_set hb 1 (.int .i64 x), hg⟩
mutual
def latinerref02_reader_read.j0 : Nat → Int → Int → Int → Bool → ByteArray → Int → Option (Int × ByteArray × (List (S24)) × Int × Int × ByteArray × Int)
 | 0, _, _, _, _, _, _ => none
 | k + 1, x1, x2, x3, x34, x1000, x1001 => if x34 = true then (some (0, (⟨#[]⟩ : ByteArray), ([] : List (S24)), 0, 21, x1000, x1001)) else (if x1 ≥ x2 then (some (0, (⟨#[]⟩ : ByteArray), ([] : List (S24)), 0, 10, x1000, x1001)) else (if 0 ≤ x1 then (if x1 < (x1000.size : Int) then (if (Int.tmod (wrap64 (bt x1000 x1)) 32) = 31 then (some (0, (⟨#[]⟩ : ByteArray), ([] : List (S24)), 0, 20, x1000, x1001)) else (if 0 ≤ x2 then (if x2 ≤ (x1000.size : Int) then ((latinerref01_Decode.f k (x1000.extract 0 (x2 : Int).toNat) (wrap64 (x1 + 1))).bind fun bt365 => (if bt365.2.2 = 0 then (if bt365.1 > (wrap64 (x2 - bt365.2.1)) then (some (0, (⟨#[]⟩ : ByteArray), ([] : List (S24)), 0, 10, x1000, x1001)) else (if (Int.tmod (wrap64 (Int.tdiv (wrap64 (bt x1000 x1)) 32)) 2) = 0 then (if 0 ≤ bt365.2.1 then (if bt365.2.1 ≤ (wrap64 (bt365.2.1 + bt365.1)) then (if (wrap64 (bt365.2.1 + bt365.1)) ≤ (x1000.size : Int) then (some (wrap64 (bt x1000 x1), x1000.extract (bt365.2.1 : Int).toNat ((wrap64 (bt365.2.1 + bt365.1)) : Int).toNat, ([] : List (S24)), wrap64 (bt365.2.1 + bt365.1), 0, x1000, x1001)) else (none)) else (none)) else (none)) else (latinerref02_reader_read.l0 k x3 bt365.1 bt365.2.1 bt365.2.1 x1000 x1001 (wrap64 (bt x1000 x1)) (⟨#[]⟩ : ByteArray) ([] : List (S24))))) else (some (0, (⟨#[]⟩ : ByteArray), ([] : List (S24)), 0, bt365.2.2, x1000, x1001)))) else (none)) else (none))) else (none)) else (none)))
def latinerref02_reader_read.l0 : Nat → Int → Int → Int → Int → ByteArray → Int → Int → ByteArray → List (S24) → Option (Int × ByteArray × (List (S24)) × Int × Int × ByteArray × Int)
 | 0, _, _, _, _, _, _, _, _, _ => none
 | k + 1, x3, x12, x13, x15, x1000, x1001, x365000, x365001, x365002 => if x15 < (wrap64 (x13 + x12)) then ((latinerref02_reader_read.f k x1000 x1001 x15 (wrap64 (x13 + x12)) (wrap64 (x3 + 1))).bind fun bt368 => (if bt368.2.2.2.2.1 = 0 then (if x365002.length < 2932031007402 then (latinerref02_reader_read.l0 k x3 x12 x13 bt368.2.2.2.1 bt368.2.2.2.2.2.1 bt368.2.2.2.2.2.2 x365000 x365001 (x365002 ++ [(⟨bt368.1, bt368.2.1, bt368.2.2.1⟩ : S24)])) else (none)) else (some (0, (⟨#[]⟩ : ByteArray), ([] : List (S24)), 0, bt368.2.2.2.2.1, bt368.2.2.2.2.2.1, bt368.2.2.2.2.2.2)))) else (some (x365000, x365001, x365002, wrap64 (x13 + x12), 0, x1000, x1001))
def latinerref02_reader_read.f : Nat → ByteArray → Int → Int → Int → Int → Option (Int × ByteArray × (List (S24)) × Int × Int × ByteArray × Int)
 | 0, _, _, _, _, _ => none
 | k + 1, s0_0, s0_1, a1, a2, a3 => if (wrap64 (s0_1 + 1)) > 200 then (latinerref02_reader_read.j0 k a1 a2 a3 true s0_0 (wrap64 (s0_1 + 1))) else (latinerref02_reader_read.j0 k a1 a2 a3 (decide (a3 > 12)) s0_0 (wrap64 (s0_1 + 1)))
end
set_option maxHeartbeats 8000000 in
set_option maxRecDepth 100000 in
theorem latinerref02_reader_read.calls (k : Nat) : ∀ (g : Nat) (s0_0 : ByteArray) (s0_1 : Int) (a1 : Int) (a2 : Int) (a3 : Int) (r1 : Int) (r2 : ByteArray) (r3 : List (S24)) (r4 : Int) (r5 : Int) (r6 : ByteArray) (r7 : Int) (w0 w : World) (hI : IsS57 w0 w g s0_0 s0_1) (hB : Below w0.heap.size w0 w) (h : latinerref02_reader_read.f k s0_0 s0_1 a1 a2 a3 = some (r1, r2, r3, r4, r5, r6, r7)),
  Calls Tryd.prog 32 #[.pointer (some ⟨g, 0, none⟩), .int .i64 a1, .int .i64 a2, .int .i64 a3] w fun e w' => ∃ v2_ : Value, e = .returned (.tuple #[.agg #[.int .i64 r1, .string r2, v2_], .int .i64 r4, .int .i64 r5]) ∧ Kd.R k24 24 w' w.heap.size (fun _ => True) v2_ r3 ∧ IsS57 w0 w' g r6 r7 ∧ Below w0.heap.size w0 w' ∧ KeepBut w w' g none := by
 induction k using Nat.strongRecOn with
 | _ k ih =>
 intro g s0_0 s0_1 a1 a2 a3 r1 r2 r3 r4 r5 r6 r7 w0 w hI hB h
 cases k with
 | zero => exact absurd h (by simp [latinerref02_reader_read.f])
 | succ k =>
 simp only [latinerref02_reader_read.f] at h
 have hu24 := Tryd.underlying24
 have HI0 := Aside0.mk hI
 have HK := Aside0.mk (KeepBut.refl w g none)
 have HL := Aside0.mk hB.size
 clear hI
 have HW0 := Aside0.mk hB.size
 have HB := Aside0.mk hB
 clear hB
 have H : (if (wrap64 (s0_1 + 1)) > 200 then (latinerref02_reader_read.j0 k a1 a2 a3 true s0_0 (wrap64 (s0_1 + 1))) else (latinerref02_reader_read.j0 k a1 a2 a3 (decide (a3 > 12)) s0_0 (wrap64 (s0_1 + 1)))) = some (r1, r2, r3, r4, r5, r6, r7) := h
 clear h
 have HC5 := Aside0.mk H
 clear H
 go_enter Tryd.func32, Tryd.ntmps32
 go_upto_region 2 with (first | ((with_reducible refine gate_dst (N := 8) rfl ?_); refine box_event ?hg (N := 8) ?hd (cs := #[.int .i64 0, .string (⟨#[]⟩ : ByteArray), .slice none 0 0]) (t := 24) ?hr ?_; (case hd => rfl); (case hg => rfl); (case hr => first | (go_simp; done) | (go_simp; rfl)); intro gb363 hg w6 hbox hb; have n0_ := Aside0.mk (IsS57.below q24_ hb); have n1_ := Aside0.mk (KeepBut.trans q1_ (KeepBut.of_below hb g none) (.inl rfl)); have n2_ := Aside0.mk (below_step (by repeat (first | (with_reducible first | exact HB.out | apply below_alloc | apply pw_below_drewN | apply below_drew1 | refine below_set ?_ (IsS57.ge HI0.out)) | exact HB.out)) hb); have n3_ := Aside0.mk (hbox); have n4_ := Aside0.mk ((by rw [hg]; exact (keep_size (w := w) (g := g) (row := none) q1_) : w.heap.size ≤ gb363)); have n5_ := Aside0.mk ((Nat.le_trans HW0.out (by rw [hg]; exact (keep_size (w := w) (g := g) (row := none) q1_) : w.heap.size ≤ gb363) : w0.heap.size ≤ gb363)); have n6_ := Aside0.mk ((by rw [hg]; exact Nat.ne_of_lt (IsS57.lt (show IsS57 w0 _ g s0_0 s0_1 from q24_)) : g ≠ gb363)); have n7_ := Aside0.mk ((by rw [hg]; exact Nat.ne_of_gt (IsS57.lt (show IsS57 w0 _ g s0_0 s0_1 from q24_)) : gb363 ≠ g)); clear HI0; clear HK; clear HB; have HI0 := n0_; have HK := n1_; have HB := n2_; have BK363 := n3_; have GW363 := n4_; have GE363 := n5_; have NB0_363 := n6_; have NB363_0 := n7_; clear n0_ n1_ n2_ n3_ n4_ n5_ n6_ n7_; clear hb hbox hg; obtain ⟨HGz7, hgz7⟩ := HI0.out; have hcz7_0 := cellS57_0 HGz7; have hcz7_1 := cellS57_1 HGz7; have hfz7_0 := blk_frozen HGz7 0; have hfz7_1 := blk_frozen HGz7 1; clear HGz7 hgz7))
 (try simp only [Act.put, List.setIfInBounds_toArray, List.set_cons_zero, List.set_cons_succ])
 go_cut [34] (fun v34 wc => ∃ (kq : Nat) (x34_4 : Bool), v34 = .bool x34_4 ∧ Aside0 (latinerref02_reader_read.j0 kq a1 a2 a3 x34_4 s0_0 (wrap64 (s0_1 + 1)) = some (r1, r2, r3, r4, r5, r6, r7)) ∧ Aside0 (kq ≤ k) ∧ Aside0 (wc.heap[gb363]? = some (.cells #[.int .i64 0, .string (⟨#[]⟩ : ByteArray), (.slice none 0 0)] 24 (0, 0))) ∧ Aside0 (IsS57 w0 wc g s0_0 (wrap64 (s0_1 + 1))) ∧ Aside0 (KeepBut w wc g none) ∧ Aside0 (Below w0.heap.size w0 wc))
 case first =>
  have H := HC5.out
  clear HC5
  by_cases c8 : (wrap64 (s0_1 + 1)) > 200
  ·rw [if_pos c8] at H
   have c8b0 : decide (200 < (wrap64 (s0_1 + 1))) = true := decide_eq_true c8
   clear c8
   (first | rw [c8b0] | (simp only [i64_w, i32_w]; rw [c8b0]) | skip)
   have H' := Aside0.mk H
   clear H
   obtain ⟨HGz9, hgz9⟩ := HI0.out
   have hcz9_0 := cellS57_0 HGz9
   have hcz9_1 := cellS57_1 HGz9
   have hfz9_0 := blk_frozen HGz9 0
   have hfz9_1 := blk_frozen HGz9 1
   clear HGz9 hgz9
   go_wp2
   go_meet
   case rel => exact ⟨_, (true), q3_, H', ⟨q12_⟩, ⟨by refine bkq ?_; refine blk_far ?_ NB363_0.out _; refine bkq ?_; exact BK363.out⟩, ⟨q11_⟩, ⟨q1_⟩, ⟨q9_⟩⟩
  ·rw [if_neg c8] at H
   have c8b0 : decide (200 < (wrap64 (s0_1 + 1))) = false := decide_eq_false c8
   clear c8
   (first | rw [c8b0] | (simp only [i64_w, i32_w]; rw [c8b0]) | skip)
   have H' := Aside0.mk H
   clear H
   obtain ⟨HGz10, hgz10⟩ := HI0.out
   have hcz10_0 := cellS57_0 HGz10
   have hcz10_1 := cellS57_1 HGz10
   have hfz10_0 := blk_frozen HGz10 0
   have hfz10_1 := blk_frozen HGz10 1
   clear HGz10 hgz10
   go_wp2
   go_meet
   case rel => exact ⟨_, (decide (a3 > 12)), q3_, H', ⟨q12_⟩, ⟨by refine bkq ?_; refine blk_far ?_ NB363_0.out _; refine bkq ?_; exact BK363.out⟩, ⟨q11_⟩, ⟨q1_⟩, ⟨q9_⟩⟩
 case rest =>
  clear HC5
  try clear p2
  try clear c3
  try clear p6
  try clear c8
  try clear c8b0
  try clear hcz10_0
  try clear hcz10_1
  try clear hcz7_0
  try clear hcz7_1
  try clear hcz9_0
  try clear hcz9_1
  try clear hfz10_0
  try clear hfz10_1
  try clear hfz7_0
  try clear hfz7_1
  try clear hfz9_0
  try clear hfz9_1
  obtain ⟨kq, x34_4, rfl, HA, HJ4, BK363, HI0, HK, HB⟩ := hcut
  cases kq with
  | zero => exact absurd HA.out (by simp [latinerref02_reader_read.j0])
  | succ kj4 =>
   have H := HA.out
   clear HA
   simp only [latinerref02_reader_read.j0] at H
   by_cases c11 : x34_4 = true
   ·subst c11
    have H1 : (some (0, (⟨#[]⟩ : ByteArray), ([] : List (S24)), 0, 21, s0_0, (wrap64 (s0_1 + 1)))) = some (r1, r2, r3, r4, r5, r6, r7) := by rw [if_pos rfl] at H; exact H
    clear H
    have H := H1
    clear H1
    simp only [Option.some.injEq, Prod.mk.injEq] at H
    obtain ⟨rfl, rfl, rfl, rfl, rfl, rfl, rfl⟩ := H
    have hnb12 := NB363_0.out
    have hnc12 := NB0_363.out
    have hcz13_0 : wc.cell? ⟨gb363, 0, none⟩ = some (.int .i64 0) := (blk_cell BK363.out 0).trans rfl
    have hcz13_1 : wc.cell? ⟨gb363, 1, none⟩ = some (.string (⟨#[]⟩ : ByteArray)) := (blk_cell BK363.out 1).trans rfl
    have hcz13_2 : wc.cell? ⟨gb363, 2, none⟩ = some (.slice none 0 0) := (blk_cell BK363.out 2).trans rfl
    have hfz13_0 := blk_frozen BK363.out 0
    have hfz13_1 := blk_frozen BK363.out 1
    have hfz13_2 := blk_frozen BK363.out 2
    go_wp2
    refine bodyPost_ret (results_ctt rfl _ _ gb363 24 #[.int .i64 0, .string (⟨#[]⟩ : ByteArray), .slice none 0 0] (0, 0) _ rfl (by refine bkq ?_; refine blk_put (cs := #[.int .i64 0, .string (⟨#[]⟩ : ByteArray), .slice none 0 0]) ?_ 2 _ rfl; refine bkq ?_; refine blk_put (cs := #[.int .i64 0, .string (⟨#[]⟩ : ByteArray), .slice none 0 0]) ?_ 1 _ rfl; refine bkq ?_; refine blk_put (cs := #[.int .i64 0, .string (⟨#[]⟩ : ByteArray), .slice none 0 0]) ?_ 0 _ rfl; refine bkq ?_; exact BK363.out) Tryd.underlying24 rfl (by kernel_rfl)) rfl ?_
    exact ⟨_, q2_, q8_, q11_, q9_, q1_⟩
   ·replace c11 := Bool.eq_false_iff.mpr c11
    subst c11
    have H1 : (if a1 ≥ a2 then (some (0, (⟨#[]⟩ : ByteArray), ([] : List (S24)), 0, 10, s0_0, (wrap64 (s0_1 + 1)))) else (if 0 ≤ a1 then (if a1 < (s0_0.size : Int) then (if (Int.tmod (wrap64 (bt s0_0 a1)) 32) = 31 then (some (0, (⟨#[]⟩ : ByteArray), ([] : List (S24)), 0, 20, s0_0, (wrap64 (s0_1 + 1)))) else (if 0 ≤ a2 then (if a2 ≤ (s0_0.size : Int) then ((latinerref01_Decode.f kj4 (s0_0.extract 0 (a2 : Int).toNat) (wrap64 (a1 + 1))).bind fun bt365 => (if bt365.2.2 = 0 then (if bt365.1 > (wrap64 (a2 - bt365.2.1)) then (some (0, (⟨#[]⟩ : ByteArray), ([] : List (S24)), 0, 10, s0_0, (wrap64 (s0_1 + 1)))) else (if (Int.tmod (wrap64 (Int.tdiv (wrap64 (bt s0_0 a1)) 32)) 2) = 0 then (if 0 ≤ bt365.2.1 then (if bt365.2.1 ≤ (wrap64 (bt365.2.1 + bt365.1)) then (if (wrap64 (bt365.2.1 + bt365.1)) ≤ (s0_0.size : Int) then (some (wrap64 (bt s0_0 a1), s0_0.extract (bt365.2.1 : Int).toNat ((wrap64 (bt365.2.1 + bt365.1)) : Int).toNat, ([] : List (S24)), wrap64 (bt365.2.1 + bt365.1), 0, s0_0, (wrap64 (s0_1 + 1)))) else (none)) else (none)) else (none)) else (latinerref02_reader_read.l0 kj4 a3 bt365.1 bt365.2.1 bt365.2.1 s0_0 (wrap64 (s0_1 + 1)) (wrap64 (bt s0_0 a1)) (⟨#[]⟩ : ByteArray) ([] : List (S24))))) else (some (0, (⟨#[]⟩ : ByteArray), ([] : List (S24)), 0, bt365.2.2, s0_0, (wrap64 (s0_1 + 1)))))) else (none)) else (none))) else (none)) else (none))) = some (r1, r2, r3, r4, r5, r6, r7) := by rw [if_neg (show ¬ (false = true) by decide)] at H; exact H
    clear H
    have H := H1
    clear H1
    by_cases c14 : a1 ≥ a2
    ·rw [if_pos c14] at H
     have c14b0 : decide (a2 ≤ a1) = true := decide_eq_true c14
     clear c14
     simp only [Option.some.injEq, Prod.mk.injEq] at H
     obtain ⟨rfl, rfl, rfl, rfl, rfl, rfl, rfl⟩ := H
     have hnb15 := NB363_0.out
     have hnc15 := NB0_363.out
     have hcz16_0 : wc.cell? ⟨gb363, 0, none⟩ = some (.int .i64 0) := (blk_cell BK363.out 0).trans rfl
     have hcz16_1 : wc.cell? ⟨gb363, 1, none⟩ = some (.string (⟨#[]⟩ : ByteArray)) := (blk_cell BK363.out 1).trans rfl
     have hcz16_2 : wc.cell? ⟨gb363, 2, none⟩ = some (.slice none 0 0) := (blk_cell BK363.out 2).trans rfl
     have hfz16_0 := blk_frozen BK363.out 0
     have hfz16_1 := blk_frozen BK363.out 1
     have hfz16_2 := blk_frozen BK363.out 2
     go_wp2
     refine bodyPost_ret (results_ctt rfl _ _ gb363 24 #[.int .i64 0, .string (⟨#[]⟩ : ByteArray), .slice none 0 0] (0, 0) _ rfl (by refine bkq ?_; refine blk_put (cs := #[.int .i64 0, .string (⟨#[]⟩ : ByteArray), .slice none 0 0]) ?_ 2 _ rfl; refine bkq ?_; refine blk_put (cs := #[.int .i64 0, .string (⟨#[]⟩ : ByteArray), .slice none 0 0]) ?_ 1 _ rfl; refine bkq ?_; refine blk_put (cs := #[.int .i64 0, .string (⟨#[]⟩ : ByteArray), .slice none 0 0]) ?_ 0 _ rfl; refine bkq ?_; exact BK363.out) Tryd.underlying24 rfl (by kernel_rfl)) rfl ?_
     exact ⟨_, q2_, q8_, q11_, q9_, q1_⟩
    ·rw [if_neg c14] at H
     have c14b0 : decide (a2 ≤ a1) = false := decide_eq_false c14
     clear c14
     by_cases c17 : 0 ≤ a1
     ·rw [if_pos c17] at H
      have c17b0 : decide (0 ≤ a1) = true := decide_eq_true c17
      clear c17
      by_cases c18 : a1 < (s0_0.size : Int)
      ·rw [if_pos c18] at H
       have c18b0 : decide (a1 < (s0_0.size : Int)) = true := decide_eq_true c18
       clear c18
       by_cases c20 : (Int.tmod (wrap64 (bt s0_0 a1)) 32) = 31
       ·rw [if_pos c20] at H
        have c20b0 : ((Int.tmod (wrap64 (bt s0_0 a1)) 32) == 31) = true := beq_iff_eq.mpr c20
        have c20b1 : ((Int.tmod (wrap64 (bt s0_0 a1)) 32) != 31) = false := bne_eq_false_iff_eq.mpr c20
        clear c20
        simp only [Option.some.injEq, Prod.mk.injEq] at H
        obtain ⟨rfl, rfl, rfl, rfl, rfl, rfl, rfl⟩ := H
        obtain ⟨HGz21, hgz21⟩ := HI0.out
        have hcz21_0 := cellS57_0 HGz21
        have hcz21_1 := cellS57_1 HGz21
        have hfz21_0 := blk_frozen HGz21 0
        have hfz21_1 := blk_frozen HGz21 1
        clear HGz21 hgz21
        have p19 : 0 ≤ (a1 : Int) := of_decide_eq_true q4_
        have q19 : a1 < (s0_0.size : Int) := of_decide_eq_true q4_
        have hx19 := bt_at s0_0 a1
        replace p19 := eq_true p19
        replace q19 := eq_true q19
        go_wp2_with (first | ((with_reducible refine gate_dst (N := 11) rfl ?_); refine box_event ?hg (N := 11) ?hd (cs := #[.int .i64 0, .string (⟨#[]⟩ : ByteArray), .slice none 0 0]) (t := 24) ?hr ?_; (case hd => rfl); (case hg => rfl); (case hr => first | (go_simp; done) | (go_simp; rfl)); intro gb364 hg w22 hbox hb; have n0_ := Aside0.mk (blk_below (g := gb363) (o := .cells #[.int .i64 0, .string (⟨#[]⟩ : ByteArray), .slice none 0 0] 24 (0, 0)) (bkq BK363.out) hb); have n1_ := Aside0.mk (IsS57.below q11_ hb); have n2_ := Aside0.mk (KeepBut.trans q1_ (KeepBut.of_below hb g none) (.inl rfl)); have n3_ := Aside0.mk (below_step q9_ hb); have n4_ := Aside0.mk (hbox); have n5_ := Aside0.mk ((by rw [hg]; exact (keep_size (w := w) (g := g) (row := none) q1_) : w.heap.size ≤ gb364)); have n6_ := Aside0.mk ((Nat.le_trans HW0.out (by rw [hg]; exact (keep_size (w := w) (g := g) (row := none) q1_) : w.heap.size ≤ gb364) : w0.heap.size ≤ gb364)); have n7_ := Aside0.mk ((by rw [hg]; exact Nat.ne_of_lt (blk_lt (g := gb363) (o := .cells #[.int .i64 0, .string (⟨#[]⟩ : ByteArray), .slice none 0 0] 24 (0, 0)) (bkq BK363.out)) : gb363 ≠ gb364)); have n8_ := Aside0.mk ((by rw [hg]; exact Nat.ne_of_gt (blk_lt (g := gb363) (o := .cells #[.int .i64 0, .string (⟨#[]⟩ : ByteArray), .slice none 0 0] 24 (0, 0)) (bkq BK363.out)) : gb364 ≠ gb363)); have n9_ := Aside0.mk ((by rw [hg]; exact Nat.ne_of_lt (IsS57.lt (show IsS57 w0 _ g s0_0 (wrap64 (s0_1 + 1)) from q11_)) : g ≠ gb364)); have n10_ := Aside0.mk ((by rw [hg]; exact Nat.ne_of_gt (IsS57.lt (show IsS57 w0 _ g s0_0 (wrap64 (s0_1 + 1)) from q11_)) : gb364 ≠ g)); clear BK363; clear HI0; clear HK; clear HB; have BK363 := n0_; have HI0 := n1_; have HK := n2_; have HB := n3_; have BK364 := n4_; have GW364 := n5_; have GE364 := n6_; have NB363_364 := n7_; have NB364_363 := n8_; have NB0_364 := n9_; have NB364_0 := n10_; clear n0_ n1_ n2_ n3_ n4_ n5_ n6_ n7_ n8_ n9_ n10_; clear hb hbox hg; have hnb23 := NB364_363.out; have hnc23 := NB363_364.out; have hnb24 := NB364_0.out; have hnc24 := NB0_364.out; have hcz25_0 : w22.cell? ⟨gb364, 0, none⟩ = some (.int .i64 0) := (blk_cell BK364.out 0).trans rfl; have hcz25_1 : w22.cell? ⟨gb364, 1, none⟩ = some (.string (⟨#[]⟩ : ByteArray)) := (blk_cell BK364.out 1).trans rfl; have hcz25_2 : w22.cell? ⟨gb364, 2, none⟩ = some (.slice none 0 0) := (blk_cell BK364.out 2).trans rfl; have hfz25_0 := blk_frozen BK364.out 0; have hfz25_1 := blk_frozen BK364.out 1; have hfz25_2 := blk_frozen BK364.out 2; have hnb26 := NB363_0.out; have hnc26 := NB0_363.out; have hcz27_0 : w22.cell? ⟨gb363, 0, none⟩ = some (.int .i64 0) := (blk_cell BK363.out 0).trans rfl; have hcz27_1 : w22.cell? ⟨gb363, 1, none⟩ = some (.string (⟨#[]⟩ : ByteArray)) := (blk_cell BK363.out 1).trans rfl; have hcz27_2 : w22.cell? ⟨gb363, 2, none⟩ = some (.slice none 0 0) := (blk_cell BK363.out 2).trans rfl; have hfz27_0 := blk_frozen BK363.out 0; have hfz27_1 := blk_frozen BK363.out 1; have hfz27_2 := blk_frozen BK363.out 2))
        refine bodyPost_ret (results_ctt rfl _ _ gb363 24 #[.int .i64 0, .string (⟨#[]⟩ : ByteArray), .slice none 0 0] (0, 0) _ rfl (by refine bkq ?_; refine blk_put (cs := #[.int .i64 0, .string (⟨#[]⟩ : ByteArray), .slice none 0 0]) ?_ 2 _ rfl; refine bkq ?_; refine blk_put (cs := #[.int .i64 0, .string (⟨#[]⟩ : ByteArray), .slice none 0 0]) ?_ 1 _ rfl; refine bkq ?_; refine blk_put (cs := #[.int .i64 0, .string (⟨#[]⟩ : ByteArray), .slice none 0 0]) ?_ 0 _ rfl; refine bkq ?_; refine blk_far ?_ NB363_364.out _; refine bkq ?_; refine blk_far ?_ NB363_364.out _; refine bkq ?_; refine blk_far ?_ NB363_364.out _; refine bkq ?_; exact BK363.out) Tryd.underlying24 rfl (by kernel_rfl)) rfl ?_
        exact ⟨_, q2_, q8_, q15_, q9_, q1_⟩
       ·rw [if_neg c20] at H
        have c20b0 : ((Int.tmod (wrap64 (bt s0_0 a1)) 32) == 31) = false := beq_eq_false_iff_ne.mpr c20
        have c20b1 : ((Int.tmod (wrap64 (bt s0_0 a1)) 32) != 31) = true := bne_iff_ne.mpr c20
        by_cases c28 : 0 ≤ a2
        ·rw [if_pos c28] at H
         have c28b0 := eq_true c28
         have c28b1 : decide (0 ≤ a2) = true := decide_eq_true c28
         clear c28
         by_cases c29 : a2 ≤ (s0_0.size : Int)
         ·rw [if_pos c29] at H
          have c29b0 := eq_true c29
          have c29b1 : decide (a2 ≤ (s0_0.size : Int)) = true := decide_eq_true c29
          clear c29
          replace H := Option.bind_eq_some_iff.mp H
          obtain ⟨⟨t365, t366, t367⟩, A300, H⟩ := H
          replace H : (if t367 = 0 then (if t365 > (wrap64 (a2 - t366)) then (some (0, (⟨#[]⟩ : ByteArray), ([] : List (S24)), 0, 10, s0_0, (wrap64 (s0_1 + 1)))) else (if (Int.tmod (wrap64 (Int.tdiv (wrap64 (bt s0_0 a1)) 32)) 2) = 0 then (if 0 ≤ t366 then (if t366 ≤ (wrap64 (t366 + t365)) then (if (wrap64 (t366 + t365)) ≤ (s0_0.size : Int) then (some (wrap64 (bt s0_0 a1), s0_0.extract (t366 : Int).toNat ((wrap64 (t366 + t365)) : Int).toNat, ([] : List (S24)), wrap64 (t366 + t365), 0, s0_0, (wrap64 (s0_1 + 1)))) else (none)) else (none)) else (none)) else (latinerref02_reader_read.l0 kj4 a3 t365 t366 t366 s0_0 (wrap64 (s0_1 + 1)) (wrap64 (bt s0_0 a1)) (⟨#[]⟩ : ByteArray) ([] : List (S24))))) else (some (0, (⟨#[]⟩ : ByteArray), ([] : List (S24)), 0, t367, s0_0, (wrap64 (s0_1 + 1))))) = some (r1, r2, r3, r4, r5, r6, r7) := H
          have A30 := Aside0.mk A300
          clear A300
          by_cases c31 : t367 = 0
          ·rw [if_pos c31] at H
           have c31b0 : (t367 == 0) = true := beq_iff_eq.mpr c31
           have c31b1 : (t367 != 0) = false := bne_eq_false_iff_eq.mpr c31
           clear c31
           by_cases c32 : t365 > (wrap64 (a2 - t366))
           ·rw [if_pos c32] at H
            have c32b0 : decide ((wrap64 (a2 - t366)) < t365) = true := decide_eq_true c32
            clear c32
            simp only [Option.some.injEq, Prod.mk.injEq] at H
            obtain ⟨rfl, rfl, rfl, rfl, rfl, rfl, rfl⟩ := H
            obtain ⟨HGz33, hgz33⟩ := HI0.out
            have hcz33_0 := cellS57_0 HGz33
            have hcz33_1 := cellS57_1 HGz33
            have hfz33_0 := blk_frozen HGz33 0
            have hfz33_1 := blk_frozen HGz33 1
            clear HGz33 hgz33
            have p19 : 0 ≤ (a1 : Int) := of_decide_eq_true q4_
            have q19 : a1 < (s0_0.size : Int) := of_decide_eq_true q4_
            have hx19 := bt_at s0_0 a1
            replace p19 := eq_true p19
            replace q19 := eq_true q19
            go_wp2_with (first | ((with_reducible refine gate_dst (N := 11) rfl ?_); refine box_event ?hg (N := 11) ?hd (cs := #[.int .i64 0, .string (⟨#[]⟩ : ByteArray), .slice none 0 0]) (t := 24) ?hr ?_; (case hd => rfl); (case hg => rfl); (case hr => first | (go_simp; done) | (go_simp; rfl)); intro gb364 hg w34 hbox hb; have n0_ := Aside0.mk (blk_below (g := gb363) (o := .cells #[.int .i64 0, .string (⟨#[]⟩ : ByteArray), .slice none 0 0] 24 (0, 0)) (bkq BK363.out) hb); have n1_ := Aside0.mk (IsS57.below q11_ hb); have n2_ := Aside0.mk (KeepBut.trans q1_ (KeepBut.of_below hb g none) (.inl rfl)); have n3_ := Aside0.mk (below_step q9_ hb); have n4_ := Aside0.mk (hbox); have n5_ := Aside0.mk ((by rw [hg]; exact (keep_size (w := w) (g := g) (row := none) q1_) : w.heap.size ≤ gb364)); have n6_ := Aside0.mk ((Nat.le_trans HW0.out (by rw [hg]; exact (keep_size (w := w) (g := g) (row := none) q1_) : w.heap.size ≤ gb364) : w0.heap.size ≤ gb364)); have n7_ := Aside0.mk ((by rw [hg]; exact Nat.ne_of_lt (blk_lt (g := gb363) (o := .cells #[.int .i64 0, .string (⟨#[]⟩ : ByteArray), .slice none 0 0] 24 (0, 0)) (bkq BK363.out)) : gb363 ≠ gb364)); have n8_ := Aside0.mk ((by rw [hg]; exact Nat.ne_of_gt (blk_lt (g := gb363) (o := .cells #[.int .i64 0, .string (⟨#[]⟩ : ByteArray), .slice none 0 0] 24 (0, 0)) (bkq BK363.out)) : gb364 ≠ gb363)); have n9_ := Aside0.mk ((by rw [hg]; exact Nat.ne_of_lt (IsS57.lt (show IsS57 w0 _ g s0_0 (wrap64 (s0_1 + 1)) from q11_)) : g ≠ gb364)); have n10_ := Aside0.mk ((by rw [hg]; exact Nat.ne_of_gt (IsS57.lt (show IsS57 w0 _ g s0_0 (wrap64 (s0_1 + 1)) from q11_)) : gb364 ≠ g)); clear BK363; clear HI0; clear HK; clear HB; have BK363 := n0_; have HI0 := n1_; have HK := n2_; have HB := n3_; have BK364 := n4_; have GW364 := n5_; have GE364 := n6_; have NB363_364 := n7_; have NB364_363 := n8_; have NB0_364 := n9_; have NB364_0 := n10_; clear n0_ n1_ n2_ n3_ n4_ n5_ n6_ n7_ n8_ n9_ n10_; clear hb hbox hg; have hnb35 := NB364_363.out; have hnc35 := NB363_364.out; have hnb36 := NB364_0.out; have hnc36 := NB0_364.out; have hcz37_0 : w34.cell? ⟨gb364, 0, none⟩ = some (.int .i64 0) := (blk_cell BK364.out 0).trans rfl; have hcz37_1 : w34.cell? ⟨gb364, 1, none⟩ = some (.string (⟨#[]⟩ : ByteArray)) := (blk_cell BK364.out 1).trans rfl; have hcz37_2 : w34.cell? ⟨gb364, 2, none⟩ = some (.slice none 0 0) := (blk_cell BK364.out 2).trans rfl; have hfz37_0 := blk_frozen BK364.out 0; have hfz37_1 := blk_frozen BK364.out 1; have hfz37_2 := blk_frozen BK364.out 2; obtain ⟨HGz38, hgz38⟩ := HI0.out; have hcz38_0 := cellS57_0 HGz38; have hcz38_1 := cellS57_1 HGz38; have hfz38_0 := blk_frozen HGz38 0; have hfz38_1 := blk_frozen HGz38 1; clear HGz38 hgz38) | ((with_reducible refine gate_callee (f := 45) rfl ?_); refine goesL_ (some 62) rfl rfl Tryd.func45 (by kernel_rfl) rfl #[.string (s0_0.extract 0 (a2 : Int).toNat), .int .i64 (wrap64 (a1 + 1))] rfl argq ?_; (with_reducible refine (latinerref01_Decode.calls kj4 (s0_0.extract 0 (a2 : Int).toNat) (wrap64 (a1 + 1)) t365 t366 t367 _ A30.out).mono ?_); rintro e w' ⟨rfl, ⟨nd, rfl⟩⟩; refine ⟨_, rfl, ?_⟩; have hnb39 := NB363_0.out; have hnc39 := NB0_363.out; have hcz40_0 : w34.cell? ⟨gb363, 0, none⟩ = some (.int .i64 0) := (blk_cell BK363.out 0).trans rfl; have hcz40_1 : w34.cell? ⟨gb363, 1, none⟩ = some (.string (⟨#[]⟩ : ByteArray)) := (blk_cell BK363.out 1).trans rfl; have hcz40_2 : w34.cell? ⟨gb363, 2, none⟩ = some (.slice none 0 0) := (blk_cell BK363.out 2).trans rfl; have hfz40_0 := blk_frozen BK363.out 0; have hfz40_1 := blk_frozen BK363.out 1; have hfz40_2 := blk_frozen BK363.out 2))
            refine bodyPost_ret (results_ctt rfl _ _ gb363 24 #[.int .i64 0, .string (⟨#[]⟩ : ByteArray), .slice none 0 0] (0, 0) _ rfl (by refine bkq ?_; refine blk_put (cs := #[.int .i64 0, .string (⟨#[]⟩ : ByteArray), .slice none 0 0]) ?_ 2 _ rfl; refine bkq ?_; refine blk_put (cs := #[.int .i64 0, .string (⟨#[]⟩ : ByteArray), .slice none 0 0]) ?_ 1 _ rfl; refine bkq ?_; refine blk_put (cs := #[.int .i64 0, .string (⟨#[]⟩ : ByteArray), .slice none 0 0]) ?_ 0 _ rfl; refine bkq ?_; refine blk_far ?_ NB363_364.out _; refine bkq ?_; refine blk_far ?_ NB363_364.out _; refine bkq ?_; refine blk_far ?_ NB363_364.out _; refine bkq ?_; exact BK363.out) Tryd.underlying24 rfl (by kernel_rfl)) rfl ?_
            exact ⟨_, q2_, q8_, q15_, q9_, q1_⟩
           ·rw [if_neg c32] at H
            have c32b0 : decide ((wrap64 (a2 - t366)) < t365) = false := decide_eq_false c32
            clear c32
            by_cases c41 : (Int.tmod (wrap64 (Int.tdiv (wrap64 (bt s0_0 a1)) 32)) 2) = 0
            ·rw [if_pos c41] at H
             have c41b0 : ((Int.tmod (wrap64 (Int.tdiv (wrap64 (bt s0_0 a1)) 32)) 2) == 0) = true := beq_iff_eq.mpr c41
             have c41b1 : ((Int.tmod (wrap64 (Int.tdiv (wrap64 (bt s0_0 a1)) 32)) 2) != 0) = false := bne_eq_false_iff_eq.mpr c41
             clear c41
             by_cases c42 : 0 ≤ t366
             ·rw [if_pos c42] at H
              have c42b0 := eq_true c42
              have c42b1 : decide (0 ≤ t366) = true := decide_eq_true c42
              clear c42
              by_cases c43 : t366 ≤ (wrap64 (t366 + t365))
              ·rw [if_pos c43] at H
               have c43b0 := eq_true c43
               have c43b1 : decide (t366 ≤ (wrap64 (t366 + t365))) = true := decide_eq_true c43
               by_cases c44 : (wrap64 (t366 + t365)) ≤ (s0_0.size : Int)
               ·rw [if_pos c44] at H
                have c44b0 := eq_true c44
                have c44b1 : decide ((wrap64 (t366 + t365)) ≤ (s0_0.size : Int)) = true := decide_eq_true c44
                simp only [Option.some.injEq, Prod.mk.injEq] at H
                obtain ⟨rfl, rfl, rfl, rfl, rfl, rfl, rfl⟩ := H
                obtain ⟨HGz45, hgz45⟩ := HI0.out
                have hcz45_0 := cellS57_0 HGz45
                have hcz45_1 := cellS57_1 HGz45
                have hfz45_0 := blk_frozen HGz45 0
                have hfz45_1 := blk_frozen HGz45 1
                clear HGz45 hgz45
                have p19 : 0 ≤ (a1 : Int) := of_decide_eq_true q4_
                have q19 : a1 < (s0_0.size : Int) := of_decide_eq_true q4_
                have hx19 := bt_at s0_0 a1
                replace p19 := eq_true p19
                replace q19 := eq_true q19
                go_wp2_with (first | ((with_reducible refine gate_dst (N := 11) rfl ?_); refine box_event ?hg (N := 11) ?hd (cs := #[.int .i64 0, .string (⟨#[]⟩ : ByteArray), .slice none 0 0]) (t := 24) ?hr ?_; (case hd => rfl); (case hg => rfl); (case hr => first | (go_simp; done) | (go_simp; rfl)); intro gb364 hg w46 hbox hb; have n0_ := Aside0.mk (blk_below (g := gb363) (o := .cells #[.int .i64 0, .string (⟨#[]⟩ : ByteArray), .slice none 0 0] 24 (0, 0)) (bkq BK363.out) hb); have n1_ := Aside0.mk (IsS57.below q11_ hb); have n2_ := Aside0.mk (KeepBut.trans q1_ (KeepBut.of_below hb g none) (.inl rfl)); have n3_ := Aside0.mk (below_step q9_ hb); have n4_ := Aside0.mk (hbox); have n5_ := Aside0.mk ((by rw [hg]; exact (keep_size (w := w) (g := g) (row := none) q1_) : w.heap.size ≤ gb364)); have n6_ := Aside0.mk ((Nat.le_trans HW0.out (by rw [hg]; exact (keep_size (w := w) (g := g) (row := none) q1_) : w.heap.size ≤ gb364) : w0.heap.size ≤ gb364)); have n7_ := Aside0.mk ((by rw [hg]; exact Nat.ne_of_lt (blk_lt (g := gb363) (o := .cells #[.int .i64 0, .string (⟨#[]⟩ : ByteArray), .slice none 0 0] 24 (0, 0)) (bkq BK363.out)) : gb363 ≠ gb364)); have n8_ := Aside0.mk ((by rw [hg]; exact Nat.ne_of_gt (blk_lt (g := gb363) (o := .cells #[.int .i64 0, .string (⟨#[]⟩ : ByteArray), .slice none 0 0] 24 (0, 0)) (bkq BK363.out)) : gb364 ≠ gb363)); have n9_ := Aside0.mk ((by rw [hg]; exact Nat.ne_of_lt (IsS57.lt (show IsS57 w0 _ g s0_0 (wrap64 (s0_1 + 1)) from q11_)) : g ≠ gb364)); have n10_ := Aside0.mk ((by rw [hg]; exact Nat.ne_of_gt (IsS57.lt (show IsS57 w0 _ g s0_0 (wrap64 (s0_1 + 1)) from q11_)) : gb364 ≠ g)); clear BK363; clear HI0; clear HK; clear HB; have BK363 := n0_; have HI0 := n1_; have HK := n2_; have HB := n3_; have BK364 := n4_; have GW364 := n5_; have GE364 := n6_; have NB363_364 := n7_; have NB364_363 := n8_; have NB0_364 := n9_; have NB364_0 := n10_; clear n0_ n1_ n2_ n3_ n4_ n5_ n6_ n7_ n8_ n9_ n10_; clear hb hbox hg; have hnb47 := NB364_363.out; have hnc47 := NB363_364.out; have hnb48 := NB364_0.out; have hnc48 := NB0_364.out; have hcz49_0 : w46.cell? ⟨gb364, 0, none⟩ = some (.int .i64 0) := (blk_cell BK364.out 0).trans rfl; have hcz49_1 : w46.cell? ⟨gb364, 1, none⟩ = some (.string (⟨#[]⟩ : ByteArray)) := (blk_cell BK364.out 1).trans rfl; have hcz49_2 : w46.cell? ⟨gb364, 2, none⟩ = some (.slice none 0 0) := (blk_cell BK364.out 2).trans rfl; have hfz49_0 := blk_frozen BK364.out 0; have hfz49_1 := blk_frozen BK364.out 1; have hfz49_2 := blk_frozen BK364.out 2; obtain ⟨HGz50, hgz50⟩ := HI0.out; have hcz50_0 := cellS57_0 HGz50; have hcz50_1 := cellS57_1 HGz50; have hfz50_0 := blk_frozen HGz50 0; have hfz50_1 := blk_frozen HGz50 1; clear HGz50 hgz50) | ((with_reducible refine gate_callee (f := 45) rfl ?_); refine goesL_ (some 62) rfl rfl Tryd.func45 (by kernel_rfl) rfl #[.string (s0_0.extract 0 (a2 : Int).toNat), .int .i64 (wrap64 (a1 + 1))] rfl argq ?_; (with_reducible refine (latinerref01_Decode.calls kj4 (s0_0.extract 0 (a2 : Int).toNat) (wrap64 (a1 + 1)) t365 t366 t367 _ A30.out).mono ?_); rintro e w' ⟨rfl, ⟨nd, rfl⟩⟩; refine ⟨_, rfl, ?_⟩; have hnb51 := NB363_0.out; have hnc51 := NB0_363.out; have hcz52_0 : w46.cell? ⟨gb363, 0, none⟩ = some (.int .i64 0) := (blk_cell BK363.out 0).trans rfl; have hcz52_1 : w46.cell? ⟨gb363, 1, none⟩ = some (.string (⟨#[]⟩ : ByteArray)) := (blk_cell BK363.out 1).trans rfl; have hcz52_2 : w46.cell? ⟨gb363, 2, none⟩ = some (.slice none 0 0) := (blk_cell BK363.out 2).trans rfl; have hfz52_0 := blk_frozen BK363.out 0; have hfz52_1 := blk_frozen BK363.out 1; have hfz52_2 := blk_frozen BK363.out 2))
                refine bodyPost_ret (results_ctt rfl _ _ gb363 24 #[.int .i64 (wrap64 (bt s0_0 a1)), .string (s0_0.extract (t366 : Int).toNat ((wrap64 (t366 + t365)) : Int).toNat), .slice none 0 0] (0, 0) _ rfl (by refine bkq ?_; refine blk_put (cs := #[.int .i64 (wrap64 (bt s0_0 a1)), .string (s0_0.extract (t366 : Int).toNat ((wrap64 (t366 + t365)) : Int).toNat), .slice none 0 0]) ?_ 2 _ rfl; refine bkq ?_; refine blk_put (cs := #[.int .i64 (wrap64 (bt s0_0 a1)), .string (⟨#[]⟩ : ByteArray), .slice none 0 0]) ?_ 1 _ rfl; refine bkq ?_; refine blk_put (cs := #[.int .i64 0, .string (⟨#[]⟩ : ByteArray), .slice none 0 0]) ?_ 0 _ rfl; refine bkq ?_; refine blk_far ?_ NB363_364.out _; refine bkq ?_; refine blk_far ?_ NB363_364.out _; refine bkq ?_; refine blk_far ?_ NB363_364.out _; refine bkq ?_; refine blk_far ?_ NB363_364.out _; refine bkq ?_; exact BK363.out) Tryd.underlying24 rfl (by kernel_rfl)) rfl ?_
                exact ⟨_, q2_, q8_, q15_, q9_, q1_⟩
               ·rw [if_neg c44] at H
                exact absurd H (by simp)
              ·rw [if_neg c43] at H
               exact absurd H (by simp)
             ·rw [if_neg c42] at H
              exact absurd H (by simp)
            ·rw [if_neg c41] at H
             have c41b0 : ((Int.tmod (wrap64 (Int.tdiv (wrap64 (bt s0_0 a1)) 32)) 2) == 0) = false := beq_eq_false_iff_ne.mpr c41
             have c41b1 : ((Int.tmod (wrap64 (Int.tdiv (wrap64 (bt s0_0 a1)) 32)) 2) != 0) = true := bne_iff_ne.mpr c41
             have H' := Aside0.mk H
             clear H
             obtain ⟨HGz53, hgz53⟩ := HI0.out
             have hcz53_0 := cellS57_0 HGz53
             have hcz53_1 := cellS57_1 HGz53
             have hfz53_0 := blk_frozen HGz53 0
             have hfz53_1 := blk_frozen HGz53 1
             clear HGz53 hgz53
             have p19 : 0 ≤ (a1 : Int) := of_decide_eq_true q4_
             have q19 : a1 < (s0_0.size : Int) := of_decide_eq_true q4_
             have hx19 := bt_at s0_0 a1
             replace p19 := eq_true p19
             replace q19 := eq_true q19
             go_wp2_with (first | ((with_reducible refine gate_dst (N := 11) rfl ?_); refine box_event ?hg (N := 11) ?hd (cs := #[.int .i64 0, .string (⟨#[]⟩ : ByteArray), .slice none 0 0]) (t := 24) ?hr ?_; (case hd => rfl); (case hg => rfl); (case hr => first | (go_simp; done) | (go_simp; rfl)); intro gb364 hg w54 hbox hb; have n0_ := Aside0.mk (blk_below (g := gb363) (o := .cells #[.int .i64 0, .string (⟨#[]⟩ : ByteArray), .slice none 0 0] 24 (0, 0)) (bkq BK363.out) hb); have n1_ := Aside0.mk (IsS57.below q11_ hb); have n2_ := Aside0.mk (KeepBut.trans q1_ (KeepBut.of_below hb g none) (.inl rfl)); have n3_ := Aside0.mk (below_step q9_ hb); have n4_ := Aside0.mk (hbox); have n5_ := Aside0.mk ((by rw [hg]; exact (keep_size (w := w) (g := g) (row := none) q1_) : w.heap.size ≤ gb364)); have n6_ := Aside0.mk ((Nat.le_trans HW0.out (by rw [hg]; exact (keep_size (w := w) (g := g) (row := none) q1_) : w.heap.size ≤ gb364) : w0.heap.size ≤ gb364)); have n7_ := Aside0.mk ((by rw [hg]; exact Nat.ne_of_lt (blk_lt (g := gb363) (o := .cells #[.int .i64 0, .string (⟨#[]⟩ : ByteArray), .slice none 0 0] 24 (0, 0)) (bkq BK363.out)) : gb363 ≠ gb364)); have n8_ := Aside0.mk ((by rw [hg]; exact Nat.ne_of_gt (blk_lt (g := gb363) (o := .cells #[.int .i64 0, .string (⟨#[]⟩ : ByteArray), .slice none 0 0] 24 (0, 0)) (bkq BK363.out)) : gb364 ≠ gb363)); have n9_ := Aside0.mk ((by rw [hg]; exact Nat.ne_of_lt (IsS57.lt (show IsS57 w0 _ g s0_0 (wrap64 (s0_1 + 1)) from q11_)) : g ≠ gb364)); have n10_ := Aside0.mk ((by rw [hg]; exact Nat.ne_of_gt (IsS57.lt (show IsS57 w0 _ g s0_0 (wrap64 (s0_1 + 1)) from q11_)) : gb364 ≠ g)); clear BK363; clear HI0; clear HK; clear HB; have BK363 := n0_; have HI0 := n1_; have HK := n2_; have HB := n3_; have BK364 := n4_; have GW364 := n5_; have GE364 := n6_; have NB363_364 := n7_; have NB364_363 := n8_; have NB0_364 := n9_; have NB364_0 := n10_; clear n0_ n1_ n2_ n3_ n4_ n5_ n6_ n7_ n8_ n9_ n10_; clear hb hbox hg; have hnb55 := NB364_363.out; have hnc55 := NB363_364.out; have hnb56 := NB364_0.out; have hnc56 := NB0_364.out; have hcz57_0 : w54.cell? ⟨gb364, 0, none⟩ = some (.int .i64 0) := (blk_cell BK364.out 0).trans rfl; have hcz57_1 : w54.cell? ⟨gb364, 1, none⟩ = some (.string (⟨#[]⟩ : ByteArray)) := (blk_cell BK364.out 1).trans rfl; have hcz57_2 : w54.cell? ⟨gb364, 2, none⟩ = some (.slice none 0 0) := (blk_cell BK364.out 2).trans rfl; have hfz57_0 := blk_frozen BK364.out 0; have hfz57_1 := blk_frozen BK364.out 1; have hfz57_2 := blk_frozen BK364.out 2; obtain ⟨HGz58, hgz58⟩ := HI0.out; have hcz58_0 := cellS57_0 HGz58; have hcz58_1 := cellS57_1 HGz58; have hfz58_0 := blk_frozen HGz58 0; have hfz58_1 := blk_frozen HGz58 1; clear HGz58 hgz58) | ((with_reducible refine gate_callee (f := 45) rfl ?_); refine goesL_ (some 62) rfl rfl Tryd.func45 (by kernel_rfl) rfl #[.string (s0_0.extract 0 (a2 : Int).toNat), .int .i64 (wrap64 (a1 + 1))] rfl argq ?_; (with_reducible refine (latinerref01_Decode.calls kj4 (s0_0.extract 0 (a2 : Int).toNat) (wrap64 (a1 + 1)) t365 t366 t367 _ A30.out).mono ?_); rintro e w' ⟨rfl, ⟨nd, rfl⟩⟩; refine ⟨_, rfl, ?_⟩))
             go_loopg [15] kj4 (fun kq v15 w' => ∃ (x15_2 : Int) (x1000_2 : ByteArray) (x1001_2 : Int) (x364000_2 : Int) (x364001_2 : ByteArray) (x365002_2 : List (S24)) (u365002 : Value), v15 = .int .i64 x15_2 ∧ Aside0 (latinerref02_reader_read.l0 kq a3 t365 t366 x15_2 x1000_2 x1001_2 (wrap64 (bt s0_0 a1)) (⟨#[]⟩ : ByteArray) x365002_2 = some (r1, r2, r3, r4, r5, r6, r7)) ∧ Aside0 (kq ≤ kj4) ∧ Aside0 (Kd.R k24 24 w' w.heap.size (fun k_ => k_ ≠ gb363 ∧ k_ ≠ gb364) u365002 x365002_2) ∧ Aside0 (w'.heap[gb363]? = some (.cells #[.int .i64 x364000_2, .string x364001_2, (.slice none 0 0)] 24 (0, 0))) ∧ Aside0 (w'.heap[gb364]? = some (.cells #[.int .i64 (wrap64 (bt s0_0 a1)), .string (⟨#[]⟩ : ByteArray), u365002] 24 (0, 0))) ∧ Aside0 (IsS57 w0 w' g x1000_2 x1001_2) ∧ Aside0 (KeepBut w w' g none) ∧ Aside0 (Below w0.heap.size w0 w'))
             case atStart => exact ⟨(t366), (s0_0), ((wrap64 (s0_1 + 1))), (0), ((⟨#[]⟩ : ByteArray)), (([] : List (S24))), (.slice none 0 0), q3_, H', ⟨Nat.le_refl _⟩, ⟨q8_⟩, ⟨by refine bkq ?_; refine blk_far ?_ NB363_364.out _; refine bkq ?_; refine blk_far ?_ NB363_364.out _; refine bkq ?_; refine blk_far ?_ NB363_364.out _; refine bkq ?_; exact BK363.out⟩, ⟨by refine bkq ?_; refine blk_put (cs := #[.int .i64 (wrap64 (bt s0_0 a1)), .string (⟨#[]⟩ : ByteArray), .slice none 0 0]) ?_ 2 _ rfl; refine bkq ?_; refine blk_put (cs := #[.int .i64 (wrap64 (bt s0_0 a1)), .string (⟨#[]⟩ : ByteArray), .slice none 0 0]) ?_ 1 _ rfl; refine bkq ?_; refine blk_put (cs := #[.int .i64 0, .string (⟨#[]⟩ : ByteArray), .slice none 0 0]) ?_ 0 _ rfl; refine bkq ?_; exact BK364.out⟩, ⟨q15_⟩, ⟨q1_⟩, ⟨q9_⟩⟩
             case round =>
              clear H'
              try clear c1
              try clear p1
              try clear q1
              try clear hx1
              try clear c2
              try clear p2
              try clear c3
              try clear c4
              try clear c5
              try clear p6
              try clear c8
              try clear c8b0
              try clear c11
              try clear c12
              try clear c14
              try clear c14b0
              try clear c15
              try clear c17
              try clear c17b0
              try clear c18
              try clear c18b0
              try clear p19
              try clear q19
              try clear hx19
              try clear c20
              try clear c20b0
              try clear c20b1
              try clear c23
              try clear c24
              try clear c26
              try clear c28
              try clear c28b0
              try clear c28b1
              try clear c29
              try clear c29b0
              try clear c29b1
              try clear c31
              try clear c31b0
              try clear c31b1
              try clear c32
              try clear c32b0
              try clear c35
              try clear c36
              try clear c39
              try clear c41
              try clear c41b0
              try clear c41b1
              try clear c42
              try clear c42b0
              try clear c42b1
              try clear c43
              try clear c43b0
              try clear c43b1
              try clear c44
              try clear c44b0
              try clear c44b1
              try clear c45
              try clear c47
              try clear c48
              try clear c51
              try clear c55
              try clear c56
              try clear hcz10_0
              try clear hcz10_1
              try clear hcz13_0
              try clear hcz13_1
              try clear hcz13_2
              try clear hcz16_0
              try clear hcz16_1
              try clear hcz16_2
              try clear hcz21_0
              try clear hcz21_1
              try clear hcz25_0
              try clear hcz25_1
              try clear hcz25_2
              try clear hcz27_0
              try clear hcz27_1
              try clear hcz27_2
              try clear hcz33_0
              try clear hcz33_1
              try clear hcz37_0
              try clear hcz37_1
              try clear hcz37_2
              try clear hcz38_0
              try clear hcz38_1
              try clear hcz40_0
              try clear hcz40_1
              try clear hcz40_2
              try clear hcz45_0
              try clear hcz45_1
              try clear hcz49_0
              try clear hcz49_1
              try clear hcz49_2
              try clear hcz50_0
              try clear hcz50_1
              try clear hcz52_0
              try clear hcz52_1
              try clear hcz52_2
              try clear hcz53_0
              try clear hcz53_1
              try clear hcz57_0
              try clear hcz57_1
              try clear hcz57_2
              try clear hcz58_0
              try clear hcz58_1
              try clear hcz7_0
              try clear hcz7_1
              try clear hcz9_0
              try clear hcz9_1
              try clear hfz10_0
              try clear hfz10_1
              try clear hfz13_0
              try clear hfz13_1
              try clear hfz13_2
              try clear hfz16_0
              try clear hfz16_1
              try clear hfz16_2
              try clear hfz21_0
              try clear hfz21_1
              try clear hfz25_0
              try clear hfz25_1
              try clear hfz25_2
              try clear hfz27_0
              try clear hfz27_1
              try clear hfz27_2
              try clear hfz33_0
              try clear hfz33_1
              try clear hfz37_0
              try clear hfz37_1
              try clear hfz37_2
              try clear hfz38_0
              try clear hfz38_1
              try clear hfz40_0
              try clear hfz40_1
              try clear hfz40_2
              try clear hfz45_0
              try clear hfz45_1
              try clear hfz49_0
              try clear hfz49_1
              try clear hfz49_2
              try clear hfz50_0
              try clear hfz50_1
              try clear hfz52_0
              try clear hfz52_1
              try clear hfz52_2
              try clear hfz53_0
              try clear hfz53_1
              try clear hfz57_0
              try clear hfz57_1
              try clear hfz57_2
              try clear hfz58_0
              try clear hfz58_1
              try clear hfz7_0
              try clear hfz7_1
              try clear hfz9_0
              try clear hfz9_1
              try clear p19
              try clear p2
              try clear p6
              try clear q19
              obtain ⟨x15_2, x1000_2, x1001_2, x364000_2, x364001_2, x365002_2, u365002, rfl, HA, HK2, HO_365002, BK363, BK364, HI0, HK, HB⟩ := hrel
              cases gk with
              | zero => exact absurd HA.out (by simp [latinerref02_reader_read.l0])
              | succ k2 =>
               have H := HA.out
               clear HA
               simp only [latinerref02_reader_read.l0] at H
               by_cases c59 : x15_2 < (wrap64 (t366 + t365))
               ·rw [if_pos c59] at H
                have c59b0 : decide (x15_2 < (wrap64 (t366 + t365))) = true := decide_eq_true c59
                clear c59
                replace H := Option.bind_eq_some_iff.mp H
                obtain ⟨⟨t368, t369, t370, t373, t374, t375, t376⟩, A600, H⟩ := H
                replace H : (if t374 = 0 then (if x365002_2.length < 2932031007402 then (latinerref02_reader_read.l0 k2 a3 t365 t366 t373 t375 t376 (wrap64 (bt s0_0 a1)) (⟨#[]⟩ : ByteArray) (x365002_2 ++ [(⟨t368, t369, t370⟩ : S24)])) else (none)) else (some (0, (⟨#[]⟩ : ByteArray), ([] : List (S24)), 0, t374, t375, t376))) = some (r1, r2, r3, r4, r5, r6, r7) := H
                have A60 := Aside0.mk A600
                clear A600
                by_cases c61 : t374 = 0
                ·rw [if_pos c61] at H
                 have c61b0 : (t374 == 0) = true := beq_iff_eq.mpr c61
                 have c61b1 : (t374 != 0) = false := bne_eq_false_iff_eq.mpr c61
                 clear c61
                 by_cases c62 : x365002_2.length < 2932031007402
                 ·rw [if_pos c62] at H
                  have LMc62 := Aside0.mk c62
                  clear c62
                  obtain ⟨y378, hy378⟩ : ∃ y_ : List (S24), y_ = (x365002_2 ++ [(⟨t368, t369, t370⟩ : S24)]) := ⟨_, rfl⟩
                  replace H : (latinerref02_reader_read.l0 k2 a3 t365 t366 t373 t375 t376 (wrap64 (bt s0_0 a1)) (⟨#[]⟩ : ByteArray) y378) = some (r1, r2, r3, r4, r5, r6, r7) := by first | (rw [hy378]; with_reducible exact H) | (have H2_ := (Option.bind_some _ _).symm.trans H; rw [hy378]; with_reducible exact H2_) | (have H2_ := (Option.bind_some _ _).symm.trans H; with_reducible exact H2_) | with_reducible exact H | (rw [hy378]; exact H) | exact H
                  have Ny378 := Aside0.mk hy378
                  clear hy378
                  have H' := Aside0.mk H
                  clear H
                  go_wp2_with (first | ((with_reducible refine gate_callee (f := 32) rfl ?_); refine goesL_ (some 109) rfl rfl Tryd.func32 (by kernel_rfl) rfl #[.pointer (some ⟨g, 0, none⟩), .int .i64 x15_2, .int .i64 (wrap64 (t366 + t365)), .int .i64 (wrap64 (a3 + 1))] rfl argq ?_; (with_reducible refine (ih k2 (by have := HJ4.out; have := HK2.out; omega) g x1000_2 x1001_2 x15_2 (wrap64 (t366 + t365)) (wrap64 (a3 + 1)) t368 t369 t370 t373 t374 t375 t376 w0 _ ?side1 ?side2 A60.out).mono ?_); (case side1 => repeat (first | (with_reducible first | exact HI0.out | apply IsS57.alloc | apply IsS57.drewN | apply IsS57.drew | apply IsS57.set_0 | apply IsS57.set_1 | refine IsS57.far ?_ NB0_363.out _ | refine IsS57.far ?_ NB0_364.out _) | exact HI0.out | refine IsS57.far (f0 := ?f0) ?_ NB0_363.out _ | refine IsS57.far (f1 := ?f1) ?_ NB0_363.out _ | refine IsS57.far (f0 := ?f0) (f1 := ?f1) ?_ NB0_363.out _ | refine IsS57.far (f0 := ?f0) ?_ NB0_364.out _ | refine IsS57.far (f1 := ?f1) ?_ NB0_364.out _ | refine IsS57.far (f0 := ?f0) (f1 := ?f1) ?_ NB0_364.out _)); (case side2 => repeat (first | (with_reducible first | exact HB.out | apply below_alloc | apply pw_below_drewN | apply below_drew1 | refine below_set ?_ (IsS57.ge HI0.out) | refine below_set ?_ (Aside0.out (by assumption))) | exact HB.out)); rintro e w63 ⟨v371, rfl, ho0, hi, hb, hk⟩; refine ⟨_, rfl, ?_⟩; have n0_ := Aside0.mk (Kd.R_mono (Kd.R_told (Kd.R_oldK (IsS57.apart (show IsS57 w0 _ g x1000_2 x1001_2 from q15_) (rkq HO_365002.out) (by decide)) hk) (Kd.R_base ho0)) (fun _ h_ => h_.1)); have n1_ := Aside0.mk (KeepBut.blk hk (g' := gb363) (o := .cells #[.int .i64 x364000_2, .string x364001_2, .slice none 0 0] 24 (0, 0)) (bkq BK363.out) NB363_0.out (by simp)); have n2_ := Aside0.mk (KeepBut.blk hk (g' := gb364) (o := .cells #[.int .i64 (wrap64 (bt s0_0 a1)), .string (⟨#[]⟩ : ByteArray), u365002] 24 (0, 0)) (bkq BK364.out) NB364_0.out (by simp)); have n3_ := Aside0.mk (Kd.R_lower (Kd.R_newB (Kd.R_newB (Kd.R_new' ho0 (Kd.R_lt (rkq HO_365002.out))) (g := gb363) (o := .cells #[.int .i64 x364000_2, .string x364001_2, .slice none 0 0] 24 (0, 0)) (bkq BK363.out)) (g := gb364) (o := .cells #[.int .i64 (wrap64 (bt s0_0 a1)), .string (⟨#[]⟩ : ByteArray), u365002] 24 (0, 0)) (bkq BK364.out)) (keep_size (w := w) (g := g) (row := none) q1_)); have n4_ := Aside0.mk (KeepBut.trans q1_ hk (.inl rfl)); have n5_ := Aside0.mk (hb); have n6_ := Aside0.mk (hi); clear HO_365002; clear BK363; clear BK364; clear HK; clear HB; clear HI0; have HO_365002 := n0_; have BK363 := n1_; have BK364 := n2_; have HO372 := n3_; have HK := n4_; have HB := n5_; have HI0 := n6_; clear n0_ n1_ n2_ n3_ n4_ n5_ n6_; (try clear hb); (try clear hb2); (try clear hk); (try clear hi); (try clear ho0)) | ((with_reducible refine gate_dst (N := 16) rfl ?_); refine box_event ?hg (N := 16) ?hd (cs := #[.int .i64 0, .string (⟨#[]⟩ : ByteArray), .slice none 0 0]) (t := 24) ?hr ?_; (case hd => rfl); (case hg => rfl); (case hr => first | (go_simp; done) | (go_simp; rfl)); intro gb377 hg w64 hbox hb; have n0_ := Aside0.mk (Kd.R_below (Kd.R_elderB (rkq HO_365002.out) gb377 (Nat.le_of_eq hg.symm)) hb); have n1_ := Aside0.mk (Kd.R_below (Kd.R_elderB (rkq HO372.out) gb377 (Nat.le_of_eq hg.symm)) hb); have n2_ := Aside0.mk (blk_below (g := gb363) (o := .cells #[.int .i64 x364000_2, .string x364001_2, .slice none 0 0] 24 (0, 0)) (bkq BK363.out) hb); have n3_ := Aside0.mk (blk_below (g := gb364) (o := .cells #[.int .i64 (wrap64 (bt s0_0 a1)), .string (⟨#[]⟩ : ByteArray), u365002] 24 (0, 0)) (bkq BK364.out) hb); have n4_ := Aside0.mk (IsS57.below q15_ hb); have n5_ := Aside0.mk (KeepBut.trans q1_ (KeepBut.of_below hb g none) (.inl rfl)); have n6_ := Aside0.mk (below_step q9_ hb); have n7_ := Aside0.mk (hbox); have n8_ := Aside0.mk ((by rw [hg]; exact (keep_size (w := w) (g := g) (row := none) q1_) : w.heap.size ≤ gb377)); have n9_ := Aside0.mk ((Nat.le_trans HW0.out (by rw [hg]; exact (keep_size (w := w) (g := g) (row := none) q1_) : w.heap.size ≤ gb377) : w0.heap.size ≤ gb377)); have n10_ := Aside0.mk ((by rw [hg]; exact Nat.ne_of_lt (blk_lt (g := gb363) (o := .cells #[.int .i64 x364000_2, .string x364001_2, .slice none 0 0] 24 (0, 0)) (bkq BK363.out)) : gb363 ≠ gb377)); have n11_ := Aside0.mk ((by rw [hg]; exact Nat.ne_of_gt (blk_lt (g := gb363) (o := .cells #[.int .i64 x364000_2, .string x364001_2, .slice none 0 0] 24 (0, 0)) (bkq BK363.out)) : gb377 ≠ gb363)); have n12_ := Aside0.mk ((by rw [hg]; exact Nat.ne_of_lt (blk_lt (g := gb364) (o := .cells #[.int .i64 (wrap64 (bt s0_0 a1)), .string (⟨#[]⟩ : ByteArray), u365002] 24 (0, 0)) (bkq BK364.out)) : gb364 ≠ gb377)); have n13_ := Aside0.mk ((by rw [hg]; exact Nat.ne_of_gt (blk_lt (g := gb364) (o := .cells #[.int .i64 (wrap64 (bt s0_0 a1)), .string (⟨#[]⟩ : ByteArray), u365002] 24 (0, 0)) (bkq BK364.out)) : gb377 ≠ gb364)); have n14_ := Aside0.mk ((by rw [hg]; exact Nat.ne_of_lt (IsS57.lt (show IsS57 w0 _ g t375 t376 from q15_)) : g ≠ gb377)); have n15_ := Aside0.mk ((by rw [hg]; exact Nat.ne_of_gt (IsS57.lt (show IsS57 w0 _ g t375 t376 from q15_)) : gb377 ≠ g)); clear HO_365002; clear HO372; clear BK363; clear BK364; clear HI0; clear HK; clear HB; have HO_365002 := n0_; have HO372 := n1_; have BK363 := n2_; have BK364 := n3_; have HI0 := n4_; have HK := n5_; have HB := n6_; have BK377 := n7_; have GW377 := n8_; have GE377 := n9_; have NB363_377 := n10_; have NB377_363 := n11_; have NB364_377 := n12_; have NB377_364 := n13_; have NB0_377 := n14_; have NB377_0 := n15_; clear n0_ n1_ n2_ n3_ n4_ n5_ n6_ n7_ n8_ n9_ n10_ n11_ n12_ n13_ n14_ n15_; clear hb hbox hg; have hnb65 := NB377_363.out; have hnc65 := NB363_377.out; have hnb66 := NB377_364.out; have hnc66 := NB364_377.out; have hnb67 := NB377_0.out; have hnc67 := NB0_377.out; have hcz68_0 : w64.cell? ⟨gb377, 0, none⟩ = some (.int .i64 0) := (blk_cell BK377.out 0).trans rfl; have hcz68_1 : w64.cell? ⟨gb377, 1, none⟩ = some (.string (⟨#[]⟩ : ByteArray)) := (blk_cell BK377.out 1).trans rfl; have hcz68_2 : w64.cell? ⟨gb377, 2, none⟩ = some (.slice none 0 0) := (blk_cell BK377.out 2).trans rfl; have hfz68_0 := blk_frozen BK377.out 0; have hfz68_1 := blk_frozen BK377.out 1; have hfz68_2 := blk_frozen BK377.out 2; obtain ⟨Ao69, co69, eo69⟩ := Kd.R_slice HO372.out; subst eo69) | ((with_reducible refine gate_store (t := 24) (p := 16) rfl ?_); refine store_event (t := 24) (p := 16) (v := ?vo_w70) (w1 := (((w64.setCell ⟨gb377, 0, none⟩ (.int .i64 t368)).setCell ⟨gb377, 1, none⟩ (.string t369)).setCell ⟨gb377, 2, none⟩ (.slice Ao69 t370.length co69))) ?hg ?ho ?hn ?hr ?_; (case ho => rfl); (case hg => rfl); (case hn => rfl); (case hr => first | (go_simp; done) | (go_simp; rfl)); intro w70 hw; have n0_ : Aside0 (Kd.R k24 24 w70 w.heap.size (fun k_ => some k_ ≠ (.slice Ao69 t370.length co69 : Value).ownBlock ∧ k_ ≠ gb363 ∧ k_ ≠ gb364 ∧ k_ ≠ gb377) u365002 x365002_2) := ⟨(by rw [hw]; exact (by refine rkq ?_; exact Kd.R_mono (Kd.R_far (p := ⟨gb377, 2, none⟩) (Kd.R_far (p := ⟨gb377, 1, none⟩) (Kd.R_far (p := ⟨gb377, 0, none⟩) (Kd.R_mono HO_365002.out (fun k_ hk => (⟨hk, hk.2⟩ : _ ∧ k_ ≠ gb377))) (fun _ hk => hk.2) (.int .i64 t368)) (fun _ hk => hk.2) (.string t369)) (fun _ hk => hk.2) (.slice Ao69 t370.length co69)) (fun _ hk => ⟨hk.1.1.2, ⟨hk.1.1.1.1, ⟨hk.1.1.1.2, hk.1.2⟩⟩⟩)))⟩; have n1_ : Aside0 (Kd.R k24 24 w70 w.heap.size (fun k_ => some k_ ≠ (u365002 : Value).ownBlock ∧ k_ ≠ gb363 ∧ k_ ≠ gb364 ∧ k_ ≠ gb377) (.slice Ao69 t370.length co69) t370) := ⟨(by rw [hw]; exact (by refine rkq ?_; exact Kd.R_mono (Kd.R_far (p := ⟨gb377, 2, none⟩) (Kd.R_far (p := ⟨gb377, 1, none⟩) (Kd.R_far (p := ⟨gb377, 0, none⟩) (Kd.R_mono HO372.out (fun k_ hk => (⟨hk, hk.2⟩ : _ ∧ k_ ≠ gb377))) (fun _ hk => hk.2) (.int .i64 t368)) (fun _ hk => hk.2) (.string t369)) (fun _ hk => hk.2) (.slice Ao69 t370.length co69)) (fun _ hk => ⟨hk.1.1.1.1.2, ⟨hk.1.1.1.2, ⟨hk.1.1.2, hk.1.2⟩⟩⟩)))⟩; have n2_ : Aside0 (w70.heap[gb363]? = some (.cells #[.int .i64 x364000_2, .string x364001_2, .slice none 0 0] 24 (0, 0))) := ⟨(by rw [hw]; exact (by refine bkq ?_; refine blk_far ?_ NB363_377.out _; refine bkq ?_; refine blk_far ?_ NB363_377.out _; refine bkq ?_; refine blk_far ?_ NB363_377.out _; refine bkq ?_; exact BK363.out))⟩; have n3_ : Aside0 (w70.heap[gb364]? = some (.cells #[.int .i64 (wrap64 (bt s0_0 a1)), .string (⟨#[]⟩ : ByteArray), u365002] 24 (0, 0))) := ⟨(by rw [hw]; exact (by refine bkq ?_; refine blk_far ?_ NB364_377.out _; refine bkq ?_; refine blk_far ?_ NB364_377.out _; refine bkq ?_; refine blk_far ?_ NB364_377.out _; refine bkq ?_; exact BK364.out))⟩; have n4_ : Aside0 (w70.heap[gb377]? = some (.cells #[.int .i64 t368, .string t369, .slice Ao69 t370.length co69] 24 (0, 0))) := ⟨(by rw [hw]; exact (by refine bkq ?_; refine blk_put (cs := #[.int .i64 t368, .string t369, .slice none 0 0]) ?_ 2 _ rfl; refine bkq ?_; refine blk_put (cs := #[.int .i64 t368, .string (⟨#[]⟩ : ByteArray), .slice none 0 0]) ?_ 1 _ rfl; refine bkq ?_; refine blk_put (cs := #[.int .i64 0, .string (⟨#[]⟩ : ByteArray), .slice none 0 0]) ?_ 0 _ rfl; refine bkq ?_; exact BK377.out))⟩; have n5_ : Aside0 (IsS57 w0 w70 g t375 t376) := ⟨(by rw [hw]; exact q22_)⟩; have n6_ : Aside0 (KeepBut w w70 g none) := ⟨(by rw [hw]; exact q1_)⟩; have n7_ : Aside0 (Below w0.heap.size w0 w70) := ⟨(by rw [hw]; exact q9_)⟩; clear hw; clear HO_365002; clear HO372; clear BK363; clear BK364; clear BK377; clear HI0; clear HK; clear HB; have HO_365002 := n0_; have HO372 := n1_; have BK363 := n2_; have BK364 := n3_; have BK377 := n4_; have HI0 := n5_; have HK := n6_; have HB := n7_; clear n0_ n1_ n2_ n3_ n4_ n5_ n6_ n7_; have hnb71 := NB364_363.out; have hnc71 := NB363_364.out; have hnb72 := NB364_0.out; have hnc72 := NB0_364.out; have hcz73_0 : w70.cell? ⟨gb364, 0, none⟩ = some (.int .i64 (wrap64 (bt s0_0 a1))) := (blk_cell BK364.out 0).trans rfl; have hcz73_1 : w70.cell? ⟨gb364, 1, none⟩ = some (.string (⟨#[]⟩ : ByteArray)) := (blk_cell BK364.out 1).trans rfl; have hcz73_2 : w70.cell? ⟨gb364, 2, none⟩ = some (u365002) := (blk_cell BK364.out 2).trans rfl; have hfz73_0 := blk_frozen BK364.out 0; have hfz73_1 := blk_frozen BK364.out 1; have hfz73_2 := blk_frozen BK364.out 2; have hcz74_0 : w70.cell? ⟨gb377, 0, none⟩ = some (.int .i64 t368) := (blk_cell BK377.out 0).trans rfl; have hcz74_1 : w70.cell? ⟨gb377, 1, none⟩ = some (.string t369) := (blk_cell BK377.out 1).trans rfl; have hcz74_2 : w70.cell? ⟨gb377, 2, none⟩ = some (.slice Ao69 t370.length co69) := (blk_cell BK377.out 2).trans rfl; have hfz74_0 := blk_frozen BK377.out 0; have hfz74_1 := blk_frozen BK377.out 1; have hfz74_2 := blk_frozen BK377.out 2) | ((with_reducible refine gate_builtin (b := .append) (xs := #[.tmp 118, .tmp 120]) rfl ?_); at_builtin; refine Kd.R_append k24 w.heap.size rfl (.tmp 118) (.tmp 120) 22 24 (.agg #[(.int .i64 0), (.string ⟨#[]⟩), (.slice none 0 0)]) 48 rfl Tryd.underlying22 info24 rfl (by decide) (by omega) u365002 x365002_2 (⟨t368, t369, t370⟩ : S24) [.int .i64 t368, .string t369, .slice Ao69 t370.length co69] (fun k_ => k_ ≠ gb363 ∧ k_ ≠ gb364 ∧ k_ ≠ gb377) (fun k_ => ((fun k_ => k_ ≠ gb363 ∧ k_ ≠ gb364 ∧ k_ ≠ gb377)) k_ ∧ some k_ ≠ (u365002 : Value).ownBlock) rfl rfl ?aP (fun _ hk => hk) ?aF ?aO (Below.refl _ _) ?aS ?aL ?_; (case aP => exact k24_mkM _ _ _ (⟨t368, t369, t370⟩ : S24) (Kd.R_mono (HO372.out) (fun k_ hk => ⟨⟨hk.2.1, ⟨hk.2.2.1, hk.2.2.2⟩⟩, hk.1⟩))); (case aF => exact (fun k_ hk => ⟨Kd.freshB (g := gb363) (o := .cells #[.int .i64 x364000_2, .string x364001_2, .slice none 0 0] 24 (0, 0)) (bkq BK363.out) k_ hk, Kd.freshB (g := gb364) (o := .cells #[.int .i64 (wrap64 (bt s0_0 a1)), .string (⟨#[]⟩ : ByteArray), u365002] 24 (0, 0)) (bkq BK364.out) k_ hk, Kd.freshB (g := gb377) (o := .cells #[.int .i64 t368, .string t369, .slice Ao69 t370.length co69] 24 (0, 0)) (bkq BK377.out) k_ hk⟩)); (case aO => exact (by refine rkq ?_; exact Kd.R_mono HO_365002.out (fun _ hk => ⟨hk.2.1, ⟨hk.2.2.1, hk.2.2.2⟩⟩))); (case aS => exact (keep_size (w := w) (g := g) (row := none) q1_)); (case aL => have := LMc62.out; omega); intro v379 w75 ho hb hg hat; rw [← Ny378.out] at ho; have n0_ := Aside0.mk (blk_grown (g := gb363) (o := .cells #[.int .i64 x364000_2, .string x364001_2, .slice none 0 0] 24 (0, 0)) (bkq BK363.out) hg (Kd.R_away HO_365002.out (fun _ hk => hk.2.1))); have n1_ := Aside0.mk (blk_grown (g := gb364) (o := .cells #[.int .i64 (wrap64 (bt s0_0 a1)), .string (⟨#[]⟩ : ByteArray), u365002] 24 (0, 0)) (bkq BK364.out) hg (Kd.R_away HO_365002.out (fun _ hk => hk.2.2.1))); have n2_ := Aside0.mk (IsS57.grown q22_ hg (IsS57.own_ne HI0.out HO_365002.out (by decide))); have n3_ := Aside0.mk (blk_grown (g := gb377) (o := .cells #[.int .i64 t368, .string t369, .slice Ao69 t370.length co69] 24 (0, 0)) (bkq BK377.out) hg (Kd.R_away HO_365002.out (fun _ hk => hk.2.2.2))); have n4_ := Aside0.mk (below_weaken q9_ HL.out hb); have n5_ := Aside0.mk (KeepBut.trans q1_ (KeepBut.of_grown hg g) (Kd.R_base2 HO_365002.out)); have n6_ := Aside0.mk (ho); clear BK363; clear BK364; clear HI0; clear BK377; clear HB; clear HK; clear HO_365002; clear HO372; have BK363 := n0_; have BK364 := n1_; have HI0 := n2_; have BK377 := n3_; have HB := n4_; have HK := n5_; have HO380 := n6_; clear n0_ n1_ n2_ n3_ n4_ n5_ n6_; clear ho hb hg hat; obtain ⟨Ao76, co76, eo76⟩ := Kd.R_slice HO380.out; subst eo76; have hcz77_0 : w75.cell? ⟨gb364, 0, none⟩ = some (.int .i64 (wrap64 (bt s0_0 a1))) := (blk_cell BK364.out 0).trans rfl; have hcz77_1 : w75.cell? ⟨gb364, 1, none⟩ = some (.string (⟨#[]⟩ : ByteArray)) := (blk_cell BK364.out 1).trans rfl; have hcz77_2 : w75.cell? ⟨gb364, 2, none⟩ = some (u365002) := (blk_cell BK364.out 2).trans rfl; have hfz77_0 := blk_frozen BK364.out 0; have hfz77_1 := blk_frozen BK364.out 1; have hfz77_2 := blk_frozen BK364.out 2))
                  go_roundg k2
                  case measure => have := HJ4.out; have := HK2.out; omega
                  case rel => exact ⟨(t373), (t375), (t376), (x364000_2), (x364001_2), (y378), (.slice Ao76 y378.length co76), q3_, H', ⟨by have := HJ4.out; have := HK2.out; omega⟩, ⟨by refine rkq ?_; exact Kd.R_mono (Kd.R_far (p := ⟨gb364, 2, none⟩) (Kd.R_mono HO380.out (fun k_ hk => (⟨hk, hk.2.1⟩ : _ ∧ k_ ≠ gb364))) (fun _ hk => hk.2) (.slice Ao76 y378.length co76)) (fun _ hk => ⟨hk.1.1, hk.1.2.1⟩)⟩, ⟨by refine bkq ?_; refine blk_far ?_ NB363_364.out _; refine bkq ?_; exact BK363.out⟩, ⟨by refine bkq ?_; refine blk_put (cs := #[.int .i64 (wrap64 (bt s0_0 a1)), .string (⟨#[]⟩ : ByteArray), u365002]) ?_ 2 _ rfl; refine bkq ?_; exact BK364.out⟩, ⟨q22_⟩, ⟨q1_⟩, ⟨q9_⟩⟩
                 ·rw [if_neg c62] at H
                  exact absurd H (by simp)
                ·rw [if_neg c61] at H
                 have c61b0 : (t374 == 0) = false := beq_eq_false_iff_ne.mpr c61
                 have c61b1 : (t374 != 0) = true := bne_iff_ne.mpr c61
                 simp only [Option.some.injEq, Prod.mk.injEq] at H
                 obtain ⟨rfl, rfl, rfl, rfl, rfl, rfl, rfl⟩ := H
                 go_wp2_with (first | ((with_reducible refine gate_callee (f := 32) rfl ?_); refine goesL_ (some 109) rfl rfl Tryd.func32 (by kernel_rfl) rfl #[.pointer (some ⟨g, 0, none⟩), .int .i64 x15_2, .int .i64 (wrap64 (t366 + t365)), .int .i64 (wrap64 (a3 + 1))] rfl argq ?_; (with_reducible refine (ih k2 (by have := HJ4.out; have := HK2.out; omega) g x1000_2 x1001_2 x15_2 (wrap64 (t366 + t365)) (wrap64 (a3 + 1)) t368 t369 t370 t373 t374 t375 t376 w0 _ ?side1 ?side2 A60.out).mono ?_); (case side1 => repeat (first | (with_reducible first | exact HI0.out | apply IsS57.alloc | apply IsS57.drewN | apply IsS57.drew | apply IsS57.set_0 | apply IsS57.set_1 | refine IsS57.far ?_ NB0_363.out _ | refine IsS57.far ?_ NB0_364.out _) | exact HI0.out | refine IsS57.far (f0 := ?f0) ?_ NB0_363.out _ | refine IsS57.far (f1 := ?f1) ?_ NB0_363.out _ | refine IsS57.far (f0 := ?f0) (f1 := ?f1) ?_ NB0_363.out _ | refine IsS57.far (f0 := ?f0) ?_ NB0_364.out _ | refine IsS57.far (f1 := ?f1) ?_ NB0_364.out _ | refine IsS57.far (f0 := ?f0) (f1 := ?f1) ?_ NB0_364.out _)); (case side2 => repeat (first | (with_reducible first | exact HB.out | apply below_alloc | apply pw_below_drewN | apply below_drew1 | refine below_set ?_ (IsS57.ge HI0.out) | refine below_set ?_ (Aside0.out (by assumption))) | exact HB.out)); rintro e w78 ⟨v371, rfl, ho0, hi, hb, hk⟩; refine ⟨_, rfl, ?_⟩; have n0_ := Aside0.mk (Kd.R_mono (Kd.R_told (Kd.R_oldK (IsS57.apart (show IsS57 w0 _ g x1000_2 x1001_2 from q15_) (rkq HO_365002.out) (by decide)) hk) (Kd.R_base ho0)) (fun _ h_ => h_.1)); have n1_ := Aside0.mk (KeepBut.blk hk (g' := gb363) (o := .cells #[.int .i64 x364000_2, .string x364001_2, .slice none 0 0] 24 (0, 0)) (bkq BK363.out) NB363_0.out (by simp)); have n2_ := Aside0.mk (KeepBut.blk hk (g' := gb364) (o := .cells #[.int .i64 (wrap64 (bt s0_0 a1)), .string (⟨#[]⟩ : ByteArray), u365002] 24 (0, 0)) (bkq BK364.out) NB364_0.out (by simp)); have n3_ := Aside0.mk (Kd.R_lower (Kd.R_newB (Kd.R_newB (Kd.R_new' ho0 (Kd.R_lt (rkq HO_365002.out))) (g := gb363) (o := .cells #[.int .i64 x364000_2, .string x364001_2, .slice none 0 0] 24 (0, 0)) (bkq BK363.out)) (g := gb364) (o := .cells #[.int .i64 (wrap64 (bt s0_0 a1)), .string (⟨#[]⟩ : ByteArray), u365002] 24 (0, 0)) (bkq BK364.out)) (keep_size (w := w) (g := g) (row := none) q1_)); have n4_ := Aside0.mk (KeepBut.trans q1_ hk (.inl rfl)); have n5_ := Aside0.mk (hb); have n6_ := Aside0.mk (hi); clear HO_365002; clear BK363; clear BK364; clear HK; clear HB; clear HI0; have HO_365002 := n0_; have BK363 := n1_; have BK364 := n2_; have HO372 := n3_; have HK := n4_; have HB := n5_; have HI0 := n6_; clear n0_ n1_ n2_ n3_ n4_ n5_ n6_; (try clear hb); (try clear hb2); (try clear hk); (try clear hi); (try clear ho0)) | ((with_reducible refine gate_dst (N := 16) rfl ?_); refine box_event ?hg (N := 16) ?hd (cs := #[.int .i64 0, .string (⟨#[]⟩ : ByteArray), .slice none 0 0]) (t := 24) ?hr ?_; (case hd => rfl); (case hg => rfl); (case hr => first | (go_simp; done) | (go_simp; rfl)); intro gb377 hg w79 hbox hb; have n0_ := Aside0.mk (Kd.R_below (Kd.R_elderB (rkq HO_365002.out) gb377 (Nat.le_of_eq hg.symm)) hb); have n1_ := Aside0.mk (Kd.R_below (Kd.R_elderB (rkq HO372.out) gb377 (Nat.le_of_eq hg.symm)) hb); have n2_ := Aside0.mk (blk_below (g := gb363) (o := .cells #[.int .i64 x364000_2, .string x364001_2, .slice none 0 0] 24 (0, 0)) (bkq BK363.out) hb); have n3_ := Aside0.mk (blk_below (g := gb364) (o := .cells #[.int .i64 (wrap64 (bt s0_0 a1)), .string (⟨#[]⟩ : ByteArray), u365002] 24 (0, 0)) (bkq BK364.out) hb); have n4_ := Aside0.mk (IsS57.below q15_ hb); have n5_ := Aside0.mk (KeepBut.trans q1_ (KeepBut.of_below hb g none) (.inl rfl)); have n6_ := Aside0.mk (below_step q9_ hb); have n7_ := Aside0.mk (hbox); have n8_ := Aside0.mk ((by rw [hg]; exact (keep_size (w := w) (g := g) (row := none) q1_) : w.heap.size ≤ gb377)); have n9_ := Aside0.mk ((Nat.le_trans HW0.out (by rw [hg]; exact (keep_size (w := w) (g := g) (row := none) q1_) : w.heap.size ≤ gb377) : w0.heap.size ≤ gb377)); have n10_ := Aside0.mk ((by rw [hg]; exact Nat.ne_of_lt (blk_lt (g := gb363) (o := .cells #[.int .i64 x364000_2, .string x364001_2, .slice none 0 0] 24 (0, 0)) (bkq BK363.out)) : gb363 ≠ gb377)); have n11_ := Aside0.mk ((by rw [hg]; exact Nat.ne_of_gt (blk_lt (g := gb363) (o := .cells #[.int .i64 x364000_2, .string x364001_2, .slice none 0 0] 24 (0, 0)) (bkq BK363.out)) : gb377 ≠ gb363)); have n12_ := Aside0.mk ((by rw [hg]; exact Nat.ne_of_lt (blk_lt (g := gb364) (o := .cells #[.int .i64 (wrap64 (bt s0_0 a1)), .string (⟨#[]⟩ : ByteArray), u365002] 24 (0, 0)) (bkq BK364.out)) : gb364 ≠ gb377)); have n13_ := Aside0.mk ((by rw [hg]; exact Nat.ne_of_gt (blk_lt (g := gb364) (o := .cells #[.int .i64 (wrap64 (bt s0_0 a1)), .string (⟨#[]⟩ : ByteArray), u365002] 24 (0, 0)) (bkq BK364.out)) : gb377 ≠ gb364)); have n14_ := Aside0.mk ((by rw [hg]; exact Nat.ne_of_lt (IsS57.lt (show IsS57 w0 _ g t375 t376 from q15_)) : g ≠ gb377)); have n15_ := Aside0.mk ((by rw [hg]; exact Nat.ne_of_gt (IsS57.lt (show IsS57 w0 _ g t375 t376 from q15_)) : gb377 ≠ g)); clear HO_365002; clear HO372; clear BK363; clear BK364; clear HI0; clear HK; clear HB; have HO_365002 := n0_; have HO372 := n1_; have BK363 := n2_; have BK364 := n3_; have HI0 := n4_; have HK := n5_; have HB := n6_; have BK377 := n7_; have GW377 := n8_; have GE377 := n9_; have NB363_377 := n10_; have NB377_363 := n11_; have NB364_377 := n12_; have NB377_364 := n13_; have NB0_377 := n14_; have NB377_0 := n15_; clear n0_ n1_ n2_ n3_ n4_ n5_ n6_ n7_ n8_ n9_ n10_ n11_ n12_ n13_ n14_ n15_; clear hb hbox hg; have hnb80 := NB377_363.out; have hnc80 := NB363_377.out; have hnb81 := NB377_364.out; have hnc81 := NB364_377.out; have hnb82 := NB377_0.out; have hnc82 := NB0_377.out; have hcz83_0 : w79.cell? ⟨gb377, 0, none⟩ = some (.int .i64 0) := (blk_cell BK377.out 0).trans rfl; have hcz83_1 : w79.cell? ⟨gb377, 1, none⟩ = some (.string (⟨#[]⟩ : ByteArray)) := (blk_cell BK377.out 1).trans rfl; have hcz83_2 : w79.cell? ⟨gb377, 2, none⟩ = some (.slice none 0 0) := (blk_cell BK377.out 2).trans rfl; have hfz83_0 := blk_frozen BK377.out 0; have hfz83_1 := blk_frozen BK377.out 1; have hfz83_2 := blk_frozen BK377.out 2; obtain ⟨Ao84, co84, eo84⟩ := Kd.R_slice HO372.out; subst eo84; have hnb85 := NB363_364.out; have hnc85 := NB364_363.out; have hnb86 := NB363_0.out; have hnc86 := NB0_363.out; have hcz87_0 : w79.cell? ⟨gb363, 0, none⟩ = some (.int .i64 x364000_2) := (blk_cell BK363.out 0).trans rfl; have hcz87_1 : w79.cell? ⟨gb363, 1, none⟩ = some (.string x364001_2) := (blk_cell BK363.out 1).trans rfl; have hcz87_2 : w79.cell? ⟨gb363, 2, none⟩ = some (.slice none 0 0) := (blk_cell BK363.out 2).trans rfl; have hfz87_0 := blk_frozen BK363.out 0; have hfz87_1 := blk_frozen BK363.out 1; have hfz87_2 := blk_frozen BK363.out 2))
                 refine bodyPost_ret (results_ctt rfl _ _ gb363 24 #[.int .i64 0, .string (⟨#[]⟩ : ByteArray), .slice none 0 0] (0, 0) _ rfl (by refine bkq ?_; refine blk_put (cs := #[.int .i64 0, .string (⟨#[]⟩ : ByteArray), .slice none 0 0]) ?_ 2 _ rfl; refine bkq ?_; refine blk_put (cs := #[.int .i64 0, .string x364001_2, .slice none 0 0]) ?_ 1 _ rfl; refine bkq ?_; refine blk_put (cs := #[.int .i64 x364000_2, .string x364001_2, .slice none 0 0]) ?_ 0 _ rfl; refine bkq ?_; refine blk_far ?_ NB363_377.out _; refine bkq ?_; refine blk_far ?_ NB363_377.out _; refine bkq ?_; refine blk_far ?_ NB363_377.out _; refine bkq ?_; exact BK363.out) Tryd.underlying24 rfl (by kernel_rfl)) rfl ?_
                 exact ⟨_, q2_, q8_, q22_, q9_, q1_⟩
               ·rw [if_neg c59] at H
                have c59b0 : decide (x15_2 < (wrap64 (t366 + t365))) = false := decide_eq_false c59
                clear c59
                simp only [Option.some.injEq, Prod.mk.injEq] at H
                obtain ⟨rfl, rfl, rfl, rfl, rfl, rfl, rfl⟩ := H
                have hnb88 := NB364_363.out
                have hnc88 := NB363_364.out
                have hnb89 := NB364_0.out
                have hnc89 := NB0_364.out
                have hcz90_0 : wr.cell? ⟨gb364, 0, none⟩ = some (.int .i64 (wrap64 (bt s0_0 a1))) := (blk_cell BK364.out 0).trans rfl
                have hcz90_1 : wr.cell? ⟨gb364, 1, none⟩ = some (.string (⟨#[]⟩ : ByteArray)) := (blk_cell BK364.out 1).trans rfl
                have hcz90_2 : wr.cell? ⟨gb364, 2, none⟩ = some (u365002) := (blk_cell BK364.out 2).trans rfl
                have hfz90_0 := blk_frozen BK364.out 0
                have hfz90_1 := blk_frozen BK364.out 1
                have hfz90_2 := blk_frozen BK364.out 2
                have hnb91 := NB363_0.out
                have hnc91 := NB0_363.out
                have hcz92_0 : wr.cell? ⟨gb363, 0, none⟩ = some (.int .i64 x364000_2) := (blk_cell BK363.out 0).trans rfl
                have hcz92_1 : wr.cell? ⟨gb363, 1, none⟩ = some (.string x364001_2) := (blk_cell BK363.out 1).trans rfl
                have hcz92_2 : wr.cell? ⟨gb363, 2, none⟩ = some (.slice none 0 0) := (blk_cell BK363.out 2).trans rfl
                have hfz92_0 := blk_frozen BK363.out 0
                have hfz92_1 := blk_frozen BK363.out 1
                have hfz92_2 := blk_frozen BK363.out 2
                obtain ⟨Ao93, co93, eo93⟩ := Kd.R_slice HO_365002.out
                subst eo93
                go_wp2
                refine bodyPost_ret (results_ctt rfl _ _ gb363 24 #[.int .i64 (wrap64 (bt s0_0 a1)), .string (⟨#[]⟩ : ByteArray), .slice Ao93 x365002_2.length co93] (0, 0) _ rfl (by refine bkq ?_; refine blk_put (cs := #[.int .i64 (wrap64 (bt s0_0 a1)), .string (⟨#[]⟩ : ByteArray), .slice none 0 0]) ?_ 2 _ rfl; refine bkq ?_; refine blk_put (cs := #[.int .i64 (wrap64 (bt s0_0 a1)), .string x364001_2, .slice none 0 0]) ?_ 1 _ rfl; refine bkq ?_; refine blk_put (cs := #[.int .i64 x364000_2, .string x364001_2, .slice none 0 0]) ?_ 0 _ rfl; refine bkq ?_; exact BK363.out) Tryd.underlying24 rfl (by kernel_rfl)) rfl ?_
                exact ⟨_, q2_, by refine rkq ?_; exact Kd.R_mono (Kd.R_far (p := ⟨gb363, 2, none⟩) (Kd.R_far (p := ⟨gb363, 1, none⟩) (Kd.R_far (p := ⟨gb363, 0, none⟩) (Kd.R_mono HO_365002.out (fun k_ hk => (⟨hk, hk.1⟩ : _ ∧ k_ ≠ gb363))) (fun _ hk => hk.2) (.int .i64 (wrap64 (bt s0_0 a1)))) (fun _ hk => hk.2) (.string (⟨#[]⟩ : ByteArray))) (fun _ hk => hk.2) (.slice Ao93 x365002_2.length co93)) (fun _ hk => trivial), q15_, q9_, q1_⟩
          ·rw [if_neg c31] at H
           have c31b0 : (t367 == 0) = false := beq_eq_false_iff_ne.mpr c31
           have c31b1 : (t367 != 0) = true := bne_iff_ne.mpr c31
           simp only [Option.some.injEq, Prod.mk.injEq] at H
           obtain ⟨rfl, rfl, rfl, rfl, rfl, rfl, rfl⟩ := H
           obtain ⟨HGz94, hgz94⟩ := HI0.out
           have hcz94_0 := cellS57_0 HGz94
           have hcz94_1 := cellS57_1 HGz94
           have hfz94_0 := blk_frozen HGz94 0
           have hfz94_1 := blk_frozen HGz94 1
           clear HGz94 hgz94
           have p19 : 0 ≤ (a1 : Int) := of_decide_eq_true q4_
           have q19 : a1 < (s0_0.size : Int) := of_decide_eq_true q4_
           have hx19 := bt_at s0_0 a1
           replace p19 := eq_true p19
           replace q19 := eq_true q19
           go_wp2_with (first | ((with_reducible refine gate_dst (N := 11) rfl ?_); refine box_event ?hg (N := 11) ?hd (cs := #[.int .i64 0, .string (⟨#[]⟩ : ByteArray), .slice none 0 0]) (t := 24) ?hr ?_; (case hd => rfl); (case hg => rfl); (case hr => first | (go_simp; done) | (go_simp; rfl)); intro gb364 hg w95 hbox hb; have n0_ := Aside0.mk (blk_below (g := gb363) (o := .cells #[.int .i64 0, .string (⟨#[]⟩ : ByteArray), .slice none 0 0] 24 (0, 0)) (bkq BK363.out) hb); have n1_ := Aside0.mk (IsS57.below q11_ hb); have n2_ := Aside0.mk (KeepBut.trans q1_ (KeepBut.of_below hb g none) (.inl rfl)); have n3_ := Aside0.mk (below_step q9_ hb); have n4_ := Aside0.mk (hbox); have n5_ := Aside0.mk ((by rw [hg]; exact (keep_size (w := w) (g := g) (row := none) q1_) : w.heap.size ≤ gb364)); have n6_ := Aside0.mk ((Nat.le_trans HW0.out (by rw [hg]; exact (keep_size (w := w) (g := g) (row := none) q1_) : w.heap.size ≤ gb364) : w0.heap.size ≤ gb364)); have n7_ := Aside0.mk ((by rw [hg]; exact Nat.ne_of_lt (blk_lt (g := gb363) (o := .cells #[.int .i64 0, .string (⟨#[]⟩ : ByteArray), .slice none 0 0] 24 (0, 0)) (bkq BK363.out)) : gb363 ≠ gb364)); have n8_ := Aside0.mk ((by rw [hg]; exact Nat.ne_of_gt (blk_lt (g := gb363) (o := .cells #[.int .i64 0, .string (⟨#[]⟩ : ByteArray), .slice none 0 0] 24 (0, 0)) (bkq BK363.out)) : gb364 ≠ gb363)); have n9_ := Aside0.mk ((by rw [hg]; exact Nat.ne_of_lt (IsS57.lt (show IsS57 w0 _ g s0_0 (wrap64 (s0_1 + 1)) from q11_)) : g ≠ gb364)); have n10_ := Aside0.mk ((by rw [hg]; exact Nat.ne_of_gt (IsS57.lt (show IsS57 w0 _ g s0_0 (wrap64 (s0_1 + 1)) from q11_)) : gb364 ≠ g)); clear BK363; clear HI0; clear HK; clear HB; have BK363 := n0_; have HI0 := n1_; have HK := n2_; have HB := n3_; have BK364 := n4_; have GW364 := n5_; have GE364 := n6_; have NB363_364 := n7_; have NB364_363 := n8_; have NB0_364 := n9_; have NB364_0 := n10_; clear n0_ n1_ n2_ n3_ n4_ n5_ n6_ n7_ n8_ n9_ n10_; clear hb hbox hg; have hnb96 := NB364_363.out; have hnc96 := NB363_364.out; have hnb97 := NB364_0.out; have hnc97 := NB0_364.out; have hcz98_0 : w95.cell? ⟨gb364, 0, none⟩ = some (.int .i64 0) := (blk_cell BK364.out 0).trans rfl; have hcz98_1 : w95.cell? ⟨gb364, 1, none⟩ = some (.string (⟨#[]⟩ : ByteArray)) := (blk_cell BK364.out 1).trans rfl; have hcz98_2 : w95.cell? ⟨gb364, 2, none⟩ = some (.slice none 0 0) := (blk_cell BK364.out 2).trans rfl; have hfz98_0 := blk_frozen BK364.out 0; have hfz98_1 := blk_frozen BK364.out 1; have hfz98_2 := blk_frozen BK364.out 2; obtain ⟨HGz99, hgz99⟩ := HI0.out; have hcz99_0 := cellS57_0 HGz99; have hcz99_1 := cellS57_1 HGz99; have hfz99_0 := blk_frozen HGz99 0; have hfz99_1 := blk_frozen HGz99 1; clear HGz99 hgz99) | ((with_reducible refine gate_callee (f := 45) rfl ?_); refine goesL_ (some 62) rfl rfl Tryd.func45 (by kernel_rfl) rfl #[.string (s0_0.extract 0 (a2 : Int).toNat), .int .i64 (wrap64 (a1 + 1))] rfl argq ?_; (with_reducible refine (latinerref01_Decode.calls kj4 (s0_0.extract 0 (a2 : Int).toNat) (wrap64 (a1 + 1)) t365 t366 t367 _ A30.out).mono ?_); rintro e w' ⟨rfl, ⟨nd, rfl⟩⟩; refine ⟨_, rfl, ?_⟩; have hnb100 := NB363_0.out; have hnc100 := NB0_363.out; have hcz101_0 : w95.cell? ⟨gb363, 0, none⟩ = some (.int .i64 0) := (blk_cell BK363.out 0).trans rfl; have hcz101_1 : w95.cell? ⟨gb363, 1, none⟩ = some (.string (⟨#[]⟩ : ByteArray)) := (blk_cell BK363.out 1).trans rfl; have hcz101_2 : w95.cell? ⟨gb363, 2, none⟩ = some (.slice none 0 0) := (blk_cell BK363.out 2).trans rfl; have hfz101_0 := blk_frozen BK363.out 0; have hfz101_1 := blk_frozen BK363.out 1; have hfz101_2 := blk_frozen BK363.out 2))
           refine bodyPost_ret (results_ctt rfl _ _ gb363 24 #[.int .i64 0, .string (⟨#[]⟩ : ByteArray), .slice none 0 0] (0, 0) _ rfl (by refine bkq ?_; refine blk_put (cs := #[.int .i64 0, .string (⟨#[]⟩ : ByteArray), .slice none 0 0]) ?_ 2 _ rfl; refine bkq ?_; refine blk_put (cs := #[.int .i64 0, .string (⟨#[]⟩ : ByteArray), .slice none 0 0]) ?_ 1 _ rfl; refine bkq ?_; refine blk_put (cs := #[.int .i64 0, .string (⟨#[]⟩ : ByteArray), .slice none 0 0]) ?_ 0 _ rfl; refine bkq ?_; refine blk_far ?_ NB363_364.out _; refine bkq ?_; refine blk_far ?_ NB363_364.out _; refine bkq ?_; refine blk_far ?_ NB363_364.out _; refine bkq ?_; exact BK363.out) Tryd.underlying24 rfl (by kernel_rfl)) rfl ?_
           exact ⟨_, q2_, q8_, q15_, q9_, q1_⟩
         ·rw [if_neg c29] at H
          exact absurd H (by simp)
        ·rw [if_neg c28] at H
         exact absurd H (by simp)
      ·rw [if_neg c18] at H
       exact absurd H (by simp)
     ·rw [if_neg c17] at H
      exact absurd H (by simp)
def latinerref02_Decode.j0 : Nat → ByteArray → Int → Bool → Option (Int × ByteArray × (List (S24)) × Int × Int)
 | 0, _, _, _ => none
 | k + 1, x0, x1, x18 => if x18 = true then (some (0, (⟨#[]⟩ : ByteArray), ([] : List (S24)), 0, 10)) else ((latinerref02_reader_read.f k x0 0 x1 (x0.size : Int) 1).bind fun bt383 => (if bt383.2.2.2.2.1 = 0 then ((latinerref02_long.f k bt383.1 bt383.2.1 bt383.2.2.1).bind fun t393 => (if t393 > 4000 then (some (0, (⟨#[]⟩ : ByteArray), ([] : List (S24)), 0, 21)) else (some (bt383.1, bt383.2.1, bt383.2.2.1, bt383.2.2.2.1, bt383.2.2.2.2.1)))) else (some (bt383.1, bt383.2.1, bt383.2.2.1, bt383.2.2.2.1, bt383.2.2.2.2.1))))
def latinerref02_Decode.f (k : Nat) (a0 : ByteArray) (a1 : Int) : Option (Int × ByteArray × (List (S24)) × Int × Int) := if a1 < 0 then (latinerref02_Decode.j0 k a0 a1 true) else (latinerref02_Decode.j0 k a0 a1 (decide (a1 > (a0.size : Int))))
set_option maxHeartbeats 8000000 in
set_option maxRecDepth 100000 in
theorem latinerref02_Decode.calls (k : Nat) (a0 : ByteArray) (a1 : Int) (r1 : Int) (r2 : ByteArray) (r3 : List (S24)) (r4 : Int) (r5 : Int) (w : World) (h : latinerref02_Decode.f k a0 a1 = some (r1, r2, r3, r4, r5)) :
  Calls Tryd.prog 18 #[.string a0, .int .i64 a1] w fun e w' => ∃ v2_ : Value, e = .returned (.tuple #[.agg #[.int .i64 r1, .string r2, v2_], .int .i64 r4, .int .i64 r5]) ∧ Kd.R k24 24 w' w.heap.size (fun _ => True) v2_ r3 ∧ Below w.heap.size w w' := by
 have hu24 := Tryd.underlying24
 have hu57 := Tryd.underlying57
 have HB := Aside0.mk (Below.refl w.heap.size w)
 have H : (if a1 < 0 then (latinerref02_Decode.j0 k a0 a1 true) else (latinerref02_Decode.j0 k a0 a1 (decide (a1 > (a0.size : Int))))) = some (r1, r2, r3, r4, r5) := h
 clear h
 have HC3 := Aside0.mk H
 clear H
 go_enter Tryd.func18, Tryd.ntmps18
 go_upto_region 1 with (first | ((with_reducible refine gate_dst (N := 4) rfl ?_); (try (refine gate_guard (by rfl) ?_; dsimp only)); refine box_event ?hg (N := 4) ?hd (cs := #[.int .i64 0, .string (⟨#[]⟩ : ByteArray), .slice none 0 0]) (t := 24) ?hr ?_; (case hd => rfl); (case hg => rfl); (case hr => first | (go_simp; done) | (go_simp; rfl)); intro gb381 hg w4 hbox hb; have n0_ := Aside0.mk (below_step q0_ hb); have n1_ := Aside0.mk (hbox); have n2_ := Aside0.mk ((by rw [hg]; exact (below_size q0_) : w.heap.size ≤ gb381)); have n3_ := Aside0.mk ((by rw [hg]; exact (below_size q0_) : w.heap.size ≤ gb381)); clear HB; have HB := n0_; have BK381 := n1_; have GW381 := n2_; have GE381 := n3_; clear n0_ n1_ n2_ n3_; clear hb hbox hg))
 (try simp only [Act.put, List.setIfInBounds_toArray, List.set_cons_zero, List.set_cons_succ])
 go_cut [18] (fun v18 wc => ∃ (kq : Nat) (x18_2 : Bool), v18 = .bool x18_2 ∧ Aside0 (latinerref02_Decode.j0 kq a0 a1 x18_2 = some (r1, r2, r3, r4, r5)) ∧ Aside0 (kq ≤ k) ∧ Aside0 (wc.heap[gb381]? = some (.cells #[.int .i64 0, .string (⟨#[]⟩ : ByteArray), (.slice none 0 0)] 24 (0, 0))) ∧ Aside0 (Below w.heap.size w wc))
 case first =>
  have H := HC3.out
  clear HC3
  by_cases c5 : a1 < 0
  ·rw [if_pos c5] at H
   have c5b0 : decide (a1 < 0) = true := decide_eq_true c5
   clear c5
   (first | rw [c5b0] | (simp only [i64_w, i32_w]; rw [c5b0]) | skip)
   have H' := Aside0.mk H
   clear H
   go_wp2
   go_meet
   case rel => exact ⟨_, (true), q3_, H', ⟨q12_⟩, ⟨by refine bkq ?_; exact BK381.out⟩, ⟨q0_⟩⟩
  ·rw [if_neg c5] at H
   have c5b0 : decide (a1 < 0) = false := decide_eq_false c5
   clear c5
   (first | rw [c5b0] | (simp only [i64_w, i32_w]; rw [c5b0]) | skip)
   have H' := Aside0.mk H
   clear H
   go_wp2
   go_meet
   case rel => exact ⟨_, (decide (a1 > (a0.size : Int))), q3_, H', ⟨q12_⟩, ⟨by refine bkq ?_; exact BK381.out⟩, ⟨q0_⟩⟩
 case rest =>
  clear HC3
  try clear c1
  try clear p2
  try clear c5
  try clear c5b0
  obtain ⟨kq, x18_2, rfl, HA, HJ2, BK381, HB⟩ := hcut
  cases kq with
  | zero => exact absurd HA.out (by simp [latinerref02_Decode.j0])
  | succ kj2 =>
   have H := HA.out
   clear HA
   simp only [latinerref02_Decode.j0] at H
   by_cases c6 : x18_2 = true
   ·subst c6
    have H1 : (some (0, (⟨#[]⟩ : ByteArray), ([] : List (S24)), 0, 10)) = some (r1, r2, r3, r4, r5) := by rw [if_pos rfl] at H; exact H
    clear H
    have H := H1
    clear H1
    simp only [Option.some.injEq, Prod.mk.injEq] at H
    obtain ⟨rfl, rfl, rfl, rfl, rfl⟩ := H
    have hcz7_0 : wc.cell? ⟨gb381, 0, none⟩ = some (.int .i64 0) := (blk_cell BK381.out 0).trans rfl
    have hcz7_1 : wc.cell? ⟨gb381, 1, none⟩ = some (.string (⟨#[]⟩ : ByteArray)) := (blk_cell BK381.out 1).trans rfl
    have hcz7_2 : wc.cell? ⟨gb381, 2, none⟩ = some (.slice none 0 0) := (blk_cell BK381.out 2).trans rfl
    have hfz7_0 := blk_frozen BK381.out 0
    have hfz7_1 := blk_frozen BK381.out 1
    have hfz7_2 := blk_frozen BK381.out 2
    go_wp2
    refine bodyPost_ret (results_ctt rfl _ _ gb381 24 #[.int .i64 0, .string (⟨#[]⟩ : ByteArray), .slice none 0 0] (0, 0) _ rfl (by refine bkq ?_; refine blk_put (cs := #[.int .i64 0, .string (⟨#[]⟩ : ByteArray), .slice none 0 0]) ?_ 2 _ rfl; refine bkq ?_; refine blk_put (cs := #[.int .i64 0, .string (⟨#[]⟩ : ByteArray), .slice none 0 0]) ?_ 1 _ rfl; refine bkq ?_; refine blk_put (cs := #[.int .i64 0, .string (⟨#[]⟩ : ByteArray), .slice none 0 0]) ?_ 0 _ rfl; refine bkq ?_; exact BK381.out) Tryd.underlying24 rfl (by kernel_rfl)) rfl ?_
    exact ⟨_, q2_, q8_, q0_⟩
   ·replace c6 := Bool.eq_false_iff.mpr c6
    subst c6
    have H1 : ((latinerref02_reader_read.f kj2 a0 0 a1 (a0.size : Int) 1).bind fun bt383 => (if bt383.2.2.2.2.1 = 0 then ((latinerref02_long.f kj2 bt383.1 bt383.2.1 bt383.2.2.1).bind fun t393 => (if t393 > 4000 then (some (0, (⟨#[]⟩ : ByteArray), ([] : List (S24)), 0, 21)) else (some (bt383.1, bt383.2.1, bt383.2.2.1, bt383.2.2.2.1, bt383.2.2.2.2.1)))) else (some (bt383.1, bt383.2.1, bt383.2.2.1, bt383.2.2.2.1, bt383.2.2.2.2.1)))) = some (r1, r2, r3, r4, r5) := by rw [if_neg (show ¬ (false = true) by decide)] at H; exact H
    clear H
    have H := H1
    clear H1
    replace H := Option.bind_eq_some_iff.mp H
    obtain ⟨⟨t383, t384, t385, t388, t389, t390, t391⟩, A80, H⟩ := H
    replace H : (if t389 = 0 then ((latinerref02_long.f kj2 t383 t384 t385).bind fun t393 => (if t393 > 4000 then (some (0, (⟨#[]⟩ : ByteArray), ([] : List (S24)), 0, 21)) else (some (t383, t384, t385, t388, t389)))) else (some (t383, t384, t385, t388, t389))) = some (r1, r2, r3, r4, r5) := H
    have A8 := Aside0.mk A80
    clear A80
    by_cases c9 : t389 = 0
    ·rw [if_pos c9] at H
     have c9b0 : (t389 == 0) = true := beq_iff_eq.mpr c9
     have c9b1 : (t389 != 0) = false := bne_eq_false_iff_eq.mpr c9
     clear c9
     replace H := Option.bind_eq_some_iff.mp H
     obtain ⟨t393, A100, H⟩ := H
     replace H : (if t393 > 4000 then (some (0, (⟨#[]⟩ : ByteArray), ([] : List (S24)), 0, 21)) else (some (t383, t384, t385, t388, t389))) = some (r1, r2, r3, r4, r5) := H
     have A10 := Aside0.mk A100
     clear A100
     by_cases c11 : t393 > 4000
     ·rw [if_pos c11] at H
      have c11b0 : decide (4000 < t393) = true := decide_eq_true c11
      clear c11
      simp only [Option.some.injEq, Prod.mk.injEq] at H
      obtain ⟨rfl, rfl, rfl, rfl, rfl⟩ := H
      go_wp2_with (first | ((with_reducible refine gate_dst (N := 22) rfl ?_); (try (refine gate_guard (by rfl) ?_; dsimp only)); refine box_event ?hg (N := 22) ?hd (cs := #[.string a0, .int .i64 0]) (t := 57) ?hr ?_; (case hd => rfl); (case hg => rfl); (case hr => first | (go_simp; done) | (go_simp; rfl)); intro gb382 hg w12 hbox hb; have n0_ := Aside0.mk (blk_below (g := gb381) (o := .cells #[.int .i64 0, .string (⟨#[]⟩ : ByteArray), .slice none 0 0] 24 (0, 0)) (bkq BK381.out) hb); have n1_ := Aside0.mk (below_step q0_ hb); have n2_ := Aside0.mk (hbox); have n3_ := Aside0.mk ((by rw [hg]; exact (below_size q0_) : w.heap.size ≤ gb382)); have n4_ := Aside0.mk ((by rw [hg]; exact (below_size q0_) : w.heap.size ≤ gb382)); have n5_ := Aside0.mk ((by rw [hg]; exact Nat.ne_of_lt (blk_lt (g := gb381) (o := .cells #[.int .i64 0, .string (⟨#[]⟩ : ByteArray), .slice none 0 0] 24 (0, 0)) (bkq BK381.out)) : gb381 ≠ gb382)); have n6_ := Aside0.mk ((by rw [hg]; exact Nat.ne_of_gt (blk_lt (g := gb381) (o := .cells #[.int .i64 0, .string (⟨#[]⟩ : ByteArray), .slice none 0 0] 24 (0, 0)) (bkq BK381.out)) : gb382 ≠ gb381)); clear BK381; clear HB; have BK381 := n0_; have HB := n1_; have BK382 := n2_; have GW382 := n3_; have GE382 := n4_; have NB381_382 := n5_; have NB382_381 := n6_; clear n0_ n1_ n2_ n3_ n4_ n5_ n6_; clear hb hbox hg; have HI382 := Aside0.mk (show IsS57 w w12 gb382 a0 0 from ⟨BK382.out, GE382.out⟩)) | ((with_reducible refine gate_callee (f := 32) rfl ?_); refine goesL_ (some 28) rfl rfl Tryd.func32 (by kernel_rfl) rfl #[.pointer (some ⟨gb382, 0, none⟩), .int .i64 a1, .int .i64 (a0.size : Int), .int .i64 1] rfl argq ?_; (with_reducible refine (latinerref02_reader_read.calls kj2 gb382 a0 0 a1 (a0.size : Int) 1 t383 t384 t385 t388 t389 t390 t391 w _ ?side1 ?side2 A8.out).mono ?_); (case side1 => repeat (first | (with_reducible first | exact HI382.out | apply IsS57.alloc | apply IsS57.drewN | apply IsS57.drew | apply IsS57.set_0 | apply IsS57.set_1 | refine IsS57.far ?_ NB382_381.out _) | exact HI382.out | refine IsS57.far (f0 := ?f0) ?_ NB382_381.out _ | refine IsS57.far (f1 := ?f1) ?_ NB382_381.out _ | refine IsS57.far (f0 := ?f0) (f1 := ?f1) ?_ NB382_381.out _)); (case side2 => repeat (first | (with_reducible first | exact HB.out | apply below_alloc | apply pw_below_drewN | apply below_drew1 | refine below_set ?_ (IsS57.ge HI382.out) | refine below_set ?_ (Aside0.out (by assumption))) | exact HB.out)); rintro e w13 ⟨v386, rfl, ho0, hi, hb, hk⟩; refine ⟨_, rfl, ?_⟩; have n0_ := Aside0.mk (KeepBut.blk hk (g' := gb381) (o := .cells #[.int .i64 0, .string (⟨#[]⟩ : ByteArray), .slice none 0 0] 24 (0, 0)) (bkq BK381.out) NB381_382.out (by simp)); have n1_ := Aside0.mk (Kd.R_lower (Kd.R_newB ho0 (g := gb381) (o := .cells #[.int .i64 0, .string (⟨#[]⟩ : ByteArray), .slice none 0 0] 24 (0, 0)) (bkq BK381.out)) (below_size q13_)); have n2_ := Aside0.mk (hb); have n3_ := Aside0.mk (hi); clear BK381; clear HB; clear HI382; have BK381 := n0_; have HO387 := n1_; have HB := n2_; have HI382 := n3_; clear n0_ n1_ n2_ n3_; (try clear hb); (try clear hb2); (try clear hk); (try clear hi); (try clear ho0)) | ((with_reducible refine gate_dst (N := 8) rfl ?_); (try (refine gate_guard (by rfl) ?_; dsimp only)); refine box_event ?hg (N := 8) ?hd (cs := #[.int .i64 0, .string (⟨#[]⟩ : ByteArray), .slice none 0 0]) (t := 24) ?hr ?_; (case hd => rfl); (case hg => rfl); (case hr => first | (go_simp; done) | (go_simp; rfl)); intro gb392 hg w14 hbox hb; have n0_ := Aside0.mk (Kd.R_below (Kd.R_elderB (rkq HO387.out) gb392 (Nat.le_of_eq hg.symm)) hb); have n1_ := Aside0.mk (blk_below (g := gb381) (o := .cells #[.int .i64 0, .string (⟨#[]⟩ : ByteArray), .slice none 0 0] 24 (0, 0)) (bkq BK381.out) hb); have n2_ := Aside0.mk (IsS57.below q18_ hb); have n3_ := Aside0.mk (below_step q13_ hb); have n4_ := Aside0.mk (hbox); have n5_ := Aside0.mk ((by rw [hg]; exact (below_size q13_) : w.heap.size ≤ gb392)); have n6_ := Aside0.mk ((by rw [hg]; exact (below_size q13_) : w.heap.size ≤ gb392)); have n7_ := Aside0.mk ((by rw [hg]; exact Nat.ne_of_lt (blk_lt (g := gb381) (o := .cells #[.int .i64 0, .string (⟨#[]⟩ : ByteArray), .slice none 0 0] 24 (0, 0)) (bkq BK381.out)) : gb381 ≠ gb392)); have n8_ := Aside0.mk ((by rw [hg]; exact Nat.ne_of_gt (blk_lt (g := gb381) (o := .cells #[.int .i64 0, .string (⟨#[]⟩ : ByteArray), .slice none 0 0] 24 (0, 0)) (bkq BK381.out)) : gb392 ≠ gb381)); have n9_ := Aside0.mk ((by rw [hg]; exact Nat.ne_of_lt (IsS57.lt (show IsS57 w _ gb382 t390 t391 from q18_)) : gb382 ≠ gb392)); have n10_ := Aside0.mk ((by rw [hg]; exact Nat.ne_of_gt (IsS57.lt (show IsS57 w _ gb382 t390 t391 from q18_)) : gb392 ≠ gb382)); clear HO387; clear BK381; clear HI382; clear HB; have HO387 := n0_; have BK381 := n1_; have HI382 := n2_; have HB := n3_; have BK392 := n4_; have GW392 := n5_; have GE392 := n6_; have NB381_392 := n7_; have NB392_381 := n8_; have NB382_392 := n9_; have NB392_382 := n10_; clear n0_ n1_ n2_ n3_ n4_ n5_ n6_ n7_ n8_ n9_ n10_; clear hb hbox hg; have hnb15 := NB392_381.out; have hnc15 := NB381_392.out; have hnb16 := NB392_382.out; have hnc16 := NB382_392.out; have hcz17_0 : w14.cell? ⟨gb392, 0, none⟩ = some (.int .i64 0) := (blk_cell BK392.out 0).trans rfl; have hcz17_1 : w14.cell? ⟨gb392, 1, none⟩ = some (.string (⟨#[]⟩ : ByteArray)) := (blk_cell BK392.out 1).trans rfl; have hcz17_2 : w14.cell? ⟨gb392, 2, none⟩ = some (.slice none 0 0) := (blk_cell BK392.out 2).trans rfl; have hfz17_0 := blk_frozen BK392.out 0; have hfz17_1 := blk_frozen BK392.out 1; have hfz17_2 := blk_frozen BK392.out 2; obtain ⟨Ao18, co18, eo18⟩ := Kd.R_slice HO387.out; subst eo18) | (go_at_call 33; (with_reducible refine (latinerref02_long.calls kj2 t383 t384 _ _ t385 t393 _ ?side1 ?side2 A10.out).mono ?_); (case side1 => refine (Kd.R_reads' (e := 24) (base := w.heap.size) (ok := fun k_ => ((True ∧ k_ ≠ gb381) ∧ k_ ≠ gb392)) (n := t385.length) (c := co18) ?_).2.2; exact (by refine rkq ?_; exact (Kd.R_mono (Kd.R_far (p := ⟨gb392, 2, none⟩) (Kd.R_far (p := ⟨gb392, 1, none⟩) (Kd.R_far (p := ⟨gb392, 0, none⟩) (Kd.R_mono HO387.out (fun k_ hk => (⟨hk, hk.2⟩ : _ ∧ k_ ≠ gb392))) (fun _ hk => hk.2) (.int .i64 t383)) (fun _ hk => hk.2) (.string t384)) (fun _ hk => hk.2) (.slice Ao18 t385.length co18)) (fun _ h_ => h_.1)))); (case side2 => exact (Kd.R_reads' HO387.out).2.1); rintro e w19 ⟨rfl, hb⟩; have n0_ := Aside0.mk (Kd.R_below (by refine rkq ?_; exact (Kd.R_mono (Kd.R_far (p := ⟨gb392, 2, none⟩) (Kd.R_far (p := ⟨gb392, 1, none⟩) (Kd.R_far (p := ⟨gb392, 0, none⟩) (Kd.R_mono HO387.out (fun k_ hk => (⟨hk, hk.2⟩ : _ ∧ k_ ≠ gb392))) (fun _ hk => hk.2) (.int .i64 t383)) (fun _ hk => hk.2) (.string t384)) (fun _ hk => hk.2) (.slice Ao18 t385.length co18)) (fun _ h_ => h_.1))) hb); have n1_ := Aside0.mk (blk_below (g := gb381) (o := .cells #[.int .i64 0, .string (⟨#[]⟩ : ByteArray), .slice none 0 0] 24 (0, 0)) (by refine bkq ?_; refine blk_far ?_ NB381_392.out _; refine bkq ?_; refine blk_far ?_ NB381_392.out _; refine bkq ?_; refine blk_far ?_ NB381_392.out _; refine bkq ?_; exact BK381.out) hb); have n2_ := Aside0.mk (IsS57.below (show IsS57 w (((w14.setCell ⟨gb392, 0, none⟩ (.int .i64 t383)).setCell ⟨gb392, 1, none⟩ (.string t384)).setCell ⟨gb392, 2, none⟩ (.slice Ao18 t385.length co18)) gb382 t390 t391 from q26_) hb); have n3_ := Aside0.mk (blk_below (g := gb392) (o := .cells #[.int .i64 t383, .string t384, .slice Ao18 t385.length co18] 24 (0, 0)) (by refine bkq ?_; refine blk_put (cs := #[.int .i64 t383, .string t384, .slice none 0 0]) ?_ 2 _ rfl; refine bkq ?_; refine blk_put (cs := #[.int .i64 t383, .string (⟨#[]⟩ : ByteArray), .slice none 0 0]) ?_ 1 _ rfl; refine bkq ?_; refine blk_put (cs := #[.int .i64 0, .string (⟨#[]⟩ : ByteArray), .slice none 0 0]) ?_ 0 _ rfl; refine bkq ?_; exact BK392.out) hb); have n4_ := Aside0.mk (below_step q13_ hb); clear HO387; clear BK381; clear HI382; clear BK392; clear HB; have HO387 := n0_; have BK381 := n1_; have HI382 := n2_; have BK392 := n3_; have HB := n4_; clear n0_ n1_ n2_ n3_ n4_; (try clear hb); (try clear hb2); (try clear hk); (try clear hi); have hnb20 := NB381_382.out; have hnc20 := NB382_381.out; have hcz21_0 : w19.cell? ⟨gb381, 0, none⟩ = some (.int .i64 0) := (blk_cell BK381.out 0).trans rfl; have hcz21_1 : w19.cell? ⟨gb381, 1, none⟩ = some (.string (⟨#[]⟩ : ByteArray)) := (blk_cell BK381.out 1).trans rfl; have hcz21_2 : w19.cell? ⟨gb381, 2, none⟩ = some (.slice none 0 0) := (blk_cell BK381.out 2).trans rfl; have hfz21_0 := blk_frozen BK381.out 0; have hfz21_1 := blk_frozen BK381.out 1; have hfz21_2 := blk_frozen BK381.out 2))
      refine bodyPost_ret (results_ctt rfl _ _ gb381 24 #[.int .i64 0, .string (⟨#[]⟩ : ByteArray), .slice none 0 0] (0, 0) _ rfl (by refine bkq ?_; refine blk_put (cs := #[.int .i64 0, .string (⟨#[]⟩ : ByteArray), .slice none 0 0]) ?_ 2 _ rfl; refine bkq ?_; refine blk_put (cs := #[.int .i64 0, .string (⟨#[]⟩ : ByteArray), .slice none 0 0]) ?_ 1 _ rfl; refine bkq ?_; refine blk_put (cs := #[.int .i64 0, .string (⟨#[]⟩ : ByteArray), .slice none 0 0]) ?_ 0 _ rfl; refine bkq ?_; exact BK381.out) Tryd.underlying24 rfl (by kernel_rfl)) rfl ?_
      exact ⟨_, q2_, q8_, q13_⟩
     ·rw [if_neg c11] at H
      have c11b0 : decide (4000 < t393) = false := decide_eq_false c11
      clear c11
      simp only [Option.some.injEq, Prod.mk.injEq] at H
      obtain ⟨rfl, rfl, rfl, rfl, rfl⟩ := H
      go_wp2_with (first | ((with_reducible refine gate_dst (N := 22) rfl ?_); (try (refine gate_guard (by rfl) ?_; dsimp only)); refine box_event ?hg (N := 22) ?hd (cs := #[.string a0, .int .i64 0]) (t := 57) ?hr ?_; (case hd => rfl); (case hg => rfl); (case hr => first | (go_simp; done) | (go_simp; rfl)); intro gb382 hg w22 hbox hb; have n0_ := Aside0.mk (blk_below (g := gb381) (o := .cells #[.int .i64 0, .string (⟨#[]⟩ : ByteArray), .slice none 0 0] 24 (0, 0)) (bkq BK381.out) hb); have n1_ := Aside0.mk (below_step q0_ hb); have n2_ := Aside0.mk (hbox); have n3_ := Aside0.mk ((by rw [hg]; exact (below_size q0_) : w.heap.size ≤ gb382)); have n4_ := Aside0.mk ((by rw [hg]; exact (below_size q0_) : w.heap.size ≤ gb382)); have n5_ := Aside0.mk ((by rw [hg]; exact Nat.ne_of_lt (blk_lt (g := gb381) (o := .cells #[.int .i64 0, .string (⟨#[]⟩ : ByteArray), .slice none 0 0] 24 (0, 0)) (bkq BK381.out)) : gb381 ≠ gb382)); have n6_ := Aside0.mk ((by rw [hg]; exact Nat.ne_of_gt (blk_lt (g := gb381) (o := .cells #[.int .i64 0, .string (⟨#[]⟩ : ByteArray), .slice none 0 0] 24 (0, 0)) (bkq BK381.out)) : gb382 ≠ gb381)); clear BK381; clear HB; have BK381 := n0_; have HB := n1_; have BK382 := n2_; have GW382 := n3_; have GE382 := n4_; have NB381_382 := n5_; have NB382_381 := n6_; clear n0_ n1_ n2_ n3_ n4_ n5_ n6_; clear hb hbox hg; have HI382 := Aside0.mk (show IsS57 w w22 gb382 a0 0 from ⟨BK382.out, GE382.out⟩)) | ((with_reducible refine gate_callee (f := 32) rfl ?_); refine goesL_ (some 28) rfl rfl Tryd.func32 (by kernel_rfl) rfl #[.pointer (some ⟨gb382, 0, none⟩), .int .i64 a1, .int .i64 (a0.size : Int), .int .i64 1] rfl argq ?_; (with_reducible refine (latinerref02_reader_read.calls kj2 gb382 a0 0 a1 (a0.size : Int) 1 t383 t384 t385 t388 t389 t390 t391 w _ ?side1 ?side2 A8.out).mono ?_); (case side1 => repeat (first | (with_reducible first | exact HI382.out | apply IsS57.alloc | apply IsS57.drewN | apply IsS57.drew | apply IsS57.set_0 | apply IsS57.set_1 | refine IsS57.far ?_ NB382_381.out _) | exact HI382.out | refine IsS57.far (f0 := ?f0) ?_ NB382_381.out _ | refine IsS57.far (f1 := ?f1) ?_ NB382_381.out _ | refine IsS57.far (f0 := ?f0) (f1 := ?f1) ?_ NB382_381.out _)); (case side2 => repeat (first | (with_reducible first | exact HB.out | apply below_alloc | apply pw_below_drewN | apply below_drew1 | refine below_set ?_ (IsS57.ge HI382.out) | refine below_set ?_ (Aside0.out (by assumption))) | exact HB.out)); rintro e w23 ⟨v386, rfl, ho0, hi, hb, hk⟩; refine ⟨_, rfl, ?_⟩; have n0_ := Aside0.mk (KeepBut.blk hk (g' := gb381) (o := .cells #[.int .i64 0, .string (⟨#[]⟩ : ByteArray), .slice none 0 0] 24 (0, 0)) (bkq BK381.out) NB381_382.out (by simp)); have n1_ := Aside0.mk (Kd.R_lower (Kd.R_newB ho0 (g := gb381) (o := .cells #[.int .i64 0, .string (⟨#[]⟩ : ByteArray), .slice none 0 0] 24 (0, 0)) (bkq BK381.out)) (below_size q13_)); have n2_ := Aside0.mk (hb); have n3_ := Aside0.mk (hi); clear BK381; clear HB; clear HI382; have BK381 := n0_; have HO387 := n1_; have HB := n2_; have HI382 := n3_; clear n0_ n1_ n2_ n3_; (try clear hb); (try clear hb2); (try clear hk); (try clear hi); (try clear ho0)) | ((with_reducible refine gate_dst (N := 8) rfl ?_); (try (refine gate_guard (by rfl) ?_; dsimp only)); refine box_event ?hg (N := 8) ?hd (cs := #[.int .i64 0, .string (⟨#[]⟩ : ByteArray), .slice none 0 0]) (t := 24) ?hr ?_; (case hd => rfl); (case hg => rfl); (case hr => first | (go_simp; done) | (go_simp; rfl)); intro gb392 hg w24 hbox hb; have n0_ := Aside0.mk (Kd.R_below (Kd.R_elderB (rkq HO387.out) gb392 (Nat.le_of_eq hg.symm)) hb); have n1_ := Aside0.mk (blk_below (g := gb381) (o := .cells #[.int .i64 0, .string (⟨#[]⟩ : ByteArray), .slice none 0 0] 24 (0, 0)) (bkq BK381.out) hb); have n2_ := Aside0.mk (IsS57.below q18_ hb); have n3_ := Aside0.mk (below_step q13_ hb); have n4_ := Aside0.mk (hbox); have n5_ := Aside0.mk ((by rw [hg]; exact (below_size q13_) : w.heap.size ≤ gb392)); have n6_ := Aside0.mk ((by rw [hg]; exact (below_size q13_) : w.heap.size ≤ gb392)); have n7_ := Aside0.mk ((by rw [hg]; exact Nat.ne_of_lt (blk_lt (g := gb381) (o := .cells #[.int .i64 0, .string (⟨#[]⟩ : ByteArray), .slice none 0 0] 24 (0, 0)) (bkq BK381.out)) : gb381 ≠ gb392)); have n8_ := Aside0.mk ((by rw [hg]; exact Nat.ne_of_gt (blk_lt (g := gb381) (o := .cells #[.int .i64 0, .string (⟨#[]⟩ : ByteArray), .slice none 0 0] 24 (0, 0)) (bkq BK381.out)) : gb392 ≠ gb381)); have n9_ := Aside0.mk ((by rw [hg]; exact Nat.ne_of_lt (IsS57.lt (show IsS57 w _ gb382 t390 t391 from q18_)) : gb382 ≠ gb392)); have n10_ := Aside0.mk ((by rw [hg]; exact Nat.ne_of_gt (IsS57.lt (show IsS57 w _ gb382 t390 t391 from q18_)) : gb392 ≠ gb382)); clear HO387; clear BK381; clear HI382; clear HB; have HO387 := n0_; have BK381 := n1_; have HI382 := n2_; have HB := n3_; have BK392 := n4_; have GW392 := n5_; have GE392 := n6_; have NB381_392 := n7_; have NB392_381 := n8_; have NB382_392 := n9_; have NB392_382 := n10_; clear n0_ n1_ n2_ n3_ n4_ n5_ n6_ n7_ n8_ n9_ n10_; clear hb hbox hg; have hnb25 := NB392_381.out; have hnc25 := NB381_392.out; have hnb26 := NB392_382.out; have hnc26 := NB382_392.out; have hcz27_0 : w24.cell? ⟨gb392, 0, none⟩ = some (.int .i64 0) := (blk_cell BK392.out 0).trans rfl; have hcz27_1 : w24.cell? ⟨gb392, 1, none⟩ = some (.string (⟨#[]⟩ : ByteArray)) := (blk_cell BK392.out 1).trans rfl; have hcz27_2 : w24.cell? ⟨gb392, 2, none⟩ = some (.slice none 0 0) := (blk_cell BK392.out 2).trans rfl; have hfz27_0 := blk_frozen BK392.out 0; have hfz27_1 := blk_frozen BK392.out 1; have hfz27_2 := blk_frozen BK392.out 2; obtain ⟨Ao28, co28, eo28⟩ := Kd.R_slice HO387.out; subst eo28) | (go_at_call 33; (with_reducible refine (latinerref02_long.calls kj2 t383 t384 _ _ t385 t393 _ ?side1 ?side2 A10.out).mono ?_); (case side1 => refine (Kd.R_reads' (e := 24) (base := w.heap.size) (ok := fun k_ => ((True ∧ k_ ≠ gb381) ∧ k_ ≠ gb392)) (n := t385.length) (c := co28) ?_).2.2; exact (by refine rkq ?_; exact (Kd.R_mono (Kd.R_far (p := ⟨gb392, 2, none⟩) (Kd.R_far (p := ⟨gb392, 1, none⟩) (Kd.R_far (p := ⟨gb392, 0, none⟩) (Kd.R_mono HO387.out (fun k_ hk => (⟨hk, hk.2⟩ : _ ∧ k_ ≠ gb392))) (fun _ hk => hk.2) (.int .i64 t383)) (fun _ hk => hk.2) (.string t384)) (fun _ hk => hk.2) (.slice Ao28 t385.length co28)) (fun _ h_ => h_.1)))); (case side2 => exact (Kd.R_reads' HO387.out).2.1); rintro e w29 ⟨rfl, hb⟩; have n0_ := Aside0.mk (Kd.R_below (by refine rkq ?_; exact (Kd.R_mono (Kd.R_far (p := ⟨gb392, 2, none⟩) (Kd.R_far (p := ⟨gb392, 1, none⟩) (Kd.R_far (p := ⟨gb392, 0, none⟩) (Kd.R_mono HO387.out (fun k_ hk => (⟨hk, hk.2⟩ : _ ∧ k_ ≠ gb392))) (fun _ hk => hk.2) (.int .i64 t383)) (fun _ hk => hk.2) (.string t384)) (fun _ hk => hk.2) (.slice Ao28 t385.length co28)) (fun _ h_ => h_.1))) hb); have n1_ := Aside0.mk (blk_below (g := gb381) (o := .cells #[.int .i64 0, .string (⟨#[]⟩ : ByteArray), .slice none 0 0] 24 (0, 0)) (by refine bkq ?_; refine blk_far ?_ NB381_392.out _; refine bkq ?_; refine blk_far ?_ NB381_392.out _; refine bkq ?_; refine blk_far ?_ NB381_392.out _; refine bkq ?_; exact BK381.out) hb); have n2_ := Aside0.mk (IsS57.below (show IsS57 w (((w24.setCell ⟨gb392, 0, none⟩ (.int .i64 t383)).setCell ⟨gb392, 1, none⟩ (.string t384)).setCell ⟨gb392, 2, none⟩ (.slice Ao28 t385.length co28)) gb382 t390 t391 from q26_) hb); have n3_ := Aside0.mk (blk_below (g := gb392) (o := .cells #[.int .i64 t383, .string t384, .slice Ao28 t385.length co28] 24 (0, 0)) (by refine bkq ?_; refine blk_put (cs := #[.int .i64 t383, .string t384, .slice none 0 0]) ?_ 2 _ rfl; refine bkq ?_; refine blk_put (cs := #[.int .i64 t383, .string (⟨#[]⟩ : ByteArray), .slice none 0 0]) ?_ 1 _ rfl; refine bkq ?_; refine blk_put (cs := #[.int .i64 0, .string (⟨#[]⟩ : ByteArray), .slice none 0 0]) ?_ 0 _ rfl; refine bkq ?_; exact BK392.out) hb); have n4_ := Aside0.mk (below_step q13_ hb); clear HO387; clear BK381; clear HI382; clear BK392; clear HB; have HO387 := n0_; have BK381 := n1_; have HI382 := n2_; have BK392 := n3_; have HB := n4_; clear n0_ n1_ n2_ n3_ n4_; (try clear hb); (try clear hb2); (try clear hk); (try clear hi); have hcz30_0 : w29.cell? ⟨gb392, 0, none⟩ = some (.int .i64 t383) := (blk_cell BK392.out 0).trans rfl; have hcz30_1 : w29.cell? ⟨gb392, 1, none⟩ = some (.string t384) := (blk_cell BK392.out 1).trans rfl; have hcz30_2 : w29.cell? ⟨gb392, 2, none⟩ = some (.slice Ao28 t385.length co28) := (blk_cell BK392.out 2).trans rfl; have hfz30_0 := blk_frozen BK392.out 0; have hfz30_1 := blk_frozen BK392.out 1; have hfz30_2 := blk_frozen BK392.out 2; have hnb31 := NB381_382.out; have hnc31 := NB382_381.out; have hcz32_0 : w29.cell? ⟨gb381, 0, none⟩ = some (.int .i64 0) := (blk_cell BK381.out 0).trans rfl; have hcz32_1 : w29.cell? ⟨gb381, 1, none⟩ = some (.string (⟨#[]⟩ : ByteArray)) := (blk_cell BK381.out 1).trans rfl; have hcz32_2 : w29.cell? ⟨gb381, 2, none⟩ = some (.slice none 0 0) := (blk_cell BK381.out 2).trans rfl; have hfz32_0 := blk_frozen BK381.out 0; have hfz32_1 := blk_frozen BK381.out 1; have hfz32_2 := blk_frozen BK381.out 2))
      refine bodyPost_ret (results_ctt rfl _ _ gb381 24 #[.int .i64 t383, .string t384, .slice Ao28 t385.length co28] (0, 0) _ rfl (by refine bkq ?_; refine blk_put (cs := #[.int .i64 t383, .string t384, .slice none 0 0]) ?_ 2 _ rfl; refine bkq ?_; refine blk_put (cs := #[.int .i64 t383, .string (⟨#[]⟩ : ByteArray), .slice none 0 0]) ?_ 1 _ rfl; refine bkq ?_; refine blk_put (cs := #[.int .i64 0, .string (⟨#[]⟩ : ByteArray), .slice none 0 0]) ?_ 0 _ rfl; refine bkq ?_; exact BK381.out) Tryd.underlying24 rfl (by kernel_rfl)) rfl ?_
      exact ⟨_, q2_, by refine rkq ?_; exact Kd.R_mono (Kd.R_far (p := ⟨gb381, 2, none⟩) (Kd.R_far (p := ⟨gb381, 1, none⟩) (Kd.R_far (p := ⟨gb381, 0, none⟩) (Kd.R_mono HO387.out (fun k_ hk => (⟨hk, hk.1.2⟩ : _ ∧ k_ ≠ gb381))) (fun _ hk => hk.2) (.int .i64 t383)) (fun _ hk => hk.2) (.string t384)) (fun _ hk => hk.2) (.slice Ao28 t385.length co28)) (fun _ hk => trivial), q13_⟩
    ·rw [if_neg c9] at H
     have c9b0 : (t389 == 0) = false := beq_eq_false_iff_ne.mpr c9
     have c9b1 : (t389 != 0) = true := bne_iff_ne.mpr c9
     simp only [Option.some.injEq, Prod.mk.injEq] at H
     obtain ⟨rfl, rfl, rfl, rfl, rfl⟩ := H
     go_wp2_with (first | ((with_reducible refine gate_dst (N := 22) rfl ?_); (try (refine gate_guard (by rfl) ?_; dsimp only)); refine box_event ?hg (N := 22) ?hd (cs := #[.string a0, .int .i64 0]) (t := 57) ?hr ?_; (case hd => rfl); (case hg => rfl); (case hr => first | (go_simp; done) | (go_simp; rfl)); intro gb382 hg w33 hbox hb; have n0_ := Aside0.mk (blk_below (g := gb381) (o := .cells #[.int .i64 0, .string (⟨#[]⟩ : ByteArray), .slice none 0 0] 24 (0, 0)) (bkq BK381.out) hb); have n1_ := Aside0.mk (below_step q0_ hb); have n2_ := Aside0.mk (hbox); have n3_ := Aside0.mk ((by rw [hg]; exact (below_size q0_) : w.heap.size ≤ gb382)); have n4_ := Aside0.mk ((by rw [hg]; exact (below_size q0_) : w.heap.size ≤ gb382)); have n5_ := Aside0.mk ((by rw [hg]; exact Nat.ne_of_lt (blk_lt (g := gb381) (o := .cells #[.int .i64 0, .string (⟨#[]⟩ : ByteArray), .slice none 0 0] 24 (0, 0)) (bkq BK381.out)) : gb381 ≠ gb382)); have n6_ := Aside0.mk ((by rw [hg]; exact Nat.ne_of_gt (blk_lt (g := gb381) (o := .cells #[.int .i64 0, .string (⟨#[]⟩ : ByteArray), .slice none 0 0] 24 (0, 0)) (bkq BK381.out)) : gb382 ≠ gb381)); clear BK381; clear HB; have BK381 := n0_; have HB := n1_; have BK382 := n2_; have GW382 := n3_; have GE382 := n4_; have NB381_382 := n5_; have NB382_381 := n6_; clear n0_ n1_ n2_ n3_ n4_ n5_ n6_; clear hb hbox hg; have HI382 := Aside0.mk (show IsS57 w w33 gb382 a0 0 from ⟨BK382.out, GE382.out⟩)) | ((with_reducible refine gate_callee (f := 32) rfl ?_); refine goesL_ (some 28) rfl rfl Tryd.func32 (by kernel_rfl) rfl #[.pointer (some ⟨gb382, 0, none⟩), .int .i64 a1, .int .i64 (a0.size : Int), .int .i64 1] rfl argq ?_; (with_reducible refine (latinerref02_reader_read.calls kj2 gb382 a0 0 a1 (a0.size : Int) 1 t383 t384 t385 t388 t389 t390 t391 w _ ?side1 ?side2 A8.out).mono ?_); (case side1 => repeat (first | (with_reducible first | exact HI382.out | apply IsS57.alloc | apply IsS57.drewN | apply IsS57.drew | apply IsS57.set_0 | apply IsS57.set_1 | refine IsS57.far ?_ NB382_381.out _) | exact HI382.out | refine IsS57.far (f0 := ?f0) ?_ NB382_381.out _ | refine IsS57.far (f1 := ?f1) ?_ NB382_381.out _ | refine IsS57.far (f0 := ?f0) (f1 := ?f1) ?_ NB382_381.out _)); (case side2 => repeat (first | (with_reducible first | exact HB.out | apply below_alloc | apply pw_below_drewN | apply below_drew1 | refine below_set ?_ (IsS57.ge HI382.out) | refine below_set ?_ (Aside0.out (by assumption))) | exact HB.out)); rintro e w34 ⟨v386, rfl, ho0, hi, hb, hk⟩; refine ⟨_, rfl, ?_⟩; have n0_ := Aside0.mk (KeepBut.blk hk (g' := gb381) (o := .cells #[.int .i64 0, .string (⟨#[]⟩ : ByteArray), .slice none 0 0] 24 (0, 0)) (bkq BK381.out) NB381_382.out (by simp)); have n1_ := Aside0.mk (Kd.R_lower (Kd.R_newB ho0 (g := gb381) (o := .cells #[.int .i64 0, .string (⟨#[]⟩ : ByteArray), .slice none 0 0] 24 (0, 0)) (bkq BK381.out)) (below_size q13_)); have n2_ := Aside0.mk (hb); have n3_ := Aside0.mk (hi); clear BK381; clear HB; clear HI382; have BK381 := n0_; have HO387 := n1_; have HB := n2_; have HI382 := n3_; clear n0_ n1_ n2_ n3_; (try clear hb); (try clear hb2); (try clear hk); (try clear hi); (try clear ho0)) | ((with_reducible refine gate_dst (N := 8) rfl ?_); (try (refine gate_guard (by rfl) ?_; dsimp only)); refine box_event ?hg (N := 8) ?hd (cs := #[.int .i64 0, .string (⟨#[]⟩ : ByteArray), .slice none 0 0]) (t := 24) ?hr ?_; (case hd => rfl); (case hg => rfl); (case hr => first | (go_simp; done) | (go_simp; rfl)); intro gb392 hg w35 hbox hb; have n0_ := Aside0.mk (Kd.R_below (Kd.R_elderB (rkq HO387.out) gb392 (Nat.le_of_eq hg.symm)) hb); have n1_ := Aside0.mk (blk_below (g := gb381) (o := .cells #[.int .i64 0, .string (⟨#[]⟩ : ByteArray), .slice none 0 0] 24 (0, 0)) (bkq BK381.out) hb); have n2_ := Aside0.mk (IsS57.below q18_ hb); have n3_ := Aside0.mk (below_step q13_ hb); have n4_ := Aside0.mk (hbox); have n5_ := Aside0.mk ((by rw [hg]; exact (below_size q13_) : w.heap.size ≤ gb392)); have n6_ := Aside0.mk ((by rw [hg]; exact (below_size q13_) : w.heap.size ≤ gb392)); have n7_ := Aside0.mk ((by rw [hg]; exact Nat.ne_of_lt (blk_lt (g := gb381) (o := .cells #[.int .i64 0, .string (⟨#[]⟩ : ByteArray), .slice none 0 0] 24 (0, 0)) (bkq BK381.out)) : gb381 ≠ gb392)); have n8_ := Aside0.mk ((by rw [hg]; exact Nat.ne_of_gt (blk_lt (g := gb381) (o := .cells #[.int .i64 0, .string (⟨#[]⟩ : ByteArray), .slice none 0 0] 24 (0, 0)) (bkq BK381.out)) : gb392 ≠ gb381)); have n9_ := Aside0.mk ((by rw [hg]; exact Nat.ne_of_lt (IsS57.lt (show IsS57 w _ gb382 t390 t391 from q18_)) : gb382 ≠ gb392)); have n10_ := Aside0.mk ((by rw [hg]; exact Nat.ne_of_gt (IsS57.lt (show IsS57 w _ gb382 t390 t391 from q18_)) : gb392 ≠ gb382)); clear HO387; clear BK381; clear HI382; clear HB; have HO387 := n0_; have BK381 := n1_; have HI382 := n2_; have HB := n3_; have BK392 := n4_; have GW392 := n5_; have GE392 := n6_; have NB381_392 := n7_; have NB392_381 := n8_; have NB382_392 := n9_; have NB392_382 := n10_; clear n0_ n1_ n2_ n3_ n4_ n5_ n6_ n7_ n8_ n9_ n10_; clear hb hbox hg; have hnb36 := NB392_381.out; have hnc36 := NB381_392.out; have hnb37 := NB392_382.out; have hnc37 := NB382_392.out; have hcz38_0 : w35.cell? ⟨gb392, 0, none⟩ = some (.int .i64 0) := (blk_cell BK392.out 0).trans rfl; have hcz38_1 : w35.cell? ⟨gb392, 1, none⟩ = some (.string (⟨#[]⟩ : ByteArray)) := (blk_cell BK392.out 1).trans rfl; have hcz38_2 : w35.cell? ⟨gb392, 2, none⟩ = some (.slice none 0 0) := (blk_cell BK392.out 2).trans rfl; have hfz38_0 := blk_frozen BK392.out 0; have hfz38_1 := blk_frozen BK392.out 1; have hfz38_2 := blk_frozen BK392.out 2; obtain ⟨Ao39, co39, eo39⟩ := Kd.R_slice HO387.out; subst eo39; have hnb40 := NB381_382.out; have hnc40 := NB382_381.out; have hcz41_0 : w35.cell? ⟨gb381, 0, none⟩ = some (.int .i64 0) := (blk_cell BK381.out 0).trans rfl; have hcz41_1 : w35.cell? ⟨gb381, 1, none⟩ = some (.string (⟨#[]⟩ : ByteArray)) := (blk_cell BK381.out 1).trans rfl; have hcz41_2 : w35.cell? ⟨gb381, 2, none⟩ = some (.slice none 0 0) := (blk_cell BK381.out 2).trans rfl; have hfz41_0 := blk_frozen BK381.out 0; have hfz41_1 := blk_frozen BK381.out 1; have hfz41_2 := blk_frozen BK381.out 2))
     refine bodyPost_ret (results_ctt rfl _ _ gb381 24 #[.int .i64 t383, .string t384, .slice Ao39 t385.length co39] (0, 0) _ rfl (by refine bkq ?_; refine blk_put (cs := #[.int .i64 t383, .string t384, .slice none 0 0]) ?_ 2 _ rfl; refine bkq ?_; refine blk_put (cs := #[.int .i64 t383, .string (⟨#[]⟩ : ByteArray), .slice none 0 0]) ?_ 1 _ rfl; refine bkq ?_; refine blk_put (cs := #[.int .i64 0, .string (⟨#[]⟩ : ByteArray), .slice none 0 0]) ?_ 0 _ rfl; refine bkq ?_; refine blk_far ?_ NB381_392.out _; refine bkq ?_; refine blk_far ?_ NB381_392.out _; refine bkq ?_; refine blk_far ?_ NB381_392.out _; refine bkq ?_; exact BK381.out) Tryd.underlying24 rfl (by kernel_rfl)) rfl ?_
     exact ⟨_, q2_, by refine rkq ?_; exact Kd.R_mono (Kd.R_far (p := ⟨gb381, 2, none⟩) (Kd.R_far (p := ⟨gb381, 1, none⟩) (Kd.R_far (p := ⟨gb381, 0, none⟩) (Kd.R_far (p := ⟨gb392, 2, none⟩) (Kd.R_far (p := ⟨gb392, 1, none⟩) (Kd.R_far (p := ⟨gb392, 0, none⟩) (Kd.R_mono (Kd.R_mono HO387.out (fun k_ hk => (⟨hk, hk.2⟩ : _ ∧ k_ ≠ gb392))) (fun k_ hk => (⟨hk, hk.1.1.2⟩ : _ ∧ k_ ≠ gb381))) (fun _ hk => hk.1.2) (.int .i64 t383)) (fun _ hk => hk.1.2) (.string t384)) (fun _ hk => hk.1.2) (.slice Ao39 t385.length co39)) (fun _ hk => hk.2) (.int .i64 t383)) (fun _ hk => hk.2) (.string t384)) (fun _ hk => hk.2) (.slice Ao39 t385.length co39)) (fun _ hk => trivial), q13_⟩
def latinerref02_Whole.f (k : Nat) (a0 : ByteArray) : Option (Int × ByteArray × (List (S24)) × Int) := (latinerref02_Decode.f k a0 0).bind fun bt395 => (if bt395.2.2.2.2 = 0 then (if bt395.2.2.2.1 = (a0.size : Int) then (some (bt395.1, bt395.2.1, bt395.2.2.1, bt395.2.2.2.2)) else (some (0, (⟨#[]⟩ : ByteArray), ([] : List (S24)), 11))) else (some (bt395.1, bt395.2.1, bt395.2.2.1, bt395.2.2.2.2)))
set_option maxHeartbeats 8000000 in
set_option maxRecDepth 100000 in
theorem latinerref02_Whole.calls (k : Nat) (a0 : ByteArray) (r1 : Int) (r2 : ByteArray) (r3 : List (S24)) (r4 : Int) (w : World) (h : latinerref02_Whole.f k a0 = some (r1, r2, r3, r4)) :
  Calls Tryd.prog 20 #[.string a0] w fun e w' => ∃ v2_ : Value, e = .returned (.tuple #[.agg #[.int .i64 r1, .string r2, v2_], .int .i64 r4]) ∧ Kd.R k24 24 w' w.heap.size (fun _ => True) v2_ r3 ∧ Below w.heap.size w w' := by
 have hu24 := Tryd.underlying24
 have HB := Aside0.mk (Below.refl w.heap.size w)
 have H : ((latinerref02_Decode.f k a0 0).bind fun bt395 => (if bt395.2.2.2.2 = 0 then (if bt395.2.2.2.1 = (a0.size : Int) then (some (bt395.1, bt395.2.1, bt395.2.2.1, bt395.2.2.2.2)) else (some (0, (⟨#[]⟩ : ByteArray), ([] : List (S24)), 11))) else (some (bt395.1, bt395.2.1, bt395.2.2.1, bt395.2.2.2.2)))) = some (r1, r2, r3, r4) := h
 clear h
 replace H := Option.bind_eq_some_iff.mp H
 obtain ⟨⟨t395, t396, t397, t400, t401⟩, A20, H⟩ := H
 replace H : (if t401 = 0 then (if t400 = (a0.size : Int) then (some (t395, t396, t397, t401)) else (some (0, (⟨#[]⟩ : ByteArray), ([] : List (S24)), 11))) else (some (t395, t396, t397, t401))) = some (r1, r2, r3, r4) := H
 have A2 := Aside0.mk A20
 clear A20
 by_cases c3 : t401 = 0
 ·rw [if_pos c3] at H
  have c3b0 : (t401 == 0) = true := beq_iff_eq.mpr c3
  have c3b1 : (t401 != 0) = false := bne_eq_false_iff_eq.mpr c3
  clear c3
  by_cases c4 : t400 = (a0.size : Int)
  ·rw [if_pos c4] at H
   have c4b0 : (t400 == (a0.size : Int)) = true := beq_iff_eq.mpr c4
   have c4b1 : (t400 != (a0.size : Int)) = false := bne_eq_false_iff_eq.mpr c4
   clear c4
   simp only [Option.some.injEq, Prod.mk.injEq] at H
   obtain ⟨rfl, rfl, rfl, rfl⟩ := H
   go_enter Tryd.func20, Tryd.ntmps20
   go_wp2_with (first | ((with_reducible refine gate_dst (N := 2) rfl ?_); (try (refine gate_guard (by rfl) ?_; dsimp only)); refine box_event ?hg (N := 2) ?hd (cs := #[.int .i64 0, .string (⟨#[]⟩ : ByteArray), .slice none 0 0]) (t := 24) ?hr ?_; (case hd => rfl); (case hg => rfl); (case hr => first | (go_simp; done) | (go_simp; rfl)); intro gb394 hg w5 hbox hb; have n0_ := Aside0.mk (below_step q0_ hb); have n1_ := Aside0.mk (hbox); have n2_ := Aside0.mk ((by rw [hg]; exact (below_size q0_) : w.heap.size ≤ gb394)); have n3_ := Aside0.mk ((by rw [hg]; exact (below_size q0_) : w.heap.size ≤ gb394)); clear HB; have HB := n0_; have BK394 := n1_; have GW394 := n2_; have GE394 := n3_; clear n0_ n1_ n2_ n3_; clear hb hbox hg) | ((with_reducible refine gate_callee (f := 18) rfl ?_); refine goesL_ (some 9) rfl rfl Tryd.func18 (by kernel_rfl) rfl #[.string a0, .int .i64 0] rfl argq ?_; (with_reducible refine (latinerref02_Decode.calls k a0 0 t395 t396 t397 t400 t401 _ A2.out).mono ?_); rintro e w6 ⟨v398, rfl, ho0, hb⟩; refine ⟨_, rfl, ?_⟩; have n0_ := Aside0.mk (Kd.R_lower (Kd.R_newB ho0 (g := gb394) (o := .cells #[.int .i64 0, .string (⟨#[]⟩ : ByteArray), .slice none 0 0] 24 (0, 0)) (bkq BK394.out)) (below_size q0_)); have n1_ := Aside0.mk (blk_below (g := gb394) (o := .cells #[.int .i64 0, .string (⟨#[]⟩ : ByteArray), .slice none 0 0] 24 (0, 0)) (bkq BK394.out) hb); have n2_ := Aside0.mk (below_step q0_ hb); clear BK394; clear HB; have HO399 := n0_; have BK394 := n1_; have HB := n2_; clear n0_ n1_ n2_; (try clear hb); (try clear hb2); (try clear hk); (try clear hi); (try clear ho0)) | ((with_reducible refine gate_dst (N := 4) rfl ?_); (try (refine gate_guard (by rfl) ?_; dsimp only)); refine box_event ?hg (N := 4) ?hd (cs := #[.int .i64 0, .string (⟨#[]⟩ : ByteArray), .slice none 0 0]) (t := 24) ?hr ?_; (case hd => rfl); (case hg => rfl); (case hr => first | (go_simp; done) | (go_simp; rfl)); intro gb402 hg w7 hbox hb; have n0_ := Aside0.mk (Kd.R_below (Kd.R_elderB (rkq HO399.out) gb402 (Nat.le_of_eq hg.symm)) hb); have n1_ := Aside0.mk (blk_below (g := gb394) (o := .cells #[.int .i64 0, .string (⟨#[]⟩ : ByteArray), .slice none 0 0] 24 (0, 0)) (bkq BK394.out) hb); have n2_ := Aside0.mk (below_step q0_ hb); have n3_ := Aside0.mk (hbox); have n4_ := Aside0.mk ((by rw [hg]; exact (below_size q0_) : w.heap.size ≤ gb402)); have n5_ := Aside0.mk ((by rw [hg]; exact (below_size q0_) : w.heap.size ≤ gb402)); have n6_ := Aside0.mk ((by rw [hg]; exact Nat.ne_of_lt (blk_lt (g := gb394) (o := .cells #[.int .i64 0, .string (⟨#[]⟩ : ByteArray), .slice none 0 0] 24 (0, 0)) (bkq BK394.out)) : gb394 ≠ gb402)); have n7_ := Aside0.mk ((by rw [hg]; exact Nat.ne_of_gt (blk_lt (g := gb394) (o := .cells #[.int .i64 0, .string (⟨#[]⟩ : ByteArray), .slice none 0 0] 24 (0, 0)) (bkq BK394.out)) : gb402 ≠ gb394)); clear HO399; clear BK394; clear HB; have HO399 := n0_; have BK394 := n1_; have HB := n2_; have BK402 := n3_; have GW402 := n4_; have GE402 := n5_; have NB394_402 := n6_; have NB402_394 := n7_; clear n0_ n1_ n2_ n3_ n4_ n5_ n6_ n7_; clear hb hbox hg; have hnb8 := NB402_394.out; have hnc8 := NB394_402.out; have hcz9_0 : w7.cell? ⟨gb402, 0, none⟩ = some (.int .i64 0) := (blk_cell BK402.out 0).trans rfl; have hcz9_1 : w7.cell? ⟨gb402, 1, none⟩ = some (.string (⟨#[]⟩ : ByteArray)) := (blk_cell BK402.out 1).trans rfl; have hcz9_2 : w7.cell? ⟨gb402, 2, none⟩ = some (.slice none 0 0) := (blk_cell BK402.out 2).trans rfl; have hfz9_0 := blk_frozen BK402.out 0; have hfz9_1 := blk_frozen BK402.out 1; have hfz9_2 := blk_frozen BK402.out 2; obtain ⟨Ao10, co10, eo10⟩ := Kd.R_slice HO399.out; subst eo10; have hcz11_0 : w7.cell? ⟨gb394, 0, none⟩ = some (.int .i64 0) := (blk_cell BK394.out 0).trans rfl; have hcz11_1 : w7.cell? ⟨gb394, 1, none⟩ = some (.string (⟨#[]⟩ : ByteArray)) := (blk_cell BK394.out 1).trans rfl; have hcz11_2 : w7.cell? ⟨gb394, 2, none⟩ = some (.slice none 0 0) := (blk_cell BK394.out 2).trans rfl; have hfz11_0 := blk_frozen BK394.out 0; have hfz11_1 := blk_frozen BK394.out 1; have hfz11_2 := blk_frozen BK394.out 2))
   refine bodyPost_ret (results_ct rfl _ _ gb394 24 #[.int .i64 t395, .string t396, .slice Ao10 t397.length co10] (0, 0) _ rfl (by refine bkq ?_; refine blk_put (cs := #[.int .i64 t395, .string t396, .slice none 0 0]) ?_ 2 _ rfl; refine bkq ?_; refine blk_put (cs := #[.int .i64 t395, .string (⟨#[]⟩ : ByteArray), .slice none 0 0]) ?_ 1 _ rfl; refine bkq ?_; refine blk_put (cs := #[.int .i64 0, .string (⟨#[]⟩ : ByteArray), .slice none 0 0]) ?_ 0 _ rfl; refine bkq ?_; refine blk_far ?_ NB394_402.out _; refine bkq ?_; refine blk_far ?_ NB394_402.out _; refine bkq ?_; refine blk_far ?_ NB394_402.out _; refine bkq ?_; exact BK394.out) Tryd.underlying24 rfl (by kernel_rfl)) rfl ?_
   exact ⟨_, q2_, by refine rkq ?_; exact Kd.R_mono (Kd.R_far (p := ⟨gb394, 2, none⟩) (Kd.R_far (p := ⟨gb394, 1, none⟩) (Kd.R_far (p := ⟨gb394, 0, none⟩) (Kd.R_far (p := ⟨gb402, 2, none⟩) (Kd.R_far (p := ⟨gb402, 1, none⟩) (Kd.R_far (p := ⟨gb402, 0, none⟩) (Kd.R_mono (Kd.R_mono HO399.out (fun k_ hk => (⟨hk, hk.2⟩ : _ ∧ k_ ≠ gb402))) (fun k_ hk => (⟨hk, hk.1.1.2⟩ : _ ∧ k_ ≠ gb394))) (fun _ hk => hk.1.2) (.int .i64 t395)) (fun _ hk => hk.1.2) (.string t396)) (fun _ hk => hk.1.2) (.slice Ao10 t397.length co10)) (fun _ hk => hk.2) (.int .i64 t395)) (fun _ hk => hk.2) (.string t396)) (fun _ hk => hk.2) (.slice Ao10 t397.length co10)) (fun _ hk => trivial), q0_⟩
  ·rw [if_neg c4] at H
   have c4b0 : (t400 == (a0.size : Int)) = false := beq_eq_false_iff_ne.mpr c4
   have c4b1 : (t400 != (a0.size : Int)) = true := bne_iff_ne.mpr c4
   simp only [Option.some.injEq, Prod.mk.injEq] at H
   obtain ⟨rfl, rfl, rfl, rfl⟩ := H
   go_enter Tryd.func20, Tryd.ntmps20
   go_wp2_with (first | ((with_reducible refine gate_dst (N := 2) rfl ?_); (try (refine gate_guard (by rfl) ?_; dsimp only)); refine box_event ?hg (N := 2) ?hd (cs := #[.int .i64 0, .string (⟨#[]⟩ : ByteArray), .slice none 0 0]) (t := 24) ?hr ?_; (case hd => rfl); (case hg => rfl); (case hr => first | (go_simp; done) | (go_simp; rfl)); intro gb394 hg w12 hbox hb; have n0_ := Aside0.mk (below_step q0_ hb); have n1_ := Aside0.mk (hbox); have n2_ := Aside0.mk ((by rw [hg]; exact (below_size q0_) : w.heap.size ≤ gb394)); have n3_ := Aside0.mk ((by rw [hg]; exact (below_size q0_) : w.heap.size ≤ gb394)); clear HB; have HB := n0_; have BK394 := n1_; have GW394 := n2_; have GE394 := n3_; clear n0_ n1_ n2_ n3_; clear hb hbox hg) | ((with_reducible refine gate_callee (f := 18) rfl ?_); refine goesL_ (some 9) rfl rfl Tryd.func18 (by kernel_rfl) rfl #[.string a0, .int .i64 0] rfl argq ?_; (with_reducible refine (latinerref02_Decode.calls k a0 0 t395 t396 t397 t400 t401 _ A2.out).mono ?_); rintro e w13 ⟨v398, rfl, ho0, hb⟩; refine ⟨_, rfl, ?_⟩; have n0_ := Aside0.mk (Kd.R_lower (Kd.R_newB ho0 (g := gb394) (o := .cells #[.int .i64 0, .string (⟨#[]⟩ : ByteArray), .slice none 0 0] 24 (0, 0)) (bkq BK394.out)) (below_size q0_)); have n1_ := Aside0.mk (blk_below (g := gb394) (o := .cells #[.int .i64 0, .string (⟨#[]⟩ : ByteArray), .slice none 0 0] 24 (0, 0)) (bkq BK394.out) hb); have n2_ := Aside0.mk (below_step q0_ hb); clear BK394; clear HB; have HO399 := n0_; have BK394 := n1_; have HB := n2_; clear n0_ n1_ n2_; (try clear hb); (try clear hb2); (try clear hk); (try clear hi); (try clear ho0)) | ((with_reducible refine gate_dst (N := 4) rfl ?_); (try (refine gate_guard (by rfl) ?_; dsimp only)); refine box_event ?hg (N := 4) ?hd (cs := #[.int .i64 0, .string (⟨#[]⟩ : ByteArray), .slice none 0 0]) (t := 24) ?hr ?_; (case hd => rfl); (case hg => rfl); (case hr => first | (go_simp; done) | (go_simp; rfl)); intro gb402 hg w14 hbox hb; have n0_ := Aside0.mk (Kd.R_below (Kd.R_elderB (rkq HO399.out) gb402 (Nat.le_of_eq hg.symm)) hb); have n1_ := Aside0.mk (blk_below (g := gb394) (o := .cells #[.int .i64 0, .string (⟨#[]⟩ : ByteArray), .slice none 0 0] 24 (0, 0)) (bkq BK394.out) hb); have n2_ := Aside0.mk (below_step q0_ hb); have n3_ := Aside0.mk (hbox); have n4_ := Aside0.mk ((by rw [hg]; exact (below_size q0_) : w.heap.size ≤ gb402)); have n5_ := Aside0.mk ((by rw [hg]; exact (below_size q0_) : w.heap.size ≤ gb402)); have n6_ := Aside0.mk ((by rw [hg]; exact Nat.ne_of_lt (blk_lt (g := gb394) (o := .cells #[.int .i64 0, .string (⟨#[]⟩ : ByteArray), .slice none 0 0] 24 (0, 0)) (bkq BK394.out)) : gb394 ≠ gb402)); have n7_ := Aside0.mk ((by rw [hg]; exact Nat.ne_of_gt (blk_lt (g := gb394) (o := .cells #[.int .i64 0, .string (⟨#[]⟩ : ByteArray), .slice none 0 0] 24 (0, 0)) (bkq BK394.out)) : gb402 ≠ gb394)); clear HO399; clear BK394; clear HB; have HO399 := n0_; have BK394 := n1_; have HB := n2_; have BK402 := n3_; have GW402 := n4_; have GE402 := n5_; have NB394_402 := n6_; have NB402_394 := n7_; clear n0_ n1_ n2_ n3_ n4_ n5_ n6_ n7_; clear hb hbox hg; have hnb15 := NB402_394.out; have hnc15 := NB394_402.out; have hcz16_0 : w14.cell? ⟨gb402, 0, none⟩ = some (.int .i64 0) := (blk_cell BK402.out 0).trans rfl; have hcz16_1 : w14.cell? ⟨gb402, 1, none⟩ = some (.string (⟨#[]⟩ : ByteArray)) := (blk_cell BK402.out 1).trans rfl; have hcz16_2 : w14.cell? ⟨gb402, 2, none⟩ = some (.slice none 0 0) := (blk_cell BK402.out 2).trans rfl; have hfz16_0 := blk_frozen BK402.out 0; have hfz16_1 := blk_frozen BK402.out 1; have hfz16_2 := blk_frozen BK402.out 2; obtain ⟨Ao17, co17, eo17⟩ := Kd.R_slice HO399.out; subst eo17; have hcz18_0 : w14.cell? ⟨gb394, 0, none⟩ = some (.int .i64 0) := (blk_cell BK394.out 0).trans rfl; have hcz18_1 : w14.cell? ⟨gb394, 1, none⟩ = some (.string (⟨#[]⟩ : ByteArray)) := (blk_cell BK394.out 1).trans rfl; have hcz18_2 : w14.cell? ⟨gb394, 2, none⟩ = some (.slice none 0 0) := (blk_cell BK394.out 2).trans rfl; have hfz18_0 := blk_frozen BK394.out 0; have hfz18_1 := blk_frozen BK394.out 1; have hfz18_2 := blk_frozen BK394.out 2))
   refine bodyPost_ret (results_ct rfl _ _ gb394 24 #[.int .i64 0, .string (⟨#[]⟩ : ByteArray), .slice none 0 0] (0, 0) _ rfl (by refine bkq ?_; refine blk_put (cs := #[.int .i64 0, .string (⟨#[]⟩ : ByteArray), .slice none 0 0]) ?_ 2 _ rfl; refine bkq ?_; refine blk_put (cs := #[.int .i64 0, .string (⟨#[]⟩ : ByteArray), .slice none 0 0]) ?_ 1 _ rfl; refine bkq ?_; refine blk_put (cs := #[.int .i64 0, .string (⟨#[]⟩ : ByteArray), .slice none 0 0]) ?_ 0 _ rfl; refine bkq ?_; refine blk_far ?_ NB394_402.out _; refine bkq ?_; refine blk_far ?_ NB394_402.out _; refine bkq ?_; refine blk_far ?_ NB394_402.out _; refine bkq ?_; exact BK394.out) Tryd.underlying24 rfl (by kernel_rfl)) rfl ?_
   exact ⟨_, q2_, q8_, q0_⟩
 ·rw [if_neg c3] at H
  have c3b0 : (t401 == 0) = false := beq_eq_false_iff_ne.mpr c3
  have c3b1 : (t401 != 0) = true := bne_iff_ne.mpr c3
  simp only [Option.some.injEq, Prod.mk.injEq] at H
  obtain ⟨rfl, rfl, rfl, rfl⟩ := H
  go_enter Tryd.func20, Tryd.ntmps20
  go_wp2_with (first | ((with_reducible refine gate_dst (N := 2) rfl ?_); (try (refine gate_guard (by rfl) ?_; dsimp only)); refine box_event ?hg (N := 2) ?hd (cs := #[.int .i64 0, .string (⟨#[]⟩ : ByteArray), .slice none 0 0]) (t := 24) ?hr ?_; (case hd => rfl); (case hg => rfl); (case hr => first | (go_simp; done) | (go_simp; rfl)); intro gb394 hg w19 hbox hb; have n0_ := Aside0.mk (below_step q0_ hb); have n1_ := Aside0.mk (hbox); have n2_ := Aside0.mk ((by rw [hg]; exact (below_size q0_) : w.heap.size ≤ gb394)); have n3_ := Aside0.mk ((by rw [hg]; exact (below_size q0_) : w.heap.size ≤ gb394)); clear HB; have HB := n0_; have BK394 := n1_; have GW394 := n2_; have GE394 := n3_; clear n0_ n1_ n2_ n3_; clear hb hbox hg) | ((with_reducible refine gate_callee (f := 18) rfl ?_); refine goesL_ (some 9) rfl rfl Tryd.func18 (by kernel_rfl) rfl #[.string a0, .int .i64 0] rfl argq ?_; (with_reducible refine (latinerref02_Decode.calls k a0 0 t395 t396 t397 t400 t401 _ A2.out).mono ?_); rintro e w20 ⟨v398, rfl, ho0, hb⟩; refine ⟨_, rfl, ?_⟩; have n0_ := Aside0.mk (Kd.R_lower (Kd.R_newB ho0 (g := gb394) (o := .cells #[.int .i64 0, .string (⟨#[]⟩ : ByteArray), .slice none 0 0] 24 (0, 0)) (bkq BK394.out)) (below_size q0_)); have n1_ := Aside0.mk (blk_below (g := gb394) (o := .cells #[.int .i64 0, .string (⟨#[]⟩ : ByteArray), .slice none 0 0] 24 (0, 0)) (bkq BK394.out) hb); have n2_ := Aside0.mk (below_step q0_ hb); clear BK394; clear HB; have HO399 := n0_; have BK394 := n1_; have HB := n2_; clear n0_ n1_ n2_; (try clear hb); (try clear hb2); (try clear hk); (try clear hi); (try clear ho0)) | ((with_reducible refine gate_dst (N := 4) rfl ?_); (try (refine gate_guard (by rfl) ?_; dsimp only)); refine box_event ?hg (N := 4) ?hd (cs := #[.int .i64 0, .string (⟨#[]⟩ : ByteArray), .slice none 0 0]) (t := 24) ?hr ?_; (case hd => rfl); (case hg => rfl); (case hr => first | (go_simp; done) | (go_simp; rfl)); intro gb402 hg w21 hbox hb; have n0_ := Aside0.mk (Kd.R_below (Kd.R_elderB (rkq HO399.out) gb402 (Nat.le_of_eq hg.symm)) hb); have n1_ := Aside0.mk (blk_below (g := gb394) (o := .cells #[.int .i64 0, .string (⟨#[]⟩ : ByteArray), .slice none 0 0] 24 (0, 0)) (bkq BK394.out) hb); have n2_ := Aside0.mk (below_step q0_ hb); have n3_ := Aside0.mk (hbox); have n4_ := Aside0.mk ((by rw [hg]; exact (below_size q0_) : w.heap.size ≤ gb402)); have n5_ := Aside0.mk ((by rw [hg]; exact (below_size q0_) : w.heap.size ≤ gb402)); have n6_ := Aside0.mk ((by rw [hg]; exact Nat.ne_of_lt (blk_lt (g := gb394) (o := .cells #[.int .i64 0, .string (⟨#[]⟩ : ByteArray), .slice none 0 0] 24 (0, 0)) (bkq BK394.out)) : gb394 ≠ gb402)); have n7_ := Aside0.mk ((by rw [hg]; exact Nat.ne_of_gt (blk_lt (g := gb394) (o := .cells #[.int .i64 0, .string (⟨#[]⟩ : ByteArray), .slice none 0 0] 24 (0, 0)) (bkq BK394.out)) : gb402 ≠ gb394)); clear HO399; clear BK394; clear HB; have HO399 := n0_; have BK394 := n1_; have HB := n2_; have BK402 := n3_; have GW402 := n4_; have GE402 := n5_; have NB394_402 := n6_; have NB402_394 := n7_; clear n0_ n1_ n2_ n3_ n4_ n5_ n6_ n7_; clear hb hbox hg; have hnb22 := NB402_394.out; have hnc22 := NB394_402.out; have hcz23_0 : w21.cell? ⟨gb402, 0, none⟩ = some (.int .i64 0) := (blk_cell BK402.out 0).trans rfl; have hcz23_1 : w21.cell? ⟨gb402, 1, none⟩ = some (.string (⟨#[]⟩ : ByteArray)) := (blk_cell BK402.out 1).trans rfl; have hcz23_2 : w21.cell? ⟨gb402, 2, none⟩ = some (.slice none 0 0) := (blk_cell BK402.out 2).trans rfl; have hfz23_0 := blk_frozen BK402.out 0; have hfz23_1 := blk_frozen BK402.out 1; have hfz23_2 := blk_frozen BK402.out 2; obtain ⟨Ao24, co24, eo24⟩ := Kd.R_slice HO399.out; subst eo24; have hcz25_0 : w21.cell? ⟨gb394, 0, none⟩ = some (.int .i64 0) := (blk_cell BK394.out 0).trans rfl; have hcz25_1 : w21.cell? ⟨gb394, 1, none⟩ = some (.string (⟨#[]⟩ : ByteArray)) := (blk_cell BK394.out 1).trans rfl; have hcz25_2 : w21.cell? ⟨gb394, 2, none⟩ = some (.slice none 0 0) := (blk_cell BK394.out 2).trans rfl; have hfz25_0 := blk_frozen BK394.out 0; have hfz25_1 := blk_frozen BK394.out 1; have hfz25_2 := blk_frozen BK394.out 2))
  refine bodyPost_ret (results_ct rfl _ _ gb394 24 #[.int .i64 t395, .string t396, .slice Ao24 t397.length co24] (0, 0) _ rfl (by refine bkq ?_; refine blk_put (cs := #[.int .i64 t395, .string t396, .slice none 0 0]) ?_ 2 _ rfl; refine bkq ?_; refine blk_put (cs := #[.int .i64 t395, .string (⟨#[]⟩ : ByteArray), .slice none 0 0]) ?_ 1 _ rfl; refine bkq ?_; refine blk_put (cs := #[.int .i64 0, .string (⟨#[]⟩ : ByteArray), .slice none 0 0]) ?_ 0 _ rfl; refine bkq ?_; refine blk_far ?_ NB394_402.out _; refine bkq ?_; refine blk_far ?_ NB394_402.out _; refine bkq ?_; refine blk_far ?_ NB394_402.out _; refine bkq ?_; exact BK394.out) Tryd.underlying24 rfl (by kernel_rfl)) rfl ?_
  exact ⟨_, q2_, by refine rkq ?_; exact Kd.R_mono (Kd.R_far (p := ⟨gb394, 2, none⟩) (Kd.R_far (p := ⟨gb394, 1, none⟩) (Kd.R_far (p := ⟨gb394, 0, none⟩) (Kd.R_far (p := ⟨gb402, 2, none⟩) (Kd.R_far (p := ⟨gb402, 1, none⟩) (Kd.R_far (p := ⟨gb402, 0, none⟩) (Kd.R_mono (Kd.R_mono HO399.out (fun k_ hk => (⟨hk, hk.2⟩ : _ ∧ k_ ≠ gb402))) (fun k_ hk => (⟨hk, hk.1.1.2⟩ : _ ∧ k_ ≠ gb394))) (fun _ hk => hk.1.2) (.int .i64 t395)) (fun _ hk => hk.1.2) (.string t396)) (fun _ hk => hk.1.2) (.slice Ao24 t397.length co24)) (fun _ hk => hk.2) (.int .i64 t395)) (fun _ hk => hk.2) (.string t396)) (fun _ hk => hk.2) (.slice Ao24 t397.length co24)) (fun _ hk => trivial), q0_⟩
end Go.Proofs.YthnddhgkjkpmfaaDoor.LTlvC
