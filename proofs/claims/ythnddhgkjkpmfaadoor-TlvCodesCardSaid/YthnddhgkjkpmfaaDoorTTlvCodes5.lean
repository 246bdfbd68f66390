/- TTlvCodes5: own texts of this seat, laid as one. -/
import Derived.Test.YthnddhgkjkpmfaaDoorTTlvCodes4
-- Written by this repo's own program over the kit's printer: YthnddhgkjkpmfaaDoor.LTlvC
namespace Go.Proofs.YthnddhgkjkpmfaaDoor.LTlvC
open Go.Proofs.YthnddhgkjkpmfaaDoor.ExtTlvC
open Go.Proofs.YthnddhgkjkpmfaaDoor.KTlv
open Go.RowKit Go.Proofs.YthnddhgkjkpmfaaDoorW.PrintWords Go.Proofs.YthnddhgkjkpmfaaDoorW.PrintLast Go.Proofs.YthnddhgkjkpmfaaDoorW.PrintMore
attribute [local go_sem] max2_int min2_int max_two min_two max_three min_three max_four min_four   -- for this text's walks alone
attribute [local go_sem] some_set
set_option linter.unusedVariables false
set_option linter.unusedSimpArgs false
variable {G : Gl}
def tlv_decoded.j0 : Nat → ByteArray → Int → Bool → Option (Int × ByteArray × (List (S24)) × Int × Option Er)
 | 0, _, _, _ => none
 | k + 1, x0, x1, x17 => if x17 = true then (some (0, (⟨#[]⟩ : ByteArray), ([] : List (S24)), 0, some (Er.short x1))) else ((tlv_reader_tree.f k x0 x1 0 (x0.size : Int) 1).bind fun bt145 => (if bt145.2.2.2.1.isNone = true then ((tlv_Right.f bt145.1 bt145.2.1 bt145.2.2.1).bind fun t156 => (if t156 = true then (some (bt145.1, bt145.2.1, bt145.2.2.1, bt145.2.2.2.2.2.1, none)) else (some (0, (⟨#[]⟩ : ByteArray), ([] : List (S24)), 0, some (Er.node x1))))) else (some (0, (⟨#[]⟩ : ByteArray), ([] : List (S24)), 0, some (bt145.2.2.2.1.getD Er.z)))))
def tlv_decoded.f (k : Nat) (a0 : ByteArray) (a1 : Int) : Option (Int × ByteArray × (List (S24)) × Int × Option Er) := if a1 < 0 then (tlv_decoded.j0 k a0 a1 true) else (tlv_decoded.j0 k a0 a1 (decide (a1 > (a0.size : Int))))
theorem tlv_decoded.mono_l : ∀ k, (∀ y0 y1 y2, LeO (tlv_decoded.j0 k y0 y1 y2) (tlv_decoded.j0 (k + 1) y0 y1 y2))
 | 0 => fun _ _ _ r h => by simp [tlv_decoded.j0] at h
 | k + 1 => by
  have ih0 := tlv_decoded.mono_l k
  ·intro y0 y1 y2
   unfold tlv_decoded.j0
   repeat' first
   | (with_reducible exact ih0 _ _ _)
   | (with_reducible exact tlv_reader_tree.mono _ _ _ _ _ _)
   | (with_reducible exact LeO.refl _)
   | (with_reducible exact LeO.none _)
   | (with_reducible refine LeO.ite ?_ ?_)
   | (with_reducible refine LeO.bind ?_ (fun _ => ?_))
   | exact ih0 _ _ _
   | exact tlv_reader_tree.mono _ _ _ _ _ _
   | exact LeO.none _
   | refine LeO.ite ?_ ?_
   | refine LeO.bind ?_ (fun _ => ?_)
theorem tlv_decoded.mono : ∀ a0 a1 k, LeO (tlv_decoded.f k a0 a1) (tlv_decoded.f (k + 1) a0 a1) := by
 intro a0 a1 k
 have ih0 := tlv_decoded.mono_l k
 unfold tlv_decoded.f
 repeat' first
   | (with_reducible exact ih0 _ _ _)
   | (with_reducible exact tlv_reader_tree.mono _ _ _ _ _ _)
   | (with_reducible exact LeO.refl _)
   | (with_reducible exact LeO.none _)
   | (with_reducible refine LeO.ite ?_ ?_)
   | (with_reducible refine LeO.bind ?_ (fun _ => ?_))
   | exact ih0 _ _ _
   | exact tlv_reader_tree.mono _ _ _ _ _ _
   | exact LeO.none _
   | refine LeO.ite ?_ ?_
   | refine LeO.bind ?_ (fun _ => ?_)
def tlv_decoded.T2 : Bool × List (List Nat × List Nat) := (true, [([], []), ([], []), ([], []), ([1, 2], [1, 2]), ([3], [3]), ([0, 0], [0]), ([5, 0, 5], []), ([4, 6, 0, 1, 2, 3, 4, 5, 6], [4])])
def tlv_decoded.B2 : List Nat := [0, 0, 0, 6, 14, 1, 33, 127]
theorem tlv_decoded.tab2 : rtab .any (opsOf Tryd.f31 2) = tlv_decoded.T2 := by kernel_rfl
theorem tlv_decoded.bits2 : waitsOk tlv_decoded.T2.2 tlv_decoded.B2 = true := by kernel_rfl
def tlv_decoded.T8 : Bool × List (List Nat × List Nat) := (true, [([], []), ([], []), ([], []), ([1, 2], [1, 2]), ([3], [3]), ([0, 0], [0]), ([5, 0, 5], []), ([4, 6, 0, 1, 2, 3, 4, 5, 6], [4])])
def tlv_decoded.B8 : List Nat := [0, 0, 0, 6, 14, 1, 33, 127]
theorem tlv_decoded.tab8 : rtab .any (opsOf Tryd.f31 8) = tlv_decoded.T8 := by kernel_rfl
theorem tlv_decoded.bits8 : waitsOk tlv_decoded.T8.2 tlv_decoded.B8 = true := by kernel_rfl
def tlv_decoded.T9 : Bool × List (List Nat × List Nat) := (true, [([], []), ([], []), ([1], [1]), ([2], [2]), ([3], [3]), ([4], [4]), ([0, 0], [0]), ([5, 6, 0, 1, 2, 3, 4, 5, 6], [5]), ([7, 0, 1, 2, 3, 4, 5, 6, 7], [])])
def tlv_decoded.B9 : List Nat := [0, 0, 2, 6, 14, 30, 1, 127, 255]
theorem tlv_decoded.tab9 : rtab .any (opsOf Tryd.f31 9) = tlv_decoded.T9 := by kernel_rfl
theorem tlv_decoded.bits9 : waitsOk tlv_decoded.T9.2 tlv_decoded.B9 = true := by kernel_rfl
set_option maxHeartbeats 8000000 in
set_option maxRecDepth 100000 in
theorem tlv_decoded.calls (k : Nat) (a0 : ByteArray) (a1 : Int) (r1 : Int) (r2 : ByteArray) (r3 : List (S24)) (r4 : Int) (r5 : Option Er) (w : World) (hG : GW G w) (h : tlv_decoded.f k a0 a1 = some (r1, r2, r3, r4, r5)) :
  Calls Tryd.prog 31 #[.string a0, .int .i64 a1] w fun e w' => ∃ v2_ : Value, e = .returned (.tuple #[.agg #[.int .i64 r1, .string r2, v2_], .int .i64 r4, errW G r5]) ∧ Kd.R k24 24 w' w.heap.size (fun _ => True) v2_ r3 ∧ Below w.heap.size w w' := by
 have hu24 := Tryd.underlying24
 have hu72 := Tryd.underlying72
 have hu74 := Tryd.underlying74
 have hu49 := Tryd.underlying49
 have HB := Aside0.mk (Below.refl w.heap.size w)
 have H : (if a1 < 0 then (tlv_decoded.j0 k a0 a1 true) else (tlv_decoded.j0 k a0 a1 (decide (a1 > (a0.size : Int))))) = some (r1, r2, r3, r4, r5) := h
 clear h
 have HC3 := Aside0.mk H
 clear H
 go_enter Tryd.func31, Tryd.ntmps31
 go_upto_region 1 with (first | ((with_reducible refine gate_dst (N := 4) rfl ?_); (try (refine gate_guard (by rfl) ?_; dsimp only)); refine box_event ?hg (N := 4) ?hd (cs := #[.int .i64 0, .string (⟨#[]⟩ : ByteArray), .slice none 0 0]) (t := 24) ?hr ?_; (case hd => rfl); (case hg => rfl); (case hr => first | (go_simp; done) | (go_simp; rfl)); intro gb143 hg w4 hbox hb; have n0_ := Aside0.mk (below_step q0_ hb); have n1_ := Aside0.mk (hbox); have n2_ := Aside0.mk ((by rw [hg]; exact (below_size q0_) : w.heap.size ≤ gb143)); have n3_ := Aside0.mk ((by rw [hg]; exact (below_size q0_) : w.heap.size ≤ gb143)); clear HB; have HB := n0_; have BK143 := n1_; have GW143 := n2_; have GE143 := n3_; clear n0_ n1_ n2_ n3_; clear hb hbox hg))
 (try simp only [Act.put, List.setIfInBounds_toArray, List.set_cons_zero, List.set_cons_succ])
 go_cut [17] (fun v17 wc => ∃ (kq : Nat) (x17_2 : Bool), v17 = .bool x17_2 ∧ Aside0 (tlv_decoded.j0 kq a0 a1 x17_2 = some (r1, r2, r3, r4, r5)) ∧ Aside0 (kq ≤ k) ∧ Aside0 (wc.heap[gb143]? = some (.cells #[.int .i64 0, .string (⟨#[]⟩ : ByteArray), (.slice none 0 0)] 24 (0, 0))) ∧ Aside0 (Below w.heap.size w wc))
 case first =>
  have H := HC3.out
  clear HC3
  by_cases c5 : a1 < 0
  ·rw [if_pos c5] at H
   have c5b0 : decide (a1 < 0) = true := decide_eq_true c5
   clear c5
   (first | rw [c5b0] | (simp only [i64_w, i32_w]; rw [c5b0]) | skip)
   have H' := Aside0.mk H
   clear H
   go_wp2
   go_meet
   case rel => exact ⟨_, (true), q3_, H', ⟨q12_⟩, ⟨by refine bkq ?_; exact BK143.out⟩, ⟨q0_⟩⟩
  ·rw [if_neg c5] at H
   have c5b0 : decide (a1 < 0) = false := decide_eq_false c5
   clear c5
   (first | rw [c5b0] | (simp only [i64_w, i32_w]; rw [c5b0]) | skip)
   have H' := Aside0.mk H
   clear H
   go_wp2
   go_meet
   case rel => exact ⟨_, (decide (a1 > (a0.size : Int))), q3_, H', ⟨q12_⟩, ⟨by refine bkq ?_; exact BK143.out⟩, ⟨q0_⟩⟩
 case rest =>
  clear HC3
  try clear p2
  try clear c3
  try clear c5
  try clear c5b0
  obtain ⟨kq, x17_2, rfl, HA, HJ2, BK143, HB⟩ := hcut
  cases kq with
  | zero => exact absurd HA.out (by simp [tlv_decoded.j0])
  | succ kj2 =>
   have H := HA.out
   clear HA
   simp only [tlv_decoded.j0] at H
   by_cases c6 : x17_2 = true
   ·subst c6
    have H1 : (some (0, (⟨#[]⟩ : ByteArray), ([] : List (S24)), 0, some (Er.short a1))) = some (r1, r2, r3, r4, r5) := by rw [if_pos rfl] at H; exact H
    clear H
    have H := H1
    clear H1
    simp only [Option.some.injEq, Prod.mk.injEq] at H
    obtain ⟨rfl, rfl, rfl, rfl, rfl⟩ := H
    try go_wp2
    have n0_ := Aside0.mk (blk_drew BK143.out)
    have n1_ := Aside0.mk (below_drew1 HB.out)
    clear BK143
    clear HB
    have BK143 := n0_
    have HB := n1_
    clear n0_ n1_
    refine start_ (n := 8) (S := fun w' => w'.cell? ⟨2, 0, none⟩ = some (GC2 G)) (ds := []) #[false, false, false, false, false, false, false, false] (by kernel_rfl) rfl rfl ((GW.c2 (GW.below hG q0_))) (fun hHeld => ?_); refine with_tabW tlv_decoded.tab2 tlv_decoded.bits2 (fun HT_ HW_ => ?_)
    generalize wc.drew = w7 at BK143 HB hHeld ⊢
    refine p_ 0 (some 18) ?_
    refine p_ 1 (some 19) ?_
    refine take_ (i := 2) (N := some 20) (v := ?_) (a' := ?_) #[true, true, true, false, false, false, false, false] rfl rfl (take_ofW HT_.out HW_.out (by kernel_rfl)) (fun _ _ _ h => h) (Or.inl ⟨by rfl, ?_⟩) hHeld ?_ ?_
    rotate_left
    ·intro w' s0
     go_simp
     with_reducible rfl
    rotate_left
    ·exact putq
    refine p_ 3 (some 21) ?_
    refine p_ 4 (some 22) ?_
    refine one_ (i := 5) (N := none) #[true, true, true, true, true, true, false, false] rfl rfl (one_of HT_.out (by kernel_rfl)) (by decide) (fun K hK => ?_)
    have hs8 : w7.cell? ⟨gb143, 0, none⟩ = some (.int .i64 0) := (blk_cell BK143.out 0).trans rfl
    have hfs8 := blk_frozen BK143.out 0
    have hs9 : w7.cell? ⟨gb143, 1, none⟩ = some (.string (⟨#[]⟩ : ByteArray)) := (blk_cell BK143.out 1).trans rfl
    have hfs9 := blk_frozen BK143.out 1
    have hs10 : w7.cell? ⟨gb143, 2, none⟩ = some (.slice none 0 0) := (blk_cell BK143.out 2).trans rfl
    have hfs10 := blk_frozen BK143.out 2
    refine skip_ (w1 := ?_) (by rfl) rfl ?_ ?_
    rotate_left
    ·go_simp
     rfl
    refine hK.out _ _ (((cell_far (p := ⟨gb143, _, none⟩) (Nat.ne_of_lt (Nat.lt_of_lt_of_le (GW.lt2 hG) GE143.out)) _).trans (((cell_far (p := ⟨gb143, _, none⟩) (Nat.ne_of_lt (Nat.lt_of_lt_of_le (GW.lt2 hG) GE143.out)) _).trans (((cell_far (p := ⟨gb143, _, none⟩) (Nat.ne_of_lt (Nat.lt_of_lt_of_le (GW.lt2 hG) GE143.out)) _).trans (hHeld))))))) (fun hHeld => ?_)
    clear hK K
    refine p_ 6 (some 5) ?_
    refine p_ 7 (some 6) ?_
    refine done_ (done_of HT_.out (by kernel_rfl)) ?_
    try go_wp2
    refine bodyPost_ret (results_ctt rfl _ _ gb143 24 #[.int .i64 0, .string (⟨#[]⟩ : ByteArray), .slice none 0 0] (0, 0) _ rfl (by refine bkq ?_; refine blk_put (cs := #[.int .i64 0, .string (⟨#[]⟩ : ByteArray), .slice none 0 0]) ?_ 2 _ rfl; refine bkq ?_; refine blk_put (cs := #[.int .i64 0, .string (⟨#[]⟩ : ByteArray), .slice none 0 0]) ?_ 1 _ rfl; refine bkq ?_; refine blk_put (cs := #[.int .i64 0, .string (⟨#[]⟩ : ByteArray), .slice none 0 0]) ?_ 0 _ rfl; refine bkq ?_; exact BK143.out) Tryd.underlying24 rfl (by kernel_rfl)) rfl ?_
    exact ⟨_, q2_, q8_, q0_⟩
   ·replace c6 := Bool.eq_false_iff.mpr c6
    subst c6
    have H1 : ((tlv_reader_tree.f kj2 a0 a1 0 (a0.size : Int) 1).bind fun bt145 => (if bt145.2.2.2.1.isNone = true then ((tlv_Right.f bt145.1 bt145.2.1 bt145.2.2.1).bind fun t156 => (if t156 = true then (some (bt145.1, bt145.2.1, bt145.2.2.1, bt145.2.2.2.2.2.1, none)) else (some (0, (⟨#[]⟩ : ByteArray), ([] : List (S24)), 0, some (Er.node a1))))) else (some (0, (⟨#[]⟩ : ByteArray), ([] : List (S24)), 0, some (bt145.2.2.2.1.getD Er.z))))) = some (r1, r2, r3, r4, r5) := by rw [if_neg (show ¬ (false = true) by decide)] at H; exact H
    clear H
    have H := H1
    clear H1
    replace H := Option.bind_eq_some_iff.mp H
    obtain ⟨⟨t145, t146, t147, t150, t151, t152, t153⟩, A110, H⟩ := H
    replace H : (if t150.isNone = true then ((tlv_Right.f t145 t146 t147).bind fun t156 => (if t156 = true then (some (t145, t146, t147, t152, none)) else (some (0, (⟨#[]⟩ : ByteArray), ([] : List (S24)), 0, some (Er.node a1))))) else (some (0, (⟨#[]⟩ : ByteArray), ([] : List (S24)), 0, some (t150.getD Er.z)))) = some (r1, r2, r3, r4, r5) := H
    have A11 := Aside0.mk A110
    clear A110
    rcases t150 with _ | q155
    ·have H1 : ((tlv_Right.f t145 t146 t147).bind fun t156 => (if t156 = true then (some (t145, t146, t147, t152, none)) else (some (0, (⟨#[]⟩ : ByteArray), ([] : List (S24)), 0, some (Er.node a1))))) = some (r1, r2, r3, r4, r5) := by rw [if_pos (show (none : Option Er).isNone = true by rfl)] at H; exact H
     clear H
     have H := H1
     clear H1
     try simp only [eW]
     replace H := Option.bind_eq_some_iff.mp H
     obtain ⟨t156, A120, H⟩ := H
     replace H : (if t156 = true then (some (t145, t146, t147, t152, none)) else (some (0, (⟨#[]⟩ : ByteArray), ([] : List (S24)), 0, some (Er.node a1)))) = some (r1, r2, r3, r4, r5) := H
     have A12 := Aside0.mk A120
     clear A120
     by_cases c13 : t156 = true
     ·subst c13
      have H1 : (some (t145, t146, t147, t152, none)) = some (r1, r2, r3, r4, r5) := by rw [if_pos rfl] at H; exact H
      clear H
      have H := H1
      clear H1
      simp only [Option.some.injEq, Prod.mk.injEq] at H
      obtain ⟨rfl, rfl, rfl, rfl, rfl⟩ := H
      try go_wp2_with (first | ((with_reducible refine gate_dst (N := 27) rfl ?_); (try (refine gate_guard (by rfl) ?_; dsimp only)); refine box_event ?hg (N := 27) ?hd (cs := #[.string a0, .int .i64 a1, .int .i64 0]) (t := 74) ?hr ?_; (case hd => rfl); (case hg => rfl); (case hr => first | (go_simp; done) | (go_simp; rfl)); intro gb144 hg w14 hbox hb; have n0_ := Aside0.mk (blk_below (g := gb143) (o := .cells #[.int .i64 0, .string (⟨#[]⟩ : ByteArray), .slice none 0 0] 24 (0, 0)) (bkq BK143.out) hb); have n1_ := Aside0.mk (below_step q0_ hb); have n2_ := Aside0.mk (hbox); have n3_ := Aside0.mk ((by rw [hg]; exact (below_size q0_) : w.heap.size ≤ gb144)); have n4_ := Aside0.mk ((by rw [hg]; exact (below_size q0_) : w.heap.size ≤ gb144)); have n5_ := Aside0.mk ((by rw [hg]; exact Nat.ne_of_lt (blk_lt (g := gb143) (o := .cells #[.int .i64 0, .string (⟨#[]⟩ : ByteArray), .slice none 0 0] 24 (0, 0)) (bkq BK143.out)) : gb143 ≠ gb144)); have n6_ := Aside0.mk ((by rw [hg]; exact Nat.ne_of_gt (blk_lt (g := gb143) (o := .cells #[.int .i64 0, .string (⟨#[]⟩ : ByteArray), .slice none 0 0] 24 (0, 0)) (bkq BK143.out)) : gb144 ≠ gb143)); clear BK143; clear HB; have BK143 := n0_; have HB := n1_; have BK144 := n2_; have GW144 := n3_; have GE144 := n4_; have NB143_144 := n5_; have NB144_143 := n6_; clear n0_ n1_ n2_ n3_ n4_ n5_ n6_; clear hb hbox hg; have HI144 := Aside0.mk (show IsS74 w w14 gb144 a0 a1 0 from ⟨BK144.out, GE144.out⟩)) | ((with_reducible refine gate_callee (f := 44) rfl ?_); refine goesL_ (some 32) rfl rfl Tryd.func44 (by kernel_rfl) rfl #[.pointer (some ⟨gb144, 0, none⟩), .int .i64 (a0.size : Int), .int .i64 1] rfl argq ?_; (with_reducible refine (tlv_reader_tree.calls (G := G) kj2 gb144 a0 a1 0 (a0.size : Int) 1 t145 t146 t147 none t151 t152 t153 w _ ?side1 ?side2 ?side3 A11.out).mono ?_); (case side1 => repeat (first | (with_reducible first | exact HI144.out | apply IsS74.alloc | apply IsS74.drewN | apply IsS74.drew | apply IsS74.set_0 | apply IsS74.set_1 | apply IsS74.set_2 | refine IsS74.far ?_ NB144_143.out _) | exact HI144.out | refine IsS74.far (f0 := ?f0) ?_ NB144_143.out _ | refine IsS74.far (f1 := ?f1) ?_ NB144_143.out _ | refine IsS74.far (f2 := ?f2) ?_ NB144_143.out _ | refine IsS74.far (f0 := ?f0) (f1 := ?f1) ?_ NB144_143.out _ | refine IsS74.far (f0 := ?f0) (f2 := ?f2) ?_ NB144_143.out _ | refine IsS74.far (f1 := ?f1) (f2 := ?f2) ?_ NB144_143.out _)); (case side2 => repeat (first | (with_reducible first | exact HB.out | apply below_alloc | apply pw_below_drewN | apply below_drew1 | refine below_set ?_ (IsS74.ge HI144.out) | refine below_set ?_ (Aside0.out (by assumption))) | exact HB.out)); (case side3 => first | exact hG | exact GW.below hG q6_); rintro e w15 ⟨v148, rfl, ho0, hi, hb, hk⟩; refine ⟨_, rfl, ?_⟩; have n0_ := Aside0.mk (KeepBut.blk hk (g' := gb143) (o := .cells #[.int .i64 0, .string (⟨#[]⟩ : ByteArray), .slice none 0 0] 24 (0, 0)) (bkq BK143.out) NB143_144.out (by simp)); have n1_ := Aside0.mk (Kd.R_lower (Kd.R_newB ho0 (g := gb143) (o := .cells #[.int .i64 0, .string (⟨#[]⟩ : ByteArray), .slice none 0 0] 24 (0, 0)) (bkq BK143.out)) (below_size q6_)); have n2_ := Aside0.mk (hb); have n3_ := Aside0.mk (hi); clear BK143; clear HB; clear HI144; have BK143 := n0_; have HO149 := n1_; have HB := n2_; have HI144 := n3_; clear n0_ n1_ n2_ n3_; (try clear hb); (try clear hb2); (try clear hk); (try clear hi); (try clear ho0); (try simp only [eW])) | ((with_reducible refine gate_dst (N := 8) rfl ?_); (try (refine gate_guard (by rfl) ?_; dsimp only)); refine box_event ?hg (N := 8) ?hd (cs := #[.int .i64 0, .string (⟨#[]⟩ : ByteArray), .slice none 0 0]) (t := 24) ?hr ?_; (case hd => rfl); (case hg => rfl); (case hr => first | (go_simp; done) | (go_simp; rfl)); intro gb154 hg w16 hbox hb; have n0_ := Aside0.mk (Kd.R_below (Kd.R_elderB (rkq HO149.out) gb154 (Nat.le_of_eq hg.symm)) hb); have n1_ := Aside0.mk (blk_below (g := gb143) (o := .cells #[.int .i64 0, .string (⟨#[]⟩ : ByteArray), .slice none 0 0] 24 (0, 0)) (bkq BK143.out) hb); have n2_ := Aside0.mk (IsS74.below q17_ hb); have n3_ := Aside0.mk (below_step q6_ hb); have n4_ := Aside0.mk (hbox); have n5_ := Aside0.mk ((by rw [hg]; exact (below_size q6_) : w.heap.size ≤ gb154)); have n6_ := Aside0.mk ((by rw [hg]; exact (below_size q6_) : w.heap.size ≤ gb154)); have n7_ := Aside0.mk ((by rw [hg]; exact Nat.ne_of_lt (blk_lt (g := gb143) (o := .cells #[.int .i64 0, .string (⟨#[]⟩ : ByteArray), .slice none 0 0] 24 (0, 0)) (bkq BK143.out)) : gb143 ≠ gb154)); have n8_ := Aside0.mk ((by rw [hg]; exact Nat.ne_of_gt (blk_lt (g := gb143) (o := .cells #[.int .i64 0, .string (⟨#[]⟩ : ByteArray), .slice none 0 0] 24 (0, 0)) (bkq BK143.out)) : gb154 ≠ gb143)); have n9_ := Aside0.mk ((by rw [hg]; exact Nat.ne_of_lt (IsS74.lt (show IsS74 w _ gb144 t151 t152 t153 from q17_)) : gb144 ≠ gb154)); have n10_ := Aside0.mk ((by rw [hg]; exact Nat.ne_of_gt (IsS74.lt (show IsS74 w _ gb144 t151 t152 t153 from q17_)) : gb154 ≠ gb144)); clear HO149; clear BK143; clear HI144; clear HB; have HO149 := n0_; have BK143 := n1_; have HI144 := n2_; have HB := n3_; have BK154 := n4_; have GW154 := n5_; have GE154 := n6_; have NB143_154 := n7_; have NB154_143 := n8_; have NB144_154 := n9_; have NB154_144 := n10_; clear n0_ n1_ n2_ n3_ n4_ n5_ n6_ n7_ n8_ n9_ n10_; clear hb hbox hg; have hnb17 := NB154_143.out; have hnc17 := NB143_154.out; have hnb18 := NB154_144.out; have hnc18 := NB144_154.out; have hcz19_0 : w16.cell? ⟨gb154, 0, none⟩ = some (.int .i64 0) := (blk_cell BK154.out 0).trans rfl; have hcz19_1 : w16.cell? ⟨gb154, 1, none⟩ = some (.string (⟨#[]⟩ : ByteArray)) := (blk_cell BK154.out 1).trans rfl; have hcz19_2 : w16.cell? ⟨gb154, 2, none⟩ = some (.slice none 0 0) := (blk_cell BK154.out 2).trans rfl; have hfz19_0 := blk_frozen BK154.out 0; have hfz19_1 := blk_frozen BK154.out 1; have hfz19_2 := blk_frozen BK154.out 2; obtain ⟨Ao20, co20, eo20⟩ := Kd.R_slice HO149.out; subst eo20) | ((with_reducible refine gate_callee (f := 21) rfl ?_); refine goesL_ (some 42) rfl rfl Tryd.func21 (by kernel_rfl) rfl #[.agg #[.int .i64 t145, .string t146, .slice Ao20 t147.length co20]] rfl argq ?_; (with_reducible refine (tlv_Right.calls (G := G) t145 t146 _ _ t147 true _ ?side1 ?side2 ?side3 A12.out).mono ?_); (case side1 => refine (Kd.R_reads' (e := 24) (base := w.heap.size) (ok := fun k_ => ((True ∧ k_ ≠ gb143) ∧ k_ ≠ gb154)) (n := t147.length) (c := co20) ?_).2.2; exact (by refine rkq ?_; exact (Kd.R_mono (Kd.R_far (p := ⟨gb154, 2, none⟩) (Kd.R_far (p := ⟨gb154, 1, none⟩) (Kd.R_far (p := ⟨gb154, 0, none⟩) (Kd.R_mono HO149.out (fun k_ hk => (⟨hk, hk.2⟩ : _ ∧ k_ ≠ gb154))) (fun _ hk => hk.2) (.int .i64 t145)) (fun _ hk => hk.2) (.string t146)) (fun _ hk => hk.2) (.slice Ao20 t147.length co20)) (fun _ h_ => h_.1)))); (case side2 => exact (Kd.R_reads' HO149.out).2.1); (case side3 => first | exact hG | exact GW.below hG q6_); rintro e w21 ⟨rfl, hb⟩; refine ⟨_, rfl, ?_⟩; have n0_ := Aside0.mk (Kd.R_below (by refine rkq ?_; exact (Kd.R_mono (Kd.R_far (p := ⟨gb154, 2, none⟩) (Kd.R_far (p := ⟨gb154, 1, none⟩) (Kd.R_far (p := ⟨gb154, 0, none⟩) (Kd.R_mono HO149.out (fun k_ hk => (⟨hk, hk.2⟩ : _ ∧ k_ ≠ gb154))) (fun _ hk => hk.2) (.int .i64 t145)) (fun _ hk => hk.2) (.string t146)) (fun _ hk => hk.2) (.slice Ao20 t147.length co20)) (fun _ h_ => h_.1))) hb); have n1_ := Aside0.mk (blk_below (g := gb143) (o := .cells #[.int .i64 0, .string (⟨#[]⟩ : ByteArray), .slice none 0 0] 24 (0, 0)) (by refine bkq ?_; refine blk_far ?_ NB143_154.out _; refine bkq ?_; refine blk_far ?_ NB143_154.out _; refine bkq ?_; refine blk_far ?_ NB143_154.out _; refine bkq ?_; exact BK143.out) hb); have n2_ := Aside0.mk (IsS74.below (show IsS74 w (((w16.setCell ⟨gb154, 0, none⟩ (.int .i64 t145)).setCell ⟨gb154, 1, none⟩ (.string t146)).setCell ⟨gb154, 2, none⟩ (.slice Ao20 t147.length co20)) gb144 t151 t152 t153 from q25_) hb); have n3_ := Aside0.mk (blk_below (g := gb154) (o := .cells #[.int .i64 t145, .string t146, .slice Ao20 t147.length co20] 24 (0, 0)) (by refine bkq ?_; refine blk_put (cs := #[.int .i64 t145, .string t146, .slice none 0 0]) ?_ 2 _ rfl; refine bkq ?_; refine blk_put (cs := #[.int .i64 t145, .string (⟨#[]⟩ : ByteArray), .slice none 0 0]) ?_ 1 _ rfl; refine bkq ?_; refine blk_put (cs := #[.int .i64 0, .string (⟨#[]⟩ : ByteArray), .slice none 0 0]) ?_ 0 _ rfl; refine bkq ?_; exact BK154.out) hb); have n4_ := Aside0.mk (below_step q6_ hb); clear HO149; clear BK143; clear HI144; clear BK154; clear HB; have HO149 := n0_; have BK143 := n1_; have HI144 := n2_; have BK154 := n3_; have HB := n4_; clear n0_ n1_ n2_ n3_ n4_; (try clear hb); (try clear hb2); (try clear hk); (try clear hi)))
      have n0_ := Aside0.mk (Kd.R_drew HO149.out)
      have n1_ := Aside0.mk (blk_drew BK143.out)
      have n2_ := Aside0.mk (blk_drew BK154.out)
      have n3_ := Aside0.mk (IsS74.drew HI144.out)
      have n4_ := Aside0.mk (below_drew1 HB.out)
      clear HO149
      clear BK143
      clear BK154
      clear HI144
      clear HB
      have HO149 := n0_
      have BK143 := n1_
      have BK154 := n2_
      have HI144 := n3_
      have HB := n4_
      clear n0_ n1_ n2_ n3_ n4_
      refine start_ (n := 9) (S := fun w' => w'.cell? ⟨gb154, 0, none⟩ = some (.int .i64 t145) ∧ w'.cell? ⟨gb154, 1, none⟩ = some (.string t146) ∧ w'.cell? ⟨gb154, 2, none⟩ = some (.slice Ao20 t147.length co20) ∧ w'.cell? ⟨gb144, 0, none⟩ = some (.string t151) ∧ w'.cell? ⟨gb144, 1, none⟩ = some (.int .i64 t152) ∧ w'.cell? ⟨gb144, 2, none⟩ = some (.int .i64 t153)) (ds := []) #[false, false, false, false, false, false, false, false, false] (by kernel_rfl) rfl rfl ⟨(blk_cell BK154.out 0).trans rfl, (blk_cell BK154.out 1).trans rfl, (blk_cell BK154.out 2).trans rfl, (cellS74_0 HI144.out.1), (cellS74_1 HI144.out.1), (cellS74_2 HI144.out.1)⟩ (fun hHeld => ?_); refine with_tabW tlv_decoded.tab9 tlv_decoded.bits9 (fun HT_ HW_ => ?_)
      generalize w21.drew = w22 at HO149 BK143 BK154 HI144 HB hHeld ⊢
      refine p_ 1 (some 50) ?_
      refine p_ 2 (some 51) ?_
      refine p_ 3 (some 52) ?_
      refine p_ 4 (some 53) ?_
      refine t2_ 0 (some 49) ?_
      refine t2_ 5 (some 54) ?_
      refine one_ (i := 6) (N := none) #[true, true, true, true, true, true, true, false, false] rfl rfl (one_of HT_.out (by kernel_rfl)) (by decide) (fun K hK => ?_)
      have hs23 : w22.cell? ⟨gb143, 0, none⟩ = some (.int .i64 0) := (blk_cell BK143.out 0).trans rfl
      have hfs23 := blk_frozen BK143.out 0
      have hns23_1 := NB154_143.out
      have hms23_1 := NB143_154.out
      have hs24 : w22.cell? ⟨gb143, 1, none⟩ = some (.string (⟨#[]⟩ : ByteArray)) := (blk_cell BK143.out 1).trans rfl
      have hfs24 := blk_frozen BK143.out 1
      have hns24_1 := NB154_143.out
      have hms24_1 := NB143_154.out
      have hs25 : w22.cell? ⟨gb143, 2, none⟩ = some (.slice none 0 0) := (blk_cell BK143.out 2).trans rfl
      have hfs25 := blk_frozen BK143.out 2
      have hns25_1 := NB154_143.out
      have hms25_1 := NB143_154.out
      refine skip_ (w1 := ?_) (by rfl) rfl ?_ ?_
      rotate_left
      ·go_simp
       rfl
      refine hK.out _ _ ⟨((cell_far (p := ⟨gb143, _, none⟩) NB154_143.out _).trans (((cell_far (p := ⟨gb143, _, none⟩) NB154_143.out _).trans (((cell_far (p := ⟨gb143, _, none⟩) NB154_143.out _).trans (hHeld.1)))))), ((cell_far (p := ⟨gb143, _, none⟩) NB154_143.out _).trans (((cell_far (p := ⟨gb143, _, none⟩) NB154_143.out _).trans (((cell_far (p := ⟨gb143, _, none⟩) NB154_143.out _).trans (hHeld.2.1)))))), ((cell_far (p := ⟨gb143, _, none⟩) NB154_143.out _).trans (((cell_far (p := ⟨gb143, _, none⟩) NB154_143.out _).trans (((cell_far (p := ⟨gb143, _, none⟩) NB154_143.out _).trans (hHeld.2.2.1)))))), ((cell_far (p := ⟨gb143, _, none⟩) NB144_143.out _).trans (((cell_far (p := ⟨gb143, _, none⟩) NB144_143.out _).trans (((cell_far (p := ⟨gb143, _, none⟩) NB144_143.out _).trans (hHeld.2.2.2.1)))))), ((cell_far (p := ⟨gb143, _, none⟩) NB144_143.out _).trans (((cell_far (p := ⟨gb143, _, none⟩) NB144_143.out _).trans (((cell_far (p := ⟨gb143, _, none⟩) NB144_143.out _).trans (hHeld.2.2.2.2.1)))))), ((cell_far (p := ⟨gb143, _, none⟩) NB144_143.out _).trans (((cell_far (p := ⟨gb143, _, none⟩) NB144_143.out _).trans (((cell_far (p := ⟨gb143, _, none⟩) NB144_143.out _).trans (hHeld.2.2.2.2.2))))))⟩ (fun hHeld => ?_)
      clear hK K
      refine p_ 7 (some 5) ?_
      refine p_ 8 (some 6) ?_
      refine done_ (done_of HT_.out (by kernel_rfl)) ?_
      try go_wp2
      refine bodyPost_ret (results_ctt rfl _ _ gb143 24 #[.int .i64 t145, .string t146, .slice Ao20 t147.length co20] (0, 0) _ rfl (by refine bkq ?_; refine blk_put (cs := #[.int .i64 t145, .string t146, .slice none 0 0]) ?_ 2 _ rfl; refine bkq ?_; refine blk_put (cs := #[.int .i64 t145, .string (⟨#[]⟩ : ByteArray), .slice none 0 0]) ?_ 1 _ rfl; refine bkq ?_; refine blk_put (cs := #[.int .i64 0, .string (⟨#[]⟩ : ByteArray), .slice none 0 0]) ?_ 0 _ rfl; refine bkq ?_; exact BK143.out) Tryd.underlying24 rfl (by kernel_rfl)) rfl ?_
      exact ⟨_, q2_, by refine rkq ?_; exact Kd.R_mono (Kd.R_far (p := ⟨gb143, 2, none⟩) (Kd.R_far (p := ⟨gb143, 1, none⟩) (Kd.R_far (p := ⟨gb143, 0, none⟩) (Kd.R_mono HO149.out (fun k_ hk => (⟨hk, hk.1.2⟩ : _ ∧ k_ ≠ gb143))) (fun _ hk => hk.2) (.int .i64 t145)) (fun _ hk => hk.2) (.string t146)) (fun _ hk => hk.2) (.slice Ao20 t147.length co20)) (fun _ hk => trivial), q6_⟩
     ·replace c13 := Bool.eq_false_iff.mpr c13
      subst c13
      have H1 : (some (0, (⟨#[]⟩ : ByteArray), ([] : List (S24)), 0, some (Er.node a1))) = some (r1, r2, r3, r4, r5) := by rw [if_neg (show ¬ (false = true) by decide)] at H; exact H
      clear H
      have H := H1
      clear H1
      simp only [Option.some.injEq, Prod.mk.injEq] at H
      obtain ⟨rfl, rfl, rfl, rfl, rfl⟩ := H
      try go_wp2_with (first | ((with_reducible refine gate_dst (N := 27) rfl ?_); (try (refine gate_guard (by rfl) ?_; dsimp only)); refine box_event ?hg (N := 27) ?hd (cs := #[.string a0, .int .i64 a1, .int .i64 0]) (t := 74) ?hr ?_; (case hd => rfl); (case hg => rfl); (case hr => first | (go_simp; done) | (go_simp; rfl)); intro gb144 hg w26 hbox hb; have n0_ := Aside0.mk (blk_below (g := gb143) (o := .cells #[.int .i64 0, .string (⟨#[]⟩ : ByteArray), .slice none 0 0] 24 (0, 0)) (bkq BK143.out) hb); have n1_ := Aside0.mk (below_step q0_ hb); have n2_ := Aside0.mk (hbox); have n3_ := Aside0.mk ((by rw [hg]; exact (below_size q0_) : w.heap.size ≤ gb144)); have n4_ := Aside0.mk ((by rw [hg]; exact (below_size q0_) : w.heap.size ≤ gb144)); have n5_ := Aside0.mk ((by rw [hg]; exact Nat.ne_of_lt (blk_lt (g := gb143) (o := .cells #[.int .i64 0, .string (⟨#[]⟩ : ByteArray), .slice none 0 0] 24 (0, 0)) (bkq BK143.out)) : gb143 ≠ gb144)); have n6_ := Aside0.mk ((by rw [hg]; exact Nat.ne_of_gt (blk_lt (g := gb143) (o := .cells #[.int .i64 0, .string (⟨#[]⟩ : ByteArray), .slice none 0 0] 24 (0, 0)) (bkq BK143.out)) : gb144 ≠ gb143)); clear BK143; clear HB; have BK143 := n0_; have HB := n1_; have BK144 := n2_; have GW144 := n3_; have GE144 := n4_; have NB143_144 := n5_; have NB144_143 := n6_; clear n0_ n1_ n2_ n3_ n4_ n5_ n6_; clear hb hbox hg; have HI144 := Aside0.mk (show IsS74 w w26 gb144 a0 a1 0 from ⟨BK144.out, GE144.out⟩)) | ((with_reducible refine gate_callee (f := 44) rfl ?_); refine goesL_ (some 32) rfl rfl Tryd.func44 (by kernel_rfl) rfl #[.pointer (some ⟨gb144, 0, none⟩), .int .i64 (a0.size : Int), .int .i64 1] rfl argq ?_; (with_reducible refine (tlv_reader_tree.calls (G := G) kj2 gb144 a0 a1 0 (a0.size : Int) 1 t145 t146 t147 none t151 t152 t153 w _ ?side1 ?side2 ?side3 A11.out).mono ?_); (case side1 => repeat (first | (with_reducible first | exact HI144.out | apply IsS74.alloc | apply IsS74.drewN | apply IsS74.drew | apply IsS74.set_0 | apply IsS74.set_1 | apply IsS74.set_2 | refine IsS74.far ?_ NB144_143.out _) | exact HI144.out | refine IsS74.far (f0 := ?f0) ?_ NB144_143.out _ | refine IsS74.far (f1 := ?f1) ?_ NB144_143.out _ | refine IsS74.far (f2 := ?f2) ?_ NB144_143.out _ | refine IsS74.far (f0 := ?f0) (f1 := ?f1) ?_ NB144_143.out _ | refine IsS74.far (f0 := ?f0) (f2 := ?f2) ?_ NB144_143.out _ | refine IsS74.far (f1 := ?f1) (f2 := ?f2) ?_ NB144_143.out _)); (case side2 => repeat (first | (with_reducible first | exact HB.out | apply below_alloc | apply pw_below_drewN | apply below_drew1 | refine below_set ?_ (IsS74.ge HI144.out) | refine below_set ?_ (Aside0.out (by assumption))) | exact HB.out)); (case side3 => first | exact hG | exact GW.below hG q6_); rintro e w27 ⟨v148, rfl, ho0, hi, hb, hk⟩; refine ⟨_, rfl, ?_⟩; have n0_ := Aside0.mk (KeepBut.blk hk (g' := gb143) (o := .cells #[.int .i64 0, .string (⟨#[]⟩ : ByteArray), .slice none 0 0] 24 (0, 0)) (bkq BK143.out) NB143_144.out (by simp)); have n1_ := Aside0.mk (Kd.R_lower (Kd.R_newB ho0 (g := gb143) (o := .cells #[.int .i64 0, .string (⟨#[]⟩ : ByteArray), .slice none 0 0] 24 (0, 0)) (bkq BK143.out)) (below_size q6_)); have n2_ := Aside0.mk (hb); have n3_ := Aside0.mk (hi); clear BK143; clear HB; clear HI144; have BK143 := n0_; have HO149 := n1_; have HB := n2_; have HI144 := n3_; clear n0_ n1_ n2_ n3_; (try clear hb); (try clear hb2); (try clear hk); (try clear hi); (try clear ho0); (try simp only [eW])) | ((with_reducible refine gate_dst (N := 8) rfl ?_); (try (refine gate_guard (by rfl) ?_; dsimp only)); refine box_event ?hg (N := 8) ?hd (cs := #[.int .i64 0, .string (⟨#[]⟩ : ByteArray), .slice none 0 0]) (t := 24) ?hr ?_; (case hd => rfl); (case hg => rfl); (case hr => first | (go_simp; done) | (go_simp; rfl)); intro gb154 hg w28 hbox hb; have n0_ := Aside0.mk (Kd.R_below (Kd.R_elderB (rkq HO149.out) gb154 (Nat.le_of_eq hg.symm)) hb); have n1_ := Aside0.mk (blk_below (g := gb143) (o := .cells #[.int .i64 0, .string (⟨#[]⟩ : ByteArray), .slice none 0 0] 24 (0, 0)) (bkq BK143.out) hb); have n2_ := Aside0.mk (IsS74.below q17_ hb); have n3_ := Aside0.mk (below_step q6_ hb); have n4_ := Aside0.mk (hbox); have n5_ := Aside0.mk ((by rw [hg]; exact (below_size q6_) : w.heap.size ≤ gb154)); have n6_ := Aside0.mk ((by rw [hg]; exact (below_size q6_) : w.heap.size ≤ gb154)); have n7_ := Aside0.mk ((by rw [hg]; exact Nat.ne_of_lt (blk_lt (g := gb143) (o := .cells #[.int .i64 0, .string (⟨#[]⟩ : ByteArray), .slice none 0 0] 24 (0, 0)) (bkq BK143.out)) : gb143 ≠ gb154)); have n8_ := Aside0.mk ((by rw [hg]; exact Nat.ne_of_gt (blk_lt (g := gb143) (o := .cells #[.int .i64 0, .string (⟨#[]⟩ : ByteArray), .slice none 0 0] 24 (0, 0)) (bkq BK143.out)) : gb154 ≠ gb143)); have n9_ := Aside0.mk ((by rw [hg]; exact Nat.ne_of_lt (IsS74.lt (show IsS74 w _ gb144 t151 t152 t153 from q17_)) : gb144 ≠ gb154)); have n10_ := Aside0.mk ((by rw [hg]; exact Nat.ne_of_gt (IsS74.lt (show IsS74 w _ gb144 t151 t152 t153 from q17_)) : gb154 ≠ gb144)); clear HO149; clear BK143; clear HI144; clear HB; have HO149 := n0_; have BK143 := n1_; have HI144 := n2_; have HB := n3_; have BK154 := n4_; have GW154 := n5_; have GE154 := n6_; have NB143_154 := n7_; have NB154_143 := n8_; have NB144_154 := n9_; have NB154_144 := n10_; clear n0_ n1_ n2_ n3_ n4_ n5_ n6_ n7_ n8_ n9_ n10_; clear hb hbox hg; have hnb29 := NB154_143.out; have hnc29 := NB143_154.out; have hnb30 := NB154_144.out; have hnc30 := NB144_154.out; have hcz31_0 : w28.cell? ⟨gb154, 0, none⟩ = some (.int .i64 0) := (blk_cell BK154.out 0).trans rfl; have hcz31_1 : w28.cell? ⟨gb154, 1, none⟩ = some (.string (⟨#[]⟩ : ByteArray)) := (blk_cell BK154.out 1).trans rfl; have hcz31_2 : w28.cell? ⟨gb154, 2, none⟩ = some (.slice none 0 0) := (blk_cell BK154.out 2).trans rfl; have hfz31_0 := blk_frozen BK154.out 0; have hfz31_1 := blk_frozen BK154.out 1; have hfz31_2 := blk_frozen BK154.out 2; obtain ⟨Ao32, co32, eo32⟩ := Kd.R_slice HO149.out; subst eo32) | ((with_reducible refine gate_callee (f := 21) rfl ?_); refine goesL_ (some 42) rfl rfl Tryd.func21 (by kernel_rfl) rfl #[.agg #[.int .i64 t145, .string t146, .slice Ao32 t147.length co32]] rfl argq ?_; (with_reducible refine (tlv_Right.calls (G := G) t145 t146 _ _ t147 false _ ?side1 ?side2 ?side3 A12.out).mono ?_); (case side1 => refine (Kd.R_reads' (e := 24) (base := w.heap.size) (ok := fun k_ => ((True ∧ k_ ≠ gb143) ∧ k_ ≠ gb154)) (n := t147.length) (c := co32) ?_).2.2; exact (by refine rkq ?_; exact (Kd.R_mono (Kd.R_far (p := ⟨gb154, 2, none⟩) (Kd.R_far (p := ⟨gb154, 1, none⟩) (Kd.R_far (p := ⟨gb154, 0, none⟩) (Kd.R_mono HO149.out (fun k_ hk => (⟨hk, hk.2⟩ : _ ∧ k_ ≠ gb154))) (fun _ hk => hk.2) (.int .i64 t145)) (fun _ hk => hk.2) (.string t146)) (fun _ hk => hk.2) (.slice Ao32 t147.length co32)) (fun _ h_ => h_.1)))); (case side2 => exact (Kd.R_reads' HO149.out).2.1); (case side3 => first | exact hG | exact GW.below hG q6_); rintro e w33 ⟨rfl, hb⟩; refine ⟨_, rfl, ?_⟩; have n0_ := Aside0.mk (Kd.R_below (by refine rkq ?_; exact (Kd.R_mono (Kd.R_far (p := ⟨gb154, 2, none⟩) (Kd.R_far (p := ⟨gb154, 1, none⟩) (Kd.R_far (p := ⟨gb154, 0, none⟩) (Kd.R_mono HO149.out (fun k_ hk => (⟨hk, hk.2⟩ : _ ∧ k_ ≠ gb154))) (fun _ hk => hk.2) (.int .i64 t145)) (fun _ hk => hk.2) (.string t146)) (fun _ hk => hk.2) (.slice Ao32 t147.length co32)) (fun _ h_ => h_.1))) hb); have n1_ := Aside0.mk (blk_below (g := gb143) (o := .cells #[.int .i64 0, .string (⟨#[]⟩ : ByteArray), .slice none 0 0] 24 (0, 0)) (by refine bkq ?_; refine blk_far ?_ NB143_154.out _; refine bkq ?_; refine blk_far ?_ NB143_154.out _; refine bkq ?_; refine blk_far ?_ NB143_154.out _; refine bkq ?_; exact BK143.out) hb); have n2_ := Aside0.mk (IsS74.below (show IsS74 w (((w28.setCell ⟨gb154, 0, none⟩ (.int .i64 t145)).setCell ⟨gb154, 1, none⟩ (.string t146)).setCell ⟨gb154, 2, none⟩ (.slice Ao32 t147.length co32)) gb144 t151 t152 t153 from q25_) hb); have n3_ := Aside0.mk (blk_below (g := gb154) (o := .cells #[.int .i64 t145, .string t146, .slice Ao32 t147.length co32] 24 (0, 0)) (by refine bkq ?_; refine blk_put (cs := #[.int .i64 t145, .string t146, .slice none 0 0]) ?_ 2 _ rfl; refine bkq ?_; refine blk_put (cs := #[.int .i64 t145, .string (⟨#[]⟩ : ByteArray), .slice none 0 0]) ?_ 1 _ rfl; refine bkq ?_; refine blk_put (cs := #[.int .i64 0, .string (⟨#[]⟩ : ByteArray), .slice none 0 0]) ?_ 0 _ rfl; refine bkq ?_; exact BK154.out) hb); have n4_ := Aside0.mk (below_step q6_ hb); clear HO149; clear BK143; clear HI144; clear BK154; clear HB; have HO149 := n0_; have BK143 := n1_; have HI144 := n2_; have BK154 := n3_; have HB := n4_; clear n0_ n1_ n2_ n3_ n4_; (try clear hb); (try clear hb2); (try clear hk); (try clear hi)))
      have n0_ := Aside0.mk (Kd.R_drew HO149.out)
      have n1_ := Aside0.mk (blk_drew BK143.out)
      have n2_ := Aside0.mk (blk_drew BK154.out)
      have n3_ := Aside0.mk (IsS74.drew HI144.out)
      have n4_ := Aside0.mk (below_drew1 HB.out)
      clear HO149
      clear BK143
      clear BK154
      clear HI144
      clear HB
      have HO149 := n0_
      have BK143 := n1_
      have BK154 := n2_
      have HI144 := n3_
      have HB := n4_
      clear n0_ n1_ n2_ n3_ n4_
      refine start_ (n := 8) (S := fun w' => w'.cell? ⟨0, 0, none⟩ = some (GC0 G)) (ds := []) #[false, false, false, false, false, false, false, false] (by kernel_rfl) rfl rfl ((GW.c0 (GW.below hG q6_))) (fun hHeld => ?_); refine with_tabW tlv_decoded.tab8 tlv_decoded.bits8 (fun HT_ HW_ => ?_)
      generalize w33.drew = w34 at HO149 BK143 BK154 HI144 HB hHeld ⊢
      refine p_ 0 (some 44) ?_
      refine p_ 1 (some 45) ?_
      refine take_ (i := 2) (N := some 46) (v := ?_) (a' := ?_) #[true, true, true, false, false, false, false, false] rfl rfl (take_ofW HT_.out HW_.out (by kernel_rfl)) (fun _ _ _ h => h) (Or.inl ⟨by rfl, ?_⟩) hHeld ?_ ?_
      rotate_left
      ·intro w' s0
       go_simp
       with_reducible rfl
      rotate_left
      ·exact putq
      refine p_ 3 (some 47) ?_
      refine p_ 4 (some 48) ?_
      refine one_ (i := 5) (N := none) #[true, true, true, true, true, true, false, false] rfl rfl (one_of HT_.out (by kernel_rfl)) (by decide) (fun K hK => ?_)
      have hs35 : w34.cell? ⟨gb143, 0, none⟩ = some (.int .i64 0) := (blk_cell BK143.out 0).trans rfl
      have hfs35 := blk_frozen BK143.out 0
      have hns35_1 := NB154_143.out
      have hms35_1 := NB143_154.out
      have hs36 : w34.cell? ⟨gb143, 1, none⟩ = some (.string (⟨#[]⟩ : ByteArray)) := (blk_cell BK143.out 1).trans rfl
      have hfs36 := blk_frozen BK143.out 1
      have hns36_1 := NB154_143.out
      have hms36_1 := NB143_154.out
      have hs37 : w34.cell? ⟨gb143, 2, none⟩ = some (.slice none 0 0) := (blk_cell BK143.out 2).trans rfl
      have hfs37 := blk_frozen BK143.out 2
      have hns37_1 := NB154_143.out
      have hms37_1 := NB143_154.out
      refine skip_ (w1 := ?_) (by rfl) rfl ?_ ?_
      rotate_left
      ·go_simp
       rfl
      refine hK.out _ _ (((cell_far (p := ⟨gb143, _, none⟩) (Nat.ne_of_lt (Nat.lt_of_lt_of_le (GW.lt0 hG) GE143.out)) _).trans (((cell_far (p := ⟨gb143, _, none⟩) (Nat.ne_of_lt (Nat.lt_of_lt_of_le (GW.lt0 hG) GE143.out)) _).trans (((cell_far (p := ⟨gb143, _, none⟩) (Nat.ne_of_lt (Nat.lt_of_lt_of_le (GW.lt0 hG) GE143.out)) _).trans (hHeld))))))) (fun hHeld => ?_)
      clear hK K
      refine p_ 6 (some 5) ?_
      refine p_ 7 (some 6) ?_
      refine done_ (done_of HT_.out (by kernel_rfl)) ?_
      try go_wp2
      refine bodyPost_ret (results_ctt rfl _ _ gb143 24 #[.int .i64 0, .string (⟨#[]⟩ : ByteArray), .slice none 0 0] (0, 0) _ rfl (by refine bkq ?_; refine blk_put (cs := #[.int .i64 0, .string (⟨#[]⟩ : ByteArray), .slice none 0 0]) ?_ 2 _ rfl; refine bkq ?_; refine blk_put (cs := #[.int .i64 0, .string (⟨#[]⟩ : ByteArray), .slice none 0 0]) ?_ 1 _ rfl; refine bkq ?_; refine blk_put (cs := #[.int .i64 0, .string (⟨#[]⟩ : ByteArray), .slice none 0 0]) ?_ 0 _ rfl; refine bkq ?_; exact BK143.out) Tryd.underlying24 rfl (by kernel_rfl)) rfl ?_
      exact ⟨_, q2_, q8_, q6_⟩
    ·have H1 : (some (0, (⟨#[]⟩ : ByteArray), ([] : List (S24)), 0, some q155)) = some (r1, r2, r3, r4, r5) := by rw [if_neg (show ¬ (some q155).isNone = true by simp)] at H; exact H
     clear H
     have H := H1
     clear H1
     try simp only [eW]
     simp only [Option.some.injEq, Prod.mk.injEq] at H
     obtain ⟨rfl, rfl, rfl, rfl, rfl⟩ := H
     go_wp2_with (first | ((with_reducible refine gate_dst (N := 27) rfl ?_); (try (refine gate_guard (by rfl) ?_; dsimp only)); refine box_event ?hg (N := 27) ?hd (cs := #[.string a0, .int .i64 a1, .int .i64 0]) (t := 74) ?hr ?_; (case hd => rfl); (case hg => rfl); (case hr => first | (go_simp; done) | (go_simp; rfl)); intro gb144 hg w38 hbox hb; have n0_ := Aside0.mk (blk_below (g := gb143) (o := .cells #[.int .i64 0, .string (⟨#[]⟩ : ByteArray), .slice none 0 0] 24 (0, 0)) (bkq BK143.out) hb); have n1_ := Aside0.mk (below_step q0_ hb); have n2_ := Aside0.mk (hbox); have n3_ := Aside0.mk ((by rw [hg]; exact (below_size q0_) : w.heap.size ≤ gb144)); have n4_ := Aside0.mk ((by rw [hg]; exact (below_size q0_) : w.heap.size ≤ gb144)); have n5_ := Aside0.mk ((by rw [hg]; exact Nat.ne_of_lt (blk_lt (g := gb143) (o := .cells #[.int .i64 0, .string (⟨#[]⟩ : ByteArray), .slice none 0 0] 24 (0, 0)) (bkq BK143.out)) : gb143 ≠ gb144)); have n6_ := Aside0.mk ((by rw [hg]; exact Nat.ne_of_gt (blk_lt (g := gb143) (o := .cells #[.int .i64 0, .string (⟨#[]⟩ : ByteArray), .slice none 0 0] 24 (0, 0)) (bkq BK143.out)) : gb144 ≠ gb143)); clear BK143; clear HB; have BK143 := n0_; have HB := n1_; have BK144 := n2_; have GW144 := n3_; have GE144 := n4_; have NB143_144 := n5_; have NB144_143 := n6_; clear n0_ n1_ n2_ n3_ n4_ n5_ n6_; clear hb hbox hg; have HI144 := Aside0.mk (show IsS74 w w38 gb144 a0 a1 0 from ⟨BK144.out, GE144.out⟩)) | ((with_reducible refine gate_callee (f := 44) rfl ?_); refine goesL_ (some 32) rfl rfl Tryd.func44 (by kernel_rfl) rfl #[.pointer (some ⟨gb144, 0, none⟩), .int .i64 (a0.size : Int), .int .i64 1] rfl argq ?_; (with_reducible refine (tlv_reader_tree.calls (G := G) kj2 gb144 a0 a1 0 (a0.size : Int) 1 t145 t146 t147 (some q155) t151 t152 t153 w _ ?side1 ?side2 ?side3 A11.out).mono ?_); (case side1 => repeat (first | (with_reducible first | exact HI144.out | apply IsS74.alloc | apply IsS74.drewN | apply IsS74.drew | apply IsS74.set_0 | apply IsS74.set_1 | apply IsS74.set_2 | refine IsS74.far ?_ NB144_143.out _) | exact HI144.out | refine IsS74.far (f0 := ?f0) ?_ NB144_143.out _ | refine IsS74.far (f1 := ?f1) ?_ NB144_143.out _ | refine IsS74.far (f2 := ?f2) ?_ NB144_143.out _ | refine IsS74.far (f0 := ?f0) (f1 := ?f1) ?_ NB144_143.out _ | refine IsS74.far (f0 := ?f0) (f2 := ?f2) ?_ NB144_143.out _ | refine IsS74.far (f1 := ?f1) (f2 := ?f2) ?_ NB144_143.out _)); (case side2 => repeat (first | (with_reducible first | exact HB.out | apply below_alloc | apply pw_below_drewN | apply below_drew1 | refine below_set ?_ (IsS74.ge HI144.out) | refine below_set ?_ (Aside0.out (by assumption))) | exact HB.out)); (case side3 => first | exact hG | exact GW.below hG q6_); rintro e w39 ⟨v148, rfl, ho0, hi, hb, hk⟩; refine ⟨_, rfl, ?_⟩; have n0_ := Aside0.mk (KeepBut.blk hk (g' := gb143) (o := .cells #[.int .i64 0, .string (⟨#[]⟩ : ByteArray), .slice none 0 0] 24 (0, 0)) (bkq BK143.out) NB143_144.out (by simp)); have n1_ := Aside0.mk (Kd.R_lower (Kd.R_newB ho0 (g := gb143) (o := .cells #[.int .i64 0, .string (⟨#[]⟩ : ByteArray), .slice none 0 0] 24 (0, 0)) (bkq BK143.out)) (below_size q6_)); have n2_ := Aside0.mk (hb); have n3_ := Aside0.mk (hi); clear BK143; clear HB; clear HI144; have BK143 := n0_; have HO149 := n1_; have HB := n2_; have HI144 := n3_; clear n0_ n1_ n2_ n3_; (try clear hb); (try clear hb2); (try clear hk); (try clear hi); (try clear ho0); (try simp only [eW])) | ((with_reducible refine gate_dst (N := 8) rfl ?_); (try (refine gate_guard (by rfl) ?_; dsimp only)); refine box_event ?hg (N := 8) ?hd (cs := #[.int .i64 0, .string (⟨#[]⟩ : ByteArray), .slice none 0 0]) (t := 24) ?hr ?_; (case hd => rfl); (case hg => rfl); (case hr => first | (go_simp; done) | (go_simp; rfl)); intro gb154 hg w40 hbox hb; have n0_ := Aside0.mk (Kd.R_below (Kd.R_elderB (rkq HO149.out) gb154 (Nat.le_of_eq hg.symm)) hb); have n1_ := Aside0.mk (blk_below (g := gb143) (o := .cells #[.int .i64 0, .string (⟨#[]⟩ : ByteArray), .slice none 0 0] 24 (0, 0)) (bkq BK143.out) hb); have n2_ := Aside0.mk (IsS74.below q17_ hb); have n3_ := Aside0.mk (below_step q6_ hb); have n4_ := Aside0.mk (hbox); have n5_ := Aside0.mk ((by rw [hg]; exact (below_size q6_) : w.heap.size ≤ gb154)); have n6_ := Aside0.mk ((by rw [hg]; exact (below_size q6_) : w.heap.size ≤ gb154)); have n7_ := Aside0.mk ((by rw [hg]; exact Nat.ne_of_lt (blk_lt (g := gb143) (o := .cells #[.int .i64 0, .string (⟨#[]⟩ : ByteArray), .slice none 0 0] 24 (0, 0)) (bkq BK143.out)) : gb143 ≠ gb154)); have n8_ := Aside0.mk ((by rw [hg]; exact Nat.ne_of_gt (blk_lt (g := gb143) (o := .cells #[.int .i64 0, .string (⟨#[]⟩ : ByteArray), .slice none 0 0] 24 (0, 0)) (bkq BK143.out)) : gb154 ≠ gb143)); have n9_ := Aside0.mk ((by rw [hg]; exact Nat.ne_of_lt (IsS74.lt (show IsS74 w _ gb144 t151 t152 t153 from q17_)) : gb144 ≠ gb154)); have n10_ := Aside0.mk ((by rw [hg]; exact Nat.ne_of_gt (IsS74.lt (show IsS74 w _ gb144 t151 t152 t153 from q17_)) : gb154 ≠ gb144)); clear HO149; clear BK143; clear HI144; clear HB; have HO149 := n0_; have BK143 := n1_; have HI144 := n2_; have HB := n3_; have BK154 := n4_; have GW154 := n5_; have GE154 := n6_; have NB143_154 := n7_; have NB154_143 := n8_; have NB144_154 := n9_; have NB154_144 := n10_; clear n0_ n1_ n2_ n3_ n4_ n5_ n6_ n7_ n8_ n9_ n10_; clear hb hbox hg; have hnb41 := NB154_143.out; have hnc41 := NB143_154.out; have hnb42 := NB154_144.out; have hnc42 := NB144_154.out; have hcz43_0 : w40.cell? ⟨gb154, 0, none⟩ = some (.int .i64 0) := (blk_cell BK154.out 0).trans rfl; have hcz43_1 : w40.cell? ⟨gb154, 1, none⟩ = some (.string (⟨#[]⟩ : ByteArray)) := (blk_cell BK154.out 1).trans rfl; have hcz43_2 : w40.cell? ⟨gb154, 2, none⟩ = some (.slice none 0 0) := (blk_cell BK154.out 2).trans rfl; have hfz43_0 := blk_frozen BK154.out 0; have hfz43_1 := blk_frozen BK154.out 1; have hfz43_2 := blk_frozen BK154.out 2; obtain ⟨Ao44, co44, eo44⟩ := Kd.R_slice HO149.out; subst eo44; have hnb45 := NB143_144.out; have hnc45 := NB144_143.out; have hcz46_0 : w40.cell? ⟨gb143, 0, none⟩ = some (.int .i64 0) := (blk_cell BK143.out 0).trans rfl; have hcz46_1 : w40.cell? ⟨gb143, 1, none⟩ = some (.string (⟨#[]⟩ : ByteArray)) := (blk_cell BK143.out 1).trans rfl; have hcz46_2 : w40.cell? ⟨gb143, 2, none⟩ = some (.slice none 0 0) := (blk_cell BK143.out 2).trans rfl; have hfz46_0 := blk_frozen BK143.out 0; have hfz46_1 := blk_frozen BK143.out 1; have hfz46_2 := blk_frozen BK143.out 2))
     refine bodyPost_ret (results_ctt rfl _ _ gb143 24 #[.int .i64 0, .string (⟨#[]⟩ : ByteArray), .slice none 0 0] (0, 0) _ rfl (by refine bkq ?_; refine blk_put (cs := #[.int .i64 0, .string (⟨#[]⟩ : ByteArray), .slice none 0 0]) ?_ 2 _ rfl; refine bkq ?_; refine blk_put (cs := #[.int .i64 0, .string (⟨#[]⟩ : ByteArray), .slice none 0 0]) ?_ 1 _ rfl; refine bkq ?_; refine blk_put (cs := #[.int .i64 0, .string (⟨#[]⟩ : ByteArray), .slice none 0 0]) ?_ 0 _ rfl; refine bkq ?_; refine blk_far ?_ NB143_154.out _; refine bkq ?_; refine blk_far ?_ NB143_154.out _; refine bkq ?_; refine blk_far ?_ NB143_154.out _; refine bkq ?_; exact BK143.out) Tryd.underlying24 rfl (by kernel_rfl)) rfl ?_
     exact ⟨_, q2_, q8_, q6_⟩
def tlv_Decode.f (k : Nat) (a0 : ByteArray) (a1 : Int) : Option (Int × ByteArray × (List (S24)) × Int × Int) := (tlv_decoded.f k a0 a1).bind fun bt158 => ((tlv_told.f bt158.2.2.2.2).bind fun t166 => (some (bt158.1, bt158.2.1, bt158.2.2.1, bt158.2.2.2.1, t166)))
theorem tlv_Decode.mono : ∀ a0 a1 k, LeO (tlv_Decode.f k a0 a1) (tlv_Decode.f (k + 1) a0 a1) := by
 intro a0 a1 k
 unfold tlv_Decode.f
 repeat' first
   | (with_reducible exact tlv_decoded.mono _ _ _)
   | (with_reducible exact LeO.refl _)
   | (with_reducible exact LeO.none _)
   | (with_reducible refine LeO.ite ?_ ?_)
   | (with_reducible refine LeO.bind ?_ (fun _ => ?_))
   | exact tlv_decoded.mono _ _ _
   | exact LeO.none _
   | refine LeO.ite ?_ ?_
   | refine LeO.bind ?_ (fun _ => ?_)
set_option maxHeartbeats 8000000 in
set_option maxRecDepth 100000 in
theorem tlv_Decode.calls (k : Nat) (a0 : ByteArray) (a1 : Int) (r1 : Int) (r2 : ByteArray) (r3 : List (S24)) (r4 : Int) (r5 : Int) (w : World) (hG : GW G w) (h : tlv_Decode.f k a0 a1 = some (r1, r2, r3, r4, r5)) :
  Calls Tryd.prog 17 #[.string a0, .int .i64 a1] w fun e w' => ∃ v2_ : Value, e = .returned (.tuple #[.agg #[.int .i64 r1, .string r2, v2_], .int .i64 r4, .int .i64 r5]) ∧ Kd.R k24 24 w' w.heap.size (fun _ => True) v2_ r3 ∧ Below w.heap.size w w' := by
 have hu24 := Tryd.underlying24
 have HB := Aside0.mk (Below.refl w.heap.size w)
 have H : ((tlv_decoded.f k a0 a1).bind fun bt158 => ((tlv_told.f bt158.2.2.2.2).bind fun t166 => (some (bt158.1, bt158.2.1, bt158.2.2.1, bt158.2.2.2.1, t166)))) = some (r1, r2, r3, r4, r5) := h
 clear h
 replace H := Option.bind_eq_some_iff.mp H
 obtain ⟨⟨t158, t159, t160, t163, t164⟩, A30, H⟩ := H
 replace H : ((tlv_told.f t164).bind fun t166 => (some (t158, t159, t160, t163, t166))) = some (r1, r2, r3, r4, r5) := H
 have A3 := Aside0.mk A30
 clear A30
 replace H := Option.bind_eq_some_iff.mp H
 obtain ⟨t166, A40, H⟩ := H
 replace H : (some (t158, t159, t160, t163, t166)) = some (r1, r2, r3, r4, r5) := H
 have A4 := Aside0.mk A40
 clear A40
 simp only [Option.some.injEq, Prod.mk.injEq] at H
 obtain ⟨rfl, rfl, rfl, rfl, rfl⟩ := H
 go_enter Tryd.func17, Tryd.ntmps17
 try go_wp2_with (first | ((with_reducible refine gate_dst (N := 4) rfl ?_); refine box_event ?hg (N := 4) ?hd (cs := #[.int .i64 0, .string (⟨#[]⟩ : ByteArray), .slice none 0 0]) (t := 24) ?hr ?_; (case hd => rfl); (case hg => rfl); (case hr => first | (go_simp; done) | (go_simp; rfl)); intro gb157 hg w5 hbox hb; have n0_ := Aside0.mk (below_step q0_ hb); have n1_ := Aside0.mk (hbox); have n2_ := Aside0.mk ((by rw [hg]; exact (below_size q0_) : w.heap.size ≤ gb157)); have n3_ := Aside0.mk ((by rw [hg]; exact (below_size q0_) : w.heap.size ≤ gb157)); clear HB; have HB := n0_; have BK157 := n1_; have GW157 := n2_; have GE157 := n3_; clear n0_ n1_ n2_ n3_; clear hb hbox hg) | ((with_reducible refine gate_callee (f := 31) rfl ?_); refine goesL_ (some 13) rfl rfl Tryd.func31 (by kernel_rfl) rfl #[.string a0, .int .i64 a1] rfl argq ?_; (with_reducible refine (tlv_decoded.calls (G := G) k a0 a1 t158 t159 t160 t163 t164 _ ?side1 A3.out).mono ?_); (case side1 => first | exact hG | exact GW.below hG q0_); rintro e w6 ⟨v161, rfl, ho0, hb⟩; refine ⟨_, rfl, ?_⟩; have n0_ := Aside0.mk (Kd.R_lower (Kd.R_newB ho0 (g := gb157) (o := .cells #[.int .i64 0, .string (⟨#[]⟩ : ByteArray), .slice none 0 0] 24 (0, 0)) (bkq BK157.out)) (below_size q0_)); have n1_ := Aside0.mk (blk_below (g := gb157) (o := .cells #[.int .i64 0, .string (⟨#[]⟩ : ByteArray), .slice none 0 0] 24 (0, 0)) (bkq BK157.out) hb); have n2_ := Aside0.mk (below_step q0_ hb); clear BK157; clear HB; have HO162 := n0_; have BK157 := n1_; have HB := n2_; clear n0_ n1_ n2_; (try clear hb); (try clear hb2); (try clear hk); (try clear hi); (try clear ho0); (try simp only [eW])) | ((with_reducible refine gate_dst (N := 7) rfl ?_); refine box_event ?hg (N := 7) ?hd (cs := #[.int .i64 0, .string (⟨#[]⟩ : ByteArray), .slice none 0 0]) (t := 24) ?hr ?_; (case hd => rfl); (case hg => rfl); (case hr => first | (go_simp; done) | (go_simp; rfl)); intro gb165 hg w7 hbox hb; have n0_ := Aside0.mk (Kd.R_below (Kd.R_elderB (rkq HO162.out) gb165 (Nat.le_of_eq hg.symm)) hb); have n1_ := Aside0.mk (blk_below (g := gb157) (o := .cells #[.int .i64 0, .string (⟨#[]⟩ : ByteArray), .slice none 0 0] 24 (0, 0)) (bkq BK157.out) hb); have n2_ := Aside0.mk (below_step q0_ hb); have n3_ := Aside0.mk (hbox); have n4_ := Aside0.mk ((by rw [hg]; exact (below_size q0_) : w.heap.size ≤ gb165)); have n5_ := Aside0.mk ((by rw [hg]; exact (below_size q0_) : w.heap.size ≤ gb165)); have n6_ := Aside0.mk ((by rw [hg]; exact Nat.ne_of_lt (blk_lt (g := gb157) (o := .cells #[.int .i64 0, .string (⟨#[]⟩ : ByteArray), .slice none 0 0] 24 (0, 0)) (bkq BK157.out)) : gb157 ≠ gb165)); have n7_ := Aside0.mk ((by rw [hg]; exact Nat.ne_of_gt (blk_lt (g := gb157) (o := .cells #[.int .i64 0, .string (⟨#[]⟩ : ByteArray), .slice none 0 0] 24 (0, 0)) (bkq BK157.out)) : gb165 ≠ gb157)); clear HO162; clear BK157; clear HB; have HO162 := n0_; have BK157 := n1_; have HB := n2_; have BK165 := n3_; have GW165 := n4_; have GE165 := n5_; have NB157_165 := n6_; have NB165_157 := n7_; clear n0_ n1_ n2_ n3_ n4_ n5_ n6_ n7_; clear hb hbox hg; have hnb8 := NB165_157.out; have hnc8 := NB157_165.out; have hcz9_0 : w7.cell? ⟨gb165, 0, none⟩ = some (.int .i64 0) := (blk_cell BK165.out 0).trans rfl; have hcz9_1 : w7.cell? ⟨gb165, 1, none⟩ = some (.string (⟨#[]⟩ : ByteArray)) := (blk_cell BK165.out 1).trans rfl; have hcz9_2 : w7.cell? ⟨gb165, 2, none⟩ = some (.slice none 0 0) := (blk_cell BK165.out 2).trans rfl; have hfz9_0 := blk_frozen BK165.out 0; have hfz9_1 := blk_frozen BK165.out 1; have hfz9_2 := blk_frozen BK165.out 2; obtain ⟨Ao10, co10, eo10⟩ := Kd.R_slice HO162.out; subst eo10))
 have n0_ : Aside0 (Kd.R k24 24 (((w7.setCell ⟨gb165, 0, none⟩ (.int .i64 t158)).setCell ⟨gb165, 1, none⟩ (.string t159)).setCell ⟨gb165, 2, none⟩ (.slice Ao10 t160.length co10)) w.heap.size (fun k_ => k_ ≠ gb157 ∧ k_ ≠ gb165) (.slice Ao10 t160.length co10) t160) := ⟨by refine rkq ?_; exact Kd.R_mono (Kd.R_far (p := ⟨gb165, 2, none⟩) (Kd.R_far (p := ⟨gb165, 1, none⟩) (Kd.R_far (p := ⟨gb165, 0, none⟩) (Kd.R_mono HO162.out (fun k_ hk => (⟨hk, hk.2⟩ : _ ∧ k_ ≠ gb165))) (fun _ hk => hk.2) (.int .i64 t158)) (fun _ hk => hk.2) (.string t159)) (fun _ hk => hk.2) (.slice Ao10 t160.length co10)) (fun _ hk => ⟨hk.1.1.2, hk.1.2⟩)⟩
 have n1_ : Aside0 ((((w7.setCell ⟨gb165, 0, none⟩ (.int .i64 t158)).setCell ⟨gb165, 1, none⟩ (.string t159)).setCell ⟨gb165, 2, none⟩ (.slice Ao10 t160.length co10)).heap[gb157]? = some (.cells #[.int .i64 0, .string (⟨#[]⟩ : ByteArray), .slice none 0 0] 24 (0, 0))) := ⟨by refine bkq ?_; refine blk_far ?_ NB157_165.out _; refine bkq ?_; refine blk_far ?_ NB157_165.out _; refine bkq ?_; refine blk_far ?_ NB157_165.out _; refine bkq ?_; exact BK157.out⟩
 have n2_ : Aside0 ((((w7.setCell ⟨gb165, 0, none⟩ (.int .i64 t158)).setCell ⟨gb165, 1, none⟩ (.string t159)).setCell ⟨gb165, 2, none⟩ (.slice Ao10 t160.length co10)).heap[gb165]? = some (.cells #[.int .i64 t158, .string t159, .slice Ao10 t160.length co10] 24 (0, 0))) := ⟨by refine bkq ?_; refine blk_put (cs := #[.int .i64 t158, .string t159, .slice none 0 0]) ?_ 2 _ rfl; refine bkq ?_; refine blk_put (cs := #[.int .i64 t158, .string (⟨#[]⟩ : ByteArray), .slice none 0 0]) ?_ 1 _ rfl; refine bkq ?_; refine blk_put (cs := #[.int .i64 0, .string (⟨#[]⟩ : ByteArray), .slice none 0 0]) ?_ 0 _ rfl; refine bkq ?_; exact BK165.out⟩
 have n3_ : Aside0 (Below w.heap.size w (((w7.setCell ⟨gb165, 0, none⟩ (.int .i64 t158)).setCell ⟨gb165, 1, none⟩ (.string t159)).setCell ⟨gb165, 2, none⟩ (.slice Ao10 t160.length co10))) := ⟨q0_⟩
 (try clear HO162)
 (try clear BK157)
 (try clear BK165)
 (try clear HB)
 generalize (((w7.setCell ⟨gb165, 0, none⟩ (.int .i64 t158)).setCell ⟨gb165, 1, none⟩ (.string t159)).setCell ⟨gb165, 2, none⟩ (.slice Ao10 t160.length co10)) = w11 at n0_ n1_ n2_ n3_ ⊢
 have HO162 := n0_
 have BK157 := n1_
 have BK165 := n2_
 have HB := n3_
 clear n0_ n1_ n2_ n3_
 have n0_ := Aside0.mk (Kd.R_drew HO162.out)
 have n1_ := Aside0.mk (blk_drew BK157.out)
 have n2_ := Aside0.mk (blk_drew BK165.out)
 have n3_ := Aside0.mk (below_drew1 HB.out)
 clear HO162
 clear BK157
 clear BK165
 clear HB
 have HO162 := n0_
 have BK157 := n1_
 have BK165 := n2_
 have HB := n3_
 clear n0_ n1_ n2_ n3_
 have CA4 := fun W (hG_ : GW G W) => tlv_told.calls t164 t166 W hG_ A4.out
 refine start_ (n := 7) (S := fun w' => w'.cell? ⟨gb165, 0, none⟩ = some (.int .i64 t158) ∧ w'.cell? ⟨gb165, 1, none⟩ = some (.string t159) ∧ w'.cell? ⟨gb165, 2, none⟩ = some (.slice Ao10 t160.length co10)) (ds := []) #[false, false, false, false, false, false, false] (by kernel_rfl) rfl rfl ⟨(blk_cell BK165.out 0).trans rfl, (blk_cell BK165.out 1).trans rfl, (blk_cell BK165.out 2).trans rfl⟩ (fun hHeld => ?_)
 generalize w11.drew = w12 at HO162 BK157 BK165 HB hHeld ⊢
 refine pure_ (i := 1) (N := some 18) (v := ?_) (a' := ?_) #[false, true, false, false, false, false, false] rfl rfl (by kernel_rfl) (fun _ _ _ h => h) (Or.inl ⟨by rfl, ?_⟩) ?_ ?_
 rotate_left
 ·intro w'
  go_simp
  with_reducible rfl
 rotate_left
 ·exact putq
 refine pure_ (i := 2) (N := some 19) (v := ?_) (a' := ?_) #[false, true, true, false, false, false, false] rfl rfl (by kernel_rfl) (fun _ _ _ h => h) (Or.inl ⟨by rfl, ?_⟩) ?_ ?_
 rotate_left
 ·intro w'
  go_simp
  with_reducible rfl
 rotate_left
 ·exact putq
 refine take_ (i := 0) (N := some 17) (v := ?_) (a' := ?_) #[true, true, true, false, false, false, false] rfl rfl (by kernel_rfl) (fun _ _ _ h => h) (Or.inl ⟨by rfl, ?_⟩) hHeld ?_ ?_
 rotate_left
 ·rintro w' ⟨s0, s1, s2⟩
  go_simp
  with_reducible rfl
 rotate_left
 ·exact putq
 refine one_ (i := 3) (N := some 20) #[true, true, true, true, false, false, false] rfl rfl (by kernel_rfl) (by decide) (fun K hK => ?_)
 refine goes_ Tryd.func28 (by kernel_rfl) rfl #[errW G t164] (by rfl) rfl rfl argq ?_
 with_reducible refine (CA4 _ ?side1).mono ?_
 (case side1 => first | exact hG | exact GW.below hG q0_)
 rintro e w13 ⟨rfl, hb⟩
 refine ⟨_, rfl, ?_⟩
 have n0_ := Aside0.mk (Kd.R_below (rkq HO162.out) hb)
 have n1_ := Aside0.mk (blk_below (g := gb157) (o := .cells #[.int .i64 0, .string (⟨#[]⟩ : ByteArray), .slice none 0 0] 24 (0, 0)) (bkq BK157.out) hb)
 have n2_ := Aside0.mk (blk_below (g := gb165) (o := .cells #[.int .i64 t158, .string t159, .slice Ao10 t160.length co10] 24 (0, 0)) (bkq BK165.out) hb)
 have n3_ := Aside0.mk (below_step q0_ hb)
 clear HO162
 clear BK157
 clear BK165
 clear HB
 have HO162 := n0_
 have BK157 := n1_
 have BK165 := n2_
 have HB := n3_
 clear n0_ n1_ n2_ n3_
 (try clear hb)
 (try clear hb2)
 (try clear hk)
 (try clear hi)
 refine hK.out _ _ ⟨(blk_cell BK165.out 0).trans rfl, (blk_cell BK165.out 1).trans rfl, (blk_cell BK165.out 2).trans rfl⟩ (fun hHeld => ?_)
 clear hK K
 refine norm_ (a' := ?_) ?_ ?_
 rotate_left
 ·show Act.put _ (some 20) _ = _
  exact putq
 refine one_ (i := 4) (N := none) #[true, true, true, true, true, false, false] rfl rfl (by kernel_rfl) (by decide) (fun K hK => ?_)
 have hs14 : w13.cell? ⟨gb157, 0, none⟩ = some (.int .i64 0) := (blk_cell BK157.out 0).trans rfl
 have hfs14 := blk_frozen BK157.out 0
 have hns14_1 := NB165_157.out
 have hms14_1 := NB157_165.out
 have hs15 : w13.cell? ⟨gb157, 1, none⟩ = some (.string (⟨#[]⟩ : ByteArray)) := (blk_cell BK157.out 1).trans rfl
 have hfs15 := blk_frozen BK157.out 1
 have hns15_1 := NB165_157.out
 have hms15_1 := NB157_165.out
 have hs16 : w13.cell? ⟨gb157, 2, none⟩ = some (.slice none 0 0) := (blk_cell BK157.out 2).trans rfl
 have hfs16 := blk_frozen BK157.out 2
 have hns16_1 := NB165_157.out
 have hms16_1 := NB157_165.out
 refine skip_ (w1 := ?_) (by rfl) rfl ?_ ?_
 rotate_left
 ·go_simp
  rfl
 refine hK.out _ _ ⟨((cell_far (p := ⟨gb157, _, none⟩) NB165_157.out _).trans (((cell_far (p := ⟨gb157, _, none⟩) NB165_157.out _).trans (((cell_far (p := ⟨gb157, _, none⟩) NB165_157.out _).trans (hHeld.1)))))), ((cell_far (p := ⟨gb157, _, none⟩) NB165_157.out _).trans (((cell_far (p := ⟨gb157, _, none⟩) NB165_157.out _).trans (((cell_far (p := ⟨gb157, _, none⟩) NB165_157.out _).trans (hHeld.2.1)))))), ((cell_far (p := ⟨gb157, _, none⟩) NB165_157.out _).trans (((cell_far (p := ⟨gb157, _, none⟩) NB165_157.out _).trans (((cell_far (p := ⟨gb157, _, none⟩) NB165_157.out _).trans (hHeld.2.2))))))⟩ (fun hHeld => ?_)
 clear hK K
 refine pure_ (i := 5) (N := some 5) (v := ?_) (a' := ?_) #[true, true, true, true, true, true, false] rfl rfl (by kernel_rfl) (fun _ _ _ h => h) (Or.inl ⟨by rfl, ?_⟩) ?_ ?_
 rotate_left
 ·intro w'
  go_simp
  with_reducible rfl
 rotate_left
 ·exact putq
 refine pure_ (i := 6) (N := some 6) (v := ?_) (a' := ?_) #[true, true, true, true, true, true, true] rfl rfl (by kernel_rfl) (fun _ _ _ h => h) (Or.inl ⟨by rfl, ?_⟩) ?_ ?_
 rotate_left
 ·intro w'
  go_simp
  with_reducible rfl
 rotate_left
 ·exact putq
 refine done_ (by kernel_rfl) ?_
 try go_wp2
 refine bodyPost_ret (results_ctt rfl _ _ gb157 24 #[.int .i64 t158, .string t159, .slice Ao10 t160.length co10] (0, 0) _ rfl (by refine bkq ?_; refine blk_put (cs := #[.int .i64 t158, .string t159, .slice none 0 0]) ?_ 2 _ rfl; refine bkq ?_; refine blk_put (cs := #[.int .i64 t158, .string (⟨#[]⟩ : ByteArray), .slice none 0 0]) ?_ 1 _ rfl; refine bkq ?_; refine blk_put (cs := #[.int .i64 0, .string (⟨#[]⟩ : ByteArray), .slice none 0 0]) ?_ 0 _ rfl; refine bkq ?_; exact BK157.out) Tryd.underlying24 rfl (by kernel_rfl)) rfl ?_
 exact ⟨_, q2_, by refine rkq ?_; exact Kd.R_mono (Kd.R_far (p := ⟨gb157, 2, none⟩) (Kd.R_far (p := ⟨gb157, 1, none⟩) (Kd.R_far (p := ⟨gb157, 0, none⟩) (Kd.R_mono HO162.out (fun k_ hk => (⟨hk, hk.1⟩ : _ ∧ k_ ≠ gb157))) (fun _ hk => hk.2) (.int .i64 t158)) (fun _ hk => hk.2) (.string t159)) (fun _ hk => hk.2) (.slice Ao10 t160.length co10)) (fun _ hk => trivial), q0_⟩
end Go.Proofs.YthnddhgkjkpmfaaDoor.LTlvC
-- Written by this repo's own program over the kit's printer: YthnddhgkjkpmfaaDoor.LTlvC
namespace Go.Proofs.YthnddhgkjkpmfaaDoor.LTlvC
open Go.Proofs.YthnddhgkjkpmfaaDoor.ExtTlvC
open Go.Proofs.YthnddhgkjkpmfaaDoor.KTlv
open Go.RowKit Go.Proofs.YthnddhgkjkpmfaaDoorW.PrintWords Go.Proofs.YthnddhgkjkpmfaaDoorW.PrintLast Go.Proofs.YthnddhgkjkpmfaaDoorW.PrintMore
attribute [local go_sem] max2_int min2_int max_two min_two max_three min_three max_four min_four   -- for this text's walks alone
attribute [local go_sem] some_set
set_option linter.unusedVariables false
set_option linter.unusedSimpArgs false
variable {G : Gl}
def tlv_Whole.f (k : Nat) (a0 : ByteArray) : Option (Int × ByteArray × (List (S24)) × Int) := (tlv_decoded.f k a0 0).bind fun bt168 => (if bt168.2.2.2.2.isNone = true then (if bt168.2.2.2.1 = (a0.size : Int) then ((tlv_told.f none).bind fun t177 => (some (bt168.1, bt168.2.1, bt168.2.2.1, t177))) else ((tlv_told.f (some (Er.form bt168.2.2.2.1))).bind fun t178 => (some (0, (⟨#[]⟩ : ByteArray), ([] : List (S24)), t178)))) else ((tlv_told.f (some (bt168.2.2.2.2.getD Er.z))).bind fun t179 => (some (bt168.1, bt168.2.1, bt168.2.2.1, t179))))
theorem tlv_Whole.mono : ∀ a0 k, LeO (tlv_Whole.f k a0) (tlv_Whole.f (k + 1) a0) := by
 intro a0 k
 unfold tlv_Whole.f
 repeat' first
   | (with_reducible exact tlv_decoded.mono _ _ _)
   | (with_reducible exact LeO.refl _)
   | (with_reducible exact LeO.none _)
   | (with_reducible refine LeO.ite ?_ ?_)
   | (with_reducible refine LeO.bind ?_ (fun _ => ?_))
   | exact tlv_decoded.mono _ _ _
   | exact LeO.none _
   | refine LeO.ite ?_ ?_
   | refine LeO.bind ?_ (fun _ => ?_)
set_option maxHeartbeats 8000000 in
set_option maxRecDepth 100000 in
theorem tlv_Whole.calls (k : Nat) (a0 : ByteArray) (r1 : Int) (r2 : ByteArray) (r3 : List (S24)) (r4 : Int) (w : World) (hG : GW G w) (h : tlv_Whole.f k a0 = some (r1, r2, r3, r4)) :
  Calls Tryd.prog 19 #[.string a0] w fun e w' => ∃ v2_ : Value, e = .returned (.tuple #[.agg #[.int .i64 r1, .string r2, v2_], .int .i64 r4]) ∧ Kd.R k24 24 w' w.heap.size (fun _ => True) v2_ r3 ∧ Below w.heap.size w w' := by
 have hu24 := Tryd.underlying24
 have hu49 := Tryd.underlying49
 have HB := Aside0.mk (Below.refl w.heap.size w)
 have H : ((tlv_decoded.f k a0 0).bind fun bt168 => (if bt168.2.2.2.2.isNone = true then (if bt168.2.2.2.1 = (a0.size : Int) then ((tlv_told.f none).bind fun t177 => (some (bt168.1, bt168.2.1, bt168.2.2.1, t177))) else ((tlv_told.f (some (Er.form bt168.2.2.2.1))).bind fun t178 => (some (0, (⟨#[]⟩ : ByteArray), ([] : List (S24)), t178)))) else ((tlv_told.f (some (bt168.2.2.2.2.getD Er.z))).bind fun t179 => (some (bt168.1, bt168.2.1, bt168.2.2.1, t179))))) = some (r1, r2, r3, r4) := h
 clear h
 replace H := Option.bind_eq_some_iff.mp H
 obtain ⟨⟨t168, t169, t170, t173, t174⟩, A20, H⟩ := H
 replace H : (if t174.isNone = true then (if t173 = (a0.size : Int) then ((tlv_told.f none).bind fun t177 => (some (t168, t169, t170, t177))) else ((tlv_told.f (some (Er.form t173))).bind fun t178 => (some (0, (⟨#[]⟩ : ByteArray), ([] : List (S24)), t178)))) else ((tlv_told.f (some (t174.getD Er.z))).bind fun t179 => (some (t168, t169, t170, t179)))) = some (r1, r2, r3, r4) := H
 have A2 := Aside0.mk A20
 clear A20
 rcases t174 with _ | q176
 ·have H1 : (if t173 = (a0.size : Int) then ((tlv_told.f none).bind fun t177 => (some (t168, t169, t170, t177))) else ((tlv_told.f (some (Er.form t173))).bind fun t178 => (some (0, (⟨#[]⟩ : ByteArray), ([] : List (S24)), t178)))) = some (r1, r2, r3, r4) := by rw [if_pos (show (none : Option Er).isNone = true by rfl)] at H; exact H
  clear H
  have H := H1
  clear H1
  try simp only [eW]
  by_cases c3 : t173 = (a0.size : Int)
  ·rw [if_pos c3] at H
   have c3b0 : (t173 == (a0.size : Int)) = true := beq_iff_eq.mpr c3
   have c3b1 : (t173 != (a0.size : Int)) = false := bne_eq_false_iff_eq.mpr c3
   clear c3
   replace H := Option.bind_eq_some_iff.mp H
   obtain ⟨t177, A40, H⟩ := H
   replace H : (some (t168, t169, t170, t177)) = some (r1, r2, r3, r4) := H
   have A4 := Aside0.mk A40
   clear A40
   simp only [Option.some.injEq, Prod.mk.injEq] at H
   obtain ⟨rfl, rfl, rfl, rfl⟩ := H
   go_enter Tryd.func19, Tryd.ntmps19
   try go_wp2_with (first | ((with_reducible refine gate_dst (N := 2) rfl ?_); (try (refine gate_guard (by rfl) ?_; dsimp only)); refine box_event ?hg (N := 2) ?hd (cs := #[.int .i64 0, .string (⟨#[]⟩ : ByteArray), .slice none 0 0]) (t := 24) ?hr ?_; (case hd => rfl); (case hg => rfl); (case hr => first | (go_simp; done) | (go_simp; rfl)); intro gb167 hg w5 hbox hb; have n0_ := Aside0.mk (below_step q0_ hb); have n1_ := Aside0.mk (hbox); have n2_ := Aside0.mk ((by rw [hg]; exact (below_size q0_) : w.heap.size ≤ gb167)); have n3_ := Aside0.mk ((by rw [hg]; exact (below_size q0_) : w.heap.size ≤ gb167)); clear HB; have HB := n0_; have BK167 := n1_; have GW167 := n2_; have GE167 := n3_; clear n0_ n1_ n2_ n3_; clear hb hbox hg) | ((with_reducible refine gate_callee (f := 31) rfl ?_); refine goesL_ (some 9) rfl rfl Tryd.func31 (by kernel_rfl) rfl #[.string a0, .int .i64 0] rfl argq ?_; (with_reducible refine (tlv_decoded.calls (G := G) k a0 0 t168 t169 t170 t173 none _ ?side1 A2.out).mono ?_); (case side1 => first | exact hG | exact GW.below hG q0_); rintro e w6 ⟨v171, rfl, ho0, hb⟩; refine ⟨_, rfl, ?_⟩; have n0_ := Aside0.mk (Kd.R_lower (Kd.R_newB ho0 (g := gb167) (o := .cells #[.int .i64 0, .string (⟨#[]⟩ : ByteArray), .slice none 0 0] 24 (0, 0)) (bkq BK167.out)) (below_size q0_)); have n1_ := Aside0.mk (blk_below (g := gb167) (o := .cells #[.int .i64 0, .string (⟨#[]⟩ : ByteArray), .slice none 0 0] 24 (0, 0)) (bkq BK167.out) hb); have n2_ := Aside0.mk (below_step q0_ hb); clear BK167; clear HB; have HO172 := n0_; have BK167 := n1_; have HB := n2_; clear n0_ n1_ n2_; (try clear hb); (try clear hb2); (try clear hk); (try clear hi); (try clear ho0); (try simp only [eW])) | ((with_reducible refine gate_dst (N := 4) rfl ?_); (try (refine gate_guard (by rfl) ?_; dsimp only)); refine box_event ?hg (N := 4) ?hd (cs := #[.int .i64 0, .string (⟨#[]⟩ : ByteArray), .slice none 0 0]) (t := 24) ?hr ?_; (case hd => rfl); (case hg => rfl); (case hr => first | (go_simp; done) | (go_simp; rfl)); intro gb175 hg w7 hbox hb; have n0_ := Aside0.mk (Kd.R_below (Kd.R_elderB (rkq HO172.out) gb175 (Nat.le_of_eq hg.symm)) hb); have n1_ := Aside0.mk (blk_below (g := gb167) (o := .cells #[.int .i64 0, .string (⟨#[]⟩ : ByteArray), .slice none 0 0] 24 (0, 0)) (bkq BK167.out) hb); have n2_ := Aside0.mk (below_step q0_ hb); have n3_ := Aside0.mk (hbox); have n4_ := Aside0.mk ((by rw [hg]; exact (below_size q0_) : w.heap.size ≤ gb175)); have n5_ := Aside0.mk ((by rw [hg]; exact (below_size q0_) : w.heap.size ≤ gb175)); have n6_ := Aside0.mk ((by rw [hg]; exact Nat.ne_of_lt (blk_lt (g := gb167) (o := .cells #[.int .i64 0, .string (⟨#[]⟩ : ByteArray), .slice none 0 0] 24 (0, 0)) (bkq BK167.out)) : gb167 ≠ gb175)); have n7_ := Aside0.mk ((by rw [hg]; exact Nat.ne_of_gt (blk_lt (g := gb167) (o := .cells #[.int .i64 0, .string (⟨#[]⟩ : ByteArray), .slice none 0 0] 24 (0, 0)) (bkq BK167.out)) : gb175 ≠ gb167)); clear HO172; clear BK167; clear HB; have HO172 := n0_; have BK167 := n1_; have HB := n2_; have BK175 := n3_; have GW175 := n4_; have GE175 := n5_; have NB167_175 := n6_; have NB175_167 := n7_; clear n0_ n1_ n2_ n3_ n4_ n5_ n6_ n7_; clear hb hbox hg; have hnb8 := NB175_167.out; have hnc8 := NB167_175.out; have hcz9_0 : w7.cell? ⟨gb175, 0, none⟩ = some (.int .i64 0) := (blk_cell BK175.out 0).trans rfl; have hcz9_1 : w7.cell? ⟨gb175, 1, none⟩ = some (.string (⟨#[]⟩ : ByteArray)) := (blk_cell BK175.out 1).trans rfl; have hcz9_2 : w7.cell? ⟨gb175, 2, none⟩ = some (.slice none 0 0) := (blk_cell BK175.out 2).trans rfl; have hfz9_0 := blk_frozen BK175.out 0; have hfz9_1 := blk_frozen BK175.out 1; have hfz9_2 := blk_frozen BK175.out 2; obtain ⟨Ao10, co10, eo10⟩ := Kd.R_slice HO172.out; subst eo10))
   have n0_ : Aside0 (Kd.R k24 24 (((w7.setCell ⟨gb175, 0, none⟩ (.int .i64 t168)).setCell ⟨gb175, 1, none⟩ (.string t169)).setCell ⟨gb175, 2, none⟩ (.slice Ao10 t170.length co10)) w.heap.size (fun k_ => k_ ≠ gb167 ∧ k_ ≠ gb175) (.slice Ao10 t170.length co10) t170) := ⟨by refine rkq ?_; exact Kd.R_mono (Kd.R_far (p := ⟨gb175, 2, none⟩) (Kd.R_far (p := ⟨gb175, 1, none⟩) (Kd.R_far (p := ⟨gb175, 0, none⟩) (Kd.R_mono HO172.out (fun k_ hk => (⟨hk, hk.2⟩ : _ ∧ k_ ≠ gb175))) (fun _ hk => hk.2) (.int .i64 t168)) (fun _ hk => hk.2) (.string t169)) (fun _ hk => hk.2) (.slice Ao10 t170.length co10)) (fun _ hk => ⟨hk.1.1.2, hk.1.2⟩)⟩
   have n1_ : Aside0 ((((w7.setCell ⟨gb175, 0, none⟩ (.int .i64 t168)).setCell ⟨gb175, 1, none⟩ (.string t169)).setCell ⟨gb175, 2, none⟩ (.slice Ao10 t170.length co10)).heap[gb167]? = some (.cells #[.int .i64 0, .string (⟨#[]⟩ : ByteArray), .slice none 0 0] 24 (0, 0))) := ⟨by refine bkq ?_; refine blk_far ?_ NB167_175.out _; refine bkq ?_; refine blk_far ?_ NB167_175.out _; refine bkq ?_; refine blk_far ?_ NB167_175.out _; refine bkq ?_; exact BK167.out⟩
   have n2_ : Aside0 ((((w7.setCell ⟨gb175, 0, none⟩ (.int .i64 t168)).setCell ⟨gb175, 1, none⟩ (.string t169)).setCell ⟨gb175, 2, none⟩ (.slice Ao10 t170.length co10)).heap[gb175]? = some (.cells #[.int .i64 t168, .string t169, .slice Ao10 t170.length co10] 24 (0, 0))) := ⟨by refine bkq ?_; refine blk_put (cs := #[.int .i64 t168, .string t169, .slice none 0 0]) ?_ 2 _ rfl; refine bkq ?_; refine blk_put (cs := #[.int .i64 t168, .string (⟨#[]⟩ : ByteArray), .slice none 0 0]) ?_ 1 _ rfl; refine bkq ?_; refine blk_put (cs := #[.int .i64 0, .string (⟨#[]⟩ : ByteArray), .slice none 0 0]) ?_ 0 _ rfl; refine bkq ?_; exact BK175.out⟩
   have n3_ : Aside0 (Below w.heap.size w (((w7.setCell ⟨gb175, 0, none⟩ (.int .i64 t168)).setCell ⟨gb175, 1, none⟩ (.string t169)).setCell ⟨gb175, 2, none⟩ (.slice Ao10 t170.length co10))) := ⟨q0_⟩
   (try clear HO172)
   (try clear BK167)
   (try clear BK175)
   (try clear HB)
   generalize (((w7.setCell ⟨gb175, 0, none⟩ (.int .i64 t168)).setCell ⟨gb175, 1, none⟩ (.string t169)).setCell ⟨gb175, 2, none⟩ (.slice Ao10 t170.length co10)) = w11 at n0_ n1_ n2_ n3_ ⊢
   have HO172 := n0_
   have BK167 := n1_
   have BK175 := n2_
   have HB := n3_
   clear n0_ n1_ n2_ n3_
   have n0_ := Aside0.mk (Kd.R_drew HO172.out)
   have n1_ := Aside0.mk (blk_drew BK167.out)
   have n2_ := Aside0.mk (blk_drew BK175.out)
   have n3_ := Aside0.mk (below_drew1 HB.out)
   clear HO172
   clear BK167
   clear BK175
   clear HB
   have HO172 := n0_
   have BK167 := n1_
   have BK175 := n2_
   have HB := n3_
   clear n0_ n1_ n2_ n3_
   have CA4 := fun W (hG_ : GW G W) => tlv_told.calls none t177 W hG_ A4.out
   refine start_ (n := 5) (S := fun w' => w'.cell? ⟨gb175, 0, none⟩ = some (.int .i64 t168) ∧ w'.cell? ⟨gb175, 1, none⟩ = some (.string t169) ∧ w'.cell? ⟨gb175, 2, none⟩ = some (.slice Ao10 t170.length co10)) (ds := []) #[false, false, false, false, false] (by kernel_rfl) rfl rfl ⟨(blk_cell BK175.out 0).trans rfl, (blk_cell BK175.out 1).trans rfl, (blk_cell BK175.out 2).trans rfl⟩ (fun hHeld => ?_)
   generalize w11.drew = w12 at HO172 BK167 BK175 HB hHeld ⊢
   refine pure_ (i := 1) (N := some 27) (v := ?_) (a' := ?_) #[false, true, false, false, false] rfl rfl (by kernel_rfl) (fun _ _ _ h => h) (Or.inl ⟨by rfl, ?_⟩) ?_ ?_
   rotate_left
   ·intro w'
    go_simp
    with_reducible rfl
   rotate_left
   ·exact putq
   refine take_ (i := 0) (N := some 26) (v := ?_) (a' := ?_) #[true, true, false, false, false] rfl rfl (by kernel_rfl) (fun _ _ _ h => h) (Or.inl ⟨by rfl, ?_⟩) hHeld ?_ ?_
   rotate_left
   ·rintro w' ⟨s0, s1, s2⟩
    go_simp
    with_reducible rfl
   rotate_left
   ·exact putq
   refine one_ (i := 2) (N := some 28) #[true, true, true, false, false] rfl rfl (by kernel_rfl) (by decide) (fun K hK => ?_)
   refine goes_ Tryd.func28 (by kernel_rfl) rfl #[errW G none] (by rfl) rfl rfl argq ?_
   with_reducible refine (CA4 _ ?side1).mono ?_
   (case side1 => first | exact hG | exact GW.below hG q0_)
   rintro e w13 ⟨rfl, hb⟩
   refine ⟨_, rfl, ?_⟩
   have n0_ := Aside0.mk (Kd.R_below (rkq HO172.out) hb)
   have n1_ := Aside0.mk (blk_below (g := gb167) (o := .cells #[.int .i64 0, .string (⟨#[]⟩ : ByteArray), .slice none 0 0] 24 (0, 0)) (bkq BK167.out) hb)
   have n2_ := Aside0.mk (blk_below (g := gb175) (o := .cells #[.int .i64 t168, .string t169, .slice Ao10 t170.length co10] 24 (0, 0)) (bkq BK175.out) hb)
   have n3_ := Aside0.mk (below_step q0_ hb)
   clear HO172
   clear BK167
   clear BK175
   clear HB
   have HO172 := n0_
   have BK167 := n1_
   have BK175 := n2_
   have HB := n3_
   clear n0_ n1_ n2_ n3_
   (try clear hb)
   (try clear hb2)
   (try clear hk)
   (try clear hi)
   refine hK.out _ _ ⟨(blk_cell BK175.out 0).trans rfl, (blk_cell BK175.out 1).trans rfl, (blk_cell BK175.out 2).trans rfl⟩ (fun hHeld => ?_)
   clear hK K
   refine norm_ (a' := ?_) ?_ ?_
   rotate_left
   ·show Act.put _ (some 28) _ = _
    exact putq
   refine one_ (i := 3) (N := none) #[true, true, true, true, false] rfl rfl (by kernel_rfl) (by decide) (fun K hK => ?_)
   have hs14 : w13.cell? ⟨gb167, 0, none⟩ = some (.int .i64 0) := (blk_cell BK167.out 0).trans rfl
   have hfs14 := blk_frozen BK167.out 0
   have hns14_1 := NB175_167.out
   have hms14_1 := NB167_175.out
   have hs15 : w13.cell? ⟨gb167, 1, none⟩ = some (.string (⟨#[]⟩ : ByteArray)) := (blk_cell BK167.out 1).trans rfl
   have hfs15 := blk_frozen BK167.out 1
   have hns15_1 := NB175_167.out
   have hms15_1 := NB167_175.out
   have hs16 : w13.cell? ⟨gb167, 2, none⟩ = some (.slice none 0 0) := (blk_cell BK167.out 2).trans rfl
   have hfs16 := blk_frozen BK167.out 2
   have hns16_1 := NB175_167.out
   have hms16_1 := NB167_175.out
   refine skip_ (w1 := ?_) (by rfl) rfl ?_ ?_
   rotate_left
   ·go_simp
    rfl
   refine hK.out _ _ ⟨((cell_far (p := ⟨gb167, _, none⟩) NB175_167.out _).trans (((cell_far (p := ⟨gb167, _, none⟩) NB175_167.out _).trans (((cell_far (p := ⟨gb167, _, none⟩) NB175_167.out _).trans (hHeld.1)))))), ((cell_far (p := ⟨gb167, _, none⟩) NB175_167.out _).trans (((cell_far (p := ⟨gb167, _, none⟩) NB175_167.out _).trans (((cell_far (p := ⟨gb167, _, none⟩) NB175_167.out _).trans (hHeld.2.1)))))), ((cell_far (p := ⟨gb167, _, none⟩) NB175_167.out _).trans (((cell_far (p := ⟨gb167, _, none⟩) NB175_167.out _).trans (((cell_far (p := ⟨gb167, _, none⟩) NB175_167.out _).trans (hHeld.2.2))))))⟩ (fun hHeld => ?_)
   clear hK K
   refine pure_ (i := 4) (N := some 3) (v := ?_) (a' := ?_) #[true, true, true, true, true] rfl rfl (by kernel_rfl) (fun _ _ _ h => h) (Or.inl ⟨by rfl, ?_⟩) ?_ ?_
   rotate_left
   ·intro w'
    go_simp
    with_reducible rfl
   rotate_left
   ·exact putq
   refine done_ (by kernel_rfl) ?_
   try go_wp2
   refine bodyPost_ret (results_ct rfl _ _ gb167 24 #[.int .i64 t168, .string t169, .slice Ao10 t170.length co10] (0, 0) _ rfl (by refine bkq ?_; refine blk_put (cs := #[.int .i64 t168, .string t169, .slice none 0 0]) ?_ 2 _ rfl; refine bkq ?_; refine blk_put (cs := #[.int .i64 t168, .string (⟨#[]⟩ : ByteArray), .slice none 0 0]) ?_ 1 _ rfl; refine bkq ?_; refine blk_put (cs := #[.int .i64 0, .string (⟨#[]⟩ : ByteArray), .slice none 0 0]) ?_ 0 _ rfl; refine bkq ?_; exact BK167.out) Tryd.underlying24 rfl (by kernel_rfl)) rfl ?_
   exact ⟨_, q2_, by refine rkq ?_; exact Kd.R_mono (Kd.R_far (p := ⟨gb167, 2, none⟩) (Kd.R_far (p := ⟨gb167, 1, none⟩) (Kd.R_far (p := ⟨gb167, 0, none⟩) (Kd.R_mono HO172.out (fun k_ hk => (⟨hk, hk.1⟩ : _ ∧ k_ ≠ gb167))) (fun _ hk => hk.2) (.int .i64 t168)) (fun _ hk => hk.2) (.string t169)) (fun _ hk => hk.2) (.slice Ao10 t170.length co10)) (fun _ hk => trivial), q0_⟩
  ·rw [if_neg c3] at H
   have c3b0 : (t173 == (a0.size : Int)) = false := beq_eq_false_iff_ne.mpr c3
   have c3b1 : (t173 != (a0.size : Int)) = true := bne_iff_ne.mpr c3
   replace H := Option.bind_eq_some_iff.mp H
   obtain ⟨t178, A170, H⟩ := H
   replace H : (some (0, (⟨#[]⟩ : ByteArray), ([] : List (S24)), t178)) = some (r1, r2, r3, r4) := H
   have A17 := Aside0.mk A170
   clear A170
   simp only [Option.some.injEq, Prod.mk.injEq] at H
   obtain ⟨rfl, rfl, rfl, rfl⟩ := H
   go_enter Tryd.func19, Tryd.ntmps19
   try go_wp2_with (first | ((with_reducible refine gate_dst (N := 2) rfl ?_); (try (refine gate_guard (by rfl) ?_; dsimp only)); refine box_event ?hg (N := 2) ?hd (cs := #[.int .i64 0, .string (⟨#[]⟩ : ByteArray), .slice none 0 0]) (t := 24) ?hr ?_; (case hd => rfl); (case hg => rfl); (case hr => first | (go_simp; done) | (go_simp; rfl)); intro gb167 hg w18 hbox hb; have n0_ := Aside0.mk (below_step q0_ hb); have n1_ := Aside0.mk (hbox); have n2_ := Aside0.mk ((by rw [hg]; exact (below_size q0_) : w.heap.size ≤ gb167)); have n3_ := Aside0.mk ((by rw [hg]; exact (below_size q0_) : w.heap.size ≤ gb167)); clear HB; have HB := n0_; have BK167 := n1_; have GW167 := n2_; have GE167 := n3_; clear n0_ n1_ n2_ n3_; clear hb hbox hg) | ((with_reducible refine gate_callee (f := 31) rfl ?_); refine goesL_ (some 9) rfl rfl Tryd.func31 (by kernel_rfl) rfl #[.string a0, .int .i64 0] rfl argq ?_; (with_reducible refine (tlv_decoded.calls (G := G) k a0 0 t168 t169 t170 t173 none _ ?side1 A2.out).mono ?_); (case side1 => first | exact hG | exact GW.below hG q0_); rintro e w19 ⟨v171, rfl, ho0, hb⟩; refine ⟨_, rfl, ?_⟩; have n0_ := Aside0.mk (Kd.R_lower (Kd.R_newB ho0 (g := gb167) (o := .cells #[.int .i64 0, .string (⟨#[]⟩ : ByteArray), .slice none 0 0] 24 (0, 0)) (bkq BK167.out)) (below_size q0_)); have n1_ := Aside0.mk (blk_below (g := gb167) (o := .cells #[.int .i64 0, .string (⟨#[]⟩ : ByteArray), .slice none 0 0] 24 (0, 0)) (bkq BK167.out) hb); have n2_ := Aside0.mk (below_step q0_ hb); clear BK167; clear HB; have HO172 := n0_; have BK167 := n1_; have HB := n2_; clear n0_ n1_ n2_; (try clear hb); (try clear hb2); (try clear hk); (try clear hi); (try clear ho0); (try simp only [eW])) | ((with_reducible refine gate_dst (N := 4) rfl ?_); (try (refine gate_guard (by rfl) ?_; dsimp only)); refine box_event ?hg (N := 4) ?hd (cs := #[.int .i64 0, .string (⟨#[]⟩ : ByteArray), .slice none 0 0]) (t := 24) ?hr ?_; (case hd => rfl); (case hg => rfl); (case hr => first | (go_simp; done) | (go_simp; rfl)); intro gb175 hg w20 hbox hb; have n0_ := Aside0.mk (Kd.R_below (Kd.R_elderB (rkq HO172.out) gb175 (Nat.le_of_eq hg.symm)) hb); have n1_ := Aside0.mk (blk_below (g := gb167) (o := .cells #[.int .i64 0, .string (⟨#[]⟩ : ByteArray), .slice none 0 0] 24 (0, 0)) (bkq BK167.out) hb); have n2_ := Aside0.mk (below_step q0_ hb); have n3_ := Aside0.mk (hbox); have n4_ := Aside0.mk ((by rw [hg]; exact (below_size q0_) : w.heap.size ≤ gb175)); have n5_ := Aside0.mk ((by rw [hg]; exact (below_size q0_) : w.heap.size ≤ gb175)); have n6_ := Aside0.mk ((by rw [hg]; exact Nat.ne_of_lt (blk_lt (g := gb167) (o := .cells #[.int .i64 0, .string (⟨#[]⟩ : ByteArray), .slice none 0 0] 24 (0, 0)) (bkq BK167.out)) : gb167 ≠ gb175)); have n7_ := Aside0.mk ((by rw [hg]; exact Nat.ne_of_gt (blk_lt (g := gb167) (o := .cells #[.int .i64 0, .string (⟨#[]⟩ : ByteArray), .slice none 0 0] 24 (0, 0)) (bkq BK167.out)) : gb175 ≠ gb167)); clear HO172; clear BK167; clear HB; have HO172 := n0_; have BK167 := n1_; have HB := n2_; have BK175 := n3_; have GW175 := n4_; have GE175 := n5_; have NB167_175 := n6_; have NB175_167 := n7_; clear n0_ n1_ n2_ n3_ n4_ n5_ n6_ n7_; clear hb hbox hg; have hnb21 := NB175_167.out; have hnc21 := NB167_175.out; have hcz22_0 : w20.cell? ⟨gb175, 0, none⟩ = some (.int .i64 0) := (blk_cell BK175.out 0).trans rfl; have hcz22_1 : w20.cell? ⟨gb175, 1, none⟩ = some (.string (⟨#[]⟩ : ByteArray)) := (blk_cell BK175.out 1).trans rfl; have hcz22_2 : w20.cell? ⟨gb175, 2, none⟩ = some (.slice none 0 0) := (blk_cell BK175.out 2).trans rfl; have hfz22_0 := blk_frozen BK175.out 0; have hfz22_1 := blk_frozen BK175.out 1; have hfz22_2 := blk_frozen BK175.out 2; obtain ⟨Ao23, co23, eo23⟩ := Kd.R_slice HO172.out; subst eo23))
   have n0_ : Aside0 (Kd.R k24 24 (((w20.setCell ⟨gb175, 0, none⟩ (.int .i64 t168)).setCell ⟨gb175, 1, none⟩ (.string t169)).setCell ⟨gb175, 2, none⟩ (.slice Ao23 t170.length co23)) w.heap.size (fun k_ => k_ ≠ gb167 ∧ k_ ≠ gb175) (.slice Ao23 t170.length co23) t170) := ⟨by refine rkq ?_; exact Kd.R_mono (Kd.R_far (p := ⟨gb175, 2, none⟩) (Kd.R_far (p := ⟨gb175, 1, none⟩) (Kd.R_far (p := ⟨gb175, 0, none⟩) (Kd.R_mono HO172.out (fun k_ hk => (⟨hk, hk.2⟩ : _ ∧ k_ ≠ gb175))) (fun _ hk => hk.2) (.int .i64 t168)) (fun _ hk => hk.2) (.string t169)) (fun _ hk => hk.2) (.slice Ao23 t170.length co23)) (fun _ hk => ⟨hk.1.1.2, hk.1.2⟩)⟩
   have n1_ : Aside0 ((((w20.setCell ⟨gb175, 0, none⟩ (.int .i64 t168)).setCell ⟨gb175, 1, none⟩ (.string t169)).setCell ⟨gb175, 2, none⟩ (.slice Ao23 t170.length co23)).heap[gb167]? = some (.cells #[.int .i64 0, .string (⟨#[]⟩ : ByteArray), .slice none 0 0] 24 (0, 0))) := ⟨by refine bkq ?_; refine blk_far ?_ NB167_175.out _; refine bkq ?_; refine blk_far ?_ NB167_175.out _; refine bkq ?_; refine blk_far ?_ NB167_175.out _; refine bkq ?_; exact BK167.out⟩
   have n2_ : Aside0 ((((w20.setCell ⟨gb175, 0, none⟩ (.int .i64 t168)).setCell ⟨gb175, 1, none⟩ (.string t169)).setCell ⟨gb175, 2, none⟩ (.slice Ao23 t170.length co23)).heap[gb175]? = some (.cells #[.int .i64 t168, .string t169, .slice Ao23 t170.length co23] 24 (0, 0))) := ⟨by refine bkq ?_; refine blk_put (cs := #[.int .i64 t168, .string t169, .slice none 0 0]) ?_ 2 _ rfl; refine bkq ?_; refine blk_put (cs := #[.int .i64 t168, .string (⟨#[]⟩ : ByteArray), .slice none 0 0]) ?_ 1 _ rfl; refine bkq ?_; refine blk_put (cs := #[.int .i64 0, .string (⟨#[]⟩ : ByteArray), .slice none 0 0]) ?_ 0 _ rfl; refine bkq ?_; exact BK175.out⟩
   have n3_ : Aside0 (Below w.heap.size w (((w20.setCell ⟨gb175, 0, none⟩ (.int .i64 t168)).setCell ⟨gb175, 1, none⟩ (.string t169)).setCell ⟨gb175, 2, none⟩ (.slice Ao23 t170.length co23))) := ⟨q0_⟩
   (try clear HO172)
   (try clear BK167)
   (try clear BK175)
   (try clear HB)
   generalize (((w20.setCell ⟨gb175, 0, none⟩ (.int .i64 t168)).setCell ⟨gb175, 1, none⟩ (.string t169)).setCell ⟨gb175, 2, none⟩ (.slice Ao23 t170.length co23)) = w24 at n0_ n1_ n2_ n3_ ⊢
   have HO172 := n0_
   have BK167 := n1_
   have BK175 := n2_
   have HB := n3_
   clear n0_ n1_ n2_ n3_
   have n0_ := Aside0.mk (Kd.R_drew HO172.out)
   have n1_ := Aside0.mk (blk_drew BK167.out)
   have n2_ := Aside0.mk (blk_drew BK175.out)
   have n3_ := Aside0.mk (below_drew1 HB.out)
   clear HO172
   clear BK167
   clear BK175
   clear HB
   have HO172 := n0_
   have BK167 := n1_
   have BK175 := n2_
   have HB := n3_
   clear n0_ n1_ n2_ n3_
   refine start_ (n := 7) (S := fun w' => w'.cell? ⟨1, 0, none⟩ = some (GC1 G)) (ds := []) #[false, false, false, false, false, false, false] (by kernel_rfl) rfl rfl ((GW.c1 (GW.below hG q0_))) (fun hHeld => ?_)
   generalize w24.drew = w25 at HO172 BK167 BK175 HB hHeld ⊢
   refine pure_ (i := 0) (N := some 21) (v := ?_) (a' := ?_) #[true, false, false, false, false, false, false] rfl rfl (by kernel_rfl) (fun _ _ _ h => h) (Or.inl ⟨by rfl, ?_⟩) ?_ ?_
   rotate_left
   ·intro w'
    go_simp
    with_reducible rfl
   rotate_left
   ·exact putq
   refine pure_ (i := 1) (N := some 22) (v := ?_) (a' := ?_) #[true, true, false, false, false, false, false] rfl rfl (by kernel_rfl) (fun _ _ _ h => h) (Or.inl ⟨by rfl, ?_⟩) ?_ ?_
   rotate_left
   ·intro w'
    go_simp
    with_reducible rfl
   rotate_left
   ·exact putq
   refine take_ (i := 2) (N := some 23) (v := ?_) (a' := ?_) #[true, true, true, false, false, false, false] rfl rfl (by kernel_rfl) (fun _ _ _ h => h) (Or.inl ⟨by rfl, ?_⟩) hHeld ?_ ?_
   rotate_left
   ·intro w' s0
    go_simp
    with_reducible rfl
   rotate_left
   ·exact putq
   refine pure_ (i := 3) (N := some 24) (v := ?_) (a' := ?_) #[true, true, true, true, false, false, false] rfl rfl (by kernel_rfl) (fun _ _ _ h => h) (Or.inl ⟨by rfl, ?_⟩) ?_ ?_
   rotate_left
   ·intro w'
    go_simp
    with_reducible rfl
   rotate_left
   ·exact putq
   refine pure_ (i := 4) (N := some 25) (v := ?_) (a' := ?_) #[true, true, true, true, true, false, false] rfl rfl (by kernel_rfl) (fun _ _ _ h => h) (Or.inl ⟨by rfl, ?_⟩) ?_ ?_
   rotate_left
   ·intro w'
    go_simp
    with_reducible rfl
   rotate_left
   ·exact putq
   refine one_ (i := 5) (N := none) #[true, true, true, true, true, true, false] rfl rfl (by kernel_rfl) (by decide) (fun K hK => ?_)
   have hs26 : w25.cell? ⟨gb175, 0, none⟩ = some (.int .i64 t168) := (blk_cell BK175.out 0).trans rfl
   have hfs26 := blk_frozen BK175.out 0
   have hns26_0 := NB167_175.out
   have hms26_0 := NB175_167.out
   have hs27 : w25.cell? ⟨gb175, 1, none⟩ = some (.string t169) := (blk_cell BK175.out 1).trans rfl
   have hfs27 := blk_frozen BK175.out 1
   have hns27_0 := NB167_175.out
   have hms27_0 := NB175_167.out
   have hs28 : w25.cell? ⟨gb175, 2, none⟩ = some (.slice Ao23 t170.length co23) := (blk_cell BK175.out 2).trans rfl
   have hfs28 := blk_frozen BK175.out 2
   have hns28_0 := NB167_175.out
   have hms28_0 := NB175_167.out
   refine skip_ (w1 := ?_) (by rfl) rfl ?_ ?_
   rotate_left
   ·go_simp
    rfl
   refine hK.out _ _ (((cell_far (p := ⟨gb175, _, none⟩) (Nat.ne_of_lt (Nat.lt_of_lt_of_le (GW.lt1 hG) GE175.out)) _).trans (((cell_far (p := ⟨gb175, _, none⟩) (Nat.ne_of_lt (Nat.lt_of_lt_of_le (GW.lt1 hG) GE175.out)) _).trans (((cell_far (p := ⟨gb175, _, none⟩) (Nat.ne_of_lt (Nat.lt_of_lt_of_le (GW.lt1 hG) GE175.out)) _).trans (hHeld))))))) (fun hHeld => ?_)
   clear hK K
   refine pure_ (i := 6) (N := some 6) (v := ?_) (a' := ?_) #[true, true, true, true, true, true, true] rfl rfl (by kernel_rfl) (fun _ _ _ h => h) (Or.inl ⟨by rfl, ?_⟩) ?_ ?_
   rotate_left
   ·intro w'
    go_simp
    with_reducible rfl
   rotate_left
   ·exact putq
   refine done_ (by kernel_rfl) ?_
   try go_wp2
   have n0_ : Aside0 (Kd.R k24 24 (((w25.setCell ⟨gb175, 0, none⟩ (.int .i64 0)).setCell ⟨gb175, 1, none⟩ (.string (⟨#[]⟩ : ByteArray))).setCell ⟨gb175, 2, none⟩ (.slice none 0 0)) w.heap.size (fun k_ => k_ ≠ gb167 ∧ k_ ≠ gb175) (.slice Ao23 t170.length co23) t170) := ⟨by refine rkq ?_; exact Kd.R_mono (Kd.R_far (p := ⟨gb175, 2, none⟩) (Kd.R_far (p := ⟨gb175, 1, none⟩) (Kd.R_far (p := ⟨gb175, 0, none⟩) (Kd.R_mono HO172.out (fun k_ hk => (⟨hk, hk.2⟩ : _ ∧ k_ ≠ gb175))) (fun _ hk => hk.2) (.int .i64 0)) (fun _ hk => hk.2) (.string (⟨#[]⟩ : ByteArray))) (fun _ hk => hk.2) (.slice none 0 0)) (fun _ hk => ⟨hk.1.1, hk.1.2⟩)⟩
   have n1_ : Aside0 ((((w25.setCell ⟨gb175, 0, none⟩ (.int .i64 0)).setCell ⟨gb175, 1, none⟩ (.string (⟨#[]⟩ : ByteArray))).setCell ⟨gb175, 2, none⟩ (.slice none 0 0)).heap[gb167]? = some (.cells #[.int .i64 0, .string (⟨#[]⟩ : ByteArray), .slice none 0 0] 24 (0, 0))) := ⟨by refine bkq ?_; refine blk_far ?_ NB167_175.out _; refine bkq ?_; refine blk_far ?_ NB167_175.out _; refine bkq ?_; refine blk_far ?_ NB167_175.out _; refine bkq ?_; exact BK167.out⟩
   have n2_ : Aside0 ((((w25.setCell ⟨gb175, 0, none⟩ (.int .i64 0)).setCell ⟨gb175, 1, none⟩ (.string (⟨#[]⟩ : ByteArray))).setCell ⟨gb175, 2, none⟩ (.slice none 0 0)).heap[gb175]? = some (.cells #[.int .i64 0, .string (⟨#[]⟩ : ByteArray), .slice none 0 0] 24 (0, 0))) := ⟨by refine bkq ?_; refine blk_put (cs := #[.int .i64 0, .string (⟨#[]⟩ : ByteArray), .slice Ao23 t170.length co23]) ?_ 2 _ rfl; refine bkq ?_; refine blk_put (cs := #[.int .i64 0, .string t169, .slice Ao23 t170.length co23]) ?_ 1 _ rfl; refine bkq ?_; refine blk_put (cs := #[.int .i64 t168, .string t169, .slice Ao23 t170.length co23]) ?_ 0 _ rfl; refine bkq ?_; exact BK175.out⟩
   have n3_ : Aside0 (Below w.heap.size w (((w25.setCell ⟨gb175, 0, none⟩ (.int .i64 0)).setCell ⟨gb175, 1, none⟩ (.string (⟨#[]⟩ : ByteArray))).setCell ⟨gb175, 2, none⟩ (.slice none 0 0))) := ⟨q0_⟩
   (try clear HO172)
   (try clear BK167)
   (try clear BK175)
   (try clear HB)
   generalize (((w25.setCell ⟨gb175, 0, none⟩ (.int .i64 0)).setCell ⟨gb175, 1, none⟩ (.string (⟨#[]⟩ : ByteArray))).setCell ⟨gb175, 2, none⟩ (.slice none 0 0)) = w29 at n0_ n1_ n2_ n3_ ⊢
   have HO172 := n0_
   have BK167 := n1_
   have BK175 := n2_
   have HB := n3_
   clear n0_ n1_ n2_ n3_
   have n0_ := Aside0.mk (Kd.R_drew HO172.out)
   have n1_ := Aside0.mk (blk_drew BK167.out)
   have n2_ := Aside0.mk (blk_drew BK175.out)
   have n3_ := Aside0.mk (below_drew1 HB.out)
   clear HO172
   clear BK167
   clear BK175
   clear HB
   have HO172 := n0_
   have BK167 := n1_
   have BK175 := n2_
   have HB := n3_
   clear n0_ n1_ n2_ n3_
   have CA17 := fun W (hG_ : GW G W) => tlv_told.calls (some (Er.form t173)) t178 W hG_ A17.out
   refine start_ (n := 5) (S := fun w' => w'.cell? ⟨gb175, 0, none⟩ = some (.int .i64 0) ∧ w'.cell? ⟨gb175, 1, none⟩ = some (.string (⟨#[]⟩ : ByteArray)) ∧ w'.cell? ⟨gb175, 2, none⟩ = some (.slice none 0 0)) (ds := []) #[false, false, false, false, false] (by kernel_rfl) rfl rfl ⟨(blk_cell BK175.out 0).trans rfl, (blk_cell BK175.out 1).trans rfl, (blk_cell BK175.out 2).trans rfl⟩ (fun hHeld => ?_)
   generalize w29.drew = w30 at HO172 BK167 BK175 HB hHeld ⊢
   refine pure_ (i := 1) (N := some 27) (v := ?_) (a' := ?_) #[false, true, false, false, false] rfl rfl (by kernel_rfl) (fun _ _ _ h => h) (Or.inl ⟨by rfl, ?_⟩) ?_ ?_
   rotate_left
   ·intro w'
    go_simp
    with_reducible rfl
   rotate_left
   ·exact putq
   refine take_ (i := 0) (N := some 26) (v := ?_) (a' := ?_) #[true, true, false, false, false] rfl rfl (by kernel_rfl) (fun _ _ _ h => h) (Or.inl ⟨by rfl, ?_⟩) hHeld ?_ ?_
   rotate_left
   ·rintro w' ⟨s0, s1, s2⟩
    go_simp
    with_reducible rfl
   rotate_left
   ·exact putq
   refine one_ (i := 2) (N := some 28) #[true, true, true, false, false] rfl rfl (by kernel_rfl) (by decide) (fun K hK => ?_)
   refine goes_ Tryd.func28 (by kernel_rfl) rfl #[errW G (some (Er.form t173))] (by rfl) rfl rfl argq ?_
   with_reducible refine (CA17 _ ?side1).mono ?_
   (case side1 => first | exact hG | exact GW.below hG q0_)
   rintro e w31 ⟨rfl, hb⟩
   refine ⟨_, rfl, ?_⟩
   have n0_ := Aside0.mk (Kd.R_below (rkq HO172.out) hb)
   have n1_ := Aside0.mk (blk_below (g := gb167) (o := .cells #[.int .i64 0, .string (⟨#[]⟩ : ByteArray), .slice none 0 0] 24 (0, 0)) (bkq BK167.out) hb)
   have n2_ := Aside0.mk (blk_below (g := gb175) (o := .cells #[.int .i64 0, .string (⟨#[]⟩ : ByteArray), .slice none 0 0] 24 (0, 0)) (bkq BK175.out) hb)
   have n3_ := Aside0.mk (below_step q0_ hb)
   clear HO172
   clear BK167
   clear BK175
   clear HB
   have HO172 := n0_
   have BK167 := n1_
   have BK175 := n2_
   have HB := n3_
   clear n0_ n1_ n2_ n3_
   (try clear hb)
   (try clear hb2)
   (try clear hk)
   (try clear hi)
   refine hK.out _ _ ⟨(blk_cell BK175.out 0).trans rfl, (blk_cell BK175.out 1).trans rfl, (blk_cell BK175.out 2).trans rfl⟩ (fun hHeld => ?_)
   clear hK K
   refine norm_ (a' := ?_) ?_ ?_
   rotate_left
   ·show Act.put _ (some 28) _ = _
    exact putq
   refine one_ (i := 3) (N := none) #[true, true, true, true, false] rfl rfl (by kernel_rfl) (by decide) (fun K hK => ?_)
   have hs32 : w31.cell? ⟨gb167, 0, none⟩ = some (.int .i64 0) := (blk_cell BK167.out 0).trans rfl
   have hfs32 := blk_frozen BK167.out 0
   have hns32_1 := NB175_167.out
   have hms32_1 := NB167_175.out
   have hs33 : w31.cell? ⟨gb167, 1, none⟩ = some (.string (⟨#[]⟩ : ByteArray)) := (blk_cell BK167.out 1).trans rfl
   have hfs33 := blk_frozen BK167.out 1
   have hns33_1 := NB175_167.out
   have hms33_1 := NB167_175.out
   have hs34 : w31.cell? ⟨gb167, 2, none⟩ = some (.slice none 0 0) := (blk_cell BK167.out 2).trans rfl
   have hfs34 := blk_frozen BK167.out 2
   have hns34_1 := NB175_167.out
   have hms34_1 := NB167_175.out
   refine skip_ (w1 := ?_) (by rfl) rfl ?_ ?_
   rotate_left
   ·go_simp
    rfl
   refine hK.out _ _ ⟨((cell_far (p := ⟨gb167, _, none⟩) NB175_167.out _).trans (((cell_far (p := ⟨gb167, _, none⟩) NB175_167.out _).trans (((cell_far (p := ⟨gb167, _, none⟩) NB175_167.out _).trans (hHeld.1)))))), ((cell_far (p := ⟨gb167, _, none⟩) NB175_167.out _).trans (((cell_far (p := ⟨gb167, _, none⟩) NB175_167.out _).trans (((cell_far (p := ⟨gb167, _, none⟩) NB175_167.out _).trans (hHeld.2.1)))))), ((cell_far (p := ⟨gb167, _, none⟩) NB175_167.out _).trans (((cell_far (p := ⟨gb167, _, none⟩) NB175_167.out _).trans (((cell_far (p := ⟨gb167, _, none⟩) NB175_167.out _).trans (hHeld.2.2))))))⟩ (fun hHeld => ?_)
   clear hK K
   refine pure_ (i := 4) (N := some 3) (v := ?_) (a' := ?_) #[true, true, true, true, true] rfl rfl (by kernel_rfl) (fun _ _ _ h => h) (Or.inl ⟨by rfl, ?_⟩) ?_ ?_
   rotate_left
   ·intro w'
    go_simp
    with_reducible rfl
   rotate_left
   ·exact putq
   refine done_ (by kernel_rfl) ?_
   try go_wp2
   refine bodyPost_ret (results_ct rfl _ _ gb167 24 #[.int .i64 0, .string (⟨#[]⟩ : ByteArray), .slice none 0 0] (0, 0) _ rfl (by refine bkq ?_; refine blk_put (cs := #[.int .i64 0, .string (⟨#[]⟩ : ByteArray), .slice none 0 0]) ?_ 2 _ rfl; refine bkq ?_; refine blk_put (cs := #[.int .i64 0, .string (⟨#[]⟩ : ByteArray), .slice none 0 0]) ?_ 1 _ rfl; refine bkq ?_; refine blk_put (cs := #[.int .i64 0, .string (⟨#[]⟩ : ByteArray), .slice none 0 0]) ?_ 0 _ rfl; refine bkq ?_; exact BK167.out) Tryd.underlying24 rfl (by kernel_rfl)) rfl ?_
   exact ⟨_, q2_, q8_, q0_⟩
 ·have H1 : ((tlv_told.f (some q176)).bind fun t179 => (some (t168, t169, t170, t179))) = some (r1, r2, r3, r4) := by rw [if_neg (show ¬ (some q176).isNone = true by simp)] at H; exact H
  clear H
  have H := H1
  clear H1
  try simp only [eW]
  replace H := Option.bind_eq_some_iff.mp H
  obtain ⟨t179, A350, H⟩ := H
  replace H : (some (t168, t169, t170, t179)) = some (r1, r2, r3, r4) := H
  have A35 := Aside0.mk A350
  clear A350
  simp only [Option.some.injEq, Prod.mk.injEq] at H
  obtain ⟨rfl, rfl, rfl, rfl⟩ := H
  go_enter Tryd.func19, Tryd.ntmps19
  try go_wp2_with (first | ((with_reducible refine gate_dst (N := 2) rfl ?_); (try (refine gate_guard (by rfl) ?_; dsimp only)); refine box_event ?hg (N := 2) ?hd (cs := #[.int .i64 0, .string (⟨#[]⟩ : ByteArray), .slice none 0 0]) (t := 24) ?hr ?_; (case hd => rfl); (case hg => rfl); (case hr => first | (go_simp; done) | (go_simp; rfl)); intro gb167 hg w36 hbox hb; have n0_ := Aside0.mk (below_step q0_ hb); have n1_ := Aside0.mk (hbox); have n2_ := Aside0.mk ((by rw [hg]; exact (below_size q0_) : w.heap.size ≤ gb167)); have n3_ := Aside0.mk ((by rw [hg]; exact (below_size q0_) : w.heap.size ≤ gb167)); clear HB; have HB := n0_; have BK167 := n1_; have GW167 := n2_; have GE167 := n3_; clear n0_ n1_ n2_ n3_; clear hb hbox hg) | ((with_reducible refine gate_callee (f := 31) rfl ?_); refine goesL_ (some 9) rfl rfl Tryd.func31 (by kernel_rfl) rfl #[.string a0, .int .i64 0] rfl argq ?_; (with_reducible refine (tlv_decoded.calls (G := G) k a0 0 t168 t169 t170 t173 (some q176) _ ?side1 A2.out).mono ?_); (case side1 => first | exact hG | exact GW.below hG q0_); rintro e w37 ⟨v171, rfl, ho0, hb⟩; refine ⟨_, rfl, ?_⟩; have n0_ := Aside0.mk (Kd.R_lower (Kd.R_newB ho0 (g := gb167) (o := .cells #[.int .i64 0, .string (⟨#[]⟩ : ByteArray), .slice none 0 0] 24 (0, 0)) (bkq BK167.out)) (below_size q0_)); have n1_ := Aside0.mk (blk_below (g := gb167) (o := .cells #[.int .i64 0, .string (⟨#[]⟩ : ByteArray), .slice none 0 0] 24 (0, 0)) (bkq BK167.out) hb); have n2_ := Aside0.mk (below_step q0_ hb); clear BK167; clear HB; have HO172 := n0_; have BK167 := n1_; have HB := n2_; clear n0_ n1_ n2_; (try clear hb); (try clear hb2); (try clear hk); (try clear hi); (try clear ho0); (try simp only [eW])) | ((with_reducible refine gate_dst (N := 4) rfl ?_); (try (refine gate_guard (by rfl) ?_; dsimp only)); refine box_event ?hg (N := 4) ?hd (cs := #[.int .i64 0, .string (⟨#[]⟩ : ByteArray), .slice none 0 0]) (t := 24) ?hr ?_; (case hd => rfl); (case hg => rfl); (case hr => first | (go_simp; done) | (go_simp; rfl)); intro gb175 hg w38 hbox hb; have n0_ := Aside0.mk (Kd.R_below (Kd.R_elderB (rkq HO172.out) gb175 (Nat.le_of_eq hg.symm)) hb); have n1_ := Aside0.mk (blk_below (g := gb167) (o := .cells #[.int .i64 0, .string (⟨#[]⟩ : ByteArray), .slice none 0 0] 24 (0, 0)) (bkq BK167.out) hb); have n2_ := Aside0.mk (below_step q0_ hb); have n3_ := Aside0.mk (hbox); have n4_ := Aside0.mk ((by rw [hg]; exact (below_size q0_) : w.heap.size ≤ gb175)); have n5_ := Aside0.mk ((by rw [hg]; exact (below_size q0_) : w.heap.size ≤ gb175)); have n6_ := Aside0.mk ((by rw [hg]; exact Nat.ne_of_lt (blk_lt (g := gb167) (o := .cells #[.int .i64 0, .string (⟨#[]⟩ : ByteArray), .slice none 0 0] 24 (0, 0)) (bkq BK167.out)) : gb167 ≠ gb175)); have n7_ := Aside0.mk ((by rw [hg]; exact Nat.ne_of_gt (blk_lt (g := gb167) (o := .cells #[.int .i64 0, .string (⟨#[]⟩ : ByteArray), .slice none 0 0] 24 (0, 0)) (bkq BK167.out)) : gb175 ≠ gb167)); clear HO172; clear BK167; clear HB; have HO172 := n0_; have BK167 := n1_; have HB := n2_; have BK175 := n3_; have GW175 := n4_; have GE175 := n5_; have NB167_175 := n6_; have NB175_167 := n7_; clear n0_ n1_ n2_ n3_ n4_ n5_ n6_ n7_; clear hb hbox hg; have hnb39 := NB175_167.out; have hnc39 := NB167_175.out; have hcz40_0 : w38.cell? ⟨gb175, 0, none⟩ = some (.int .i64 0) := (blk_cell BK175.out 0).trans rfl; have hcz40_1 : w38.cell? ⟨gb175, 1, none⟩ = some (.string (⟨#[]⟩ : ByteArray)) := (blk_cell BK175.out 1).trans rfl; have hcz40_2 : w38.cell? ⟨gb175, 2, none⟩ = some (.slice none 0 0) := (blk_cell BK175.out 2).trans rfl; have hfz40_0 := blk_frozen BK175.out 0; have hfz40_1 := blk_frozen BK175.out 1; have hfz40_2 := blk_frozen BK175.out 2; obtain ⟨Ao41, co41, eo41⟩ := Kd.R_slice HO172.out; subst eo41))
  have n0_ : Aside0 (Kd.R k24 24 (((w38.setCell ⟨gb175, 0, none⟩ (.int .i64 t168)).setCell ⟨gb175, 1, none⟩ (.string t169)).setCell ⟨gb175, 2, none⟩ (.slice Ao41 t170.length co41)) w.heap.size (fun k_ => k_ ≠ gb167 ∧ k_ ≠ gb175) (.slice Ao41 t170.length co41) t170) := ⟨by refine rkq ?_; exact Kd.R_mono (Kd.R_far (p := ⟨gb175, 2, none⟩) (Kd.R_far (p := ⟨gb175, 1, none⟩) (Kd.R_far (p := ⟨gb175, 0, none⟩) (Kd.R_mono HO172.out (fun k_ hk => (⟨hk, hk.2⟩ : _ ∧ k_ ≠ gb175))) (fun _ hk => hk.2) (.int .i64 t168)) (fun _ hk => hk.2) (.string t169)) (fun _ hk => hk.2) (.slice Ao41 t170.length co41)) (fun _ hk => ⟨hk.1.1.2, hk.1.2⟩)⟩
  have n1_ : Aside0 ((((w38.setCell ⟨gb175, 0, none⟩ (.int .i64 t168)).setCell ⟨gb175, 1, none⟩ (.string t169)).setCell ⟨gb175, 2, none⟩ (.slice Ao41 t170.length co41)).heap[gb167]? = some (.cells #[.int .i64 0, .string (⟨#[]⟩ : ByteArray), .slice none 0 0] 24 (0, 0))) := ⟨by refine bkq ?_; refine blk_far ?_ NB167_175.out _; refine bkq ?_; refine blk_far ?_ NB167_175.out _; refine bkq ?_; refine blk_far ?_ NB167_175.out _; refine bkq ?_; exact BK167.out⟩
  have n2_ : Aside0 ((((w38.setCell ⟨gb175, 0, none⟩ (.int .i64 t168)).setCell ⟨gb175, 1, none⟩ (.string t169)).setCell ⟨gb175, 2, none⟩ (.slice Ao41 t170.length co41)).heap[gb175]? = some (.cells #[.int .i64 t168, .string t169, .slice Ao41 t170.length co41] 24 (0, 0))) := ⟨by refine bkq ?_; refine blk_put (cs := #[.int .i64 t168, .string t169, .slice none 0 0]) ?_ 2 _ rfl; refine bkq ?_; refine blk_put (cs := #[.int .i64 t168, .string (⟨#[]⟩ : ByteArray), .slice none 0 0]) ?_ 1 _ rfl; refine bkq ?_; refine blk_put (cs := #[.int .i64 0, .string (⟨#[]⟩ : ByteArray), .slice none 0 0]) ?_ 0 _ rfl; refine bkq ?_; exact BK175.out⟩
  have n3_ : Aside0 (Below w.heap.size w (((w38.setCell ⟨gb175, 0, none⟩ (.int .i64 t168)).setCell ⟨gb175, 1, none⟩ (.string t169)).setCell ⟨gb175, 2, none⟩ (.slice Ao41 t170.length co41))) := ⟨q0_⟩
  (try clear HO172)
  (try clear BK167)
  (try clear BK175)
  (try clear HB)
  generalize (((w38.setCell ⟨gb175, 0, none⟩ (.int .i64 t168)).setCell ⟨gb175, 1, none⟩ (.string t169)).setCell ⟨gb175, 2, none⟩ (.slice Ao41 t170.length co41)) = w42 at n0_ n1_ n2_ n3_ ⊢
  have HO172 := n0_
  have BK167 := n1_
  have BK175 := n2_
  have HB := n3_
  clear n0_ n1_ n2_ n3_
  have n0_ := Aside0.mk (Kd.R_drew HO172.out)
  have n1_ := Aside0.mk (blk_drew BK167.out)
  have n2_ := Aside0.mk (blk_drew BK175.out)
  have n3_ := Aside0.mk (below_drew1 HB.out)
  clear HO172
  clear BK167
  clear BK175
  clear HB
  have HO172 := n0_
  have BK167 := n1_
  have BK175 := n2_
  have HB := n3_
  clear n0_ n1_ n2_ n3_
  have CA35 := fun W (hG_ : GW G W) => tlv_told.calls (some q176) t179 W hG_ A35.out
  refine start_ (n := 5) (S := fun w' => w'.cell? ⟨gb175, 0, none⟩ = some (.int .i64 t168) ∧ w'.cell? ⟨gb175, 1, none⟩ = some (.string t169) ∧ w'.cell? ⟨gb175, 2, none⟩ = some (.slice Ao41 t170.length co41)) (ds := []) #[false, false, false, false, false] (by kernel_rfl) rfl rfl ⟨(blk_cell BK175.out 0).trans rfl, (blk_cell BK175.out 1).trans rfl, (blk_cell BK175.out 2).trans rfl⟩ (fun hHeld => ?_)
  generalize w42.drew = w43 at HO172 BK167 BK175 HB hHeld ⊢
  refine pure_ (i := 1) (N := some 27) (v := ?_) (a' := ?_) #[false, true, false, false, false] rfl rfl (by kernel_rfl) (fun _ _ _ h => h) (Or.inl ⟨by rfl, ?_⟩) ?_ ?_
  rotate_left
  ·intro w'
   go_simp
   with_reducible rfl
  rotate_left
  ·exact putq
  refine take_ (i := 0) (N := some 26) (v := ?_) (a' := ?_) #[true, true, false, false, false] rfl rfl (by kernel_rfl) (fun _ _ _ h => h) (Or.inl ⟨by rfl, ?_⟩) hHeld ?_ ?_
  rotate_left
  ·rintro w' ⟨s0, s1, s2⟩
   go_simp
   with_reducible rfl
  rotate_left
  ·exact putq
  refine one_ (i := 2) (N := some 28) #[true, true, true, false, false] rfl rfl (by kernel_rfl) (by decide) (fun K hK => ?_)
  refine goes_ Tryd.func28 (by kernel_rfl) rfl #[errW G (some q176)] (by rfl) rfl rfl argq ?_
  with_reducible refine (CA35 _ ?side1).mono ?_
  (case side1 => first | exact hG | exact GW.below hG q0_)
  rintro e w44 ⟨rfl, hb⟩
  refine ⟨_, rfl, ?_⟩
  have n0_ := Aside0.mk (Kd.R_below (rkq HO172.out) hb)
  have n1_ := Aside0.mk (blk_below (g := gb167) (o := .cells #[.int .i64 0, .string (⟨#[]⟩ : ByteArray), .slice none 0 0] 24 (0, 0)) (bkq BK167.out) hb)
  have n2_ := Aside0.mk (blk_below (g := gb175) (o := .cells #[.int .i64 t168, .string t169, .slice Ao41 t170.length co41] 24 (0, 0)) (bkq BK175.out) hb)
  have n3_ := Aside0.mk (below_step q0_ hb)
  clear HO172
  clear BK167
  clear BK175
  clear HB
  have HO172 := n0_
  have BK167 := n1_
  have BK175 := n2_
  have HB := n3_
  clear n0_ n1_ n2_ n3_
  (try clear hb)
  (try clear hb2)
  (try clear hk)
  (try clear hi)
  refine hK.out _ _ ⟨(blk_cell BK175.out 0).trans rfl, (blk_cell BK175.out 1).trans rfl, (blk_cell BK175.out 2).trans rfl⟩ (fun hHeld => ?_)
  clear hK K
  refine norm_ (a' := ?_) ?_ ?_
  rotate_left
  ·show Act.put _ (some 28) _ = _
   exact putq
  refine one_ (i := 3) (N := none) #[true, true, true, true, false] rfl rfl (by kernel_rfl) (by decide) (fun K hK => ?_)
  have hs45 : w44.cell? ⟨gb167, 0, none⟩ = some (.int .i64 0) := (blk_cell BK167.out 0).trans rfl
  have hfs45 := blk_frozen BK167.out 0
  have hns45_1 := NB175_167.out
  have hms45_1 := NB167_175.out
  have hs46 : w44.cell? ⟨gb167, 1, none⟩ = some (.string (⟨#[]⟩ : ByteArray)) := (blk_cell BK167.out 1).trans rfl
  have hfs46 := blk_frozen BK167.out 1
  have hns46_1 := NB175_167.out
  have hms46_1 := NB167_175.out
  have hs47 : w44.cell? ⟨gb167, 2, none⟩ = some (.slice none 0 0) := (blk_cell BK167.out 2).trans rfl
  have hfs47 := blk_frozen BK167.out 2
  have hns47_1 := NB175_167.out
  have hms47_1 := NB167_175.out
  refine skip_ (w1 := ?_) (by rfl) rfl ?_ ?_
  rotate_left
  ·go_simp
   rfl
  refine hK.out _ _ ⟨((cell_far (p := ⟨gb167, _, none⟩) NB175_167.out _).trans (((cell_far (p := ⟨gb167, _, none⟩) NB175_167.out _).trans (((cell_far (p := ⟨gb167, _, none⟩) NB175_167.out _).trans (hHeld.1)))))), ((cell_far (p := ⟨gb167, _, none⟩) NB175_167.out _).trans (((cell_far (p := ⟨gb167, _, none⟩) NB175_167.out _).trans (((cell_far (p := ⟨gb167, _, none⟩) NB175_167.out _).trans (hHeld.2.1)))))), ((cell_far (p := ⟨gb167, _, none⟩) NB175_167.out _).trans (((cell_far (p := ⟨gb167, _, none⟩) NB175_167.out _).trans (((cell_far (p := ⟨gb167, _, none⟩) NB175_167.out _).trans (hHeld.2.2))))))⟩ (fun hHeld => ?_)
  clear hK K
  refine pure_ (i := 4) (N := some 3) (v := ?_) (a' := ?_) #[true, true, true, true, true] rfl rfl (by kernel_rfl) (fun _ _ _ h => h) (Or.inl ⟨by rfl, ?_⟩) ?_ ?_
  rotate_left
  ·intro w'
   go_simp
   with_reducible rfl
  rotate_left
  ·exact putq
  refine done_ (by kernel_rfl) ?_
  try go_wp2
  refine bodyPost_ret (results_ct rfl _ _ gb167 24 #[.int .i64 t168, .string t169, .slice Ao41 t170.length co41] (0, 0) _ rfl (by refine bkq ?_; refine blk_put (cs := #[.int .i64 t168, .string t169, .slice none 0 0]) ?_ 2 _ rfl; refine bkq ?_; refine blk_put (cs := #[.int .i64 t168, .string (⟨#[]⟩ : ByteArray), .slice none 0 0]) ?_ 1 _ rfl; refine bkq ?_; refine blk_put (cs := #[.int .i64 0, .string (⟨#[]⟩ : ByteArray), .slice none 0 0]) ?_ 0 _ rfl; refine bkq ?_; exact BK167.out) Tryd.underlying24 rfl (by kernel_rfl)) rfl ?_
  exact ⟨_, q2_, by refine rkq ?_; exact Kd.R_mono (Kd.R_far (p := ⟨gb167, 2, none⟩) (Kd.R_far (p := ⟨gb167, 1, none⟩) (Kd.R_far (p := ⟨gb167, 0, none⟩) (Kd.R_mono HO172.out (fun k_ hk => (⟨hk, hk.1⟩ : _ ∧ k_ ≠ gb167))) (fun _ hk => hk.2) (.int .i64 t168)) (fun _ hk => hk.2) (.string t169)) (fun _ hk => hk.2) (.slice Ao41 t170.length co41)) (fun _ hk => trivial), q0_⟩
def latinerlaw02_shown.f (k : Nat)  : Option (Bool) := (some (([(⟨2, (⟨#[5]⟩ : ByteArray), ([] : List (S24))⟩ : S24), (⟨4, (⟨#[104, 105]⟩ : ByteArray), ([] : List (S24))⟩ : S24)] : List (S24)) : List (S24))).bind fun y180 => ((tlv_Encode.f 48 (⟨#[]⟩ : ByteArray) y180).bind fun bt184 => ((tlv_Whole.f k (⟨#[48, 129, 7, 2, 1, 5, 4, 2, 104, 105]⟩ : ByteArray)).bind fun bt186 => ((tlv_Decode.f k (⟨#[31, 0]⟩ : ByteArray) 0).bind fun bt193 => ((tlv_Encode.f 4 (⟨#[]⟩ : ByteArray) y180).bind fun bt201 => ((tlv_Whole.f k (⟨#[48, 2, 4, 1, 97]⟩ : ByteArray)).bind fun bt203 => (if bt184.1.toList = ([48, 7, 2, 1, 5, 4, 2, 104, 105] : List UInt8) then (if bt184.2 = 0 then (if bt186.2.2.2 = 0 then ((tlv_Same.f 48 (⟨#[]⟩ : ByteArray) y180 bt186.1 bt186.2.1 bt186.2.2.1).bind fun t210 => (if t210 = true then (if bt193.2.2.2.2 = 20 then (if bt201.2 = 21 then (some (bt203.2.2.2 == 10)) else (none)) else (none)) else (none))) else (none)) else (none)) else (none)))))))
theorem latinerlaw02_shown.mono : ∀ k, LeO (latinerlaw02_shown.f k ) (latinerlaw02_shown.f (k + 1) ) := by
 intro  k
 unfold latinerlaw02_shown.f
 repeat' first
   | (with_reducible exact tlv_Decode.mono _ _ _)
   | (with_reducible exact tlv_Whole.mono _ _)
   | (with_reducible exact LeO.refl _)
   | (with_reducible exact LeO.none _)
   | (with_reducible refine LeO.ite ?_ ?_)
   | (with_reducible refine LeO.bind ?_ (fun _ => ?_))
   | exact tlv_Decode.mono _ _ _
   | exact tlv_Whole.mono _ _
   | exact LeO.none _
   | refine LeO.ite ?_ ?_
   | refine LeO.bind ?_ (fun _ => ?_)
set_option maxHeartbeats 8000000 in
set_option maxRecDepth 100000 in
theorem latinerlaw02_shown.calls (k : Nat)  (r : Bool) (w : World) (hG : GW G w) (h : latinerlaw02_shown.f k  = some r) :
  Calls Tryd.prog 12 #[] w fun e w' => e = .returned (.bool r) ∧ Below w.heap.size w w' := by
 have hu24 := Tryd.underlying24
 have HB := Aside0.mk (Below.refl w.heap.size w)
 have H : ((some (([(⟨2, (⟨#[5]⟩ : ByteArray), ([] : List (S24))⟩ : S24), (⟨4, (⟨#[104, 105]⟩ : ByteArray), ([] : List (S24))⟩ : S24)] : List (S24)) : List (S24))).bind fun y180 => ((tlv_Encode.f 48 (⟨#[]⟩ : ByteArray) y180).bind fun bt184 => ((tlv_Whole.f k (⟨#[48, 129, 7, 2, 1, 5, 4, 2, 104, 105]⟩ : ByteArray)).bind fun bt186 => ((tlv_Decode.f k (⟨#[31, 0]⟩ : ByteArray) 0).bind fun bt193 => ((tlv_Encode.f 4 (⟨#[]⟩ : ByteArray) y180).bind fun bt201 => ((tlv_Whole.f k (⟨#[48, 2, 4, 1, 97]⟩ : ByteArray)).bind fun bt203 => (if bt184.1.toList = ([48, 7, 2, 1, 5, 4, 2, 104, 105] : List UInt8) then (if bt184.2 = 0 then (if bt186.2.2.2 = 0 then ((tlv_Same.f 48 (⟨#[]⟩ : ByteArray) y180 bt186.1 bt186.2.1 bt186.2.2.1).bind fun t210 => (if t210 = true then (if bt193.2.2.2.2 = 20 then (if bt201.2 = 21 then (some (bt203.2.2.2 == 10)) else (none)) else (none)) else (none))) else (none)) else (none)) else (none)))))))) = some r := h
 clear h
 obtain ⟨y180, hy180⟩ : ∃ y_ : List (S24), y_ = (([(⟨2, (⟨#[5]⟩ : ByteArray), ([] : List (S24))⟩ : S24), (⟨4, (⟨#[104, 105]⟩ : ByteArray), ([] : List (S24))⟩ : S24)] : List (S24))) := ⟨_, rfl⟩
 replace H : ((tlv_Encode.f 48 (⟨#[]⟩ : ByteArray) y180).bind fun bt184 => ((tlv_Whole.f k (⟨#[48, 129, 7, 2, 1, 5, 4, 2, 104, 105]⟩ : ByteArray)).bind fun bt186 => ((tlv_Decode.f k (⟨#[31, 0]⟩ : ByteArray) 0).bind fun bt193 => ((tlv_Encode.f 4 (⟨#[]⟩ : ByteArray) y180).bind fun bt201 => ((tlv_Whole.f k (⟨#[48, 2, 4, 1, 97]⟩ : ByteArray)).bind fun bt203 => (if bt184.1.toList = ([48, 7, 2, 1, 5, 4, 2, 104, 105] : List UInt8) then (if bt184.2 = 0 then (if bt186.2.2.2 = 0 then ((tlv_Same.f 48 (⟨#[]⟩ : ByteArray) y180 bt186.1 bt186.2.1 bt186.2.2.1).bind fun t210 => (if t210 = true then (if bt193.2.2.2.2 = 20 then (if bt201.2 = 21 then (some (bt203.2.2.2 == 10)) else (none)) else (none)) else (none))) else (none)) else (none)) else (none))))))) = some r := by first | (rw [hy180]; with_reducible exact H) | (have H2_ := (Option.bind_some _ _).symm.trans H; rw [hy180]; with_reducible exact H2_) | (have H2_ := (Option.bind_some _ _).symm.trans H; with_reducible exact H2_) | with_reducible exact H | (rw [hy180]; exact H) | exact H
 have Ny180 := Aside0.mk hy180
 clear hy180
 replace H := Option.bind_eq_some_iff.mp H
 obtain ⟨⟨t184, t185⟩, A10, H⟩ := H
 replace H : ((tlv_Whole.f k (⟨#[48, 129, 7, 2, 1, 5, 4, 2, 104, 105]⟩ : ByteArray)).bind fun bt186 => ((tlv_Decode.f k (⟨#[31, 0]⟩ : ByteArray) 0).bind fun bt193 => ((tlv_Encode.f 4 (⟨#[]⟩ : ByteArray) y180).bind fun bt201 => ((tlv_Whole.f k (⟨#[48, 2, 4, 1, 97]⟩ : ByteArray)).bind fun bt203 => (if t184.toList = ([48, 7, 2, 1, 5, 4, 2, 104, 105] : List UInt8) then (if t185 = 0 then (if bt186.2.2.2 = 0 then ((tlv_Same.f 48 (⟨#[]⟩ : ByteArray) y180 bt186.1 bt186.2.1 bt186.2.2.1).bind fun t210 => (if t210 = true then (if bt193.2.2.2.2 = 20 then (if bt201.2 = 21 then (some (bt203.2.2.2 == 10)) else (none)) else (none)) else (none))) else (none)) else (none)) else (none)))))) = some r := H
 have A1 := Aside0.mk A10
 clear A10
 replace H := Option.bind_eq_some_iff.mp H
 obtain ⟨⟨t186, t187, t188, t191⟩, A20, H⟩ := H
 replace H : ((tlv_Decode.f k (⟨#[31, 0]⟩ : ByteArray) 0).bind fun bt193 => ((tlv_Encode.f 4 (⟨#[]⟩ : ByteArray) y180).bind fun bt201 => ((tlv_Whole.f k (⟨#[48, 2, 4, 1, 97]⟩ : ByteArray)).bind fun bt203 => (if t184.toList = ([48, 7, 2, 1, 5, 4, 2, 104, 105] : List UInt8) then (if t185 = 0 then (if t191 = 0 then ((tlv_Same.f 48 (⟨#[]⟩ : ByteArray) y180 t186 t187 t188).bind fun t210 => (if t210 = true then (if bt193.2.2.2.2 = 20 then (if bt201.2 = 21 then (some (bt203.2.2.2 == 10)) else (none)) else (none)) else (none))) else (none)) else (none)) else (none))))) = some r := H
 have A2 := Aside0.mk A20
 clear A20
 replace H := Option.bind_eq_some_iff.mp H
 obtain ⟨⟨t193, t194, t195, t198, t199⟩, A30, H⟩ := H
 replace H : ((tlv_Encode.f 4 (⟨#[]⟩ : ByteArray) y180).bind fun bt201 => ((tlv_Whole.f k (⟨#[48, 2, 4, 1, 97]⟩ : ByteArray)).bind fun bt203 => (if t184.toList = ([48, 7, 2, 1, 5, 4, 2, 104, 105] : List UInt8) then (if t185 = 0 then (if t191 = 0 then ((tlv_Same.f 48 (⟨#[]⟩ : ByteArray) y180 t186 t187 t188).bind fun t210 => (if t210 = true then (if t199 = 20 then (if bt201.2 = 21 then (some (bt203.2.2.2 == 10)) else (none)) else (none)) else (none))) else (none)) else (none)) else (none)))) = some r := H
 have A3 := Aside0.mk A30
 clear A30
 replace H := Option.bind_eq_some_iff.mp H
 obtain ⟨⟨t201, t202⟩, A40, H⟩ := H
 replace H : ((tlv_Whole.f k (⟨#[48, 2, 4, 1, 97]⟩ : ByteArray)).bind fun bt203 => (if t184.toList = ([48, 7, 2, 1, 5, 4, 2, 104, 105] : List UInt8) then (if t185 = 0 then (if t191 = 0 then ((tlv_Same.f 48 (⟨#[]⟩ : ByteArray) y180 t186 t187 t188).bind fun t210 => (if t210 = true then (if t199 = 20 then (if t202 = 21 then (some (bt203.2.2.2 == 10)) else (none)) else (none)) else (none))) else (none)) else (none)) else (none))) = some r := H
 have A4 := Aside0.mk A40
 clear A40
 replace H := Option.bind_eq_some_iff.mp H
 obtain ⟨⟨t203, t204, t205, t208⟩, A50, H⟩ := H
 replace H : (if t184.toList = ([48, 7, 2, 1, 5, 4, 2, 104, 105] : List UInt8) then (if t185 = 0 then (if t191 = 0 then ((tlv_Same.f 48 (⟨#[]⟩ : ByteArray) y180 t186 t187 t188).bind fun t210 => (if t210 = true then (if t199 = 20 then (if t202 = 21 then (some (t208 == 10)) else (none)) else (none)) else (none))) else (none)) else (none)) else (none)) = some r := H
 have A5 := Aside0.mk A50
 clear A50
 by_cases c6 : t184.toList = ([48, 7, 2, 1, 5, 4, 2, 104, 105] : List UInt8)
 ·rw [if_pos c6] at H
  have c6b0 : (t184.toList == ([48, 7, 2, 1, 5, 4, 2, 104, 105] : List UInt8)) = true := beq_iff_eq.mpr c6
  have c6b1 : (t184.toList != ([48, 7, 2, 1, 5, 4, 2, 104, 105] : List UInt8)) = false := bne_eq_false_iff_eq.mpr c6
  clear c6
  by_cases c7 : t185 = 0
  ·rw [if_pos c7] at H
   have c7b0 : (t185 == 0) = true := beq_iff_eq.mpr c7
   have c7b1 : (t185 != 0) = false := bne_eq_false_iff_eq.mpr c7
   clear c7
   by_cases c8 : t191 = 0
   ·rw [if_pos c8] at H
    have c8b0 : (t191 == 0) = true := beq_iff_eq.mpr c8
    have c8b1 : (t191 != 0) = false := bne_eq_false_iff_eq.mpr c8
    clear c8
    replace H := Option.bind_eq_some_iff.mp H
    obtain ⟨t210, A90, H⟩ := H
    replace H : (if t210 = true then (if t199 = 20 then (if t202 = 21 then (some (t208 == 10)) else (none)) else (none)) else (none)) = some r := H
    have A9 := Aside0.mk A90
    clear A90
    by_cases c10 : t210 = true
    ·subst c10
     have H1 : (if t199 = 20 then (if t202 = 21 then (some (t208 == 10)) else (none)) else (none)) = some r := by rw [if_pos rfl] at H; exact H
     clear H
     have H := H1
     clear H1
     by_cases c11 : t199 = 20
     ·rw [if_pos c11] at H
      have c11b0 : (t199 == 20) = true := beq_iff_eq.mpr c11
      have c11b1 : (t199 != 20) = false := bne_eq_false_iff_eq.mpr c11
      clear c11
      by_cases c12 : t202 = 21
      ·rw [if_pos c12] at H
       have c12b0 : (t202 == 21) = true := beq_iff_eq.mpr c12
       have c12b1 : (t202 != 21) = false := bne_eq_false_iff_eq.mpr c12
       clear c12
       obtain rfl := Option.some.inj H
       go_enter Tryd.func12, Tryd.ntmps12
       go_wp2_with (first | ((with_reducible refine gate_dst (N := 15) rfl ?_); refine Kd.R_lit k24 _ 24 ?hg (N := 15) ?hd (xs := ([(⟨2, (⟨#[5]⟩ : ByteArray), ([] : List (S24))⟩ : S24), (⟨4, (⟨#[104, 105]⟩ : ByteArray), ([] : List (S24))⟩ : S24)] : List (S24))) (inner := [.int .i64 2, .string (⟨#[5]⟩ : ByteArray), .slice none 0 0, .int .i64 4, .string (⟨#[104, 105]⟩ : ByteArray), .slice none 0 0]) (ok := fun _ => True) (okp := fun _ => True) ?hr ?hp (fun _ hk => hk) trivial (Below.refl _ _) (Nat.le_refl _) (by simp) ?_; (case hd => rfl); (case hg => rfl); (case hr => first | (go_simp; done) | (go_simp; rfl)); (case hp => exact (Reps.c3 (show Kd.M k24 _ _ _ (⟨2, (⟨#[5]⟩ : ByteArray), ([] : List (S24))⟩ : S24) [.int .i64 2, .string (⟨#[5]⟩ : ByteArray), .slice none 0 0] from (k24_mkM _ _ _ (⟨2, (⟨#[5]⟩ : ByteArray), ([] : List (S24))⟩ : S24) (Kd.R_nil _ _ _ _ _))) (Reps.c3 (show Kd.M k24 _ _ _ (⟨4, (⟨#[104, 105]⟩ : ByteArray), ([] : List (S24))⟩ : S24) [.int .i64 4, .string (⟨#[104, 105]⟩ : ByteArray), .slice none 0 0] from (k24_mkM _ _ _ (⟨4, (⟨#[104, 105]⟩ : ByteArray), ([] : List (S24))⟩ : S24) (Kd.R_nil _ _ _ _ _))) (Reps.none _ _)))); intro v181 w13 ho14 hb hg_ hnew_; clear hg_ hnew_; (first | rw [← Ny180.out] at ho14 | (simp only [Int.reduceToNat] at ho14; rw [← Ny180.out] at ho14)); have n0_ := Aside0.mk (Kd.R_lower ho14 (below_size q0_)); have n1_ := Aside0.mk (below_step q0_ hb); clear HB; have HO182 := n0_; have HB := n1_; clear n0_ n1_; clear hb ho14; obtain ⟨Ao15, co15, eo15⟩ := Kd.R_slice HO182.out; subst eo15) | ((with_reducible refine gate_dst (N := 1) rfl ?_); refine box_event ?hg (N := 1) ?hd (cs := #[.int .i64 0, .string (⟨#[]⟩ : ByteArray), .slice none 0 0]) (t := 24) ?hr ?_; (case hd => rfl); (case hg => rfl); (case hr => first | (go_simp; done) | (go_simp; rfl)); intro gb183 hg w16 hbox hb; have n0_ := Aside0.mk (Kd.R_below (Kd.R_elderB (rkq HO182.out) gb183 (Nat.le_of_eq hg.symm)) hb); have n1_ := Aside0.mk (below_step q0_ hb); have n2_ := Aside0.mk (hbox); have n3_ := Aside0.mk ((by rw [hg]; exact (below_size q0_) : w.heap.size ≤ gb183)); have n4_ := Aside0.mk ((by rw [hg]; exact (below_size q0_) : w.heap.size ≤ gb183)); clear HO182; clear HB; have HO182 := n0_; have HB := n1_; have BK183 := n2_; have GW183 := n3_; have GE183 := n4_; clear n0_ n1_ n2_ n3_ n4_; clear hb hbox hg; have hcz17_0 : w16.cell? ⟨gb183, 0, none⟩ = some (.int .i64 0) := (blk_cell BK183.out 0).trans rfl; have hcz17_1 : w16.cell? ⟨gb183, 1, none⟩ = some (.string (⟨#[]⟩ : ByteArray)) := (blk_cell BK183.out 1).trans rfl; have hcz17_2 : w16.cell? ⟨gb183, 2, none⟩ = some (.slice none 0 0) := (blk_cell BK183.out 2).trans rfl; have hfz17_0 := blk_frozen BK183.out 0; have hfz17_1 := blk_frozen BK183.out 1; have hfz17_2 := blk_frozen BK183.out 2) | ((with_reducible refine gate_callee (f := 15) rfl ?_); refine goesL_ (some 19) rfl rfl Tryd.func15 (by kernel_rfl) rfl #[.agg #[.int .i64 48, .string (⟨#[]⟩ : ByteArray), .slice Ao15 y180.length co15]] rfl argq ?_; (with_reducible refine (tlv_Encode.calls (G := G) 48 (⟨#[]⟩ : ByteArray) _ _ y180 t184 t185 _ ?side1 ?side2 ?side3 A1.out).mono ?_); (case side1 => refine (Kd.R_reads' (e := 24) (base := w.heap.size) (ok := fun k_ => (True ∧ k_ ≠ gb183)) (n := y180.length) (c := co15) ?_).2.2; exact (by refine rkq ?_; exact (Kd.R_mono (Kd.R_far (p := ⟨gb183, 2, none⟩) (Kd.R_far (p := ⟨gb183, 1, none⟩) (Kd.R_far (p := ⟨gb183, 0, none⟩) (Kd.R_mono HO182.out (fun k_ hk => (⟨hk, hk.2⟩ : _ ∧ k_ ≠ gb183))) (fun _ hk => hk.2) (.int .i64 48)) (fun _ hk => hk.2) (.string (⟨#[]⟩ : ByteArray))) (fun _ hk => hk.2) (.slice Ao15 y180.length co15)) (fun _ h_ => h_.1)))); (case side2 => exact (Kd.R_reads' HO182.out).2.1); (case side3 => first | exact hG | exact GW.below hG q0_); rintro e w18 ⟨rfl, hb⟩; refine ⟨_, rfl, ?_⟩; have n0_ := Aside0.mk (Kd.R_below (by refine rkq ?_; exact (Kd.R_mono (Kd.R_far (p := ⟨gb183, 2, none⟩) (Kd.R_far (p := ⟨gb183, 1, none⟩) (Kd.R_far (p := ⟨gb183, 0, none⟩) (Kd.R_mono HO182.out (fun k_ hk => (⟨hk, hk.2⟩ : _ ∧ k_ ≠ gb183))) (fun _ hk => hk.2) (.int .i64 48)) (fun _ hk => hk.2) (.string (⟨#[]⟩ : ByteArray))) (fun _ hk => hk.2) (.slice Ao15 y180.length co15)) (fun _ h_ => h_.1))) hb); have n1_ := Aside0.mk (blk_below (g := gb183) (o := .cells #[.int .i64 48, .string (⟨#[]⟩ : ByteArray), .slice Ao15 y180.length co15] 24 (0, 0)) (by refine bkq ?_; refine blk_put (cs := #[.int .i64 48, .string (⟨#[]⟩ : ByteArray), .slice none 0 0]) ?_ 2 _ rfl; refine bkq ?_; refine blk_put (cs := #[.int .i64 48, .string (⟨#[]⟩ : ByteArray), .slice none 0 0]) ?_ 1 _ rfl; refine bkq ?_; refine blk_put (cs := #[.int .i64 0, .string (⟨#[]⟩ : ByteArray), .slice none 0 0]) ?_ 0 _ rfl; refine bkq ?_; exact BK183.out) hb); have n2_ := Aside0.mk (below_step q0_ hb); clear HO182; clear BK183; clear HB; have HO182 := n0_; have BK183 := n1_; have HB := n2_; clear n0_ n1_ n2_; (try clear hb); (try clear hb2); (try clear hk); (try clear hi)) | ((with_reducible refine gate_callee (f := 19) rfl ?_); refine goesL_ (some 23) rfl rfl Tryd.func19 (by kernel_rfl) rfl #[.string (⟨#[48, 129, 7, 2, 1, 5, 4, 2, 104, 105]⟩ : ByteArray)] rfl argq ?_; (with_reducible refine (tlv_Whole.calls (G := G) k (⟨#[48, 129, 7, 2, 1, 5, 4, 2, 104, 105]⟩ : ByteArray) t186 t187 t188 t191 _ ?side1 A2.out).mono ?_); (case side1 => first | exact hG | exact GW.below hG q0_); rintro e w19 ⟨v189, rfl, ho0, hb⟩; refine ⟨_, rfl, ?_⟩; have n0_ := Aside0.mk (Kd.R_elder' (rkq HO182.out) (Kd.R_base ho0) hb); have n1_ := Aside0.mk (Kd.R_lower (Kd.R_newB (Kd.R_new' ho0 (Kd.R_lt (rkq HO182.out))) (g := gb183) (o := .cells #[.int .i64 48, .string (⟨#[]⟩ : ByteArray), .slice Ao15 y180.length co15] 24 (0, 0)) (bkq BK183.out)) (below_size q0_)); have n2_ := Aside0.mk (blk_below (g := gb183) (o := .cells #[.int .i64 48, .string (⟨#[]⟩ : ByteArray), .slice Ao15 y180.length co15] 24 (0, 0)) (bkq BK183.out) hb); have n3_ := Aside0.mk (below_step q0_ hb); clear HO182; clear BK183; clear HB; have HO182 := n0_; have HO190 := n1_; have BK183 := n2_; have HB := n3_; clear n0_ n1_ n2_ n3_; (try clear hb); (try clear hb2); (try clear hk); (try clear hi); (try clear ho0)) | ((with_reducible refine gate_dst (N := 4) rfl ?_); refine box_event ?hg (N := 4) ?hd (cs := #[.int .i64 0, .string (⟨#[]⟩ : ByteArray), .slice none 0 0]) (t := 24) ?hr ?_; (case hd => rfl); (case hg => rfl); (case hr => first | (go_simp; done) | (go_simp; rfl)); intro gb192 hg w20 hbox hb; have n0_ := Aside0.mk (Kd.R_below (Kd.R_elderB (rkq HO182.out) gb192 (Nat.le_of_eq hg.symm)) hb); have n1_ := Aside0.mk (Kd.R_below (Kd.R_elderB (rkq HO190.out) gb192 (Nat.le_of_eq hg.symm)) hb); have n2_ := Aside0.mk (blk_below (g := gb183) (o := .cells #[.int .i64 48, .string (⟨#[]⟩ : ByteArray), .slice Ao15 y180.length co15] 24 (0, 0)) (bkq BK183.out) hb); have n3_ := Aside0.mk (below_step q0_ hb); have n4_ := Aside0.mk (hbox); have n5_ := Aside0.mk ((by rw [hg]; exact (below_size q0_) : w.heap.size ≤ gb192)); have n6_ := Aside0.mk ((by rw [hg]; exact (below_size q0_) : w.heap.size ≤ gb192)); have n7_ := Aside0.mk ((by rw [hg]; exact Nat.ne_of_lt (blk_lt (g := gb183) (o := .cells #[.int .i64 48, .string (⟨#[]⟩ : ByteArray), .slice Ao15 y180.length co15] 24 (0, 0)) (bkq BK183.out)) : gb183 ≠ gb192)); have n8_ := Aside0.mk ((by rw [hg]; exact Nat.ne_of_gt (blk_lt (g := gb183) (o := .cells #[.int .i64 48, .string (⟨#[]⟩ : ByteArray), .slice Ao15 y180.length co15] 24 (0, 0)) (bkq BK183.out)) : gb192 ≠ gb183)); clear HO182; clear HO190; clear BK183; clear HB; have HO182 := n0_; have HO190 := n1_; have BK183 := n2_; have HB := n3_; have BK192 := n4_; have GW192 := n5_; have GE192 := n6_; have NB183_192 := n7_; have NB192_183 := n8_; clear n0_ n1_ n2_ n3_ n4_ n5_ n6_ n7_ n8_; clear hb hbox hg; have hnb21 := NB192_183.out; have hnc21 := NB183_192.out; have hcz22_0 : w20.cell? ⟨gb192, 0, none⟩ = some (.int .i64 0) := (blk_cell BK192.out 0).trans rfl; have hcz22_1 : w20.cell? ⟨gb192, 1, none⟩ = some (.string (⟨#[]⟩ : ByteArray)) := (blk_cell BK192.out 1).trans rfl; have hcz22_2 : w20.cell? ⟨gb192, 2, none⟩ = some (.slice none 0 0) := (blk_cell BK192.out 2).trans rfl; have hfz22_0 := blk_frozen BK192.out 0; have hfz22_1 := blk_frozen BK192.out 1; have hfz22_2 := blk_frozen BK192.out 2; obtain ⟨Ao23, co23, eo23⟩ := Kd.R_slice HO190.out; subst eo23) | ((with_reducible refine gate_callee (f := 17) rfl ?_); refine goesL_ (some 27) rfl rfl Tryd.func17 (by kernel_rfl) rfl #[.string (⟨#[31, 0]⟩ : ByteArray), .int .i64 0] rfl argq ?_; (with_reducible refine (tlv_Decode.calls (G := G) k (⟨#[31, 0]⟩ : ByteArray) 0 t193 t194 t195 t198 t199 _ ?side1 A3.out).mono ?_); (case side1 => first | exact hG | exact GW.below hG q0_); rintro e w24 ⟨v196, rfl, ho0, hb⟩; refine ⟨_, rfl, ?_⟩; have n0_ := Aside0.mk (Kd.R_elder' (by refine rkq ?_; exact (Kd.R_mono (Kd.R_far (p := ⟨gb192, 2, none⟩) (Kd.R_far (p := ⟨gb192, 1, none⟩) (Kd.R_far (p := ⟨gb192, 0, none⟩) (Kd.R_mono HO182.out (fun k_ hk => (⟨hk, hk.2⟩ : _ ∧ k_ ≠ gb192))) (fun _ hk => hk.2) (.int .i64 t186)) (fun _ hk => hk.2) (.string t187)) (fun _ hk => hk.2) (.slice Ao23 t188.length co23)) (fun _ h_ => h_.1))) (Kd.R_base ho0) hb); have n1_ := Aside0.mk (Kd.R_elder' (by refine rkq ?_; exact (Kd.R_mono (Kd.R_far (p := ⟨gb192, 2, none⟩) (Kd.R_far (p := ⟨gb192, 1, none⟩) (Kd.R_far (p := ⟨gb192, 0, none⟩) (Kd.R_mono HO190.out (fun k_ hk => (⟨hk, hk.2⟩ : _ ∧ k_ ≠ gb192))) (fun _ hk => hk.2) (.int .i64 t186)) (fun _ hk => hk.2) (.string t187)) (fun _ hk => hk.2) (.slice Ao23 t188.length co23)) (fun _ h_ => h_.1))) (Kd.R_base ho0) hb); have n2_ := Aside0.mk (Kd.R_lower (Kd.R_newB (Kd.R_newB (Kd.R_new' (Kd.R_new' ho0 (Kd.R_lt (by refine rkq ?_; exact (Kd.R_mono (Kd.R_far (p := ⟨gb192, 2, none⟩) (Kd.R_far (p := ⟨gb192, 1, none⟩) (Kd.R_far (p := ⟨gb192, 0, none⟩) (Kd.R_mono HO182.out (fun k_ hk => (⟨hk, hk.2⟩ : _ ∧ k_ ≠ gb192))) (fun _ hk => hk.2) (.int .i64 t186)) (fun _ hk => hk.2) (.string t187)) (fun _ hk => hk.2) (.slice Ao23 t188.length co23)) (fun _ h_ => h_.1))))) (Kd.R_lt (by refine rkq ?_; exact (Kd.R_mono (Kd.R_far (p := ⟨gb192, 2, none⟩) (Kd.R_far (p := ⟨gb192, 1, none⟩) (Kd.R_far (p := ⟨gb192, 0, none⟩) (Kd.R_mono HO190.out (fun k_ hk => (⟨hk, hk.2⟩ : _ ∧ k_ ≠ gb192))) (fun _ hk => hk.2) (.int .i64 t186)) (fun _ hk => hk.2) (.string t187)) (fun _ hk => hk.2) (.slice Ao23 t188.length co23)) (fun _ h_ => h_.1))))) (g := gb183) (o := .cells #[.int .i64 48, .string (⟨#[]⟩ : ByteArray), .slice Ao15 y180.length co15] 24 (0, 0)) (by refine bkq ?_; refine blk_far ?_ NB183_192.out _; refine bkq ?_; refine blk_far ?_ NB183_192.out _; refine bkq ?_; refine blk_far ?_ NB183_192.out _; refine bkq ?_; exact BK183.out)) (g := gb192) (o := .cells #[.int .i64 t186, .string t187, .slice Ao23 t188.length co23] 24 (0, 0)) (by refine bkq ?_; refine blk_put (cs := #[.int .i64 t186, .string t187, .slice none 0 0]) ?_ 2 _ rfl; refine bkq ?_; refine blk_put (cs := #[.int .i64 t186, .string (⟨#[]⟩ : ByteArray), .slice none 0 0]) ?_ 1 _ rfl; refine bkq ?_; refine blk_put (cs := #[.int .i64 0, .string (⟨#[]⟩ : ByteArray), .slice none 0 0]) ?_ 0 _ rfl; refine bkq ?_; exact BK192.out)) (below_size q0_)); have n3_ := Aside0.mk (blk_below (g := gb183) (o := .cells #[.int .i64 48, .string (⟨#[]⟩ : ByteArray), .slice Ao15 y180.length co15] 24 (0, 0)) (by refine bkq ?_; refine blk_far ?_ NB183_192.out _; refine bkq ?_; refine blk_far ?_ NB183_192.out _; refine bkq ?_; refine blk_far ?_ NB183_192.out _; refine bkq ?_; exact BK183.out) hb); have n4_ := Aside0.mk (blk_below (g := gb192) (o := .cells #[.int .i64 t186, .string t187, .slice Ao23 t188.length co23] 24 (0, 0)) (by refine bkq ?_; refine blk_put (cs := #[.int .i64 t186, .string t187, .slice none 0 0]) ?_ 2 _ rfl; refine bkq ?_; refine blk_put (cs := #[.int .i64 t186, .string (⟨#[]⟩ : ByteArray), .slice none 0 0]) ?_ 1 _ rfl; refine bkq ?_; refine blk_put (cs := #[.int .i64 0, .string (⟨#[]⟩ : ByteArray), .slice none 0 0]) ?_ 0 _ rfl; refine bkq ?_; exact BK192.out) hb); have n5_ := Aside0.mk (below_step q0_ hb); clear HO182; clear HO190; clear BK183; clear BK192; clear HB; have HO182 := n0_; have HO190 := n1_; have HO197 := n2_; have BK183 := n3_; have BK192 := n4_; have HB := n5_; clear n0_ n1_ n2_ n3_ n4_ n5_; (try clear hb); (try clear hb2); (try clear hk); (try clear hi); (try clear ho0)) | ((with_reducible refine gate_dst (N := 6) rfl ?_); refine box_event ?hg (N := 6) ?hd (cs := #[.int .i64 0, .string (⟨#[]⟩ : ByteArray), .slice none 0 0]) (t := 24) ?hr ?_; (case hd => rfl); (case hg => rfl); (case hr => first | (go_simp; done) | (go_simp; rfl)); intro gb200 hg w25 hbox hb; have n0_ := Aside0.mk (Kd.R_below (Kd.R_elderB (rkq HO182.out) gb200 (Nat.le_of_eq hg.symm)) hb); have n1_ := Aside0.mk (Kd.R_below (Kd.R_elderB (rkq HO190.out) gb200 (Nat.le_of_eq hg.symm)) hb); have n2_ := Aside0.mk (Kd.R_below (Kd.R_elderB (rkq HO197.out) gb200 (Nat.le_of_eq hg.symm)) hb); have n3_ := Aside0.mk (blk_below (g := gb183) (o := .cells #[.int .i64 48, .string (⟨#[]⟩ : ByteArray), .slice Ao15 y180.length co15] 24 (0, 0)) (bkq BK183.out) hb); have n4_ := Aside0.mk (blk_below (g := gb192) (o := .cells #[.int .i64 t186, .string t187, .slice Ao23 t188.length co23] 24 (0, 0)) (bkq BK192.out) hb); have n5_ := Aside0.mk (below_step q0_ hb); have n6_ := Aside0.mk (hbox); have n7_ := Aside0.mk ((by rw [hg]; exact (below_size q0_) : w.heap.size ≤ gb200)); have n8_ := Aside0.mk ((by rw [hg]; exact (below_size q0_) : w.heap.size ≤ gb200)); have n9_ := Aside0.mk ((by rw [hg]; exact Nat.ne_of_lt (blk_lt (g := gb183) (o := .cells #[.int .i64 48, .string (⟨#[]⟩ : ByteArray), .slice Ao15 y180.length co15] 24 (0, 0)) (bkq BK183.out)) : gb183 ≠ gb200)); have n10_ := Aside0.mk ((by rw [hg]; exact Nat.ne_of_gt (blk_lt (g := gb183) (o := .cells #[.int .i64 48, .string (⟨#[]⟩ : ByteArray), .slice Ao15 y180.length co15] 24 (0, 0)) (bkq BK183.out)) : gb200 ≠ gb183)); have n11_ := Aside0.mk ((by rw [hg]; exact Nat.ne_of_lt (blk_lt (g := gb192) (o := .cells #[.int .i64 t186, .string t187, .slice Ao23 t188.length co23] 24 (0, 0)) (bkq BK192.out)) : gb192 ≠ gb200)); have n12_ := Aside0.mk ((by rw [hg]; exact Nat.ne_of_gt (blk_lt (g := gb192) (o := .cells #[.int .i64 t186, .string t187, .slice Ao23 t188.length co23] 24 (0, 0)) (bkq BK192.out)) : gb200 ≠ gb192)); clear HO182; clear HO190; clear HO197; clear BK183; clear BK192; clear HB; have HO182 := n0_; have HO190 := n1_; have HO197 := n2_; have BK183 := n3_; have BK192 := n4_; have HB := n5_; have BK200 := n6_; have GW200 := n7_; have GE200 := n8_; have NB183_200 := n9_; have NB200_183 := n10_; have NB192_200 := n11_; have NB200_192 := n12_; clear n0_ n1_ n2_ n3_ n4_ n5_ n6_ n7_ n8_ n9_ n10_ n11_ n12_; clear hb hbox hg; have hnb26 := NB200_183.out; have hnc26 := NB183_200.out; have hnb27 := NB200_192.out; have hnc27 := NB192_200.out; have hcz28_0 : w25.cell? ⟨gb200, 0, none⟩ = some (.int .i64 0) := (blk_cell BK200.out 0).trans rfl; have hcz28_1 : w25.cell? ⟨gb200, 1, none⟩ = some (.string (⟨#[]⟩ : ByteArray)) := (blk_cell BK200.out 1).trans rfl; have hcz28_2 : w25.cell? ⟨gb200, 2, none⟩ = some (.slice none 0 0) := (blk_cell BK200.out 2).trans rfl; have hfz28_0 := blk_frozen BK200.out 0; have hfz28_1 := blk_frozen BK200.out 1; have hfz28_2 := blk_frozen BK200.out 2; obtain ⟨Ao29, co29, eo29⟩ := Kd.R_slice HO197.out; subst eo29; have hcz30_0 : w25.cell? ⟨gb183, 0, none⟩ = some (.int .i64 48) := (blk_cell BK183.out 0).trans rfl; have hcz30_1 : w25.cell? ⟨gb183, 1, none⟩ = some (.string (⟨#[]⟩ : ByteArray)) := (blk_cell BK183.out 1).trans rfl; have hcz30_2 : w25.cell? ⟨gb183, 2, none⟩ = some (.slice Ao15 y180.length co15) := (blk_cell BK183.out 2).trans rfl; have hfz30_0 := blk_frozen BK183.out 0; have hfz30_1 := blk_frozen BK183.out 1; have hfz30_2 := blk_frozen BK183.out 2) | ((with_reducible refine gate_callee (f := 15) rfl ?_); refine goesL_ (some 35) rfl rfl Tryd.func15 (by kernel_rfl) rfl #[.agg #[.int .i64 4, .string (⟨#[]⟩ : ByteArray), .slice Ao15 y180.length co15]] rfl argq ?_; (with_reducible refine (tlv_Encode.calls (G := G) 4 (⟨#[]⟩ : ByteArray) _ _ y180 t201 t202 _ ?side1 ?side2 ?side3 A4.out).mono ?_); (case side1 => refine (Kd.R_reads' (e := 24) (base := w.heap.size) (ok := fun k_ => (((((True ∧ k_ ≠ gb183) ∧ some k_ ≠ (.slice Ao23 t188.length co23 : Value).ownBlock) ∧ k_ ≠ gb192) ∧ some k_ ≠ (.slice Ao29 t195.length co29 : Value).ownBlock) ∧ k_ ≠ gb200)) (n := y180.length) (c := co15) ?_).2.2; exact (by refine rkq ?_; exact (Kd.R_mono (Kd.R_far (p := ⟨gb200, 2, none⟩) (Kd.R_far (p := ⟨gb200, 1, none⟩) (Kd.R_far (p := ⟨gb200, 0, none⟩) (Kd.R_mono HO182.out (fun k_ hk => (⟨hk, hk.2⟩ : _ ∧ k_ ≠ gb200))) (fun _ hk => hk.2) (.int .i64 t193)) (fun _ hk => hk.2) (.string t194)) (fun _ hk => hk.2) (.slice Ao29 t195.length co29)) (fun _ h_ => h_.1)))); (case side2 => exact (Kd.R_reads' HO182.out).2.1); (case side3 => first | exact hG | exact GW.below hG q0_); rintro e w31 ⟨rfl, hb⟩; refine ⟨_, rfl, ?_⟩; have n0_ := Aside0.mk (Kd.R_below (by refine rkq ?_; exact (Kd.R_mono (Kd.R_far (p := ⟨gb200, 2, none⟩) (Kd.R_far (p := ⟨gb200, 1, none⟩) (Kd.R_far (p := ⟨gb200, 0, none⟩) (Kd.R_mono HO182.out (fun k_ hk => (⟨hk, hk.2⟩ : _ ∧ k_ ≠ gb200))) (fun _ hk => hk.2) (.int .i64 t193)) (fun _ hk => hk.2) (.string t194)) (fun _ hk => hk.2) (.slice Ao29 t195.length co29)) (fun _ h_ => h_.1))) hb); have n1_ := Aside0.mk (Kd.R_below (by refine rkq ?_; exact (Kd.R_mono (Kd.R_far (p := ⟨gb200, 2, none⟩) (Kd.R_far (p := ⟨gb200, 1, none⟩) (Kd.R_far (p := ⟨gb200, 0, none⟩) (Kd.R_mono HO190.out (fun k_ hk => (⟨hk, hk.2⟩ : _ ∧ k_ ≠ gb200))) (fun _ hk => hk.2) (.int .i64 t193)) (fun _ hk => hk.2) (.string t194)) (fun _ hk => hk.2) (.slice Ao29 t195.length co29)) (fun _ h_ => h_.1))) hb); have n2_ := Aside0.mk (Kd.R_below (by refine rkq ?_; exact (Kd.R_mono (Kd.R_far (p := ⟨gb200, 2, none⟩) (Kd.R_far (p := ⟨gb200, 1, none⟩) (Kd.R_far (p := ⟨gb200, 0, none⟩) (Kd.R_mono HO197.out (fun k_ hk => (⟨hk, hk.2⟩ : _ ∧ k_ ≠ gb200))) (fun _ hk => hk.2) (.int .i64 t193)) (fun _ hk => hk.2) (.string t194)) (fun _ hk => hk.2) (.slice Ao29 t195.length co29)) (fun _ h_ => h_.1))) hb); have n3_ := Aside0.mk (blk_below (g := gb183) (o := .cells #[.int .i64 48, .string (⟨#[]⟩ : ByteArray), .slice Ao15 y180.length co15] 24 (0, 0)) (by refine bkq ?_; refine blk_far ?_ NB183_200.out _; refine bkq ?_; refine blk_far ?_ NB183_200.out _; refine bkq ?_; refine blk_far ?_ NB183_200.out _; refine bkq ?_; exact BK183.out) hb); have n4_ := Aside0.mk (blk_below (g := gb192) (o := .cells #[.int .i64 t186, .string t187, .slice Ao23 t188.length co23] 24 (0, 0)) (by refine bkq ?_; refine blk_far ?_ NB192_200.out _; refine bkq ?_; refine blk_far ?_ NB192_200.out _; refine bkq ?_; refine blk_far ?_ NB192_200.out _; refine bkq ?_; exact BK192.out) hb); have n5_ := Aside0.mk (blk_below (g := gb200) (o := .cells #[.int .i64 t193, .string t194, .slice Ao29 t195.length co29] 24 (0, 0)) (by refine bkq ?_; refine blk_put (cs := #[.int .i64 t193, .string t194, .slice none 0 0]) ?_ 2 _ rfl; refine bkq ?_; refine blk_put (cs := #[.int .i64 t193, .string (⟨#[]⟩ : ByteArray), .slice none 0 0]) ?_ 1 _ rfl; refine bkq ?_; refine blk_put (cs := #[.int .i64 0, .string (⟨#[]⟩ : ByteArray), .slice none 0 0]) ?_ 0 _ rfl; refine bkq ?_; exact BK200.out) hb); have n6_ := Aside0.mk (below_step q0_ hb); clear HO182; clear HO190; clear HO197; clear BK183; clear BK192; clear BK200; clear HB; have HO182 := n0_; have HO190 := n1_; have HO197 := n2_; have BK183 := n3_; have BK192 := n4_; have BK200 := n5_; have HB := n6_; clear n0_ n1_ n2_ n3_ n4_ n5_ n6_; (try clear hb); (try clear hb2); (try clear hk); (try clear hi)) | ((with_reducible refine gate_callee (f := 19) rfl ?_); refine goesL_ (some 39) rfl rfl Tryd.func19 (by kernel_rfl) rfl #[.string (⟨#[48, 2, 4, 1, 97]⟩ : ByteArray)] rfl argq ?_; (with_reducible refine (tlv_Whole.calls (G := G) k (⟨#[48, 2, 4, 1, 97]⟩ : ByteArray) t203 t204 t205 t208 _ ?side1 A5.out).mono ?_); (case side1 => first | exact hG | exact GW.below hG q0_); rintro e w32 ⟨v206, rfl, ho0, hb⟩; refine ⟨_, rfl, ?_⟩; have n0_ := Aside0.mk (Kd.R_elder' (rkq HO182.out) (Kd.R_base ho0) hb); have n1_ := Aside0.mk (Kd.R_elder' (rkq HO190.out) (Kd.R_base ho0) hb); have n2_ := Aside0.mk (Kd.R_elder' (rkq HO197.out) (Kd.R_base ho0) hb); have n3_ := Aside0.mk (Kd.R_lower (Kd.R_newB (Kd.R_newB (Kd.R_newB (Kd.R_new' (Kd.R_new' (Kd.R_new' ho0 (Kd.R_lt (rkq HO182.out))) (Kd.R_lt (rkq HO190.out))) (Kd.R_lt (rkq HO197.out))) (g := gb183) (o := .cells #[.int .i64 48, .string (⟨#[]⟩ : ByteArray), .slice Ao15 y180.length co15] 24 (0, 0)) (bkq BK183.out)) (g := gb192) (o := .cells #[.int .i64 t186, .string t187, .slice Ao23 t188.length co23] 24 (0, 0)) (bkq BK192.out)) (g := gb200) (o := .cells #[.int .i64 t193, .string t194, .slice Ao29 t195.length co29] 24 (0, 0)) (bkq BK200.out)) (below_size q0_)); have n4_ := Aside0.mk (blk_below (g := gb183) (o := .cells #[.int .i64 48, .string (⟨#[]⟩ : ByteArray), .slice Ao15 y180.length co15] 24 (0, 0)) (bkq BK183.out) hb); have n5_ := Aside0.mk (blk_below (g := gb192) (o := .cells #[.int .i64 t186, .string t187, .slice Ao23 t188.length co23] 24 (0, 0)) (bkq BK192.out) hb); have n6_ := Aside0.mk (blk_below (g := gb200) (o := .cells #[.int .i64 t193, .string t194, .slice Ao29 t195.length co29] 24 (0, 0)) (bkq BK200.out) hb); have n7_ := Aside0.mk (below_step q0_ hb); clear HO182; clear HO190; clear HO197; clear BK183; clear BK192; clear BK200; clear HB; have HO182 := n0_; have HO190 := n1_; have HO197 := n2_; have HO207 := n3_; have BK183 := n4_; have BK192 := n5_; have BK200 := n6_; have HB := n7_; clear n0_ n1_ n2_ n3_ n4_ n5_ n6_ n7_; (try clear hb); (try clear hb2); (try clear hk); (try clear hi); (try clear ho0)) | ((with_reducible refine gate_dst (N := 11) rfl ?_); refine box_event ?hg (N := 11) ?hd (cs := #[.int .i64 0, .string (⟨#[]⟩ : ByteArray), .slice none 0 0]) (t := 24) ?hr ?_; (case hd => rfl); (case hg => rfl); (case hr => first | (go_simp; done) | (go_simp; rfl)); intro gb209 hg w33 hbox hb; have n0_ := Aside0.mk (Kd.R_below (Kd.R_elderB (rkq HO182.out) gb209 (Nat.le_of_eq hg.symm)) hb); have n1_ := Aside0.mk (Kd.R_below (Kd.R_elderB (rkq HO190.out) gb209 (Nat.le_of_eq hg.symm)) hb); have n2_ := Aside0.mk (Kd.R_below (Kd.R_elderB (rkq HO197.out) gb209 (Nat.le_of_eq hg.symm)) hb); have n3_ := Aside0.mk (Kd.R_below (Kd.R_elderB (rkq HO207.out) gb209 (Nat.le_of_eq hg.symm)) hb); have n4_ := Aside0.mk (blk_below (g := gb183) (o := .cells #[.int .i64 48, .string (⟨#[]⟩ : ByteArray), .slice Ao15 y180.length co15] 24 (0, 0)) (bkq BK183.out) hb); have n5_ := Aside0.mk (blk_below (g := gb192) (o := .cells #[.int .i64 t186, .string t187, .slice Ao23 t188.length co23] 24 (0, 0)) (bkq BK192.out) hb); have n6_ := Aside0.mk (blk_below (g := gb200) (o := .cells #[.int .i64 t193, .string t194, .slice Ao29 t195.length co29] 24 (0, 0)) (bkq BK200.out) hb); have n7_ := Aside0.mk (below_step q0_ hb); have n8_ := Aside0.mk (hbox); have n9_ := Aside0.mk ((by rw [hg]; exact (below_size q0_) : w.heap.size ≤ gb209)); have n10_ := Aside0.mk ((by rw [hg]; exact (below_size q0_) : w.heap.size ≤ gb209)); have n11_ := Aside0.mk ((by rw [hg]; exact Nat.ne_of_lt (blk_lt (g := gb183) (o := .cells #[.int .i64 48, .string (⟨#[]⟩ : ByteArray), .slice Ao15 y180.length co15] 24 (0, 0)) (bkq BK183.out)) : gb183 ≠ gb209)); have n12_ := Aside0.mk ((by rw [hg]; exact Nat.ne_of_gt (blk_lt (g := gb183) (o := .cells #[.int .i64 48, .string (⟨#[]⟩ : ByteArray), .slice Ao15 y180.length co15] 24 (0, 0)) (bkq BK183.out)) : gb209 ≠ gb183)); have n13_ := Aside0.mk ((by rw [hg]; exact Nat.ne_of_lt (blk_lt (g := gb192) (o := .cells #[.int .i64 t186, .string t187, .slice Ao23 t188.length co23] 24 (0, 0)) (bkq BK192.out)) : gb192 ≠ gb209)); have n14_ := Aside0.mk ((by rw [hg]; exact Nat.ne_of_gt (blk_lt (g := gb192) (o := .cells #[.int .i64 t186, .string t187, .slice Ao23 t188.length co23] 24 (0, 0)) (bkq BK192.out)) : gb209 ≠ gb192)); have n15_ := Aside0.mk ((by rw [hg]; exact Nat.ne_of_lt (blk_lt (g := gb200) (o := .cells #[.int .i64 t193, .string t194, .slice Ao29 t195.length co29] 24 (0, 0)) (bkq BK200.out)) : gb200 ≠ gb209)); have n16_ := Aside0.mk ((by rw [hg]; exact Nat.ne_of_gt (blk_lt (g := gb200) (o := .cells #[.int .i64 t193, .string t194, .slice Ao29 t195.length co29] 24 (0, 0)) (bkq BK200.out)) : gb209 ≠ gb200)); clear HO182; clear HO190; clear HO197; clear HO207; clear BK183; clear BK192; clear BK200; clear HB; have HO182 := n0_; have HO190 := n1_; have HO197 := n2_; have HO207 := n3_; have BK183 := n4_; have BK192 := n5_; have BK200 := n6_; have HB := n7_; have BK209 := n8_; have GW209 := n9_; have GE209 := n10_; have NB183_209 := n11_; have NB209_183 := n12_; have NB192_209 := n13_; have NB209_192 := n14_; have NB200_209 := n15_; have NB209_200 := n16_; clear n0_ n1_ n2_ n3_ n4_ n5_ n6_ n7_ n8_ n9_ n10_ n11_ n12_ n13_ n14_ n15_ n16_; clear hb hbox hg; have hnb34 := NB209_183.out; have hnc34 := NB183_209.out; have hnb35 := NB209_192.out; have hnc35 := NB192_209.out; have hnb36 := NB209_200.out; have hnc36 := NB200_209.out; have hcz37_0 : w33.cell? ⟨gb209, 0, none⟩ = some (.int .i64 0) := (blk_cell BK209.out 0).trans rfl; have hcz37_1 : w33.cell? ⟨gb209, 1, none⟩ = some (.string (⟨#[]⟩ : ByteArray)) := (blk_cell BK209.out 1).trans rfl; have hcz37_2 : w33.cell? ⟨gb209, 2, none⟩ = some (.slice none 0 0) := (blk_cell BK209.out 2).trans rfl; have hfz37_0 := blk_frozen BK209.out 0; have hfz37_1 := blk_frozen BK209.out 1; have hfz37_2 := blk_frozen BK209.out 2; obtain ⟨Ao38, co38, eo38⟩ := Kd.R_slice HO207.out; subst eo38; have hcz39_0 : w33.cell? ⟨gb183, 0, none⟩ = some (.int .i64 48) := (blk_cell BK183.out 0).trans rfl; have hcz39_1 : w33.cell? ⟨gb183, 1, none⟩ = some (.string (⟨#[]⟩ : ByteArray)) := (blk_cell BK183.out 1).trans rfl; have hcz39_2 : w33.cell? ⟨gb183, 2, none⟩ = some (.slice Ao15 y180.length co15) := (blk_cell BK183.out 2).trans rfl; have hfz39_0 := blk_frozen BK183.out 0; have hfz39_1 := blk_frozen BK183.out 1; have hfz39_2 := blk_frozen BK183.out 2; have hcz40_0 : w33.cell? ⟨gb192, 0, none⟩ = some (.int .i64 t186) := (blk_cell BK192.out 0).trans rfl; have hcz40_1 : w33.cell? ⟨gb192, 1, none⟩ = some (.string t187) := (blk_cell BK192.out 1).trans rfl; have hcz40_2 : w33.cell? ⟨gb192, 2, none⟩ = some (.slice Ao23 t188.length co23) := (blk_cell BK192.out 2).trans rfl; have hfz40_0 := blk_frozen BK192.out 0; have hfz40_1 := blk_frozen BK192.out 1; have hfz40_2 := blk_frozen BK192.out 2) | (go_at_call 23; (with_reducible refine (tlv_Same.calls 48 (⟨#[]⟩ : ByteArray) _ _ y180 t186 t187 _ _ t188 true _ ?side1 ?side2 ?side3 ?side4 A9.out).mono ?_); (case side1 => refine (Kd.R_reads' (e := 24) (base := w.heap.size) (ok := fun k_ => (((((((True ∧ k_ ≠ gb183) ∧ some k_ ≠ (.slice Ao23 t188.length co23 : Value).ownBlock) ∧ k_ ≠ gb192) ∧ some k_ ≠ (.slice Ao29 t195.length co29 : Value).ownBlock) ∧ k_ ≠ gb200) ∧ some k_ ≠ (.slice Ao38 t205.length co38 : Value).ownBlock) ∧ k_ ≠ gb209)) (n := y180.length) (c := co15) ?_).2.2; exact (by refine rkq ?_; exact (Kd.R_mono (Kd.R_far (p := ⟨gb209, 2, none⟩) (Kd.R_far (p := ⟨gb209, 1, none⟩) (Kd.R_far (p := ⟨gb209, 0, none⟩) (Kd.R_mono HO182.out (fun k_ hk => (⟨hk, hk.2⟩ : _ ∧ k_ ≠ gb209))) (fun _ hk => hk.2) (.int .i64 t203)) (fun _ hk => hk.2) (.string t204)) (fun _ hk => hk.2) (.slice Ao38 t205.length co38)) (fun _ h_ => h_.1)))); (case side2 => exact (Kd.R_reads' HO182.out).2.1); (case side3 => refine (Kd.R_reads' (e := 24) (base := w.heap.size) (ok := fun k_ => (((((((True ∧ some k_ ≠ (.slice Ao15 y180.length co15 : Value).ownBlock) ∧ k_ ≠ gb183) ∧ k_ ≠ gb192) ∧ some k_ ≠ (.slice Ao29 t195.length co29 : Value).ownBlock) ∧ k_ ≠ gb200) ∧ some k_ ≠ (.slice Ao38 t205.length co38 : Value).ownBlock) ∧ k_ ≠ gb209)) (n := t188.length) (c := co23) ?_).2.2; exact (by refine rkq ?_; exact (Kd.R_mono (Kd.R_far (p := ⟨gb209, 2, none⟩) (Kd.R_far (p := ⟨gb209, 1, none⟩) (Kd.R_far (p := ⟨gb209, 0, none⟩) (Kd.R_mono HO190.out (fun k_ hk => (⟨hk, hk.2⟩ : _ ∧ k_ ≠ gb209))) (fun _ hk => hk.2) (.int .i64 t203)) (fun _ hk => hk.2) (.string t204)) (fun _ hk => hk.2) (.slice Ao38 t205.length co38)) (fun _ h_ => h_.1)))); (case side4 => exact (Kd.R_reads' HO190.out).2.1); rintro e w41 ⟨rfl, hb⟩; have n0_ := Aside0.mk (Kd.R_below (by refine rkq ?_; exact (Kd.R_mono (Kd.R_far (p := ⟨gb209, 2, none⟩) (Kd.R_far (p := ⟨gb209, 1, none⟩) (Kd.R_far (p := ⟨gb209, 0, none⟩) (Kd.R_mono HO182.out (fun k_ hk => (⟨hk, hk.2⟩ : _ ∧ k_ ≠ gb209))) (fun _ hk => hk.2) (.int .i64 t203)) (fun _ hk => hk.2) (.string t204)) (fun _ hk => hk.2) (.slice Ao38 t205.length co38)) (fun _ h_ => h_.1))) hb); have n1_ := Aside0.mk (Kd.R_below (by refine rkq ?_; exact (Kd.R_mono (Kd.R_far (p := ⟨gb209, 2, none⟩) (Kd.R_far (p := ⟨gb209, 1, none⟩) (Kd.R_far (p := ⟨gb209, 0, none⟩) (Kd.R_mono HO190.out (fun k_ hk => (⟨hk, hk.2⟩ : _ ∧ k_ ≠ gb209))) (fun _ hk => hk.2) (.int .i64 t203)) (fun _ hk => hk.2) (.string t204)) (fun _ hk => hk.2) (.slice Ao38 t205.length co38)) (fun _ h_ => h_.1))) hb); have n2_ := Aside0.mk (Kd.R_below (by refine rkq ?_; exact (Kd.R_mono (Kd.R_far (p := ⟨gb209, 2, none⟩) (Kd.R_far (p := ⟨gb209, 1, none⟩) (Kd.R_far (p := ⟨gb209, 0, none⟩) (Kd.R_mono HO197.out (fun k_ hk => (⟨hk, hk.2⟩ : _ ∧ k_ ≠ gb209))) (fun _ hk => hk.2) (.int .i64 t203)) (fun _ hk => hk.2) (.string t204)) (fun _ hk => hk.2) (.slice Ao38 t205.length co38)) (fun _ h_ => h_.1))) hb); have n3_ := Aside0.mk (Kd.R_below (by refine rkq ?_; exact (Kd.R_mono (Kd.R_far (p := ⟨gb209, 2, none⟩) (Kd.R_far (p := ⟨gb209, 1, none⟩) (Kd.R_far (p := ⟨gb209, 0, none⟩) (Kd.R_mono HO207.out (fun k_ hk => (⟨hk, hk.2⟩ : _ ∧ k_ ≠ gb209))) (fun _ hk => hk.2) (.int .i64 t203)) (fun _ hk => hk.2) (.string t204)) (fun _ hk => hk.2) (.slice Ao38 t205.length co38)) (fun _ h_ => h_.1))) hb); have n4_ := Aside0.mk (blk_below (g := gb183) (o := .cells #[.int .i64 48, .string (⟨#[]⟩ : ByteArray), .slice Ao15 y180.length co15] 24 (0, 0)) (by refine bkq ?_; refine blk_far ?_ NB183_209.out _; refine bkq ?_; refine blk_far ?_ NB183_209.out _; refine bkq ?_; refine blk_far ?_ NB183_209.out _; refine bkq ?_; exact BK183.out) hb); have n5_ := Aside0.mk (blk_below (g := gb192) (o := .cells #[.int .i64 t186, .string t187, .slice Ao23 t188.length co23] 24 (0, 0)) (by refine bkq ?_; refine blk_far ?_ NB192_209.out _; refine bkq ?_; refine blk_far ?_ NB192_209.out _; refine bkq ?_; refine blk_far ?_ NB192_209.out _; refine bkq ?_; exact BK192.out) hb); have n6_ := Aside0.mk (blk_below (g := gb200) (o := .cells #[.int .i64 t193, .string t194, .slice Ao29 t195.length co29] 24 (0, 0)) (by refine bkq ?_; refine blk_far ?_ NB200_209.out _; refine bkq ?_; refine blk_far ?_ NB200_209.out _; refine bkq ?_; refine blk_far ?_ NB200_209.out _; refine bkq ?_; exact BK200.out) hb); have n7_ := Aside0.mk (blk_below (g := gb209) (o := .cells #[.int .i64 t203, .string t204, .slice Ao38 t205.length co38] 24 (0, 0)) (by refine bkq ?_; refine blk_put (cs := #[.int .i64 t203, .string t204, .slice none 0 0]) ?_ 2 _ rfl; refine bkq ?_; refine blk_put (cs := #[.int .i64 t203, .string (⟨#[]⟩ : ByteArray), .slice none 0 0]) ?_ 1 _ rfl; refine bkq ?_; refine blk_put (cs := #[.int .i64 0, .string (⟨#[]⟩ : ByteArray), .slice none 0 0]) ?_ 0 _ rfl; refine bkq ?_; exact BK209.out) hb); have n8_ := Aside0.mk (below_step q0_ hb); clear HO182; clear HO190; clear HO197; clear HO207; clear BK183; clear BK192; clear BK200; clear BK209; clear HB; have HO182 := n0_; have HO190 := n1_; have HO197 := n2_; have HO207 := n3_; have BK183 := n4_; have BK192 := n5_; have BK200 := n6_; have BK209 := n7_; have HB := n8_; clear n0_ n1_ n2_ n3_ n4_ n5_ n6_ n7_ n8_; (try clear hb); (try clear hb2); (try clear hk); (try clear hi)))
       go_ret
       exact ⟨q2_, q0_⟩
      ·rw [if_neg c12] at H
       exact absurd H (by simp)
     ·rw [if_neg c11] at H
      exact absurd H (by simp)
    ·replace c10 := Bool.eq_false_iff.mpr c10
     subst c10
     have H1 : (none) = some r := by rw [if_neg (show ¬ (false = true) by decide)] at H; exact H
     clear H
     have H := H1
     clear H1
     exact absurd H (by simp)
   ·rw [if_neg c8] at H
    exact absurd H (by simp)
  ·rw [if_neg c7] at H
   exact absurd H (by simp)
 ·rw [if_neg c6] at H
  exact absurd H (by simp)
def latinerlaw02_cut.f (a0 : ByteArray) : Option (ByteArray) := if 0 ≤ (mn (a0.size : Int) 4100) then (if (mn (a0.size : Int) 4100) ≤ (a0.size : Int) then (some (a0.extract 0 ((mn (a0.size : Int) 4100) : Int).toNat)) else (none)) else (none)
set_option maxHeartbeats 8000000 in
set_option maxRecDepth 100000 in
theorem latinerlaw02_cut.calls (a0 : ByteArray) (r : ByteArray) (w : World) (h : latinerlaw02_cut.f a0 = some r) :
  Calls Tryd.prog 14 #[.string a0] w fun e w' => e = .returned (.string r) ∧ Below w.heap.size w w' := by
 have HB := Aside0.mk (Below.refl w.heap.size w)
 have H : (if 0 ≤ (mn (a0.size : Int) 4100) then (if (mn (a0.size : Int) 4100) ≤ (a0.size : Int) then (some (a0.extract 0 ((mn (a0.size : Int) 4100) : Int).toNat)) else (none)) else (none)) = some r := h
 clear h
 obtain ⟨ji2, hji2⟩ : ∃ j_ : Int, (mn (a0.size : Int) 4100) = j_ := ⟨_, rfl⟩
 replace H : (if 0 ≤ (ji2) then (if (ji2) ≤ (a0.size : Int) then (some (a0.extract 0 ((ji2) : Int).toNat)) else (none)) else (none)) = some r := by first | (rw [hji2] at H; exact H) | (simp only [hji2] at H ⊢; exact H)
 (try (have hji2h : ji2 ≤ 4100 := by (rw [← hji2]; unfold mn; (repeat' split) <;> omega)))
 (try (have hji2g : ji2 ≤ 64 := by omega))
 (try (have hji2l : 0 ≤ ji2 := by (rw [← hji2]; unfold mn; (repeat' split) <;> omega)))
 (try (have hji2m : 0 ≤ ji2 := by omega))
 have hji2_ : (if 4100 < (a0.size : Int) then 4100 else (a0.size : Int)) = ji2 := hji2
 by_cases c3 : 0 ≤ (ji2)
 ·rw [if_pos c3] at H
  have c3b0 := eq_true c3
  have c3b1 : decide (0 ≤ (ji2)) = true := decide_eq_true c3
  clear c3
  by_cases c4 : (ji2) ≤ (a0.size : Int)
  ·rw [if_pos c4] at H
   have c4b0 := eq_true c4
   have c4b1 : decide ((ji2) ≤ (a0.size : Int)) = true := decide_eq_true c4
   clear c4
   obtain rfl := Option.some.inj H
   go_enter Tryd.func14, Tryd.ntmps14
   go_wp2
   go_ret
   exact ⟨by first | rfl | (simp [eW] <;> rfl) | (simp only [← hji2]; first | rfl | (simp [eW] <;> rfl)) | (simp [*, eW] <;> rfl), q0_⟩
  ·rw [if_neg c4] at H
   exact absurd H (by simp)
 ·rw [if_neg c3] at H
  exact absurd H (by simp)
end Go.Proofs.YthnddhgkjkpmfaaDoor.LTlvC
/- Trees' reader, plainly: what tlv's printed functions answer. No program in sight. -/
namespace Go.Proofs.YthnddhgkjkpmfaaDoor
set_option linter.unusedSimpArgs false
set_option linter.unusedVariables false
namespace Tlv
open Go.RowKit Go.Proofs.YthnddhgkjkpmfaaDoorW.PrintWords Go.Proofs.YthnddhgkjkpmfaaDoor.PureB Go.Proofs.YthnddhgkjkpmfaaDoor.KTlv Go.Proofs.YthnddhgkjkpmfaaDoor.ExtTlvC Go.Proofs.YthnddhgkjkpmfaaDoor.LTlvC
theorem eta (x : Nd) : (⟨x.f0, x.f1, x.f2⟩ : Nd) = x := by cases x; rfl
theorem right_f (x : Nd) (h : few x = true) : tlv_Right.f x.f0 x.f1 x.f2 = some (right x) := by
  unfold tlv_Right.f tlv_isShaped.f tlv_laid.f right
  rw [eta x, if_pos h]
  simp only [Option.bind_some]
  cases hs : shaped x with
  | true =>
    rw [if_pos rfl, if_pos rfl]
    simp only [Option.bind_some, Bool.true_and, Option.some.injEq]
    rw [Bool.eq_iff_iff, decide_eq_true_eq, decide_eq_true_eq]
    omega
  | false => rw [if_neg (by simp), Bool.false_and]
theorem enc_f (x : Nd) (h : few x = true) : tlv_Encode.f x.f0 x.f1 x.f2 = some (enc x) := by
  unfold tlv_Encode.f enc
  rw [right_f x h]
  simp only [Option.bind_some]
  by_cases hr : right x = true
  · have hs : shaped x = true := by unfold right at hr; rw [Bool.and_eq_true] at hr; exact hr.1
    rw [if_pos hr, if_pos hr, tlv_laid.f, eta x, if_pos hs]
    rfl
  · rw [if_neg hr, if_neg hr]
    rfl
theorem few_iff (x : Nd) : few x = true ↔ ∀ p ∈ pre 1 x, p.2.f2.length ≤ 1000 := by
  unfold few
  rw [List.all_eq_true]
  simp
theorem few_of_len {x : Nd} (h : (pre 1 x).length ≤ 1000) : few x = true := by
  rw [few_iff]
  have key : ∀ (m : Nat) (y : Nd), SizeOf.sizeOf y < m → ∀ d, ∀ p ∈ pre d y, p.2.f2.length ≤ (pre d y).length := by
    intro m
    induction m with
    | zero => intro y h; exact absurd h (Nat.not_lt_zero _)
    | succ m ih =>
      rintro ⟨t, b, ks⟩ hy d p hp
      rw [pre, preL_flat'] at hp
      rw [pre, List.length_cons]
      have hl := preL_len (d + 1) ks
      rcases List.mem_cons.1 hp with rfl | hp
      · show ks.length ≤ _
        omega
      · obtain ⟨k, hk, hpk⟩ := List.mem_flatMap.1 hp
        have h1 := ih k (by have := List.sizeOf_lt_of_mem hk; simp only [S24.mk.sizeOf_spec] at hy; omega) (d + 1) p hpk
        have h2 : ∀ l : List Nd, k ∈ l → (pre (d + 1) k).length ≤ (preL (d + 1) l).length := by
          intro l
          induction l with
          | nil => intro h; cases h
          | cons y l ihl =>
            intro h
            rw [preL, List.length_append]
            rcases List.mem_cons.1 h with h | h
            · rw [← h]; omega
            · have := ihl h; omega
        have := h2 ks hk
        omega
  intro p hp
  have := key _ x (Nat.lt_succ_self _) 1 p hp
  omega
theorem has_f (s : ByteArray) (a n k e : Int) (h0 : -9223372036854775808 ≤ e - a) (h1 : e - a ≤ 9223372036854775807) : tlv_text_has.f s a n k e = some (decide (k ≤ e - a), s, a, n) := by
  unfold tlv_text_has.f
  rw [w64 h0 h1]
theorem head_f (s : ByteArray) (a n e d : Int) (hs : s.size ≤ 100000) (ha : 0 ≤ a) (ha2 : a ≤ 1000000) (hn : 0 ≤ n) (hn2 : n ≤ 1000) (he : 0 ≤ e) (he2 : e ≤ s.size) :
    match hd s a n e d with
    | (.ok (t, te), a') => tlv_reader_head.f s a n e d = some (t, te, none, s, a', n + 1)
    | (.error x, a') => ∃ er : Er, er.num = x ∧ tlv_reader_head.f s a n e d = some (0, 0, some er, s, a', n + 1) := by
  unfold tlv_reader_head.f hd
  rw [w64 (n := n + 1) (by omega) (by omega)]
  by_cases h1 : 200 < n + 1
  · rw [if_pos (show n + 1 > 200 from h1), if_pos (.inl h1)]
    exact ⟨_, rfl, rfl⟩
  rw [if_neg (show ¬ n + 1 > 200 from h1)]
  by_cases h2 : 12 < d
  · rw [if_pos (show d > 12 from h2), if_pos (.inr h2)]
    exact ⟨_, rfl, rfl⟩
  rw [if_neg (show ¬ d > 12 from h2), if_neg (show ¬ (200 < n + 1 ∨ 12 < d) by omega), has_f s a (n + 1) 1 e (by omega) (by omega)]
  simp only [Option.bind_some]
  by_cases h3 : e - a < 1
  · rw [decide_eq_false (show ¬ 1 ≤ e - a by omega), if_neg Bool.false_ne_true, if_pos h3]
    exact ⟨_, rfl, rfl⟩
  rw [decide_eq_true (show 1 ≤ e - a by omega), if_pos rfl, if_neg h3, if_pos ha, if_pos (show a < (s.size : Int) by omega)]
  have hb := bt_bd s a
  have hbits := (bits_all (bt s a).toNat (by omega)).1
  rw [show (((bt s a).toNat : Nat) : Int) = bt s a by omega] at hbits
  rw [w64 (n := bt s a) (by omega) (by omega), hbits]
  by_cases h4 : bt s a % 32 = 31
  · rw [if_pos h4, if_pos h4]
    exact ⟨_, rfl, rfl⟩
  rw [if_neg h4, if_neg h4, if_pos he, if_pos he2, w64 (n := a + 1) (by omega) (by omega)]
  unfold size_Decode.f
  rw [if_pos (show (s.extract 0 e.toNat).size ≤ 100000 by rw [extract_size s 0 e.toNat (by omega)]; omega)]
  simp only [Option.bind_some]
  by_cases h5 : (Size.decS (s.extract 0 e.toNat) (a + 1)).2.2 = 0
  · obtain ⟨g1, g2, g3, g4, g5, g6⟩ := SizeQ.dec_ok _ _ h5
    have hez : (s.extract 0 e.toNat).size = e.toNat - 0 := extract_size s 0 e.toNat (by omega)
    rw [if_pos h5, if_neg (show ¬ (Size.decS (s.extract 0 e.toNat) (a + 1)).2.2 ≠ 0 by omega), has_f _ _ _ _ _ (by omega) (by omega)]
    simp only [Option.bind_some]
    by_cases h6 : e - (Size.decS (s.extract 0 e.toNat) (a + 1)).2.1 < (Size.decS (s.extract 0 e.toNat) (a + 1)).1
    · rw [decide_eq_false (show ¬ (Size.decS (s.extract 0 e.toNat) (a + 1)).1 ≤ e - (Size.decS (s.extract 0 e.toNat) (a + 1)).2.1 by omega), if_neg Bool.false_ne_true, if_pos h6]
      exact ⟨_, rfl, rfl⟩
    · rw [decide_eq_true (show (Size.decS (s.extract 0 e.toNat) (a + 1)).1 ≤ e - (Size.decS (s.extract 0 e.toNat) (a + 1)).2.1 by omega), if_pos rfl, if_neg h6, w64 (n := (Size.decS (s.extract 0 e.toNat) (a + 1)).2.1 + (Size.decS (s.extract 0 e.toNat) (a + 1)).1) (by omega) (by omega)]
  · rw [if_neg h5, if_pos h5]
    exact ⟨_, rfl, rfl⟩
def RdAns (s : ByteArray) (r : Except Int Nd × Int × Int) (o : Option (Int × ByteArray × List Nd × Option Er × ByteArray × Int × Int)) : Prop :=
  match r with
  | (.ok y, a', n') => o = some (y.f0, y.f1, y.f2, none, s, a', n')
  | (.error x, a', n') => ∃ er : Er, er.num = x ∧ o = some (0, ⟨#[]⟩, [], some er, s, a', n')
theorem tree_f (s : ByteArray) (hs : s.size ≤ 100000) : ∀ (f : Nat) (a n e d : Int) (k : Nat), 0 ≤ a → a ≤ 1000000 → 0 ≤ n → n ≤ 200 → 0 ≤ e → e ≤ s.size → 1 ≤ d → d ≤ 1000 → 13 ≤ f + d → 203 * f + 1 ≤ k →
    RdAns s (rd s f a n e d) (tlv_reader_tree.f k s a n e d) := by
  intro f
  induction f with
  | zero =>
    intro a n e d k ha ha2 hn hn2 he he2 hd1 hd2 hf hk
    obtain ⟨k, rfl⟩ : ∃ j, k = j + 1 := ⟨k - 1, by omega⟩
    have := head_f s a n e d hs ha ha2 hn (by omega) he he2
    have hh : hd s a n e d = (.error 21, a) := by unfold hd; rw [if_pos (.inr (by omega))]
    rw [hh] at this
    obtain ⟨er, h1, h2⟩ := this
    rw [rd]
    simp only [tlv_reader_tree.f, h2, Option.bind_some, RdAns]
    exact ⟨er, h1, rfl⟩
  | succ f ih =>
    intro a n e d k ha ha2 hn hn2 he he2 hd1 hd2 hf hk
    obtain ⟨k, rfl⟩ : ∃ j, k = j + 1 := ⟨k - 1, by omega⟩
    have hh := head_f s a n e d hs ha ha2 hn (by omega) he he2
    rw [rd]
    simp only [tlv_reader_tree.f]
    cases hr : hd s a n e d with
    | mk r a1 =>
      rw [hr] at hh
      cases r with
      | error x =>
        obtain ⟨er, h1, h2⟩ := hh
        simp only [h2, Option.bind_some, RdAns]
        exact ⟨er, h1, rfl⟩
      | ok q =>
        obtain ⟨t, te⟩ := q
        simp only at hh ⊢
        obtain ⟨g1, g2, g3, g4, g5, g6, g7, g8, g9⟩ := hd_ok hr ha he2
        have hbt := bt_bd s a
        rw [← g3] at hbt
        rw [hh]
        simp only [Option.bind_some, Option.isNone_none, if_true]
        have hin : tlv_isInner.f t = some (inner t) := inner_f t hbt.1 hbt.2
        rw [hin]
        simp only [Option.bind_some]
        by_cases hi : inner t = true
        · rw [if_pos hi, if_pos hi]
          have loop : ∀ (j : Nat) (acc : List Nd) (a n : Int) (k : Nat), j ≤ 201 → 201 - (j : Int) ≤ n - 1 + 1 → acc.length + j = 201 → 0 ≤ a → a ≤ te → 0 ≤ n → n ≤ 200 → acc.length + 1 ≤ n → 203 * f + 1 + j + 1 ≤ k →
              RdAns s (rdK (fun a n => rd s f a n te (d + 1)) t te j acc a n) (tlv_reader_tree.l0 k d te s a n t ⟨#[]⟩ acc) := by
            intro j
            induction j with
            | zero =>
              intro acc a n k hj h2 hac _ _ _ hn2 hacn _
              omega
            | succ j ihj =>
              intro acc a n k hj h2 hac ha hate hn hn2 hacn hk
              obtain ⟨k, rfl⟩ : ∃ i, k = i + 1 := ⟨k - 1, by omega⟩
              rw [rdK]
              simp only [tlv_reader_tree.l0]
              by_cases hlt : a < te
              · rw [if_pos hlt, if_pos hlt, w64 (n := d + 1) (by omega) (by omega)]
                have hk1 := ih a n te (d + 1) k ha (by omega) hn hn2 (by omega) (by omega) (by omega) (by omega) (by omega) (by omega)
                cases hq : rd s f a n te (d + 1) with
                | mk r p =>
                  obtain ⟨a2, n2⟩ := p
                  rw [hq] at hk1
                  cases r with
                  | error x =>
                    obtain ⟨er, e1, e2⟩ := hk1
                    simp only [e2, Option.bind_some, RdAns]
                    exact ⟨er, e1, rfl⟩
                  | ok y =>
                    simp only [RdAns] at hk1
                    obtain ⟨q1, q2, q3, q4, q5, q6⟩ := rd_ok f a n te (d + 1) y a2 n2 ha hn (by omega) hq
                    have hp := pre_pos (d + 1) y
                    simp only [hk1, Option.bind_some, Option.isNone_none, if_true]
                    rw [if_pos (by omega), eta y]
                    exact ihj (acc ++ [y]) a2 n2 k (by omega) (by omega) (by rw [List.length_append, List.length_singleton]; omega) (by omega) q3 (by omega) q5 (by rw [List.length_append, List.length_singleton]; omega) (by omega)
              · rw [if_neg hlt, if_neg hlt]
                rfl
          exact loop 201 [] a1 (n + 1) k (by omega) (by omega) rfl (by omega) g6 (by omega) g1 (by simp; omega) (by omega)
        · rw [if_neg hi, if_neg hi, if_pos (by omega), if_pos g6, if_pos (by omega)]
          rfl
theorem dec_f (s : ByteArray) (a : Int) (hs : s.size ≤ 100000) (k : Nat) (hk : 2700 ≤ k) : tlv_Decode.f k s a = some ((dec s a).1.f0, (dec s a).1.f1, (dec s a).1.f2, (dec s a).2.1, (dec s a).2.2) ∧
    ∃ er : Option Er, (tlv_told.f er = some (dec s a).2.2) ∧ (er.isNone = true ↔ (dec s a).2.2 = 0) ∧ tlv_decoded.f k s a = some ((dec s a).1.f0, (dec s a).1.f1, (dec s a).1.f2, (dec s a).2.1, er) := by
  have key : ∃ er : Option Er, (tlv_told.f er = some (dec s a).2.2) ∧ (er.isNone = true ↔ (dec s a).2.2 = 0) ∧ tlv_decoded.f k s a = some ((dec s a).1.f0, (dec s a).1.f1, (dec s a).1.f2, (dec s a).2.1, er) := by
    obtain ⟨k, rfl⟩ : ∃ j, k = j + 1 := ⟨k - 1, by omega⟩
    unfold tlv_decoded.f dec
    by_cases h0 : a < 0 ∨ (s.size : Int) < a
    · rw [if_pos h0]
      have : (if a < 0 then tlv_decoded.j0 (k + 1) s a true else tlv_decoded.j0 (k + 1) s a (decide (a > (s.size : Int)))) = tlv_decoded.j0 (k + 1) s a true := by
        by_cases h1 : a < 0
        · rw [if_pos h1]
        · rw [if_neg h1, decide_eq_true (show a > (s.size : Int) by omega)]
      rw [this]
      exact ⟨some (Er.short a), rfl, by simp, rfl⟩
    · rw [if_neg h0, if_neg (by omega), decide_eq_false (show ¬ a > (s.size : Int) by omega)]
      simp only [tlv_decoded.j0, Bool.false_eq_true, if_false]
      have ht := tree_f s hs 13 a 0 s.size 1 k (by omega) (by omega) (by omega) (by omega) (by omega) (Int.le_refl _) (by omega) (by omega) (by omega) (by omega)
      cases hr : rd s 13 a 0 s.size 1 with
      | mk r q =>
        obtain ⟨a', n'⟩ := q
        rw [hr] at ht
        cases r with
        | error x =>
          obtain ⟨er, e1, e2⟩ := ht
          simp only [e2, Option.bind_some]
          have hx := rd_err _ _ _ _ _ _ _ _ hr
          exact ⟨some er, by rw [← e1]; rfl, by simp [hx], rfl⟩
        | ok y =>
          simp only [RdAns] at ht
          obtain ⟨q1, q2, q3, q4, q5, q6⟩ := rd_ok 13 a 0 s.size 1 y a' n' (by omega) (Int.le_refl _) (Int.le_refl _) hr
          have hfew : few y = true := few_of_len (by omega)
          simp only [ht, Option.bind_some, Option.isNone_none, if_true]
          rw [right_f y hfew]
          simp only [Option.bind_some]
          by_cases hy : right y = true
          · rw [if_pos hy, if_pos hy]
            exact ⟨none, rfl, by simp, rfl⟩
          · rw [if_neg hy, if_neg hy]
            exact ⟨some (Er.node a), rfl, by simp, rfl⟩
  obtain ⟨er, h1, h2, h3⟩ := key
  refine ⟨?_, er, h1, h2, h3⟩
  unfold tlv_Decode.f
  rw [h3]
  simp only [Option.bind_some]
  rw [h1]
  rfl
theorem whole_f (s : ByteArray) (hs : s.size ≤ 100000) (k : Nat) (hk : 2700 ≤ k) : tlv_Whole.f k s = some ((whole s).1.f0, (whole s).1.f1, (whole s).1.f2, (whole s).2) := by
  obtain ⟨_, er, h1, h2, h3⟩ := dec_f s 0 hs k hk
  unfold tlv_Whole.f whole
  rw [h3]
  simp only [Option.bind_some]
  by_cases hz : (dec s 0).2.2 = 0
  · have hn := h2.2 hz
    rw [if_pos hn]
    have her : er = none := by cases er with
      | none => rfl
      | some q => cases hn
    subst her
    by_cases ha : (dec s 0).2.1 = (s.size : Int)
    · rw [if_pos ha, if_neg (by simp [ha]), h1]
      rfl
    · rw [if_neg ha, if_pos ⟨hz, ha⟩]
      rfl
  · have hn : ¬ er.isNone = true := fun h => hz (h2.1 h)
    rw [if_neg hn, if_neg (fun h => hz h.1)]
    cases er with
    | none => exact absurd rfl hn
    | some q =>
      rw [Option.getD_some, h1]
      rfl
end Tlv
end Go.Proofs.YthnddhgkjkpmfaaDoor
