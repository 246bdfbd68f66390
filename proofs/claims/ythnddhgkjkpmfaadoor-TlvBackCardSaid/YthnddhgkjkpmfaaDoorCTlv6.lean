/- CTlv6: own texts of this seat, laid as one. -/
import Derived.Test.YthnddhgkjkpmfaaDoorCTlv5
-- Written by this repo's own program over the kit's printer: YthnddhgkjkpmfaaDoor.LTlvC
namespace Go.Proofs.YthnddhgkjkpmfaaDoor.LTlvC
open Go.Proofs.YthnddhgkjkpmfaaDoor.ExtTlvC
open Go.Proofs.YthnddhgkjkpmfaaDoor.KTlv
open Go.RowKit Go.Proofs.YthnddhgkjkpmfaaDoorW.PrintWords Go.Proofs.YthnddhgkjkpmfaaDoorW.PrintLast Go.Proofs.YthnddhgkjkpmfaaDoorW.PrintMore
attribute [local go_sem] max2_int min2_int max_two min_two max_three min_three max_four min_four   -- for this text's walks alone
attribute [local go_sem] some_set
set_option linter.unusedVariables false
set_option linter.unusedSimpArgs false
variable {G : Gl}
def tlv_Whole.f (k : Nat) (a0 : ByteArray) : Option (Int × ByteArray × (List (S24)) × Int) := (tlv_decoded.f k a0 0).bind fun bt168 => (if bt168.2.2.2.2.isNone = true then (if bt168.2.2.2.1 = (a0.size : Int) then ((tlv_told.f none).bind fun t177 => (some (bt168.1, bt168.2.1, bt168.2.2.1, t177))) else ((tlv_told.f (some (Er.form bt168.2.2.2.1))).bind fun t178 => (some (0, (⟨#[]⟩ : ByteArray), ([] : List (S24)), t178)))) else ((tlv_told.f (some (bt168.2.2.2.2.getD Er.z))).bind fun t179 => (some (bt168.1, bt168.2.1, bt168.2.2.1, t179))))
theorem tlv_Whole.mono : ∀ a0 k, LeO (tlv_Whole.f k a0) (tlv_Whole.f (k + 1) a0) := by
 intro a0 k
 unfold tlv_Whole.f
 repeat' first
   | (with_reducible exact tlv_decoded.mono _ _ _)
   | (with_reducible exact LeO.refl _)
   | (with_reducible exact LeO.none _)
   | (with_reducible refine LeO.ite ?_ ?_)
   | (with_reducible refine LeO.bind ?_ (fun _ => ?_))
   | exact tlv_decoded.mono _ _ _
   | exact LeO.none _
   | refine LeO.ite ?_ ?_
   | refine LeO.bind ?_ (fun _ => ?_)
set_option maxHeartbeats 8000000 in
set_option maxRecDepth 100000 in
theorem tlv_Whole.calls (k : Nat) (a0 : ByteArray) (r1 : Int) (r2 : ByteArray) (r3 : List (S24)) (r4 : Int) (w : World) (hG : GW G w) (h : tlv_Whole.f k a0 = some (r1, r2, r3, r4)) :
  Calls Tryd.prog 19 #[.string a0] w fun e w' => ∃ v2_ : Value, e = .returned (.tuple #[.agg #[.int .i64 r1, .string r2, v2_], .int .i64 r4]) ∧ Kd.R k24 24 w' w.heap.size (fun _ => True) v2_ r3 ∧ Below w.heap.size w w' := by
 have hu24 := Tryd.underlying24
 have hu49 := Tryd.underlying49
 have HB := Aside0.mk (Below.refl w.heap.size w)
 have H : ((tlv_decoded.f k a0 0).bind fun bt168 => (if bt168.2.2.2.2.isNone = true then (if bt168.2.2.2.1 = (a0.size : Int) then ((tlv_told.f none).bind fun t177 => (some (bt168.1, bt168.2.1, bt168.2.2.1, t177))) else ((tlv_told.f (some (Er.form bt168.2.2.2.1))).bind fun t178 => (some (0, (⟨#[]⟩ : ByteArray), ([] : List (S24)), t178)))) else ((tlv_told.f (some (bt168.2.2.2.2.getD Er.z))).bind fun t179 => (some (bt168.1, bt168.2.1, bt168.2.2.1, t179))))) = some (r1, r2, r3, r4) := h
 clear h
 replace H := Option.bind_eq_some_iff.mp H
 obtain ⟨⟨t168, t169, t170, t173, t174⟩, A20, H⟩ := H
 replace H : (if t174.isNone = true then (if t173 = (a0.size : Int) then ((tlv_told.f none).bind fun t177 => (some (t168, t169, t170, t177))) else ((tlv_told.f (some (Er.form t173))).bind fun t178 => (some (0, (⟨#[]⟩ : ByteArray), ([] : List (S24)), t178)))) else ((tlv_told.f (some (t174.getD Er.z))).bind fun t179 => (some (t168, t169, t170, t179)))) = some (r1, r2, r3, r4) := H
 have A2 := Aside0.mk A20
 clear A20
 rcases t174 with _ | q176
 ·have H1 : (if t173 = (a0.size : Int) then ((tlv_told.f none).bind fun t177 => (some (t168, t169, t170, t177))) else ((tlv_told.f (some (Er.form t173))).bind fun t178 => (some (0, (⟨#[]⟩ : ByteArray), ([] : List (S24)), t178)))) = some (r1, r2, r3, r4) := by rw [if_pos (show (none : Option Er).isNone = true by rfl)] at H; exact H
  clear H
  have H := H1
  clear H1
  try simp only [eW]
  by_cases c3 : t173 = (a0.size : Int)
  ·rw [if_pos c3] at H
   have c3b0 : (t173 == (a0.size : Int)) = true := beq_iff_eq.mpr c3
   have c3b1 : (t173 != (a0.size : Int)) = false := bne_eq_false_iff_eq.mpr c3
   clear c3
   replace H := Option.bind_eq_some_iff.mp H
   obtain ⟨t177, A40, H⟩ := H
   replace H : (some (t168, t169, t170, t177)) = some (r1, r2, r3, r4) := H
   have A4 := Aside0.mk A40
   clear A40
   simp only [Option.some.injEq, Prod.mk.injEq] at H
   obtain ⟨rfl, rfl, rfl, rfl⟩ := H
   go_enter Tryd.func19, Tryd.ntmps19
   try go_wp2_with (first | ((with_reducible refine gate_dst (N := 2) rfl ?_); (try (refine gate_guard (by rfl) ?_; dsimp only)); refine box_event ?hg (N := 2) ?hd (cs := #[.int .i64 0, .string (⟨#[]⟩ : ByteArray), .slice none 0 0]) (t := 24) ?hr ?_; (case hd => rfl); (case hg => rfl); (case hr => first | (go_simp; done) | (go_simp; rfl)); intro gb167 hg w5 hbox hb; have n0_ := Aside0.mk (below_step q0_ hb); have n1_ := Aside0.mk (hbox); have n2_ := Aside0.mk ((by rw [hg]; exact (below_size q0_) : w.heap.size ≤ gb167)); have n3_ := Aside0.mk ((by rw [hg]; exact (below_size q0_) : w.heap.size ≤ gb167)); clear HB; have HB := n0_; have BK167 := n1_; have GW167 := n2_; have GE167 := n3_; clear n0_ n1_ n2_ n3_; clear hb hbox hg) | ((with_reducible refine gate_callee (f := 31) rfl ?_); refine goesL_ (some 9) rfl rfl Tryd.func31 (by kernel_rfl) rfl #[.string a0, .int .i64 0] rfl argq ?_; (with_reducible refine (tlv_decoded.calls (G := G) k a0 0 t168 t169 t170 t173 none _ ?side1 A2.out).mono ?_); (case side1 => first | exact hG | exact GW.below hG q0_); rintro e w6 ⟨v171, rfl, ho0, hb⟩; refine ⟨_, rfl, ?_⟩; have n0_ := Aside0.mk (Kd.R_lower (Kd.R_newB ho0 (g := gb167) (o := .cells #[.int .i64 0, .string (⟨#[]⟩ : ByteArray), .slice none 0 0] 24 (0, 0)) (bkq BK167.out)) (below_size q0_)); have n1_ := Aside0.mk (blk_below (g := gb167) (o := .cells #[.int .i64 0, .string (⟨#[]⟩ : ByteArray), .slice none 0 0] 24 (0, 0)) (bkq BK167.out) hb); have n2_ := Aside0.mk (below_step q0_ hb); clear BK167; clear HB; have HO172 := n0_; have BK167 := n1_; have HB := n2_; clear n0_ n1_ n2_; (try clear hb); (try clear hb2); (try clear hk); (try clear hi); (try clear ho0); (try simp only [eW])) | ((with_reducible refine gate_dst (N := 4) rfl ?_); (try (refine gate_guard (by rfl) ?_; dsimp only)); refine box_event ?hg (N := 4) ?hd (cs := #[.int .i64 0, .string (⟨#[]⟩ : ByteArray), .slice none 0 0]) (t := 24) ?hr ?_; (case hd => rfl); (case hg => rfl); (case hr => first | (go_simp; done) | (go_simp; rfl)); intro gb175 hg w7 hbox hb; have n0_ := Aside0.mk (Kd.R_below (Kd.R_elderB (rkq HO172.out) gb175 (Nat.le_of_eq hg.symm)) hb); have n1_ := Aside0.mk (blk_below (g := gb167) (o := .cells #[.int .i64 0, .string (⟨#[]⟩ : ByteArray), .slice none 0 0] 24 (0, 0)) (bkq BK167.out) hb); have n2_ := Aside0.mk (below_step q0_ hb); have n3_ := Aside0.mk (hbox); have n4_ := Aside0.mk ((by rw [hg]; exact (below_size q0_) : w.heap.size ≤ gb175)); have n5_ := Aside0.mk ((by rw [hg]; exact (below_size q0_) : w.heap.size ≤ gb175)); have n6_ := Aside0.mk ((by rw [hg]; exact Nat.ne_of_lt (blk_lt (g := gb167) (o := .cells #[.int .i64 0, .string (⟨#[]⟩ : ByteArray), .slice none 0 0] 24 (0, 0)) (bkq BK167.out)) : gb167 ≠ gb175)); have n7_ := Aside0.mk ((by rw [hg]; exact Nat.ne_of_gt (blk_lt (g := gb167) (o := .cells #[.int .i64 0, .string (⟨#[]⟩ : ByteArray), .slice none 0 0] 24 (0, 0)) (bkq BK167.out)) : gb175 ≠ gb167)); clear HO172; clear BK167; clear HB; have HO172 := n0_; have BK167 := n1_; have HB := n2_; have BK175 := n3_; have GW175 := n4_; have GE175 := n5_; have NB167_175 := n6_; have NB175_167 := n7_; clear n0_ n1_ n2_ n3_ n4_ n5_ n6_ n7_; clear hb hbox hg; have hnb8 := NB175_167.out; have hnc8 := NB167_175.out; have hcz9_0 : w7.cell? ⟨gb175, 0, none⟩ = some (.int .i64 0) := (blk_cell BK175.out 0).trans rfl; have hcz9_1 : w7.cell? ⟨gb175, 1, none⟩ = some (.string (⟨#[]⟩ : ByteArray)) := (blk_cell BK175.out 1).trans rfl; have hcz9_2 : w7.cell? ⟨gb175, 2, none⟩ = some (.slice none 0 0) := (blk_cell BK175.out 2).trans rfl; have hfz9_0 := blk_frozen BK175.out 0; have hfz9_1 := blk_frozen BK175.out 1; have hfz9_2 := blk_frozen BK175.out 2; obtain ⟨Ao10, co10, eo10⟩ := Kd.R_slice HO172.out; subst eo10))
   have n0_ : Aside0 (Kd.R k24 24 (((w7.setCell ⟨gb175, 0, none⟩ (.int .i64 t168)).setCell ⟨gb175, 1, none⟩ (.string t169)).setCell ⟨gb175, 2, none⟩ (.slice Ao10 t170.length co10)) w.heap.size (fun k_ => k_ ≠ gb167 ∧ k_ ≠ gb175) (.slice Ao10 t170.length co10) t170) := ⟨by refine rkq ?_; exact Kd.R_mono (Kd.R_far (p := ⟨gb175, 2, none⟩) (Kd.R_far (p := ⟨gb175, 1, none⟩) (Kd.R_far (p := ⟨gb175, 0, none⟩) (Kd.R_mono HO172.out (fun k_ hk => (⟨hk, hk.2⟩ : _ ∧ k_ ≠ gb175))) (fun _ hk => hk.2) (.int .i64 t168)) (fun _ hk => hk.2) (.string t169)) (fun _ hk => hk.2) (.slice Ao10 t170.length co10)) (fun _ hk => ⟨hk.1.1.2, hk.1.2⟩)⟩
   have n1_ : Aside0 ((((w7.setCell ⟨gb175, 0, none⟩ (.int .i64 t168)).setCell ⟨gb175, 1, none⟩ (.string t169)).setCell ⟨gb175, 2, none⟩ (.slice Ao10 t170.length co10)).heap[gb167]? = some (.cells #[.int .i64 0, .string (⟨#[]⟩ : ByteArray), .slice none 0 0] 24 (0, 0))) := ⟨by refine bkq ?_; refine blk_far ?_ NB167_175.out _; refine bkq ?_; refine blk_far ?_ NB167_175.out _; refine bkq ?_; refine blk_far ?_ NB167_175.out _; refine bkq ?_; exact BK167.out⟩
   have n2_ : Aside0 ((((w7.setCell ⟨gb175, 0, none⟩ (.int .i64 t168)).setCell ⟨gb175, 1, none⟩ (.string t169)).setCell ⟨gb175, 2, none⟩ (.slice Ao10 t170.length co10)).heap[gb175]? = some (.cells #[.int .i64 t168, .string t169, .slice Ao10 t170.length co10] 24 (0, 0))) := ⟨by refine bkq ?_; refine blk_put (cs := #[.int .i64 t168, .string t169, .slice none 0 0]) ?_ 2 _ rfl; refine bkq ?_; refine blk_put (cs := #[.int .i64 t168, .string (⟨#[]⟩ : ByteArray), .slice none 0 0]) ?_ 1 _ rfl; refine bkq ?_; refine blk_put (cs := #[.int .i64 0, .string (⟨#[]⟩ : ByteArray), .slice none 0 0]) ?_ 0 _ rfl; refine bkq ?_; exact BK175.out⟩
   have n3_ : Aside0 (Below w.heap.size w (((w7.setCell ⟨gb175, 0, none⟩ (.int .i64 t168)).setCell ⟨gb175, 1, none⟩ (.string t169)).setCell ⟨gb175, 2, none⟩ (.slice Ao10 t170.length co10))) := ⟨q0_⟩
   (try clear HO172)
   (try clear BK167)
   (try clear BK175)
   (try clear HB)
   generalize (((w7.setCell ⟨gb175, 0, none⟩ (.int .i64 t168)).setCell ⟨gb175, 1, none⟩ (.string t169)).setCell ⟨gb175, 2, none⟩ (.slice Ao10 t170.length co10)) = w11 at n0_ n1_ n2_ n3_ ⊢
   have HO172 := n0_
   have BK167 := n1_
   have BK175 := n2_
   have HB := n3_
   clear n0_ n1_ n2_ n3_
   have n0_ := Aside0.mk (Kd.R_drew HO172.out)
   have n1_ := Aside0.mk (blk_drew BK167.out)
   have n2_ := Aside0.mk (blk_drew BK175.out)
   have n3_ := Aside0.mk (below_drew1 HB.out)
   clear HO172
   clear BK167
   clear BK175
   clear HB
   have HO172 := n0_
   have BK167 := n1_
   have BK175 := n2_
   have HB := n3_
   clear n0_ n1_ n2_ n3_
   have CA4 := fun W (hG_ : GW G W) => tlv_told.calls none t177 W hG_ A4.out
   refine start_ (n := 5) (S := fun w' => w'.cell? ⟨gb175, 0, none⟩ = some (.int .i64 t168) ∧ w'.cell? ⟨gb175, 1, none⟩ = some (.string t169) ∧ w'.cell? ⟨gb175, 2, none⟩ = some (.slice Ao10 t170.length co10)) (ds := []) #[false, false, false, false, false] (by kernel_rfl) rfl rfl ⟨(blk_cell BK175.out 0).trans rfl, (blk_cell BK175.out 1).trans rfl, (blk_cell BK175.out 2).trans rfl⟩ (fun hHeld => ?_)
   generalize w11.drew = w12 at HO172 BK167 BK175 HB hHeld ⊢
   refine pure_ (i := 1) (N := some 27) (v := ?_) (a' := ?_) #[false, true, false, false, false] rfl rfl (by kernel_rfl) (fun _ _ _ h => h) (Or.inl ⟨by rfl, ?_⟩) ?_ ?_
   rotate_left
   ·intro w'
    go_simp
    with_reducible rfl
   rotate_left
   ·exact putq
   refine take_ (i := 0) (N := some 26) (v := ?_) (a' := ?_) #[true, true, false, false, false] rfl rfl (by kernel_rfl) (fun _ _ _ h => h) (Or.inl ⟨by rfl, ?_⟩) hHeld ?_ ?_
   rotate_left
   ·rintro w' ⟨s0, s1, s2⟩
    go_simp
    with_reducible rfl
   rotate_left
   ·exact putq
   refine one_ (i := 2) (N := some 28) #[true, true, true, false, false] rfl rfl (by kernel_rfl) (by decide) (fun K hK => ?_)
   refine goes_ Tryd.func28 (by kernel_rfl) rfl #[errW G none] (by rfl) rfl rfl argq ?_
   with_reducible refine (CA4 _ ?side1).mono ?_
   (case side1 => first | exact hG | exact GW.below hG q0_)
   rintro e w13 ⟨rfl, hb⟩
   refine ⟨_, rfl, ?_⟩
   have n0_ := Aside0.mk (Kd.R_below (rkq HO172.out) hb)
   have n1_ := Aside0.mk (blk_below (g := gb167) (o := .cells #[.int .i64 0, .string (⟨#[]⟩ : ByteArray), .slice none 0 0] 24 (0, 0)) (bkq BK167.out) hb)
   have n2_ := Aside0.mk (blk_below (g := gb175) (o := .cells #[.int .i64 t168, .string t169, .slice Ao10 t170.length co10] 24 (0, 0)) (bkq BK175.out) hb)
   have n3_ := Aside0.mk (below_step q0_ hb)
   clear HO172
   clear BK167
   clear BK175
   clear HB
   have HO172 := n0_
   have BK167 := n1_
   have BK175 := n2_
   have HB := n3_
   clear n0_ n1_ n2_ n3_
   (try clear hb)
   (try clear hb2)
   (try clear hk)
   (try clear hi)
   refine hK.out _ _ ⟨(blk_cell BK175.out 0).trans rfl, (blk_cell BK175.out 1).trans rfl, (blk_cell BK175.out 2).trans rfl⟩ (fun hHeld => ?_)
   clear hK K
   refine norm_ (a' := ?_) ?_ ?_
   rotate_left
   ·show Act.put _ (some 28) _ = _
    exact putq
   refine one_ (i := 3) (N := none) #[true, true, true, true, false] rfl rfl (by kernel_rfl) (by decide) (fun K hK => ?_)
   have hs14 : w13.cell? ⟨gb167, 0, none⟩ = some (.int .i64 0) := (blk_cell BK167.out 0).trans rfl
   have hfs14 := blk_frozen BK167.out 0
   have hns14_1 := NB175_167.out
   have hms14_1 := NB167_175.out
   have hs15 : w13.cell? ⟨gb167, 1, none⟩ = some (.string (⟨#[]⟩ : ByteArray)) := (blk_cell BK167.out 1).trans rfl
   have hfs15 := blk_frozen BK167.out 1
   have hns15_1 := NB175_167.out
   have hms15_1 := NB167_175.out
   have hs16 : w13.cell? ⟨gb167, 2, none⟩ = some (.slice none 0 0) := (blk_cell BK167.out 2).trans rfl
   have hfs16 := blk_frozen BK167.out 2
   have hns16_1 := NB175_167.out
   have hms16_1 := NB167_175.out
   refine skip_ (w1 := ?_) (by rfl) rfl ?_ ?_
   rotate_left
   ·go_simp
    rfl
   refine hK.out _ _ ⟨((cell_far (p := ⟨gb167, _, none⟩) NB175_167.out _).trans (((cell_far (p := ⟨gb167, _, none⟩) NB175_167.out _).trans (((cell_far (p := ⟨gb167, _, none⟩) NB175_167.out _).trans (hHeld.1)))))), ((cell_far (p := ⟨gb167, _, none⟩) NB175_167.out _).trans (((cell_far (p := ⟨gb167, _, none⟩) NB175_167.out _).trans (((cell_far (p := ⟨gb167, _, none⟩) NB175_167.out _).trans (hHeld.2.1)))))), ((cell_far (p := ⟨gb167, _, none⟩) NB175_167.out _).trans (((cell_far (p := ⟨gb167, _, none⟩) NB175_167.out _).trans (((cell_far (p := ⟨gb167, _, none⟩) NB175_167.out _).trans (hHeld.2.2))))))⟩ (fun hHeld => ?_)
   clear hK K
   refine pure_ (i := 4) (N := some 3) (v := ?_) (a' := ?_) #[true, true, true, true, true] rfl rfl (by kernel_rfl) (fun _ _ _ h => h) (Or.inl ⟨by rfl, ?_⟩) ?_ ?_
   rotate_left
   ·intro w'
    go_simp
    with_reducible rfl
   rotate_left
   ·exact putq
   refine done_ (by kernel_rfl) ?_
   try go_wp2
   refine bodyPost_ret (results_ct rfl _ _ gb167 24 #[.int .i64 t168, .string t169, .slice Ao10 t170.length co10] (0, 0) _ rfl (by refine bkq ?_; refine blk_put (cs := #[.int .i64 t168, .string t169, .slice none 0 0]) ?_ 2 _ rfl; refine bkq ?_; refine blk_put (cs := #[.int .i64 t168, .string (⟨#[]⟩ : ByteArray), .slice none 0 0]) ?_ 1 _ rfl; refine bkq ?_; refine blk_put (cs := #[.int .i64 0, .string (⟨#[]⟩ : ByteArray), .slice none 0 0]) ?_ 0 _ rfl; refine bkq ?_; exact BK167.out) Tryd.underlying24 rfl (by kernel_rfl)) rfl ?_
   exact ⟨_, q2_, by refine rkq ?_; exact Kd.R_mono (Kd.R_far (p := ⟨gb167, 2, none⟩) (Kd.R_far (p := ⟨gb167, 1, none⟩) (Kd.R_far (p := ⟨gb167, 0, none⟩) (Kd.R_mono HO172.out (fun k_ hk => (⟨hk, hk.1⟩ : _ ∧ k_ ≠ gb167))) (fun _ hk => hk.2) (.int .i64 t168)) (fun _ hk => hk.2) (.string t169)) (fun _ hk => hk.2) (.slice Ao10 t170.length co10)) (fun _ hk => trivial), q0_⟩
  ·rw [if_neg c3] at H
   have c3b0 : (t173 == (a0.size : Int)) = false := beq_eq_false_iff_ne.mpr c3
   have c3b1 : (t173 != (a0.size : Int)) = true := bne_iff_ne.mpr c3
   replace H := Option.bind_eq_some_iff.mp H
   obtain ⟨t178, A170, H⟩ := H
   replace H : (some (0, (⟨#[]⟩ : ByteArray), ([] : List (S24)), t178)) = some (r1, r2, r3, r4) := H
   have A17 := Aside0.mk A170
   clear A170
   simp only [Option.some.injEq, Prod.mk.injEq] at H
   obtain ⟨rfl, rfl, rfl, rfl⟩ := H
   go_enter Tryd.func19, Tryd.ntmps19
   try go_wp2_with (first | ((with_reducible refine gate_dst (N := 2) rfl ?_); (try (refine gate_guard (by rfl) ?_; dsimp only)); refine box_event ?hg (N := 2) ?hd (cs := #[.int .i64 0, .string (⟨#[]⟩ : ByteArray), .slice none 0 0]) (t := 24) ?hr ?_; (case hd => rfl); (case hg => rfl); (case hr => first | (go_simp; done) | (go_simp; rfl)); intro gb167 hg w18 hbox hb; have n0_ := Aside0.mk (below_step q0_ hb); have n1_ := Aside0.mk (hbox); have n2_ := Aside0.mk ((by rw [hg]; exact (below_size q0_) : w.heap.size ≤ gb167)); have n3_ := Aside0.mk ((by rw [hg]; exact (below_size q0_) : w.heap.size ≤ gb167)); clear HB; have HB := n0_; have BK167 := n1_; have GW167 := n2_; have GE167 := n3_; clear n0_ n1_ n2_ n3_; clear hb hbox hg) | ((with_reducible refine gate_callee (f := 31) rfl ?_); refine goesL_ (some 9) rfl rfl Tryd.func31 (by kernel_rfl) rfl #[.string a0, .int .i64 0] rfl argq ?_; (with_reducible refine (tlv_decoded.calls (G := G) k a0 0 t168 t169 t170 t173 none _ ?side1 A2.out).mono ?_); (case side1 => first | exact hG | exact GW.below hG q0_); rintro e w19 ⟨v171, rfl, ho0, hb⟩; refine ⟨_, rfl, ?_⟩; have n0_ := Aside0.mk (Kd.R_lower (Kd.R_newB ho0 (g := gb167) (o := .cells #[.int .i64 0, .string (⟨#[]⟩ : ByteArray), .slice none 0 0] 24 (0, 0)) (bkq BK167.out)) (below_size q0_)); have n1_ := Aside0.mk (blk_below (g := gb167) (o := .cells #[.int .i64 0, .string (⟨#[]⟩ : ByteArray), .slice none 0 0] 24 (0, 0)) (bkq BK167.out) hb); have n2_ := Aside0.mk (below_step q0_ hb); clear BK167; clear HB; have HO172 := n0_; have BK167 := n1_; have HB := n2_; clear n0_ n1_ n2_; (try clear hb); (try clear hb2); (try clear hk); (try clear hi); (try clear ho0); (try simp only [eW])) | ((with_reducible refine gate_dst (N := 4) rfl ?_); (try (refine gate_guard (by rfl) ?_; dsimp only)); refine box_event ?hg (N := 4) ?hd (cs := #[.int .i64 0, .string (⟨#[]⟩ : ByteArray), .slice none 0 0]) (t := 24) ?hr ?_; (case hd => rfl); (case hg => rfl); (case hr => first | (go_simp; done) | (go_simp; rfl)); intro gb175 hg w20 hbox hb; have n0_ := Aside0.mk (Kd.R_below (Kd.R_elderB (rkq HO172.out) gb175 (Nat.le_of_eq hg.symm)) hb); have n1_ := Aside0.mk (blk_below (g := gb167) (o := .cells #[.int .i64 0, .string (⟨#[]⟩ : ByteArray), .slice none 0 0] 24 (0, 0)) (bkq BK167.out) hb); have n2_ := Aside0.mk (below_step q0_ hb); have n3_ := Aside0.mk (hbox); have n4_ := Aside0.mk ((by rw [hg]; exact (below_size q0_) : w.heap.size ≤ gb175)); have n5_ := Aside0.mk ((by rw [hg]; exact (below_size q0_) : w.heap.size ≤ gb175)); have n6_ := Aside0.mk ((by rw [hg]; exact Nat.ne_of_lt (blk_lt (g := gb167) (o := .cells #[.int .i64 0, .string (⟨#[]⟩ : ByteArray), .slice none 0 0] 24 (0, 0)) (bkq BK167.out)) : gb167 ≠ gb175)); have n7_ := Aside0.mk ((by rw [hg]; exact Nat.ne_of_gt (blk_lt (g := gb167) (o := .cells #[.int .i64 0, .string (⟨#[]⟩ : ByteArray), .slice none 0 0] 24 (0, 0)) (bkq BK167.out)) : gb175 ≠ gb167)); clear HO172; clear BK167; clear HB; have HO172 := n0_; have BK167 := n1_; have HB := n2_; have BK175 := n3_; have GW175 := n4_; have GE175 := n5_; have NB167_175 := n6_; have NB175_167 := n7_; clear n0_ n1_ n2_ n3_ n4_ n5_ n6_ n7_; clear hb hbox hg; have hnb21 := NB175_167.out; have hnc21 := NB167_175.out; have hcz22_0 : w20.cell? ⟨gb175, 0, none⟩ = some (.int .i64 0) := (blk_cell BK175.out 0).trans rfl; have hcz22_1 : w20.cell? ⟨gb175, 1, none⟩ = some (.string (⟨#[]⟩ : ByteArray)) := (blk_cell BK175.out 1).trans rfl; have hcz22_2 : w20.cell? ⟨gb175, 2, none⟩ = some (.slice none 0 0) := (blk_cell BK175.out 2).trans rfl; have hfz22_0 := blk_frozen BK175.out 0; have hfz22_1 := blk_frozen BK175.out 1; have hfz22_2 := blk_frozen BK175.out 2; obtain ⟨Ao23, co23, eo23⟩ := Kd.R_slice HO172.out; subst eo23))
   have n0_ : Aside0 (Kd.R k24 24 (((w20.setCell ⟨gb175, 0, none⟩ (.int .i64 t168)).setCell ⟨gb175, 1, none⟩ (.string t169)).setCell ⟨gb175, 2, none⟩ (.slice Ao23 t170.length co23)) w.heap.size (fun k_ => k_ ≠ gb167 ∧ k_ ≠ gb175) (.slice Ao23 t170.length co23) t170) := ⟨by refine rkq ?_; exact Kd.R_mono (Kd.R_far (p := ⟨gb175, 2, none⟩) (Kd.R_far (p := ⟨gb175, 1, none⟩) (Kd.R_far (p := ⟨gb175, 0, none⟩) (Kd.R_mono HO172.out (fun k_ hk => (⟨hk, hk.2⟩ : _ ∧ k_ ≠ gb175))) (fun _ hk => hk.2) (.int .i64 t168)) (fun _ hk => hk.2) (.string t169)) (fun _ hk => hk.2) (.slice Ao23 t170.length co23)) (fun _ hk => ⟨hk.1.1.2, hk.1.2⟩)⟩
   have n1_ : Aside0 ((((w20.setCell ⟨gb175, 0, none⟩ (.int .i64 t168)).setCell ⟨gb175, 1, none⟩ (.string t169)).setCell ⟨gb175, 2, none⟩ (.slice Ao23 t170.length co23)).heap[gb167]? = some (.cells #[.int .i64 0, .string (⟨#[]⟩ : ByteArray), .slice none 0 0] 24 (0, 0))) := ⟨by refine bkq ?_; refine blk_far ?_ NB167_175.out _; refine bkq ?_; refine blk_far ?_ NB167_175.out _; refine bkq ?_; refine blk_far ?_ NB167_175.out _; refine bkq ?_; exact BK167.out⟩
   have n2_ : Aside0 ((((w20.setCell ⟨gb175, 0, none⟩ (.int .i64 t168)).setCell ⟨gb175, 1, none⟩ (.string t169)).setCell ⟨gb175, 2, none⟩ (.slice Ao23 t170.length co23)).heap[gb175]? = some (.cells #[.int .i64 t168, .string t169, .slice Ao23 t170.length co23] 24 (0, 0))) := ⟨by refine bkq ?_; refine blk_put (cs := #[.int .i64 t168, .string t169, .slice none 0 0]) ?_ 2 _ rfl; refine bkq ?_; refine blk_put (cs := #[.int .i64 t168, .string (⟨#[]⟩ : ByteArray), .slice none 0 0]) ?_ 1 _ rfl; refine bkq ?_; refine blk_put (cs := #[.int .i64 0, .string (⟨#[]⟩ : ByteArray), .slice none 0 0]) ?_ 0 _ rfl; refine bkq ?_; exact BK175.out⟩
   have n3_ : Aside0 (Below w.heap.size w (((w20.setCell ⟨gb175, 0, none⟩ (.int .i64 t168)).setCell ⟨gb175, 1, none⟩ (.string t169)).setCell ⟨gb175, 2, none⟩ (.slice Ao23 t170.length co23))) := ⟨q0_⟩
   (try clear HO172)
   (try clear BK167)
   (try clear BK175)
   (try clear HB)
   generalize (((w20.setCell ⟨gb175, 0, none⟩ (.int .i64 t168)).setCell ⟨gb175, 1, none⟩ (.string t169)).setCell ⟨gb175, 2, none⟩ (.slice Ao23 t170.length co23)) = w24 at n0_ n1_ n2_ n3_ ⊢
   have HO172 := n0_
   have BK167 := n1_
   have BK175 := n2_
   have HB := n3_
   clear n0_ n1_ n2_ n3_
   have n0_ := Aside0.mk (Kd.R_drew HO172.out)
   have n1_ := Aside0.mk (blk_drew BK167.out)
   have n2_ := Aside0.mk (blk_drew BK175.out)
   have n3_ := Aside0.mk (below_drew1 HB.out)
   clear HO172
   clear BK167
   clear BK175
   clear HB
   have HO172 := n0_
   have BK167 := n1_
   have BK175 := n2_
   have HB := n3_
   clear n0_ n1_ n2_ n3_
   refine start_ (n := 7) (S := fun w' => w'.cell? ⟨1, 0, none⟩ = some (GC1 G)) (ds := []) #[false, false, false, false, false, false, false] (by kernel_rfl) rfl rfl ((GW.c1 (GW.below hG q0_))) (fun hHeld => ?_)
   generalize w24.drew = w25 at HO172 BK167 BK175 HB hHeld ⊢
   refine pure_ (i := 0) (N := some 21) (v := ?_) (a' := ?_) #[true, false, false, false, false, false, false] rfl rfl (by kernel_rfl) (fun _ _ _ h => h) (Or.inl ⟨by rfl, ?_⟩) ?_ ?_
   rotate_left
   ·intro w'
    go_simp
    with_reducible rfl
   rotate_left
   ·exact putq
   refine pure_ (i := 1) (N := some 22) (v := ?_) (a' := ?_) #[true, true, false, false, false, false, false] rfl rfl (by kernel_rfl) (fun _ _ _ h => h) (Or.inl ⟨by rfl, ?_⟩) ?_ ?_
   rotate_left
   ·intro w'
    go_simp
    with_reducible rfl
   rotate_left
   ·exact putq
   refine take_ (i := 2) (N := some 23) (v := ?_) (a' := ?_) #[true, true, true, false, false, false, false] rfl rfl (by kernel_rfl) (fun _ _ _ h => h) (Or.inl ⟨by rfl, ?_⟩) hHeld ?_ ?_
   rotate_left
   ·intro w' s0
    go_simp
    with_reducible rfl
   rotate_left
   ·exact putq
   refine pure_ (i := 3) (N := some 24) (v := ?_) (a' := ?_) #[true, true, true, true, false, false, false] rfl rfl (by kernel_rfl) (fun _ _ _ h => h) (Or.inl ⟨by rfl, ?_⟩) ?_ ?_
   rotate_left
   ·intro w'
    go_simp
    with_reducible rfl
   rotate_left
   ·exact putq
   refine pure_ (i := 4) (N := some 25) (v := ?_) (a' := ?_) #[true, true, true, true, true, false, false] rfl rfl (by kernel_rfl) (fun _ _ _ h => h) (Or.inl ⟨by rfl, ?_⟩) ?_ ?_
   rotate_left
   ·intro w'
    go_simp
    with_reducible rfl
   rotate_left
   ·exact putq
   refine one_ (i := 5) (N := none) #[true, true, true, true, true, true, false] rfl rfl (by kernel_rfl) (by decide) (fun K hK => ?_)
   have hs26 : w25.cell? ⟨gb175, 0, none⟩ = some (.int .i64 t168) := (blk_cell BK175.out 0).trans rfl
   have hfs26 := blk_frozen BK175.out 0
   have hns26_0 := NB167_175.out
   have hms26_0 := NB175_167.out
   have hs27 : w25.cell? ⟨gb175, 1, none⟩ = some (.string t169) := (blk_cell BK175.out 1).trans rfl
   have hfs27 := blk_frozen BK175.out 1
   have hns27_0 := NB167_175.out
   have hms27_0 := NB175_167.out
   have hs28 : w25.cell? ⟨gb175, 2, none⟩ = some (.slice Ao23 t170.length co23) := (blk_cell BK175.out 2).trans rfl
   have hfs28 := blk_frozen BK175.out 2
   have hns28_0 := NB167_175.out
   have hms28_0 := NB175_167.out
   refine skip_ (w1 := ?_) (by rfl) rfl ?_ ?_
   rotate_left
   ·go_simp
    rfl
   refine hK.out _ _ (((cell_far (p := ⟨gb175, _, none⟩) (Nat.ne_of_lt (Nat.lt_of_lt_of_le (GW.lt1 hG) GE175.out)) _).trans (((cell_far (p := ⟨gb175, _, none⟩) (Nat.ne_of_lt (Nat.lt_of_lt_of_le (GW.lt1 hG) GE175.out)) _).trans (((cell_far (p := ⟨gb175, _, none⟩) (Nat.ne_of_lt (Nat.lt_of_lt_of_le (GW.lt1 hG) GE175.out)) _).trans (hHeld))))))) (fun hHeld => ?_)
   clear hK K
   refine pure_ (i := 6) (N := some 6) (v := ?_) (a' := ?_) #[true, true, true, true, true, true, true] rfl rfl (by kernel_rfl) (fun _ _ _ h => h) (Or.inl ⟨by rfl, ?_⟩) ?_ ?_
   rotate_left
   ·intro w'
    go_simp
    with_reducible rfl
   rotate_left
   ·exact putq
   refine done_ (by kernel_rfl) ?_
   try go_wp2
   have n0_ : Aside0 (Kd.R k24 24 (((w25.setCell ⟨gb175, 0, none⟩ (.int .i64 0)).setCell ⟨gb175, 1, none⟩ (.string (⟨#[]⟩ : ByteArray))).setCell ⟨gb175, 2, none⟩ (.slice none 0 0)) w.heap.size (fun k_ => k_ ≠ gb167 ∧ k_ ≠ gb175) (.slice Ao23 t170.length co23) t170) := ⟨by refine rkq ?_; exact Kd.R_mono (Kd.R_far (p := ⟨gb175, 2, none⟩) (Kd.R_far (p := ⟨gb175, 1, none⟩) (Kd.R_far (p := ⟨gb175, 0, none⟩) (Kd.R_mono HO172.out (fun k_ hk => (⟨hk, hk.2⟩ : _ ∧ k_ ≠ gb175))) (fun _ hk => hk.2) (.int .i64 0)) (fun _ hk => hk.2) (.string (⟨#[]⟩ : ByteArray))) (fun _ hk => hk.2) (.slice none 0 0)) (fun _ hk => ⟨hk.1.1, hk.1.2⟩)⟩
   have n1_ : Aside0 ((((w25.setCell ⟨gb175, 0, none⟩ (.int .i64 0)).setCell ⟨gb175, 1, none⟩ (.string (⟨#[]⟩ : ByteArray))).setCell ⟨gb175, 2, none⟩ (.slice none 0 0)).heap[gb167]? = some (.cells #[.int .i64 0, .string (⟨#[]⟩ : ByteArray), .slice none 0 0] 24 (0, 0))) := ⟨by refine bkq ?_; refine blk_far ?_ NB167_175.out _; refine bkq ?_; refine blk_far ?_ NB167_175.out _; refine bkq ?_; refine blk_far ?_ NB167_175.out _; refine bkq ?_; exact BK167.out⟩
   have n2_ : Aside0 ((((w25.setCell ⟨gb175, 0, none⟩ (.int .i64 0)).setCell ⟨gb175, 1, none⟩ (.string (⟨#[]⟩ : ByteArray))).setCell ⟨gb175, 2, none⟩ (.slice none 0 0)).heap[gb175]? = some (.cells #[.int .i64 0, .string (⟨#[]⟩ : ByteArray), .slice none 0 0] 24 (0, 0))) := ⟨by refine bkq ?_; refine blk_put (cs := #[.int .i64 0, .string (⟨#[]⟩ : ByteArray), .slice Ao23 t170.length co23]) ?_ 2 _ rfl; refine bkq ?_; refine blk_put (cs := #[.int .i64 0, .string t169, .slice Ao23 t170.length co23]) ?_ 1 _ rfl; refine bkq ?_; refine blk_put (cs := #[.int .i64 t168, .string t169, .slice Ao23 t170.length co23]) ?_ 0 _ rfl; refine bkq ?_; exact BK175.out⟩
   have n3_ : Aside0 (Below w.heap.size w (((w25.setCell ⟨gb175, 0, none⟩ (.int .i64 0)).setCell ⟨gb175, 1, none⟩ (.string (⟨#[]⟩ : ByteArray))).setCell ⟨gb175, 2, none⟩ (.slice none 0 0))) := ⟨q0_⟩
   (try clear HO172)
   (try clear BK167)
   (try clear BK175)
   (try clear HB)
   generalize (((w25.setCell ⟨gb175, 0, none⟩ (.int .i64 0)).setCell ⟨gb175, 1, none⟩ (.string (⟨#[]⟩ : ByteArray))).setCell ⟨gb175, 2, none⟩ (.slice none 0 0)) = w29 at n0_ n1_ n2_ n3_ ⊢
   have HO172 := n0_
   have BK167 := n1_
   have BK175 := n2_
   have HB := n3_
   clear n0_ n1_ n2_ n3_
   have n0_ := Aside0.mk (Kd.R_drew HO172.out)
   have n1_ := Aside0.mk (blk_drew BK167.out)
   have n2_ := Aside0.mk (blk_drew BK175.out)
   have n3_ := Aside0.mk (below_drew1 HB.out)
   clear HO172
   clear BK167
   clear BK175
   clear HB
   have HO172 := n0_
   have BK167 := n1_
   have BK175 := n2_
   have HB := n3_
   clear n0_ n1_ n2_ n3_
   have CA17 := fun W (hG_ : GW G W) => tlv_told.calls (some (Er.form t173)) t178 W hG_ A17.out
   refine start_ (n := 5) (S := fun w' => w'.cell? ⟨gb175, 0, none⟩ = some (.int .i64 0) ∧ w'.cell? ⟨gb175, 1, none⟩ = some (.string (⟨#[]⟩ : ByteArray)) ∧ w'.cell? ⟨gb175, 2, none⟩ = some (.slice none 0 0)) (ds := []) #[false, false, false, false, false] (by kernel_rfl) rfl rfl ⟨(blk_cell BK175.out 0).trans rfl, (blk_cell BK175.out 1).trans rfl, (blk_cell BK175.out 2).trans rfl⟩ (fun hHeld => ?_)
   generalize w29.drew = w30 at HO172 BK167 BK175 HB hHeld ⊢
   refine pure_ (i := 1) (N := some 27) (v := ?_) (a' := ?_) #[false, true, false, false, false] rfl rfl (by kernel_rfl) (fun _ _ _ h => h) (Or.inl ⟨by rfl, ?_⟩) ?_ ?_
   rotate_left
   ·intro w'
    go_simp
    with_reducible rfl
   rotate_left
   ·exact putq
   refine take_ (i := 0) (N := some 26) (v := ?_) (a' := ?_) #[true, true, false, false, false] rfl rfl (by kernel_rfl) (fun _ _ _ h => h) (Or.inl ⟨by rfl, ?_⟩) hHeld ?_ ?_
   rotate_left
   ·rintro w' ⟨s0, s1, s2⟩
    go_simp
    with_reducible rfl
   rotate_left
   ·exact putq
   refine one_ (i := 2) (N := some 28) #[true, true, true, false, false] rfl rfl (by kernel_rfl) (by decide) (fun K hK => ?_)
   refine goes_ Tryd.func28 (by kernel_rfl) rfl #[errW G (some (Er.form t173))] (by rfl) rfl rfl argq ?_
   with_reducible refine (CA17 _ ?side1).mono ?_
   (case side1 => first | exact hG | exact GW.below hG q0_)
   rintro e w31 ⟨rfl, hb⟩
   refine ⟨_, rfl, ?_⟩
   have n0_ := Aside0.mk (Kd.R_below (rkq HO172.out) hb)
   have n1_ := Aside0.mk (blk_below (g := gb167) (o := .cells #[.int .i64 0, .string (⟨#[]⟩ : ByteArray), .slice none 0 0] 24 (0, 0)) (bkq BK167.out) hb)
   have n2_ := Aside0.mk (blk_below (g := gb175) (o := .cells #[.int .i64 0, .string (⟨#[]⟩ : ByteArray), .slice none 0 0] 24 (0, 0)) (bkq BK175.out) hb)
   have n3_ := Aside0.mk (below_step q0_ hb)
   clear HO172
   clear BK167
   clear BK175
   clear HB
   have HO172 := n0_
   have BK167 := n1_
   have BK175 := n2_
   have HB := n3_
   clear n0_ n1_ n2_ n3_
   (try clear hb)
   (try clear hb2)
   (try clear hk)
   (try clear hi)
   refine hK.out _ _ ⟨(blk_cell BK175.out 0).trans rfl, (blk_cell BK175.out 1).trans rfl, (blk_cell BK175.out 2).trans rfl⟩ (fun hHeld => ?_)
   clear hK K
   refine norm_ (a' := ?_) ?_ ?_
   rotate_left
   ·show Act.put _ (some 28) _ = _
    exact putq
   refine one_ (i := 3) (N := none) #[true, true, true, true, false] rfl rfl (by kernel_rfl) (by decide) (fun K hK => ?_)
   have hs32 : w31.cell? ⟨gb167, 0, none⟩ = some (.int .i64 0) := (blk_cell BK167.out 0).trans rfl
   have hfs32 := blk_frozen BK167.out 0
   have hns32_1 := NB175_167.out
   have hms32_1 := NB167_175.out
   have hs33 : w31.cell? ⟨gb167, 1, none⟩ = some (.string (⟨#[]⟩ : ByteArray)) := (blk_cell BK167.out 1).trans rfl
   have hfs33 := blk_frozen BK167.out 1
   have hns33_1 := NB175_167.out
   have hms33_1 := NB167_175.out
   have hs34 : w31.cell? ⟨gb167, 2, none⟩ = some (.slice none 0 0) := (blk_cell BK167.out 2).trans rfl
   have hfs34 := blk_frozen BK167.out 2
   have hns34_1 := NB175_167.out
   have hms34_1 := NB167_175.out
   refine skip_ (w1 := ?_) (by rfl) rfl ?_ ?_
   rotate_left
   ·go_simp
    rfl
   refine hK.out _ _ ⟨((cell_far (p := ⟨gb167, _, none⟩) NB175_167.out _).trans (((cell_far (p := ⟨gb167, _, none⟩) NB175_167.out _).trans (((cell_far (p := ⟨gb167, _, none⟩) NB175_167.out _).trans (hHeld.1)))))), ((cell_far (p := ⟨gb167, _, none⟩) NB175_167.out _).trans (((cell_far (p := ⟨gb167, _, none⟩) NB175_167.out _).trans (((cell_far (p := ⟨gb167, _, none⟩) NB175_167.out _).trans (hHeld.2.1)))))), ((cell_far (p := ⟨gb167, _, none⟩) NB175_167.out _).trans (((cell_far (p := ⟨gb167, _, none⟩) NB175_167.out _).trans (((cell_far (p := ⟨gb167, _, none⟩) NB175_167.out _).trans (hHeld.2.2))))))⟩ (fun hHeld => ?_)
   clear hK K
   refine pure_ (i := 4) (N := some 3) (v := ?_) (a' := ?_) #[true, true, true, true, true] rfl rfl (by kernel_rfl) (fun _ _ _ h => h) (Or.inl ⟨by rfl, ?_⟩) ?_ ?_
   rotate_left
   ·intro w'
    go_simp
    with_reducible rfl
   rotate_left
   ·exact putq
   refine done_ (by kernel_rfl) ?_
   try go_wp2
   refine bodyPost_ret (results_ct rfl _ _ gb167 24 #[.int .i64 0, .string (⟨#[]⟩ : ByteArray), .slice none 0 0] (0, 0) _ rfl (by refine bkq ?_; refine blk_put (cs := #[.int .i64 0, .string (⟨#[]⟩ : ByteArray), .slice none 0 0]) ?_ 2 _ rfl; refine bkq ?_; refine blk_put (cs := #[.int .i64 0, .string (⟨#[]⟩ : ByteArray), .slice none 0 0]) ?_ 1 _ rfl; refine bkq ?_; refine blk_put (cs := #[.int .i64 0, .string (⟨#[]⟩ : ByteArray), .slice none 0 0]) ?_ 0 _ rfl; refine bkq ?_; exact BK167.out) Tryd.underlying24 rfl (by kernel_rfl)) rfl ?_
   exact ⟨_, q2_, q10_, q0_⟩
 ·have H1 : ((tlv_told.f (some q176)).bind fun t179 => (some (t168, t169, t170, t179))) = some (r1, r2, r3, r4) := by rw [if_neg (show ¬ (some q176).isNone = true by simp)] at H; exact H
  clear H
  have H := H1
  clear H1
  try simp only [eW]
  replace H := Option.bind_eq_some_iff.mp H
  obtain ⟨t179, A350, H⟩ := H
  replace H : (some (t168, t169, t170, t179)) = some (r1, r2, r3, r4) := H
  have A35 := Aside0.mk A350
  clear A350
  simp only [Option.some.injEq, Prod.mk.injEq] at H
  obtain ⟨rfl, rfl, rfl, rfl⟩ := H
  go_enter Tryd.func19, Tryd.ntmps19
  try go_wp2_with (first | ((with_reducible refine gate_dst (N := 2) rfl ?_); (try (refine gate_guard (by rfl) ?_; dsimp only)); refine box_event ?hg (N := 2) ?hd (cs := #[.int .i64 0, .string (⟨#[]⟩ : ByteArray), .slice none 0 0]) (t := 24) ?hr ?_; (case hd => rfl); (case hg => rfl); (case hr => first | (go_simp; done) | (go_simp; rfl)); intro gb167 hg w36 hbox hb; have n0_ := Aside0.mk (below_step q0_ hb); have n1_ := Aside0.mk (hbox); have n2_ := Aside0.mk ((by rw [hg]; exact (below_size q0_) : w.heap.size ≤ gb167)); have n3_ := Aside0.mk ((by rw [hg]; exact (below_size q0_) : w.heap.size ≤ gb167)); clear HB; have HB := n0_; have BK167 := n1_; have GW167 := n2_; have GE167 := n3_; clear n0_ n1_ n2_ n3_; clear hb hbox hg) | ((with_reducible refine gate_callee (f := 31) rfl ?_); refine goesL_ (some 9) rfl rfl Tryd.func31 (by kernel_rfl) rfl #[.string a0, .int .i64 0] rfl argq ?_; (with_reducible refine (tlv_decoded.calls (G := G) k a0 0 t168 t169 t170 t173 (some q176) _ ?side1 A2.out).mono ?_); (case side1 => first | exact hG | exact GW.below hG q0_); rintro e w37 ⟨v171, rfl, ho0, hb⟩; refine ⟨_, rfl, ?_⟩; have n0_ := Aside0.mk (Kd.R_lower (Kd.R_newB ho0 (g := gb167) (o := .cells #[.int .i64 0, .string (⟨#[]⟩ : ByteArray), .slice none 0 0] 24 (0, 0)) (bkq BK167.out)) (below_size q0_)); have n1_ := Aside0.mk (blk_below (g := gb167) (o := .cells #[.int .i64 0, .string (⟨#[]⟩ : ByteArray), .slice none 0 0] 24 (0, 0)) (bkq BK167.out) hb); have n2_ := Aside0.mk (below_step q0_ hb); clear BK167; clear HB; have HO172 := n0_; have BK167 := n1_; have HB := n2_; clear n0_ n1_ n2_; (try clear hb); (try clear hb2); (try clear hk); (try clear hi); (try clear ho0); (try simp only [eW])) | ((with_reducible refine gate_dst (N := 4) rfl ?_); (try (refine gate_guard (by rfl) ?_; dsimp only)); refine box_event ?hg (N := 4) ?hd (cs := #[.int .i64 0, .string (⟨#[]⟩ : ByteArray), .slice none 0 0]) (t := 24) ?hr ?_; (case hd => rfl); (case hg => rfl); (case hr => first | (go_simp; done) | (go_simp; rfl)); intro gb175 hg w38 hbox hb; have n0_ := Aside0.mk (Kd.R_below (Kd.R_elderB (rkq HO172.out) gb175 (Nat.le_of_eq hg.symm)) hb); have n1_ := Aside0.mk (blk_below (g := gb167) (o := .cells #[.int .i64 0, .string (⟨#[]⟩ : ByteArray), .slice none 0 0] 24 (0, 0)) (bkq BK167.out) hb); have n2_ := Aside0.mk (below_step q0_ hb); have n3_ := Aside0.mk (hbox); have n4_ := Aside0.mk ((by rw [hg]; exact (below_size q0_) : w.heap.size ≤ gb175)); have n5_ := Aside0.mk ((by rw [hg]; exact (below_size q0_) : w.heap.size ≤ gb175)); have n6_ := Aside0.mk ((by rw [hg]; exact Nat.ne_of_lt (blk_lt (g := gb167) (o := .cells #[.int .i64 0, .string (⟨#[]⟩ : ByteArray), .slice none 0 0] 24 (0, 0)) (bkq BK167.out)) : gb167 ≠ gb175)); have n7_ := Aside0.mk ((by rw [hg]; exact Nat.ne_of_gt (blk_lt (g := gb167) (o := .cells #[.int .i64 0, .string (⟨#[]⟩ : ByteArray), .slice none 0 0] 24 (0, 0)) (bkq BK167.out)) : gb175 ≠ gb167)); clear HO172; clear BK167; clear HB; have HO172 := n0_; have BK167 := n1_; have HB := n2_; have BK175 := n3_; have GW175 := n4_; have GE175 := n5_; have NB167_175 := n6_; have NB175_167 := n7_; clear n0_ n1_ n2_ n3_ n4_ n5_ n6_ n7_; clear hb hbox hg; have hnb39 := NB175_167.out; have hnc39 := NB167_175.out; have hcz40_0 : w38.cell? ⟨gb175, 0, none⟩ = some (.int .i64 0) := (blk_cell BK175.out 0).trans rfl; have hcz40_1 : w38.cell? ⟨gb175, 1, none⟩ = some (.string (⟨#[]⟩ : ByteArray)) := (blk_cell BK175.out 1).trans rfl; have hcz40_2 : w38.cell? ⟨gb175, 2, none⟩ = some (.slice none 0 0) := (blk_cell BK175.out 2).trans rfl; have hfz40_0 := blk_frozen BK175.out 0; have hfz40_1 := blk_frozen BK175.out 1; have hfz40_2 := blk_frozen BK175.out 2; obtain ⟨Ao41, co41, eo41⟩ := Kd.R_slice HO172.out; subst eo41))
  have n0_ : Aside0 (Kd.R k24 24 (((w38.setCell ⟨gb175, 0, none⟩ (.int .i64 t168)).setCell ⟨gb175, 1, none⟩ (.string t169)).setCell ⟨gb175, 2, none⟩ (.slice Ao41 t170.length co41)) w.heap.size (fun k_ => k_ ≠ gb167 ∧ k_ ≠ gb175) (.slice Ao41 t170.length co41) t170) := ⟨by refine rkq ?_; exact Kd.R_mono (Kd.R_far (p := ⟨gb175, 2, none⟩) (Kd.R_far (p := ⟨gb175, 1, none⟩) (Kd.R_far (p := ⟨gb175, 0, none⟩) (Kd.R_mono HO172.out (fun k_ hk => (⟨hk, hk.2⟩ : _ ∧ k_ ≠ gb175))) (fun _ hk => hk.2) (.int .i64 t168)) (fun _ hk => hk.2) (.string t169)) (fun _ hk => hk.2) (.slice Ao41 t170.length co41)) (fun _ hk => ⟨hk.1.1.2, hk.1.2⟩)⟩
  have n1_ : Aside0 ((((w38.setCell ⟨gb175, 0, none⟩ (.int .i64 t168)).setCell ⟨gb175, 1, none⟩ (.string t169)).setCell ⟨gb175, 2, none⟩ (.slice Ao41 t170.length co41)).heap[gb167]? = some (.cells #[.int .i64 0, .string (⟨#[]⟩ : ByteArray), .slice none 0 0] 24 (0, 0))) := ⟨by refine bkq ?_; refine blk_far ?_ NB167_175.out _; refine bkq ?_; refine blk_far ?_ NB167_175.out _; refine bkq ?_; refine blk_far ?_ NB167_175.out _; refine bkq ?_; exact BK167.out⟩
  have n2_ : Aside0 ((((w38.setCell ⟨gb175, 0, none⟩ (.int .i64 t168)).setCell ⟨gb175, 1, none⟩ (.string t169)).setCell ⟨gb175, 2, none⟩ (.slice Ao41 t170.length co41)).heap[gb175]? = some (.cells #[.int .i64 t168, .string t169, .slice Ao41 t170.length co41] 24 (0, 0))) := ⟨by refine bkq ?_; refine blk_put (cs := #[.int .i64 t168, .string t169, .slice none 0 0]) ?_ 2 _ rfl; refine bkq ?_; refine blk_put (cs := #[.int .i64 t168, .string (⟨#[]⟩ : ByteArray), .slice none 0 0]) ?_ 1 _ rfl; refine bkq ?_; refine blk_put (cs := #[.int .i64 0, .string (⟨#[]⟩ : ByteArray), .slice none 0 0]) ?_ 0 _ rfl; refine bkq ?_; exact BK175.out⟩
  have n3_ : Aside0 (Below w.heap.size w (((w38.setCell ⟨gb175, 0, none⟩ (.int .i64 t168)).setCell ⟨gb175, 1, none⟩ (.string t169)).setCell ⟨gb175, 2, none⟩ (.slice Ao41 t170.length co41))) := ⟨q0_⟩
  (try clear HO172)
  (try clear BK167)
  (try clear BK175)
  (try clear HB)
  generalize (((w38.setCell ⟨gb175, 0, none⟩ (.int .i64 t168)).setCell ⟨gb175, 1, none⟩ (.string t169)).setCell ⟨gb175, 2, none⟩ (.slice Ao41 t170.length co41)) = w42 at n0_ n1_ n2_ n3_ ⊢
  have HO172 := n0_
  have BK167 := n1_
  have BK175 := n2_
  have HB := n3_
  clear n0_ n1_ n2_ n3_
  have n0_ := Aside0.mk (Kd.R_drew HO172.out)
  have n1_ := Aside0.mk (blk_drew BK167.out)
  have n2_ := Aside0.mk (blk_drew BK175.out)
  have n3_ := Aside0.mk (below_drew1 HB.out)
  clear HO172
  clear BK167
  clear BK175
  clear HB
  have HO172 := n0_
  have BK167 := n1_
  have BK175 := n2_
  have HB := n3_
  clear n0_ n1_ n2_ n3_
  have CA35 := fun W (hG_ : GW G W) => tlv_told.calls (some q176) t179 W hG_ A35.out
  refine start_ (n := 5) (S := fun w' => w'.cell? ⟨gb175, 0, none⟩ = some (.int .i64 t168) ∧ w'.cell? ⟨gb175, 1, none⟩ = some (.string t169) ∧ w'.cell? ⟨gb175, 2, none⟩ = some (.slice Ao41 t170.length co41)) (ds := []) #[false, false, false, false, false] (by kernel_rfl) rfl rfl ⟨(blk_cell BK175.out 0).trans rfl, (blk_cell BK175.out 1).trans rfl, (blk_cell BK175.out 2).trans rfl⟩ (fun hHeld => ?_)
  generalize w42.drew = w43 at HO172 BK167 BK175 HB hHeld ⊢
  refine pure_ (i := 1) (N := some 27) (v := ?_) (a' := ?_) #[false, true, false, false, false] rfl rfl (by kernel_rfl) (fun _ _ _ h => h) (Or.inl ⟨by rfl, ?_⟩) ?_ ?_
  rotate_left
  ·intro w'
   go_simp
   with_reducible rfl
  rotate_left
  ·exact putq
  refine take_ (i := 0) (N := some 26) (v := ?_) (a' := ?_) #[true, true, false, false, false] rfl rfl (by kernel_rfl) (fun _ _ _ h => h) (Or.inl ⟨by rfl, ?_⟩) hHeld ?_ ?_
  rotate_left
  ·rintro w' ⟨s0, s1, s2⟩
   go_simp
   with_reducible rfl
  rotate_left
  ·exact putq
  refine one_ (i := 2) (N := some 28) #[true, true, true, false, false] rfl rfl (by kernel_rfl) (by decide) (fun K hK => ?_)
  refine goes_ Tryd.func28 (by kernel_rfl) rfl #[errW G (some q176)] (by rfl) rfl rfl argq ?_
  with_reducible refine (CA35 _ ?side1).mono ?_
  (case side1 => first | exact hG | exact GW.below hG q0_)
  rintro e w44 ⟨rfl, hb⟩
  refine ⟨_, rfl, ?_⟩
  have n0_ := Aside0.mk (Kd.R_below (rkq HO172.out) hb)
  have n1_ := Aside0.mk (blk_below (g := gb167) (o := .cells #[.int .i64 0, .string (⟨#[]⟩ : ByteArray), .slice none 0 0] 24 (0, 0)) (bkq BK167.out) hb)
  have n2_ := Aside0.mk (blk_below (g := gb175) (o := .cells #[.int .i64 t168, .string t169, .slice Ao41 t170.length co41] 24 (0, 0)) (bkq BK175.out) hb)
  have n3_ := Aside0.mk (below_step q0_ hb)
  clear HO172
  clear BK167
  clear BK175
  clear HB
  have HO172 := n0_
  have BK167 := n1_
  have BK175 := n2_
  have HB := n3_
  clear n0_ n1_ n2_ n3_
  (try clear hb)
  (try clear hb2)
  (try clear hk)
  (try clear hi)
  refine hK.out _ _ ⟨(blk_cell BK175.out 0).trans rfl, (blk_cell BK175.out 1).trans rfl, (blk_cell BK175.out 2).trans rfl⟩ (fun hHeld => ?_)
  clear hK K
  refine norm_ (a' := ?_) ?_ ?_
  rotate_left
  ·show Act.put _ (some 28) _ = _
   exact putq
  refine one_ (i := 3) (N := none) #[true, true, true, true, false] rfl rfl (by kernel_rfl) (by decide) (fun K hK => ?_)
  have hs45 : w44.cell? ⟨gb167, 0, none⟩ = some (.int .i64 0) := (blk_cell BK167.out 0).trans rfl
  have hfs45 := blk_frozen BK167.out 0
  have hns45_1 := NB175_167.out
  have hms45_1 := NB167_175.out
  have hs46 : w44.cell? ⟨gb167, 1, none⟩ = some (.string (⟨#[]⟩ : ByteArray)) := (blk_cell BK167.out 1).trans rfl
  have hfs46 := blk_frozen BK167.out 1
  have hns46_1 := NB175_167.out
  have hms46_1 := NB167_175.out
  have hs47 : w44.cell? ⟨gb167, 2, none⟩ = some (.slice none 0 0) := (blk_cell BK167.out 2).trans rfl
  have hfs47 := blk_frozen BK167.out 2
  have hns47_1 := NB175_167.out
  have hms47_1 := NB167_175.out
  refine skip_ (w1 := ?_) (by rfl) rfl ?_ ?_
  rotate_left
  ·go_simp
   rfl
  refine hK.out _ _ ⟨((cell_far (p := ⟨gb167, _, none⟩) NB175_167.out _).trans (((cell_far (p := ⟨gb167, _, none⟩) NB175_167.out _).trans (((cell_far (p := ⟨gb167, _, none⟩) NB175_167.out _).trans (hHeld.1)))))), ((cell_far (p := ⟨gb167, _, none⟩) NB175_167.out _).trans (((cell_far (p := ⟨gb167, _, none⟩) NB175_167.out _).trans (((cell_far (p := ⟨gb167, _, none⟩) NB175_167.out _).trans (hHeld.2.1)))))), ((cell_far (p := ⟨gb167, _, none⟩) NB175_167.out _).trans (((cell_far (p := ⟨gb167, _, none⟩) NB175_167.out _).trans (((cell_far (p := ⟨gb167, _, none⟩) NB175_167.out _).trans (hHeld.2.2))))))⟩ (fun hHeld => ?_)
  clear hK K
  refine pure_ (i := 4) (N := some 3) (v := ?_) (a' := ?_) #[true, true, true, true, true] rfl rfl (by kernel_rfl) (fun _ _ _ h => h) (Or.inl ⟨by rfl, ?_⟩) ?_ ?_
  rotate_left
  ·intro w'
   go_simp
   with_reducible rfl
  rotate_left
  ·exact putq
  refine done_ (by kernel_rfl) ?_
  try go_wp2
  refine bodyPost_ret (results_ct rfl _ _ gb167 24 #[.int .i64 t168, .string t169, .slice Ao41 t170.length co41] (0, 0) _ rfl (by refine bkq ?_; refine blk_put (cs := #[.int .i64 t168, .string t169, .slice none 0 0]) ?_ 2 _ rfl; refine bkq ?_; refine blk_put (cs := #[.int .i64 t168, .string (⟨#[]⟩ : ByteArray), .slice none 0 0]) ?_ 1 _ rfl; refine bkq ?_; refine blk_put (cs := #[.int .i64 0, .string (⟨#[]⟩ : ByteArray), .slice none 0 0]) ?_ 0 _ rfl; refine bkq ?_; exact BK167.out) Tryd.underlying24 rfl (by kernel_rfl)) rfl ?_
  exact ⟨_, q2_, by refine rkq ?_; exact Kd.R_mono (Kd.R_far (p := ⟨gb167, 2, none⟩) (Kd.R_far (p := ⟨gb167, 1, none⟩) (Kd.R_far (p := ⟨gb167, 0, none⟩) (Kd.R_mono HO172.out (fun k_ hk => (⟨hk, hk.1⟩ : _ ∧ k_ ≠ gb167))) (fun _ hk => hk.2) (.int .i64 t168)) (fun _ hk => hk.2) (.string t169)) (fun _ hk => hk.2) (.slice Ao41 t170.length co41)) (fun _ hk => trivial), q0_⟩
def latinerlaw02_shown.f (k : Nat)  : Option (Bool) := (some (([(⟨2, (⟨#[5]⟩ : ByteArray), ([] : List (S24))⟩ : S24), (⟨4, (⟨#[104, 105]⟩ : ByteArray), ([] : List (S24))⟩ : S24)] : List (S24)) : List (S24))).bind fun y180 => ((tlv_Encode.f 48 (⟨#[]⟩ : ByteArray) y180).bind fun bt184 => ((tlv_Whole.f k (⟨#[48, 129, 7, 2, 1, 5, 4, 2, 104, 105]⟩ : ByteArray)).bind fun bt186 => ((tlv_Decode.f k (⟨#[31, 0]⟩ : ByteArray) 0).bind fun bt193 => ((tlv_Encode.f 4 (⟨#[]⟩ : ByteArray) y180).bind fun bt201 => ((tlv_Whole.f k (⟨#[48, 2, 4, 1, 97]⟩ : ByteArray)).bind fun bt203 => (if bt184.1.toList = ([48, 7, 2, 1, 5, 4, 2, 104, 105] : List UInt8) then (if bt184.2 = 0 then (if bt186.2.2.2 = 0 then ((tlv_Same.f 48 (⟨#[]⟩ : ByteArray) y180 bt186.1 bt186.2.1 bt186.2.2.1).bind fun t210 => (if t210 = true then (if bt193.2.2.2.2 = 20 then (if bt201.2 = 21 then (some (bt203.2.2.2 == 10)) else (none)) else (none)) else (none))) else (none)) else (none)) else (none)))))))
theorem latinerlaw02_shown.mono : ∀ k, LeO (latinerlaw02_shown.f k ) (latinerlaw02_shown.f (k + 1) ) := by
 intro  k
 unfold latinerlaw02_shown.f
 repeat' first
   | (with_reducible exact tlv_Decode.mono _ _ _)
   | (with_reducible exact tlv_Whole.mono _ _)
   | (with_reducible exact LeO.refl _)
   | (with_reducible exact LeO.none _)
   | (with_reducible refine LeO.ite ?_ ?_)
   | (with_reducible refine LeO.bind ?_ (fun _ => ?_))
   | exact tlv_Decode.mono _ _ _
   | exact tlv_Whole.mono _ _
   | exact LeO.none _
   | refine LeO.ite ?_ ?_
   | refine LeO.bind ?_ (fun _ => ?_)
set_option maxHeartbeats 8000000 in
set_option maxRecDepth 100000 in
theorem latinerlaw02_shown.calls (k : Nat)  (r : Bool) (w : World) (hG : GW G w) (h : latinerlaw02_shown.f k  = some r) :
  Calls Tryd.prog 12 #[] w fun e w' => e = .returned (.bool r) ∧ Below w.heap.size w w' := by
 have hu24 := Tryd.underlying24
 have HB := Aside0.mk (Below.refl w.heap.size w)
 have H : ((some (([(⟨2, (⟨#[5]⟩ : ByteArray), ([] : List (S24))⟩ : S24), (⟨4, (⟨#[104, 105]⟩ : ByteArray), ([] : List (S24))⟩ : S24)] : List (S24)) : List (S24))).bind fun y180 => ((tlv_Encode.f 48 (⟨#[]⟩ : ByteArray) y180).bind fun bt184 => ((tlv_Whole.f k (⟨#[48, 129, 7, 2, 1, 5, 4, 2, 104, 105]⟩ : ByteArray)).bind fun bt186 => ((tlv_Decode.f k (⟨#[31, 0]⟩ : ByteArray) 0).bind fun bt193 => ((tlv_Encode.f 4 (⟨#[]⟩ : ByteArray) y180).bind fun bt201 => ((tlv_Whole.f k (⟨#[48, 2, 4, 1, 97]⟩ : ByteArray)).bind fun bt203 => (if bt184.1.toList = ([48, 7, 2, 1, 5, 4, 2, 104, 105] : List UInt8) then (if bt184.2 = 0 then (if bt186.2.2.2 = 0 then ((tlv_Same.f 48 (⟨#[]⟩ : ByteArray) y180 bt186.1 bt186.2.1 bt186.2.2.1).bind fun t210 => (if t210 = true then (if bt193.2.2.2.2 = 20 then (if bt201.2 = 21 then (some (bt203.2.2.2 == 10)) else (none)) else (none)) else (none))) else (none)) else (none)) else (none)))))))) = some r := h
 clear h
 obtain ⟨y180, hy180⟩ : ∃ y_ : List (S24), y_ = (([(⟨2, (⟨#[5]⟩ : ByteArray), ([] : List (S24))⟩ : S24), (⟨4, (⟨#[104, 105]⟩ : ByteArray), ([] : List (S24))⟩ : S24)] : List (S24))) := ⟨_, rfl⟩
 replace H : ((tlv_Encode.f 48 (⟨#[]⟩ : ByteArray) y180).bind fun bt184 => ((tlv_Whole.f k (⟨#[48, 129, 7, 2, 1, 5, 4, 2, 104, 105]⟩ : ByteArray)).bind fun bt186 => ((tlv_Decode.f k (⟨#[31, 0]⟩ : ByteArray) 0).bind fun bt193 => ((tlv_Encode.f 4 (⟨#[]⟩ : ByteArray) y180).bind fun bt201 => ((tlv_Whole.f k (⟨#[48, 2, 4, 1, 97]⟩ : ByteArray)).bind fun bt203 => (if bt184.1.toList = ([48, 7, 2, 1, 5, 4, 2, 104, 105] : List UInt8) then (if bt184.2 = 0 then (if bt186.2.2.2 = 0 then ((tlv_Same.f 48 (⟨#[]⟩ : ByteArray) y180 bt186.1 bt186.2.1 bt186.2.2.1).bind fun t210 => (if t210 = true then (if bt193.2.2.2.2 = 20 then (if bt201.2 = 21 then (some (bt203.2.2.2 == 10)) else (none)) else (none)) else (none))) else (none)) else (none)) else (none))))))) = some r := by first | (rw [hy180]; with_reducible exact H) | (have H2_ := (Option.bind_some _ _).symm.trans H; rw [hy180]; with_reducible exact H2_) | (have H2_ := (Option.bind_some _ _).symm.trans H; with_reducible exact H2_) | with_reducible exact H | (rw [hy180]; exact H) | exact H
 have Ny180 := Aside0.mk hy180
 clear hy180
 replace H := Option.bind_eq_some_iff.mp H
 obtain ⟨⟨t184, t185⟩, A10, H⟩ := H
 replace H : ((tlv_Whole.f k (⟨#[48, 129, 7, 2, 1, 5, 4, 2, 104, 105]⟩ : ByteArray)).bind fun bt186 => ((tlv_Decode.f k (⟨#[31, 0]⟩ : ByteArray) 0).bind fun bt193 => ((tlv_Encode.f 4 (⟨#[]⟩ : ByteArray) y180).bind fun bt201 => ((tlv_Whole.f k (⟨#[48, 2, 4, 1, 97]⟩ : ByteArray)).bind fun bt203 => (if t184.toList = ([48, 7, 2, 1, 5, 4, 2, 104, 105] : List UInt8) then (if t185 = 0 then (if bt186.2.2.2 = 0 then ((tlv_Same.f 48 (⟨#[]⟩ : ByteArray) y180 bt186.1 bt186.2.1 bt186.2.2.1).bind fun t210 => (if t210 = true then (if bt193.2.2.2.2 = 20 then (if bt201.2 = 21 then (some (bt203.2.2.2 == 10)) else (none)) else (none)) else (none))) else (none)) else (none)) else (none)))))) = some r := H
 have A1 := Aside0.mk A10
 clear A10
 replace H := Option.bind_eq_some_iff.mp H
 obtain ⟨⟨t186, t187, t188, t191⟩, A20, H⟩ := H
 replace H : ((tlv_Decode.f k (⟨#[31, 0]⟩ : ByteArray) 0).bind fun bt193 => ((tlv_Encode.f 4 (⟨#[]⟩ : ByteArray) y180).bind fun bt201 => ((tlv_Whole.f k (⟨#[48, 2, 4, 1, 97]⟩ : ByteArray)).bind fun bt203 => (if t184.toList = ([48, 7, 2, 1, 5, 4, 2, 104, 105] : List UInt8) then (if t185 = 0 then (if t191 = 0 then ((tlv_Same.f 48 (⟨#[]⟩ : ByteArray) y180 t186 t187 t188).bind fun t210 => (if t210 = true then (if bt193.2.2.2.2 = 20 then (if bt201.2 = 21 then (some (bt203.2.2.2 == 10)) else (none)) else (none)) else (none))) else (none)) else (none)) else (none))))) = some r := H
 have A2 := Aside0.mk A20
 clear A20
 replace H := Option.bind_eq_some_iff.mp H
 obtain ⟨⟨t193, t194, t195, t198, t199⟩, A30, H⟩ := H
 replace H : ((tlv_Encode.f 4 (⟨#[]⟩ : ByteArray) y180).bind fun bt201 => ((tlv_Whole.f k (⟨#[48, 2, 4, 1, 97]⟩ : ByteArray)).bind fun bt203 => (if t184.toList = ([48, 7, 2, 1, 5, 4, 2, 104, 105] : List UInt8) then (if t185 = 0 then (if t191 = 0 then ((tlv_Same.f 48 (⟨#[]⟩ : ByteArray) y180 t186 t187 t188).bind fun t210 => (if t210 = true then (if t199 = 20 then (if bt201.2 = 21 then (some (bt203.2.2.2 == 10)) else (none)) else (none)) else (none))) else (none)) else (none)) else (none)))) = some r := H
 have A3 := Aside0.mk A30
 clear A30
 replace H := Option.bind_eq_some_iff.mp H
 obtain ⟨⟨t201, t202⟩, A40, H⟩ := H
 replace H : ((tlv_Whole.f k (⟨#[48, 2, 4, 1, 97]⟩ : ByteArray)).bind fun bt203 => (if t184.toList = ([48, 7, 2, 1, 5, 4, 2, 104, 105] : List UInt8) then (if t185 = 0 then (if t191 = 0 then ((tlv_Same.f 48 (⟨#[]⟩ : ByteArray) y180 t186 t187 t188).bind fun t210 => (if t210 = true then (if t199 = 20 then (if t202 = 21 then (some (bt203.2.2.2 == 10)) else (none)) else (none)) else (none))) else (none)) else (none)) else (none))) = some r := H
 have A4 := Aside0.mk A40
 clear A40
 replace H := Option.bind_eq_some_iff.mp H
 obtain ⟨⟨t203, t204, t205, t208⟩, A50, H⟩ := H
 replace H : (if t184.toList = ([48, 7, 2, 1, 5, 4, 2, 104, 105] : List UInt8) then (if t185 = 0 then (if t191 = 0 then ((tlv_Same.f 48 (⟨#[]⟩ : ByteArray) y180 t186 t187 t188).bind fun t210 => (if t210 = true then (if t199 = 20 then (if t202 = 21 then (some (t208 == 10)) else (none)) else (none)) else (none))) else (none)) else (none)) else (none)) = some r := H
 have A5 := Aside0.mk A50
 clear A50
 by_cases c6 : t184.toList = ([48, 7, 2, 1, 5, 4, 2, 104, 105] : List UInt8)
 ·rw [if_pos c6] at H
  have c6b0 : (t184.toList == ([48, 7, 2, 1, 5, 4, 2, 104, 105] : List UInt8)) = true := beq_iff_eq.mpr c6
  have c6b1 : (t184.toList != ([48, 7, 2, 1, 5, 4, 2, 104, 105] : List UInt8)) = false := bne_eq_false_iff_eq.mpr c6
  clear c6
  by_cases c7 : t185 = 0
  ·rw [if_pos c7] at H
   have c7b0 : (t185 == 0) = true := beq_iff_eq.mpr c7
   have c7b1 : (t185 != 0) = false := bne_eq_false_iff_eq.mpr c7
   clear c7
   by_cases c8 : t191 = 0
   ·rw [if_pos c8] at H
    have c8b0 : (t191 == 0) = true := beq_iff_eq.mpr c8
    have c8b1 : (t191 != 0) = false := bne_eq_false_iff_eq.mpr c8
    clear c8
    replace H := Option.bind_eq_some_iff.mp H
    obtain ⟨t210, A90, H⟩ := H
    replace H : (if t210 = true then (if t199 = 20 then (if t202 = 21 then (some (t208 == 10)) else (none)) else (none)) else (none)) = some r := H
    have A9 := Aside0.mk A90
    clear A90
    by_cases c10 : t210 = true
    ·subst c10
     have H1 : (if t199 = 20 then (if t202 = 21 then (some (t208 == 10)) else (none)) else (none)) = some r := by rw [if_pos rfl] at H; exact H
     clear H
     have H := H1
     clear H1
     by_cases c11 : t199 = 20
     ·rw [if_pos c11] at H
      have c11b0 : (t199 == 20) = true := beq_iff_eq.mpr c11
      have c11b1 : (t199 != 20) = false := bne_eq_false_iff_eq.mpr c11
      clear c11
      by_cases c12 : t202 = 21
      ·rw [if_pos c12] at H
       have c12b0 : (t202 == 21) = true := beq_iff_eq.mpr c12
       have c12b1 : (t202 != 21) = false := bne_eq_false_iff_eq.mpr c12
       clear c12
       obtain rfl := Option.some.inj H
       go_enter Tryd.func12, Tryd.ntmps12
       go_wp2_with (first | ((with_reducible refine gate_dst (N := 15) rfl ?_); refine Kd.R_lit k24 _ 24 ?hg (N := 15) ?hd (xs := ([(⟨2, (⟨#[5]⟩ : ByteArray), ([] : List (S24))⟩ : S24), (⟨4, (⟨#[104, 105]⟩ : ByteArray), ([] : List (S24))⟩ : S24)] : List (S24))) (inner := [.int .i64 2, .string (⟨#[5]⟩ : ByteArray), .slice none 0 0, .int .i64 4, .string (⟨#[104, 105]⟩ : ByteArray), .slice none 0 0]) (ok := fun _ => True) (okp := fun _ => True) ?hr ?hp (fun _ hk => hk) trivial (Below.refl _ _) (Nat.le_refl _) (by simp) ?_; (case hd => rfl); (case hg => rfl); (case hr => first | (go_simp; done) | (go_simp; rfl)); (case hp => exact (Reps.c3 (show Kd.M k24 _ _ _ (⟨2, (⟨#[5]⟩ : ByteArray), ([] : List (S24))⟩ : S24) [.int .i64 2, .string (⟨#[5]⟩ : ByteArray), .slice none 0 0] from (k24_mkM _ _ _ (⟨2, (⟨#[5]⟩ : ByteArray), ([] : List (S24))⟩ : S24) (Kd.R_nil _ _ _ _ _))) (Reps.c3 (show Kd.M k24 _ _ _ (⟨4, (⟨#[104, 105]⟩ : ByteArray), ([] : List (S24))⟩ : S24) [.int .i64 4, .string (⟨#[104, 105]⟩ : ByteArray), .slice none 0 0] from (k24_mkM _ _ _ (⟨4, (⟨#[104, 105]⟩ : ByteArray), ([] : List (S24))⟩ : S24) (Kd.R_nil _ _ _ _ _))) (Reps.none _ _)))); intro v181 w13 ho14 hb hg_ hnew_; clear hg_ hnew_; (first | rw [← Ny180.out] at ho14 | (simp only [Int.reduceToNat] at ho14; rw [← Ny180.out] at ho14)); have n0_ := Aside0.mk (Kd.R_lower ho14 (below_size q0_)); have n1_ := Aside0.mk (below_step q0_ hb); clear HB; have HO182 := n0_; have HB := n1_; clear n0_ n1_; clear hb ho14; obtain ⟨Ao15, co15, eo15⟩ := Kd.R_slice HO182.out; subst eo15) | ((with_reducible refine gate_dst (N := 1) rfl ?_); refine box_event ?hg (N := 1) ?hd (cs := #[.int .i64 0, .string (⟨#[]⟩ : ByteArray), .slice none 0 0]) (t := 24) ?hr ?_; (case hd => rfl); (case hg => rfl); (case hr => first | (go_simp; done) | (go_simp; rfl)); intro gb183 hg w16 hbox hb; have n0_ := Aside0.mk (Kd.R_below (Kd.R_elderB (rkq HO182.out) gb183 (Nat.le_of_eq hg.symm)) hb); have n1_ := Aside0.mk (below_step q0_ hb); have n2_ := Aside0.mk (hbox); have n3_ := Aside0.mk ((by rw [hg]; exact (below_size q0_) : w.heap.size ≤ gb183)); have n4_ := Aside0.mk ((by rw [hg]; exact (below_size q0_) : w.heap.size ≤ gb183)); clear HO182; clear HB; have HO182 := n0_; have HB := n1_; have BK183 := n2_; have GW183 := n3_; have GE183 := n4_; clear n0_ n1_ n2_ n3_ n4_; clear hb hbox hg; have hcz17_0 : w16.cell? ⟨gb183, 0, none⟩ = some (.int .i64 0) := (blk_cell BK183.out 0).trans rfl; have hcz17_1 : w16.cell? ⟨gb183, 1, none⟩ = some (.string (⟨#[]⟩ : ByteArray)) := (blk_cell BK183.out 1).trans rfl; have hcz17_2 : w16.cell? ⟨gb183, 2, none⟩ = some (.slice none 0 0) := (blk_cell BK183.out 2).trans rfl; have hfz17_0 := blk_frozen BK183.out 0; have hfz17_1 := blk_frozen BK183.out 1; have hfz17_2 := blk_frozen BK183.out 2) | ((with_reducible refine gate_callee (f := 15) rfl ?_); refine goesL_ (some 19) rfl rfl Tryd.func15 (by kernel_rfl) rfl #[.agg #[.int .i64 48, .string (⟨#[]⟩ : ByteArray), .slice Ao15 y180.length co15]] rfl argq ?_; (with_reducible refine (tlv_Encode.calls (G := G) 48 (⟨#[]⟩ : ByteArray) _ _ y180 t184 t185 _ ?side1 ?side2 ?side3 A1.out).mono ?_); (case side1 => refine (Kd.R_reads' (e := 24) (base := w.heap.size) (ok := fun k_ => (True ∧ k_ ≠ gb183)) (n := y180.length) (c := co15) ?_).2.2; exact (by refine rkq ?_; exact (Kd.R_mono (Kd.R_far (p := ⟨gb183, 2, none⟩) (Kd.R_far (p := ⟨gb183, 1, none⟩) (Kd.R_far (p := ⟨gb183, 0, none⟩) (Kd.R_mono HO182.out (fun k_ hk => (⟨hk, hk.2⟩ : _ ∧ k_ ≠ gb183))) (fun _ hk => hk.2) (.int .i64 48)) (fun _ hk => hk.2) (.string (⟨#[]⟩ : ByteArray))) (fun _ hk => hk.2) (.slice Ao15 y180.length co15)) (fun _ h_ => h_.1)))); (case side2 => exact (Kd.R_reads' HO182.out).2.1); (case side3 => first | exact hG | exact GW.below hG q0_); rintro e w18 ⟨rfl, hb⟩; refine ⟨_, rfl, ?_⟩; have n0_ := Aside0.mk (Kd.R_below (by refine rkq ?_; exact (Kd.R_mono (Kd.R_far (p := ⟨gb183, 2, none⟩) (Kd.R_far (p := ⟨gb183, 1, none⟩) (Kd.R_far (p := ⟨gb183, 0, none⟩) (Kd.R_mono HO182.out (fun k_ hk => (⟨hk, hk.2⟩ : _ ∧ k_ ≠ gb183))) (fun _ hk => hk.2) (.int .i64 48)) (fun _ hk => hk.2) (.string (⟨#[]⟩ : ByteArray))) (fun _ hk => hk.2) (.slice Ao15 y180.length co15)) (fun _ h_ => h_.1))) hb); have n1_ := Aside0.mk (blk_below (g := gb183) (o := .cells #[.int .i64 48, .string (⟨#[]⟩ : ByteArray), .slice Ao15 y180.length co15] 24 (0, 0)) (by refine bkq ?_; refine blk_put (cs := #[.int .i64 48, .string (⟨#[]⟩ : ByteArray), .slice none 0 0]) ?_ 2 _ rfl; refine bkq ?_; refine blk_put (cs := #[.int .i64 48, .string (⟨#[]⟩ : ByteArray), .slice none 0 0]) ?_ 1 _ rfl; refine bkq ?_; refine blk_put (cs := #[.int .i64 0, .string (⟨#[]⟩ : ByteArray), .slice none 0 0]) ?_ 0 _ rfl; refine bkq ?_; exact BK183.out) hb); have n2_ := Aside0.mk (below_step q0_ hb); clear HO182; clear BK183; clear HB; have HO182 := n0_; have BK183 := n1_; have HB := n2_; clear n0_ n1_ n2_; (try clear hb); (try clear hb2); (try clear hk); (try clear hi)) | ((with_reducible refine gate_callee (f := 19) rfl ?_); refine goesL_ (some 23) rfl rfl Tryd.func19 (by kernel_rfl) rfl #[.string (⟨#[48, 129, 7, 2, 1, 5, 4, 2, 104, 105]⟩ : ByteArray)] rfl argq ?_; (with_reducible refine (tlv_Whole.calls (G := G) k (⟨#[48, 129, 7, 2, 1, 5, 4, 2, 104, 105]⟩ : ByteArray) t186 t187 t188 t191 _ ?side1 A2.out).mono ?_); (case side1 => first | exact hG | exact GW.below hG q0_); rintro e w19 ⟨v189, rfl, ho0, hb⟩; refine ⟨_, rfl, ?_⟩; have n0_ := Aside0.mk (Kd.R_elder' (rkq HO182.out) (Kd.R_base ho0) hb); have n1_ := Aside0.mk (Kd.R_lower (Kd.R_newB (Kd.R_new' ho0 (Kd.R_lt (rkq HO182.out))) (g := gb183) (o := .cells #[.int .i64 48, .string (⟨#[]⟩ : ByteArray), .slice Ao15 y180.length co15] 24 (0, 0)) (bkq BK183.out)) (below_size q0_)); have n2_ := Aside0.mk (blk_below (g := gb183) (o := .cells #[.int .i64 48, .string (⟨#[]⟩ : ByteArray), .slice Ao15 y180.length co15] 24 (0, 0)) (bkq BK183.out) hb); have n3_ := Aside0.mk (below_step q0_ hb); clear HO182; clear BK183; clear HB; have HO182 := n0_; have HO190 := n1_; have BK183 := n2_; have HB := n3_; clear n0_ n1_ n2_ n3_; (try clear hb); (try clear hb2); (try clear hk); (try clear hi); (try clear ho0)) | ((with_reducible refine gate_dst (N := 4) rfl ?_); refine box_event ?hg (N := 4) ?hd (cs := #[.int .i64 0, .string (⟨#[]⟩ : ByteArray), .slice none 0 0]) (t := 24) ?hr ?_; (case hd => rfl); (case hg => rfl); (case hr => first | (go_simp; done) | (go_simp; rfl)); intro gb192 hg w20 hbox hb; have n0_ := Aside0.mk (Kd.R_below (Kd.R_elderB (rkq HO182.out) gb192 (Nat.le_of_eq hg.symm)) hb); have n1_ := Aside0.mk (Kd.R_below (Kd.R_elderB (rkq HO190.out) gb192 (Nat.le_of_eq hg.symm)) hb); have n2_ := Aside0.mk (blk_below (g := gb183) (o := .cells #[.int .i64 48, .string (⟨#[]⟩ : ByteArray), .slice Ao15 y180.length co15] 24 (0, 0)) (bkq BK183.out) hb); have n3_ := Aside0.mk (below_step q0_ hb); have n4_ := Aside0.mk (hbox); have n5_ := Aside0.mk ((by rw [hg]; exact (below_size q0_) : w.heap.size ≤ gb192)); have n6_ := Aside0.mk ((by rw [hg]; exact (below_size q0_) : w.heap.size ≤ gb192)); have n7_ := Aside0.mk ((by rw [hg]; exact Nat.ne_of_lt (blk_lt (g := gb183) (o := .cells #[.int .i64 48, .string (⟨#[]⟩ : ByteArray), .slice Ao15 y180.length co15] 24 (0, 0)) (bkq BK183.out)) : gb183 ≠ gb192)); have n8_ := Aside0.mk ((by rw [hg]; exact Nat.ne_of_gt (blk_lt (g := gb183) (o := .cells #[.int .i64 48, .string (⟨#[]⟩ : ByteArray), .slice Ao15 y180.length co15] 24 (0, 0)) (bkq BK183.out)) : gb192 ≠ gb183)); clear HO182; clear HO190; clear BK183; clear HB; have HO182 := n0_; have HO190 := n1_; have BK183 := n2_; have HB := n3_; have BK192 := n4_; have GW192 := n5_; have GE192 := n6_; have NB183_192 := n7_; have NB192_183 := n8_; clear n0_ n1_ n2_ n3_ n4_ n5_ n6_ n7_ n8_; clear hb hbox hg; have hnb21 := NB192_183.out; have hnc21 := NB183_192.out; have hcz22_0 : w20.cell? ⟨gb192, 0, none⟩ = some (.int .i64 0) := (blk_cell BK192.out 0).trans rfl; have hcz22_1 : w20.cell? ⟨gb192, 1, none⟩ = some (.string (⟨#[]⟩ : ByteArray)) := (blk_cell BK192.out 1).trans rfl; have hcz22_2 : w20.cell? ⟨gb192, 2, none⟩ = some (.slice none 0 0) := (blk_cell BK192.out 2).trans rfl; have hfz22_0 := blk_frozen BK192.out 0; have hfz22_1 := blk_frozen BK192.out 1; have hfz22_2 := blk_frozen BK192.out 2; obtain ⟨Ao23, co23, eo23⟩ := Kd.R_slice HO190.out; subst eo23) | ((with_reducible refine gate_callee (f := 17) rfl ?_); refine goesL_ (some 27) rfl rfl Tryd.func17 (by kernel_rfl) rfl #[.string (⟨#[31, 0]⟩ : ByteArray), .int .i64 0] rfl argq ?_; (with_reducible refine (tlv_Decode.calls (G := G) k (⟨#[31, 0]⟩ : ByteArray) 0 t193 t194 t195 t198 t199 _ ?side1 A3.out).mono ?_); (case side1 => first | exact hG | exact GW.below hG q0_); rintro e w24 ⟨v196, rfl, ho0, hb⟩; refine ⟨_, rfl, ?_⟩; have n0_ := Aside0.mk (Kd.R_elder' (by refine rkq ?_; exact (Kd.R_mono (Kd.R_far (p := ⟨gb192, 2, none⟩) (Kd.R_far (p := ⟨gb192, 1, none⟩) (Kd.R_far (p := ⟨gb192, 0, none⟩) (Kd.R_mono HO182.out (fun k_ hk => (⟨hk, hk.2⟩ : _ ∧ k_ ≠ gb192))) (fun _ hk => hk.2) (.int .i64 t186)) (fun _ hk => hk.2) (.string t187)) (fun _ hk => hk.2) (.slice Ao23 t188.length co23)) (fun _ h_ => h_.1))) (Kd.R_base ho0) hb); have n1_ := Aside0.mk (Kd.R_elder' (by refine rkq ?_; exact (Kd.R_mono (Kd.R_far (p := ⟨gb192, 2, none⟩) (Kd.R_far (p := ⟨gb192, 1, none⟩) (Kd.R_far (p := ⟨gb192, 0, none⟩) (Kd.R_mono HO190.out (fun k_ hk => (⟨hk, hk.2⟩ : _ ∧ k_ ≠ gb192))) (fun _ hk => hk.2) (.int .i64 t186)) (fun _ hk => hk.2) (.string t187)) (fun _ hk => hk.2) (.slice Ao23 t188.length co23)) (fun _ h_ => h_.1))) (Kd.R_base ho0) hb); have n2_ := Aside0.mk (Kd.R_lower (Kd.R_newB (Kd.R_newB (Kd.R_new' (Kd.R_new' ho0 (Kd.R_lt (by refine rkq ?_; exact (Kd.R_mono (Kd.R_far (p := ⟨gb192, 2, none⟩) (Kd.R_far (p := ⟨gb192, 1, none⟩) (Kd.R_far (p := ⟨gb192, 0, none⟩) (Kd.R_mono HO182.out (fun k_ hk => (⟨hk, hk.2⟩ : _ ∧ k_ ≠ gb192))) (fun _ hk => hk.2) (.int .i64 t186)) (fun _ hk => hk.2) (.string t187)) (fun _ hk => hk.2) (.slice Ao23 t188.length co23)) (fun _ h_ => h_.1))))) (Kd.R_lt (by refine rkq ?_; exact (Kd.R_mono (Kd.R_far (p := ⟨gb192, 2, none⟩) (Kd.R_far (p := ⟨gb192, 1, none⟩) (Kd.R_far (p := ⟨gb192, 0, none⟩) (Kd.R_mono HO190.out (fun k_ hk => (⟨hk, hk.2⟩ : _ ∧ k_ ≠ gb192))) (fun _ hk => hk.2) (.int .i64 t186)) (fun _ hk => hk.2) (.string t187)) (fun _ hk => hk.2) (.slice Ao23 t188.length co23)) (fun _ h_ => h_.1))))) (g := gb183) (o := .cells #[.int .i64 48, .string (⟨#[]⟩ : ByteArray), .slice Ao15 y180.length co15] 24 (0, 0)) (by refine bkq ?_; refine blk_far ?_ NB183_192.out _; refine bkq ?_; refine blk_far ?_ NB183_192.out _; refine bkq ?_; refine blk_far ?_ NB183_192.out _; refine bkq ?_; exact BK183.out)) (g := gb192) (o := .cells #[.int .i64 t186, .string t187, .slice Ao23 t188.length co23] 24 (0, 0)) (by refine bkq ?_; refine blk_put (cs := #[.int .i64 t186, .string t187, .slice none 0 0]) ?_ 2 _ rfl; refine bkq ?_; refine blk_put (cs := #[.int .i64 t186, .string (⟨#[]⟩ : ByteArray), .slice none 0 0]) ?_ 1 _ rfl; refine bkq ?_; refine blk_put (cs := #[.int .i64 0, .string (⟨#[]⟩ : ByteArray), .slice none 0 0]) ?_ 0 _ rfl; refine bkq ?_; exact BK192.out)) (below_size q0_)); have n3_ := Aside0.mk (blk_below (g := gb183) (o := .cells #[.int .i64 48, .string (⟨#[]⟩ : ByteArray), .slice Ao15 y180.length co15] 24 (0, 0)) (by refine bkq ?_; refine blk_far ?_ NB183_192.out _; refine bkq ?_; refine blk_far ?_ NB183_192.out _; refine bkq ?_; refine blk_far ?_ NB183_192.out _; refine bkq ?_; exact BK183.out) hb); have n4_ := Aside0.mk (blk_below (g := gb192) (o := .cells #[.int .i64 t186, .string t187, .slice Ao23 t188.length co23] 24 (0, 0)) (by refine bkq ?_; refine blk_put (cs := #[.int .i64 t186, .string t187, .slice none 0 0]) ?_ 2 _ rfl; refine bkq ?_; refine blk_put (cs := #[.int .i64 t186, .string (⟨#[]⟩ : ByteArray), .slice none 0 0]) ?_ 1 _ rfl; refine bkq ?_; refine blk_put (cs := #[.int .i64 0, .string (⟨#[]⟩ : ByteArray), .slice none 0 0]) ?_ 0 _ rfl; refine bkq ?_; exact BK192.out) hb); have n5_ := Aside0.mk (below_step q0_ hb); clear HO182; clear HO190; clear BK183; clear BK192; clear HB; have HO182 := n0_; have HO190 := n1_; have HO197 := n2_; have BK183 := n3_; have BK192 := n4_; have HB := n5_; clear n0_ n1_ n2_ n3_ n4_ n5_; (try clear hb); (try clear hb2); (try clear hk); (try clear hi); (try clear ho0)) | ((with_reducible refine gate_dst (N := 6) rfl ?_); refine box_event ?hg (N := 6) ?hd (cs := #[.int .i64 0, .string (⟨#[]⟩ : ByteArray), .slice none 0 0]) (t := 24) ?hr ?_; (case hd => rfl); (case hg => rfl); (case hr => first | (go_simp; done) | (go_simp; rfl)); intro gb200 hg w25 hbox hb; have n0_ := Aside0.mk (Kd.R_below (Kd.R_elderB (rkq HO182.out) gb200 (Nat.le_of_eq hg.symm)) hb); have n1_ := Aside0.mk (Kd.R_below (Kd.R_elderB (rkq HO190.out) gb200 (Nat.le_of_eq hg.symm)) hb); have n2_ := Aside0.mk (Kd.R_below (Kd.R_elderB (rkq HO197.out) gb200 (Nat.le_of_eq hg.symm)) hb); have n3_ := Aside0.mk (blk_below (g := gb183) (o := .cells #[.int .i64 48, .string (⟨#[]⟩ : ByteArray), .slice Ao15 y180.length co15] 24 (0, 0)) (bkq BK183.out) hb); have n4_ := Aside0.mk (blk_below (g := gb192) (o := .cells #[.int .i64 t186, .string t187, .slice Ao23 t188.length co23] 24 (0, 0)) (bkq BK192.out) hb); have n5_ := Aside0.mk (below_step q0_ hb); have n6_ := Aside0.mk (hbox); have n7_ := Aside0.mk ((by rw [hg]; exact (below_size q0_) : w.heap.size ≤ gb200)); have n8_ := Aside0.mk ((by rw [hg]; exact (below_size q0_) : w.heap.size ≤ gb200)); have n9_ := Aside0.mk ((by rw [hg]; exact Nat.ne_of_lt (blk_lt (g := gb183) (o := .cells #[.int .i64 48, .string (⟨#[]⟩ : ByteArray), .slice Ao15 y180.length co15] 24 (0, 0)) (bkq BK183.out)) : gb183 ≠ gb200)); have n10_ := Aside0.mk ((by rw [hg]; exact Nat.ne_of_gt (blk_lt (g := gb183) (o := .cells #[.int .i64 48, .string (⟨#[]⟩ : ByteArray), .slice Ao15 y180.length co15] 24 (0, 0)) (bkq BK183.out)) : gb200 ≠ gb183)); have n11_ := Aside0.mk ((by rw [hg]; exact Nat.ne_of_lt (blk_lt (g := gb192) (o := .cells #[.int .i64 t186, .string t187, .slice Ao23 t188.length co23] 24 (0, 0)) (bkq BK192.out)) : gb192 ≠ gb200)); have n12_ := Aside0.mk ((by rw [hg]; exact Nat.ne_of_gt (blk_lt (g := gb192) (o := .cells #[.int .i64 t186, .string t187, .slice Ao23 t188.length co23] 24 (0, 0)) (bkq BK192.out)) : gb200 ≠ gb192)); clear HO182; clear HO190; clear HO197; clear BK183; clear BK192; clear HB; have HO182 := n0_; have HO190 := n1_; have HO197 := n2_; have BK183 := n3_; have BK192 := n4_; have HB := n5_; have BK200 := n6_; have GW200 := n7_; have GE200 := n8_; have NB183_200 := n9_; have NB200_183 := n10_; have NB192_200 := n11_; have NB200_192 := n12_; clear n0_ n1_ n2_ n3_ n4_ n5_ n6_ n7_ n8_ n9_ n10_ n11_ n12_; clear hb hbox hg; have hnb26 := NB200_183.out; have hnc26 := NB183_200.out; have hnb27 := NB200_192.out; have hnc27 := NB192_200.out; have hcz28_0 : w25.cell? ⟨gb200, 0, none⟩ = some (.int .i64 0) := (blk_cell BK200.out 0).trans rfl; have hcz28_1 : w25.cell? ⟨gb200, 1, none⟩ = some (.string (⟨#[]⟩ : ByteArray)) := (blk_cell BK200.out 1).trans rfl; have hcz28_2 : w25.cell? ⟨gb200, 2, none⟩ = some (.slice none 0 0) := (blk_cell BK200.out 2).trans rfl; have hfz28_0 := blk_frozen BK200.out 0; have hfz28_1 := blk_frozen BK200.out 1; have hfz28_2 := blk_frozen BK200.out 2; obtain ⟨Ao29, co29, eo29⟩ := Kd.R_slice HO197.out; subst eo29; have hcz30_0 : w25.cell? ⟨gb183, 0, none⟩ = some (.int .i64 48) := (blk_cell BK183.out 0).trans rfl; have hcz30_1 : w25.cell? ⟨gb183, 1, none⟩ = some (.string (⟨#[]⟩ : ByteArray)) := (blk_cell BK183.out 1).trans rfl; have hcz30_2 : w25.cell? ⟨gb183, 2, none⟩ = some (.slice Ao15 y180.length co15) := (blk_cell BK183.out 2).trans rfl; have hfz30_0 := blk_frozen BK183.out 0; have hfz30_1 := blk_frozen BK183.out 1; have hfz30_2 := blk_frozen BK183.out 2) | ((with_reducible refine gate_callee (f := 15) rfl ?_); refine goesL_ (some 35) rfl rfl Tryd.func15 (by kernel_rfl) rfl #[.agg #[.int .i64 4, .string (⟨#[]⟩ : ByteArray), .slice Ao15 y180.length co15]] rfl argq ?_; (with_reducible refine (tlv_Encode.calls (G := G) 4 (⟨#[]⟩ : ByteArray) _ _ y180 t201 t202 _ ?side1 ?side2 ?side3 A4.out).mono ?_); (case side1 => refine (Kd.R_reads' (e := 24) (base := w.heap.size) (ok := fun k_ => (((((True ∧ k_ ≠ gb183) ∧ some k_ ≠ (.slice Ao23 t188.length co23 : Value).ownBlock) ∧ k_ ≠ gb192) ∧ some k_ ≠ (.slice Ao29 t195.length co29 : Value).ownBlock) ∧ k_ ≠ gb200)) (n := y180.length) (c := co15) ?_).2.2; exact (by refine rkq ?_; exact (Kd.R_mono (Kd.R_far (p := ⟨gb200, 2, none⟩) (Kd.R_far (p := ⟨gb200, 1, none⟩) (Kd.R_far (p := ⟨gb200, 0, none⟩) (Kd.R_mono HO182.out (fun k_ hk => (⟨hk, hk.2⟩ : _ ∧ k_ ≠ gb200))) (fun _ hk => hk.2) (.int .i64 t193)) (fun _ hk => hk.2) (.string t194)) (fun _ hk => hk.2) (.slice Ao29 t195.length co29)) (fun _ h_ => h_.1)))); (case side2 => exact (Kd.R_reads' HO182.out).2.1); (case side3 => first | exact hG | exact GW.below hG q0_); rintro e w31 ⟨rfl, hb⟩; refine ⟨_, rfl, ?_⟩; have n0_ := Aside0.mk (Kd.R_below (by refine rkq ?_; exact (Kd.R_mono (Kd.R_far (p := ⟨gb200, 2, none⟩) (Kd.R_far (p := ⟨gb200, 1, none⟩) (Kd.R_far (p := ⟨gb200, 0, none⟩) (Kd.R_mono HO182.out (fun k_ hk => (⟨hk, hk.2⟩ : _ ∧ k_ ≠ gb200))) (fun _ hk => hk.2) (.int .i64 t193)) (fun _ hk => hk.2) (.string t194)) (fun _ hk => hk.2) (.slice Ao29 t195.length co29)) (fun _ h_ => h_.1))) hb); have n1_ := Aside0.mk (Kd.R_below (by refine rkq ?_; exact (Kd.R_mono (Kd.R_far (p := ⟨gb200, 2, none⟩) (Kd.R_far (p := ⟨gb200, 1, none⟩) (Kd.R_far (p := ⟨gb200, 0, none⟩) (Kd.R_mono HO190.out (fun k_ hk => (⟨hk, hk.2⟩ : _ ∧ k_ ≠ gb200))) (fun _ hk => hk.2) (.int .i64 t193)) (fun _ hk => hk.2) (.string t194)) (fun _ hk => hk.2) (.slice Ao29 t195.length co29)) (fun _ h_ => h_.1))) hb); have n2_ := Aside0.mk (Kd.R_below (by refine rkq ?_; exact (Kd.R_mono (Kd.R_far (p := ⟨gb200, 2, none⟩) (Kd.R_far (p := ⟨gb200, 1, none⟩) (Kd.R_far (p := ⟨gb200, 0, none⟩) (Kd.R_mono HO197.out (fun k_ hk => (⟨hk, hk.2⟩ : _ ∧ k_ ≠ gb200))) (fun _ hk => hk.2) (.int .i64 t193)) (fun _ hk => hk.2) (.string t194)) (fun _ hk => hk.2) (.slice Ao29 t195.length co29)) (fun _ h_ => h_.1))) hb); have n3_ := Aside0.mk (blk_below (g := gb183) (o := .cells #[.int .i64 48, .string (⟨#[]⟩ : ByteArray), .slice Ao15 y180.length co15] 24 (0, 0)) (by refine bkq ?_; refine blk_far ?_ NB183_200.out _; refine bkq ?_; refine blk_far ?_ NB183_200.out _; refine bkq ?_; refine blk_far ?_ NB183_200.out _; refine bkq ?_; exact BK183.out) hb); have n4_ := Aside0.mk (blk_below (g := gb192) (o := .cells #[.int .i64 t186, .string t187, .slice Ao23 t188.length co23] 24 (0, 0)) (by refine bkq ?_; refine blk_far ?_ NB192_200.out _; refine bkq ?_; refine blk_far ?_ NB192_200.out _; refine bkq ?_; refine blk_far ?_ NB192_200.out _; refine bkq ?_; exact BK192.out) hb); have n5_ := Aside0.mk (blk_below (g := gb200) (o := .cells #[.int .i64 t193, .string t194, .slice Ao29 t195.length co29] 24 (0, 0)) (by refine bkq ?_; refine blk_put (cs := #[.int .i64 t193, .string t194, .slice none 0 0]) ?_ 2 _ rfl; refine bkq ?_; refine blk_put (cs := #[.int .i64 t193, .string (⟨#[]⟩ : ByteArray), .slice none 0 0]) ?_ 1 _ rfl; refine bkq ?_; refine blk_put (cs := #[.int .i64 0, .string (⟨#[]⟩ : ByteArray), .slice none 0 0]) ?_ 0 _ rfl; refine bkq ?_; exact BK200.out) hb); have n6_ := Aside0.mk (below_step q0_ hb); clear HO182; clear HO190; clear HO197; clear BK183; clear BK192; clear BK200; clear HB; have HO182 := n0_; have HO190 := n1_; have HO197 := n2_; have BK183 := n3_; have BK192 := n4_; have BK200 := n5_; have HB := n6_; clear n0_ n1_ n2_ n3_ n4_ n5_ n6_; (try clear hb); (try clear hb2); (try clear hk); (try clear hi)) | ((with_reducible refine gate_callee (f := 19) rfl ?_); refine goesL_ (some 39) rfl rfl Tryd.func19 (by kernel_rfl) rfl #[.string (⟨#[48, 2, 4, 1, 97]⟩ : ByteArray)] rfl argq ?_; (with_reducible refine (tlv_Whole.calls (G := G) k (⟨#[48, 2, 4, 1, 97]⟩ : ByteArray) t203 t204 t205 t208 _ ?side1 A5.out).mono ?_); (case side1 => first | exact hG | exact GW.below hG q0_); rintro e w32 ⟨v206, rfl, ho0, hb⟩; refine ⟨_, rfl, ?_⟩; have n0_ := Aside0.mk (Kd.R_elder' (rkq HO182.out) (Kd.R_base ho0) hb); have n1_ := Aside0.mk (Kd.R_elder' (rkq HO190.out) (Kd.R_base ho0) hb); have n2_ := Aside0.mk (Kd.R_elder' (rkq HO197.out) (Kd.R_base ho0) hb); have n3_ := Aside0.mk (Kd.R_lower (Kd.R_newB (Kd.R_newB (Kd.R_newB (Kd.R_new' (Kd.R_new' (Kd.R_new' ho0 (Kd.R_lt (rkq HO182.out))) (Kd.R_lt (rkq HO190.out))) (Kd.R_lt (rkq HO197.out))) (g := gb183) (o := .cells #[.int .i64 48, .string (⟨#[]⟩ : ByteArray), .slice Ao15 y180.length co15] 24 (0, 0)) (bkq BK183.out)) (g := gb192) (o := .cells #[.int .i64 t186, .string t187, .slice Ao23 t188.length co23] 24 (0, 0)) (bkq BK192.out)) (g := gb200) (o := .cells #[.int .i64 t193, .string t194, .slice Ao29 t195.length co29] 24 (0, 0)) (bkq BK200.out)) (below_size q0_)); have n4_ := Aside0.mk (blk_below (g := gb183) (o := .cells #[.int .i64 48, .string (⟨#[]⟩ : ByteArray), .slice Ao15 y180.length co15] 24 (0, 0)) (bkq BK183.out) hb); have n5_ := Aside0.mk (blk_below (g := gb192) (o := .cells #[.int .i64 t186, .string t187, .slice Ao23 t188.length co23] 24 (0, 0)) (bkq BK192.out) hb); have n6_ := Aside0.mk (blk_below (g := gb200) (o := .cells #[.int .i64 t193, .string t194, .slice Ao29 t195.length co29] 24 (0, 0)) (bkq BK200.out) hb); have n7_ := Aside0.mk (below_step q0_ hb); clear HO182; clear HO190; clear HO197; clear BK183; clear BK192; clear BK200; clear HB; have HO182 := n0_; have HO190 := n1_; have HO197 := n2_; have HO207 := n3_; have BK183 := n4_; have BK192 := n5_; have BK200 := n6_; have HB := n7_; clear n0_ n1_ n2_ n3_ n4_ n5_ n6_ n7_; (try clear hb); (try clear hb2); (try clear hk); (try clear hi); (try clear ho0)) | ((with_reducible refine gate_dst (N := 11) rfl ?_); refine box_event ?hg (N := 11) ?hd (cs := #[.int .i64 0, .string (⟨#[]⟩ : ByteArray), .slice none 0 0]) (t := 24) ?hr ?_; (case hd => rfl); (case hg => rfl); (case hr => first | (go_simp; done) | (go_simp; rfl)); intro gb209 hg w33 hbox hb; have n0_ := Aside0.mk (Kd.R_below (Kd.R_elderB (rkq HO182.out) gb209 (Nat.le_of_eq hg.symm)) hb); have n1_ := Aside0.mk (Kd.R_below (Kd.R_elderB (rkq HO190.out) gb209 (Nat.le_of_eq hg.symm)) hb); have n2_ := Aside0.mk (Kd.R_below (Kd.R_elderB (rkq HO197.out) gb209 (Nat.le_of_eq hg.symm)) hb); have n3_ := Aside0.mk (Kd.R_below (Kd.R_elderB (rkq HO207.out) gb209 (Nat.le_of_eq hg.symm)) hb); have n4_ := Aside0.mk (blk_below (g := gb183) (o := .cells #[.int .i64 48, .string (⟨#[]⟩ : ByteArray), .slice Ao15 y180.length co15] 24 (0, 0)) (bkq BK183.out) hb); have n5_ := Aside0.mk (blk_below (g := gb192) (o := .cells #[.int .i64 t186, .string t187, .slice Ao23 t188.length co23] 24 (0, 0)) (bkq BK192.out) hb); have n6_ := Aside0.mk (blk_below (g := gb200) (o := .cells #[.int .i64 t193, .string t194, .slice Ao29 t195.length co29] 24 (0, 0)) (bkq BK200.out) hb); have n7_ := Aside0.mk (below_step q0_ hb); have n8_ := Aside0.mk (hbox); have n9_ := Aside0.mk ((by rw [hg]; exact (below_size q0_) : w.heap.size ≤ gb209)); have n10_ := Aside0.mk ((by rw [hg]; exact (below_size q0_) : w.heap.size ≤ gb209)); have n11_ := Aside0.mk ((by rw [hg]; exact Nat.ne_of_lt (blk_lt (g := gb183) (o := .cells #[.int .i64 48, .string (⟨#[]⟩ : ByteArray), .slice Ao15 y180.length co15] 24 (0, 0)) (bkq BK183.out)) : gb183 ≠ gb209)); have n12_ := Aside0.mk ((by rw [hg]; exact Nat.ne_of_gt (blk_lt (g := gb183) (o := .cells #[.int .i64 48, .string (⟨#[]⟩ : ByteArray), .slice Ao15 y180.length co15] 24 (0, 0)) (bkq BK183.out)) : gb209 ≠ gb183)); have n13_ := Aside0.mk ((by rw [hg]; exact Nat.ne_of_lt (blk_lt (g := gb192) (o := .cells #[.int .i64 t186, .string t187, .slice Ao23 t188.length co23] 24 (0, 0)) (bkq BK192.out)) : gb192 ≠ gb209)); have n14_ := Aside0.mk ((by rw [hg]; exact Nat.ne_of_gt (blk_lt (g := gb192) (o := .cells #[.int .i64 t186, .string t187, .slice Ao23 t188.length co23] 24 (0, 0)) (bkq BK192.out)) : gb209 ≠ gb192)); have n15_ := Aside0.mk ((by rw [hg]; exact Nat.ne_of_lt (blk_lt (g := gb200) (o := .cells #[.int .i64 t193, .string t194, .slice Ao29 t195.length co29] 24 (0, 0)) (bkq BK200.out)) : gb200 ≠ gb209)); have n16_ := Aside0.mk ((by rw [hg]; exact Nat.ne_of_gt (blk_lt (g := gb200) (o := .cells #[.int .i64 t193, .string t194, .slice Ao29 t195.length co29] 24 (0, 0)) (bkq BK200.out)) : gb209 ≠ gb200)); clear HO182; clear HO190; clear HO197; clear HO207; clear BK183; clear BK192; clear BK200; clear HB; have HO182 := n0_; have HO190 := n1_; have HO197 := n2_; have HO207 := n3_; have BK183 := n4_; have BK192 := n5_; have BK200 := n6_; have HB := n7_; have BK209 := n8_; have GW209 := n9_; have GE209 := n10_; have NB183_209 := n11_; have NB209_183 := n12_; have NB192_209 := n13_; have NB209_192 := n14_; have NB200_209 := n15_; have NB209_200 := n16_; clear n0_ n1_ n2_ n3_ n4_ n5_ n6_ n7_ n8_ n9_ n10_ n11_ n12_ n13_ n14_ n15_ n16_; clear hb hbox hg; have hnb34 := NB209_183.out; have hnc34 := NB183_209.out; have hnb35 := NB209_192.out; have hnc35 := NB192_209.out; have hnb36 := NB209_200.out; have hnc36 := NB200_209.out; have hcz37_0 : w33.cell? ⟨gb209, 0, none⟩ = some (.int .i64 0) := (blk_cell BK209.out 0).trans rfl; have hcz37_1 : w33.cell? ⟨gb209, 1, none⟩ = some (.string (⟨#[]⟩ : ByteArray)) := (blk_cell BK209.out 1).trans rfl; have hcz37_2 : w33.cell? ⟨gb209, 2, none⟩ = some (.slice none 0 0) := (blk_cell BK209.out 2).trans rfl; have hfz37_0 := blk_frozen BK209.out 0; have hfz37_1 := blk_frozen BK209.out 1; have hfz37_2 := blk_frozen BK209.out 2; obtain ⟨Ao38, co38, eo38⟩ := Kd.R_slice HO207.out; subst eo38; have hcz39_0 : w33.cell? ⟨gb183, 0, none⟩ = some (.int .i64 48) := (blk_cell BK183.out 0).trans rfl; have hcz39_1 : w33.cell? ⟨gb183, 1, none⟩ = some (.string (⟨#[]⟩ : ByteArray)) := (blk_cell BK183.out 1).trans rfl; have hcz39_2 : w33.cell? ⟨gb183, 2, none⟩ = some (.slice Ao15 y180.length co15) := (blk_cell BK183.out 2).trans rfl; have hfz39_0 := blk_frozen BK183.out 0; have hfz39_1 := blk_frozen BK183.out 1; have hfz39_2 := blk_frozen BK183.out 2; have hcz40_0 : w33.cell? ⟨gb192, 0, none⟩ = some (.int .i64 t186) := (blk_cell BK192.out 0).trans rfl; have hcz40_1 : w33.cell? ⟨gb192, 1, none⟩ = some (.string t187) := (blk_cell BK192.out 1).trans rfl; have hcz40_2 : w33.cell? ⟨gb192, 2, none⟩ = some (.slice Ao23 t188.length co23) := (blk_cell BK192.out 2).trans rfl; have hfz40_0 := blk_frozen BK192.out 0; have hfz40_1 := blk_frozen BK192.out 1; have hfz40_2 := blk_frozen BK192.out 2) | (go_at_call 23; (with_reducible refine (tlv_Same.calls 48 (⟨#[]⟩ : ByteArray) _ _ y180 t186 t187 _ _ t188 true _ ?side1 ?side2 ?side3 ?side4 A9.out).mono ?_); (case side1 => refine (Kd.R_reads' (e := 24) (base := w.heap.size) (ok := fun k_ => (((((((True ∧ k_ ≠ gb183) ∧ some k_ ≠ (.slice Ao23 t188.length co23 : Value).ownBlock) ∧ k_ ≠ gb192) ∧ some k_ ≠ (.slice Ao29 t195.length co29 : Value).ownBlock) ∧ k_ ≠ gb200) ∧ some k_ ≠ (.slice Ao38 t205.length co38 : Value).ownBlock) ∧ k_ ≠ gb209)) (n := y180.length) (c := co15) ?_).2.2; exact (by refine rkq ?_; exact (Kd.R_mono (Kd.R_far (p := ⟨gb209, 2, none⟩) (Kd.R_far (p := ⟨gb209, 1, none⟩) (Kd.R_far (p := ⟨gb209, 0, none⟩) (Kd.R_mono HO182.out (fun k_ hk => (⟨hk, hk.2⟩ : _ ∧ k_ ≠ gb209))) (fun _ hk => hk.2) (.int .i64 t203)) (fun _ hk => hk.2) (.string t204)) (fun _ hk => hk.2) (.slice Ao38 t205.length co38)) (fun _ h_ => h_.1)))); (case side2 => exact (Kd.R_reads' HO182.out).2.1); (case side3 => refine (Kd.R_reads' (e := 24) (base := w.heap.size) (ok := fun k_ => (((((((True ∧ some k_ ≠ (.slice Ao15 y180.length co15 : Value).ownBlock) ∧ k_ ≠ gb183) ∧ k_ ≠ gb192) ∧ some k_ ≠ (.slice Ao29 t195.length co29 : Value).ownBlock) ∧ k_ ≠ gb200) ∧ some k_ ≠ (.slice Ao38 t205.length co38 : Value).ownBlock) ∧ k_ ≠ gb209)) (n := t188.length) (c := co23) ?_).2.2; exact (by refine rkq ?_; exact (Kd.R_mono (Kd.R_far (p := ⟨gb209, 2, none⟩) (Kd.R_far (p := ⟨gb209, 1, none⟩) (Kd.R_far (p := ⟨gb209, 0, none⟩) (Kd.R_mono HO190.out (fun k_ hk => (⟨hk, hk.2⟩ : _ ∧ k_ ≠ gb209))) (fun _ hk => hk.2) (.int .i64 t203)) (fun _ hk => hk.2) (.string t204)) (fun _ hk => hk.2) (.slice Ao38 t205.length co38)) (fun _ h_ => h_.1)))); (case side4 => exact (Kd.R_reads' HO190.out).2.1); rintro e w41 ⟨rfl, hb⟩; have n0_ := Aside0.mk (Kd.R_below (by refine rkq ?_; exact (Kd.R_mono (Kd.R_far (p := ⟨gb209, 2, none⟩) (Kd.R_far (p := ⟨gb209, 1, none⟩) (Kd.R_far (p := ⟨gb209, 0, none⟩) (Kd.R_mono HO182.out (fun k_ hk => (⟨hk, hk.2⟩ : _ ∧ k_ ≠ gb209))) (fun _ hk => hk.2) (.int .i64 t203)) (fun _ hk => hk.2) (.string t204)) (fun _ hk => hk.2) (.slice Ao38 t205.length co38)) (fun _ h_ => h_.1))) hb); have n1_ := Aside0.mk (Kd.R_below (by refine rkq ?_; exact (Kd.R_mono (Kd.R_far (p := ⟨gb209, 2, none⟩) (Kd.R_far (p := ⟨gb209, 1, none⟩) (Kd.R_far (p := ⟨gb209, 0, none⟩) (Kd.R_mono HO190.out (fun k_ hk => (⟨hk, hk.2⟩ : _ ∧ k_ ≠ gb209))) (fun _ hk => hk.2) (.int .i64 t203)) (fun _ hk => hk.2) (.string t204)) (fun _ hk => hk.2) (.slice Ao38 t205.length co38)) (fun _ h_ => h_.1))) hb); have n2_ := Aside0.mk (Kd.R_below (by refine rkq ?_; exact (Kd.R_mono (Kd.R_far (p := ⟨gb209, 2, none⟩) (Kd.R_far (p := ⟨gb209, 1, none⟩) (Kd.R_far (p := ⟨gb209, 0, none⟩) (Kd.R_mono HO197.out (fun k_ hk => (⟨hk, hk.2⟩ : _ ∧ k_ ≠ gb209))) (fun _ hk => hk.2) (.int .i64 t203)) (fun _ hk => hk.2) (.string t204)) (fun _ hk => hk.2) (.slice Ao38 t205.length co38)) (fun _ h_ => h_.1))) hb); have n3_ := Aside0.mk (Kd.R_below (by refine rkq ?_; exact (Kd.R_mono (Kd.R_far (p := ⟨gb209, 2, none⟩) (Kd.R_far (p := ⟨gb209, 1, none⟩) (Kd.R_far (p := ⟨gb209, 0, none⟩) (Kd.R_mono HO207.out (fun k_ hk => (⟨hk, hk.2⟩ : _ ∧ k_ ≠ gb209))) (fun _ hk => hk.2) (.int .i64 t203)) (fun _ hk => hk.2) (.string t204)) (fun _ hk => hk.2) (.slice Ao38 t205.length co38)) (fun _ h_ => h_.1))) hb); have n4_ := Aside0.mk (blk_below (g := gb183) (o := .cells #[.int .i64 48, .string (⟨#[]⟩ : ByteArray), .slice Ao15 y180.length co15] 24 (0, 0)) (by refine bkq ?_; refine blk_far ?_ NB183_209.out _; refine bkq ?_; refine blk_far ?_ NB183_209.out _; refine bkq ?_; refine blk_far ?_ NB183_209.out _; refine bkq ?_; exact BK183.out) hb); have n5_ := Aside0.mk (blk_below (g := gb192) (o := .cells #[.int .i64 t186, .string t187, .slice Ao23 t188.length co23] 24 (0, 0)) (by refine bkq ?_; refine blk_far ?_ NB192_209.out _; refine bkq ?_; refine blk_far ?_ NB192_209.out _; refine bkq ?_; refine blk_far ?_ NB192_209.out _; refine bkq ?_; exact BK192.out) hb); have n6_ := Aside0.mk (blk_below (g := gb200) (o := .cells #[.int .i64 t193, .string t194, .slice Ao29 t195.length co29] 24 (0, 0)) (by refine bkq ?_; refine blk_far ?_ NB200_209.out _; refine bkq ?_; refine blk_far ?_ NB200_209.out _; refine bkq ?_; refine blk_far ?_ NB200_209.out _; refine bkq ?_; exact BK200.out) hb); have n7_ := Aside0.mk (blk_below (g := gb209) (o := .cells #[.int .i64 t203, .string t204, .slice Ao38 t205.length co38] 24 (0, 0)) (by refine bkq ?_; refine blk_put (cs := #[.int .i64 t203, .string t204, .slice none 0 0]) ?_ 2 _ rfl; refine bkq ?_; refine blk_put (cs := #[.int .i64 t203, .string (⟨#[]⟩ : ByteArray), .slice none 0 0]) ?_ 1 _ rfl; refine bkq ?_; refine blk_put (cs := #[.int .i64 0, .string (⟨#[]⟩ : ByteArray), .slice none 0 0]) ?_ 0 _ rfl; refine bkq ?_; exact BK209.out) hb); have n8_ := Aside0.mk (below_step q0_ hb); clear HO182; clear HO190; clear HO197; clear HO207; clear BK183; clear BK192; clear BK200; clear BK209; clear HB; have HO182 := n0_; have HO190 := n1_; have HO197 := n2_; have HO207 := n3_; have BK183 := n4_; have BK192 := n5_; have BK200 := n6_; have BK209 := n7_; have HB := n8_; clear n0_ n1_ n2_ n3_ n4_ n5_ n6_ n7_ n8_; (try clear hb); (try clear hb2); (try clear hk); (try clear hi)))
       go_ret
       exact ⟨q2_, q0_⟩
      ·rw [if_neg c12] at H
       exact absurd H (by simp)
     ·rw [if_neg c11] at H
      exact absurd H (by simp)
    ·replace c10 := Bool.eq_false_iff.mpr c10
     subst c10
     have H1 : (none) = some r := by rw [if_neg (show ¬ (false = true) by decide)] at H; exact H
     clear H
     have H := H1
     clear H1
     exact absurd H (by simp)
   ·rw [if_neg c8] at H
    exact absurd H (by simp)
  ·rw [if_neg c7] at H
   exact absurd H (by simp)
 ·rw [if_neg c6] at H
  exact absurd H (by simp)
def latinerlaw02_cut.f (a0 : ByteArray) : Option (ByteArray) := if 0 ≤ (mn (a0.size : Int) 4100) then (if (mn (a0.size : Int) 4100) ≤ (a0.size : Int) then (some (a0.extract 0 ((mn (a0.size : Int) 4100) : Int).toNat)) else (none)) else (none)
set_option maxHeartbeats 8000000 in
set_option maxRecDepth 100000 in
theorem latinerlaw02_cut.calls (a0 : ByteArray) (r : ByteArray) (w : World) (h : latinerlaw02_cut.f a0 = some r) :
  Calls Tryd.prog 14 #[.string a0] w fun e w' => e = .returned (.string r) ∧ Below w.heap.size w w' := by
 have HB := Aside0.mk (Below.refl w.heap.size w)
 have H : (if 0 ≤ (mn (a0.size : Int) 4100) then (if (mn (a0.size : Int) 4100) ≤ (a0.size : Int) then (some (a0.extract 0 ((mn (a0.size : Int) 4100) : Int).toNat)) else (none)) else (none)) = some r := h
 clear h
 obtain ⟨ji2, hji2⟩ : ∃ j_ : Int, (mn (a0.size : Int) 4100) = j_ := ⟨_, rfl⟩
 replace H : (if 0 ≤ (ji2) then (if (ji2) ≤ (a0.size : Int) then (some (a0.extract 0 ((ji2) : Int).toNat)) else (none)) else (none)) = some r := by first | (rw [hji2] at H; exact H) | (simp only [hji2] at H ⊢; exact H)
 (try (have hji2h : ji2 ≤ 4100 := by (rw [← hji2]; unfold mn; (repeat' split) <;> omega)))
 (try (have hji2g : ji2 ≤ 64 := by omega))
 (try (have hji2l : 0 ≤ ji2 := by (rw [← hji2]; unfold mn; (repeat' split) <;> omega)))
 (try (have hji2m : 0 ≤ ji2 := by omega))
 have hji2_ : (if 4100 < (a0.size : Int) then 4100 else (a0.size : Int)) = ji2 := hji2
 by_cases c3 : 0 ≤ (ji2)
 ·rw [if_pos c3] at H
  have c3b0 := eq_true c3
  have c3b1 : decide (0 ≤ (ji2)) = true := decide_eq_true c3
  clear c3
  by_cases c4 : (ji2) ≤ (a0.size : Int)
  ·rw [if_pos c4] at H
   have c4b0 := eq_true c4
   have c4b1 : decide ((ji2) ≤ (a0.size : Int)) = true := decide_eq_true c4
   clear c4
   obtain rfl := Option.some.inj H
   go_enter Tryd.func14, Tryd.ntmps14
   go_wp2
   go_ret
   exact ⟨by first | rfl | (simp [eW] <;> rfl) | (simp only [← hji2]; first | rfl | (simp [eW] <;> rfl)) | (simp [*, eW] <;> rfl), q0_⟩
  ·rw [if_neg c4] at H
   exact absurd H (by simp)
 ·rw [if_neg c3] at H
  exact absurd H (by simp)
def latinerlaw02_TlvLeast.f (k : Nat) (a0 : ByteArray) : Option (Bool) := (latinerlaw02_shown.f k).bind fun t211 => ((latinerlaw02_cut.f a0).bind fun t212 => ((tlv_Decode.f k t212 0).bind fun bt213 => (if bt213.2.2.2.2 = 0 then ((tlv_Encode.f bt213.1 bt213.2.1 bt213.2.2.1).bind fun bt221 => ((tlv_Whole.f k bt221.1).bind fun bt223 => (if t211 = true then (if bt221.2 = 0 then (if (bt221.1.size : Int) ≤ bt213.2.2.2.1 then (if bt223.2.2.2 = 0 then ((tlv_Same.f bt213.1 bt213.2.1 bt213.2.2.1 bt223.1 bt223.2.1 bt223.2.2.1).bind fun t230 => (some t230)) else (none)) else (none)) else (none)) else (none)))) else (if t211 = true then (if bt213.2.2.2.1 = 0 then (some (bt213.1 == 0)) else (none)) else (none)))))
set_option maxHeartbeats 8000000 in
set_option maxRecDepth 100000 in
theorem latinerlaw02_TlvLeast.calls (k : Nat) (a0 : ByteArray) (r : Bool) (w : World) (hG : GW G w) (h : latinerlaw02_TlvLeast.f k a0 = some r) :
  Calls Tryd.prog 5 #[.string a0] w fun e w' => e = .returned (.bool r) ∧ Below w.heap.size w w' := by
 have hu24 := Tryd.underlying24
 have HB := Aside0.mk (Below.refl w.heap.size w)
 have H : ((latinerlaw02_shown.f k).bind fun t211 => ((latinerlaw02_cut.f a0).bind fun t212 => ((tlv_Decode.f k t212 0).bind fun bt213 => (if bt213.2.2.2.2 = 0 then ((tlv_Encode.f bt213.1 bt213.2.1 bt213.2.2.1).bind fun bt221 => ((tlv_Whole.f k bt221.1).bind fun bt223 => (if t211 = true then (if bt221.2 = 0 then (if (bt221.1.size : Int) ≤ bt213.2.2.2.1 then (if bt223.2.2.2 = 0 then ((tlv_Same.f bt213.1 bt213.2.1 bt213.2.2.1 bt223.1 bt223.2.1 bt223.2.2.1).bind fun t230 => (some t230)) else (none)) else (none)) else (none)) else (none)))) else (if t211 = true then (if bt213.2.2.2.1 = 0 then (some (bt213.1 == 0)) else (none)) else (none)))))) = some r := h
 clear h
 replace H := Option.bind_eq_some_iff.mp H
 obtain ⟨t211, A20, H⟩ := H
 replace H : ((latinerlaw02_cut.f a0).bind fun t212 => ((tlv_Decode.f k t212 0).bind fun bt213 => (if bt213.2.2.2.2 = 0 then ((tlv_Encode.f bt213.1 bt213.2.1 bt213.2.2.1).bind fun bt221 => ((tlv_Whole.f k bt221.1).bind fun bt223 => (if t211 = true then (if bt221.2 = 0 then (if (bt221.1.size : Int) ≤ bt213.2.2.2.1 then (if bt223.2.2.2 = 0 then ((tlv_Same.f bt213.1 bt213.2.1 bt213.2.2.1 bt223.1 bt223.2.1 bt223.2.2.1).bind fun t230 => (some t230)) else (none)) else (none)) else (none)) else (none)))) else (if t211 = true then (if bt213.2.2.2.1 = 0 then (some (bt213.1 == 0)) else (none)) else (none))))) = some r := H
 have A2 := Aside0.mk A20
 clear A20
 replace H := Option.bind_eq_some_iff.mp H
 obtain ⟨t212, A30, H⟩ := H
 replace H : ((tlv_Decode.f k t212 0).bind fun bt213 => (if bt213.2.2.2.2 = 0 then ((tlv_Encode.f bt213.1 bt213.2.1 bt213.2.2.1).bind fun bt221 => ((tlv_Whole.f k bt221.1).bind fun bt223 => (if t211 = true then (if bt221.2 = 0 then (if (bt221.1.size : Int) ≤ bt213.2.2.2.1 then (if bt223.2.2.2 = 0 then ((tlv_Same.f bt213.1 bt213.2.1 bt213.2.2.1 bt223.1 bt223.2.1 bt223.2.2.1).bind fun t230 => (some t230)) else (none)) else (none)) else (none)) else (none)))) else (if t211 = true then (if bt213.2.2.2.1 = 0 then (some (bt213.1 == 0)) else (none)) else (none)))) = some r := H
 have A3 := Aside0.mk A30
 clear A30
 replace H := Option.bind_eq_some_iff.mp H
 obtain ⟨⟨t213, t214, t215, t218, t219⟩, A40, H⟩ := H
 replace H : (if t219 = 0 then ((tlv_Encode.f t213 t214 t215).bind fun bt221 => ((tlv_Whole.f k bt221.1).bind fun bt223 => (if t211 = true then (if bt221.2 = 0 then (if (bt221.1.size : Int) ≤ t218 then (if bt223.2.2.2 = 0 then ((tlv_Same.f t213 t214 t215 bt223.1 bt223.2.1 bt223.2.2.1).bind fun t230 => (some t230)) else (none)) else (none)) else (none)) else (none)))) else (if t211 = true then (if t218 = 0 then (some (t213 == 0)) else (none)) else (none))) = some r := H
 have A4 := Aside0.mk A40
 clear A40
 by_cases c5 : t219 = 0
 ·rw [if_pos c5] at H
  have c5b0 : (t219 == 0) = true := beq_iff_eq.mpr c5
  have c5b1 : (t219 != 0) = false := bne_eq_false_iff_eq.mpr c5
  clear c5
  replace H := Option.bind_eq_some_iff.mp H
  obtain ⟨⟨t221, t222⟩, A60, H⟩ := H
  replace H : ((tlv_Whole.f k t221).bind fun bt223 => (if t211 = true then (if t222 = 0 then (if (t221.size : Int) ≤ t218 then (if bt223.2.2.2 = 0 then ((tlv_Same.f t213 t214 t215 bt223.1 bt223.2.1 bt223.2.2.1).bind fun t230 => (some t230)) else (none)) else (none)) else (none)) else (none))) = some r := H
  have A6 := Aside0.mk A60
  clear A60
  replace H := Option.bind_eq_some_iff.mp H
  obtain ⟨⟨t223, t224, t225, t228⟩, A70, H⟩ := H
  replace H : (if t211 = true then (if t222 = 0 then (if (t221.size : Int) ≤ t218 then (if t228 = 0 then ((tlv_Same.f t213 t214 t215 t223 t224 t225).bind fun t230 => (some t230)) else (none)) else (none)) else (none)) else (none)) = some r := H
  have A7 := Aside0.mk A70
  clear A70
  by_cases c8 : t211 = true
  ·subst c8
   have H1 : (if t222 = 0 then (if (t221.size : Int) ≤ t218 then (if t228 = 0 then ((tlv_Same.f t213 t214 t215 t223 t224 t225).bind fun t230 => (some t230)) else (none)) else (none)) else (none)) = some r := by rw [if_pos rfl] at H; exact H
   clear H
   have H := H1
   clear H1
   by_cases c9 : t222 = 0
   ·rw [if_pos c9] at H
    have c9b0 : (t222 == 0) = true := beq_iff_eq.mpr c9
    have c9b1 : (t222 != 0) = false := bne_eq_false_iff_eq.mpr c9
    clear c9
    by_cases c10 : (t221.size : Int) ≤ t218
    ·rw [if_pos c10] at H
     have c10b0 : decide ((t221.size : Int) ≤ t218) = true := decide_eq_true c10
     clear c10
     by_cases c11 : t228 = 0
     ·rw [if_pos c11] at H
      have c11b0 : (t228 == 0) = true := beq_iff_eq.mpr c11
      have c11b1 : (t228 != 0) = false := bne_eq_false_iff_eq.mpr c11
      clear c11
      replace H := Option.bind_eq_some_iff.mp H
      obtain ⟨t230, A120, H⟩ := H
      replace H : (some t230) = some r := H
      have A12 := Aside0.mk A120
      clear A120
      obtain rfl := Option.some.inj H
      go_enter Tryd.func5, Tryd.ntmps5
      go_wp2_with (first | ((with_reducible refine gate_callee (f := 12) rfl ?_); refine goesL_ (some 11) rfl rfl Tryd.func12 (by kernel_rfl) rfl #[] rfl argq ?_; (with_reducible refine (latinerlaw02_shown.calls (G := G) k  true _ ?side1 A2.out).mono ?_); (case side1 => first | exact hG | exact GW.below hG q0_); rintro e w13 ⟨rfl, hb⟩; refine ⟨_, rfl, ?_⟩; have n0_ := Aside0.mk (below_step q0_ hb); clear HB; have HB := n0_; clear n0_; (try clear hb); (try clear hb2); (try clear hk); (try clear hi)) | ((with_reducible refine gate_callee (f := 14) rfl ?_); refine goesL_ (some 13) rfl rfl Tryd.func14 (by kernel_rfl) rfl #[.string a0] rfl argq ?_; (with_reducible refine (latinerlaw02_cut.calls a0 t212 _ A3.out).mono ?_); rintro e w14 ⟨rfl, hb⟩; refine ⟨_, rfl, ?_⟩; have n0_ := Aside0.mk (below_step q0_ hb); clear HB; have HB := n0_; clear n0_; (try clear hb); (try clear hb2); (try clear hk); (try clear hi)) | ((with_reducible refine gate_callee (f := 17) rfl ?_); refine goesL_ (some 16) rfl rfl Tryd.func17 (by kernel_rfl) rfl #[.string t212, .int .i64 0] rfl argq ?_; (with_reducible refine (tlv_Decode.calls (G := G) k t212 0 t213 t214 t215 t218 t219 _ ?side1 A4.out).mono ?_); (case side1 => first | exact hG | exact GW.below hG q0_); rintro e w15 ⟨v216, rfl, ho0, hb⟩; refine ⟨_, rfl, ?_⟩; have n0_ := Aside0.mk (Kd.R_lower ho0 (below_size q0_)); have n1_ := Aside0.mk (below_step q0_ hb); clear HB; have HO217 := n0_; have HB := n1_; clear n0_ n1_; (try clear hb); (try clear hb2); (try clear hk); (try clear hi); (try clear ho0)) | ((with_reducible refine gate_dst (N := 4) rfl ?_); (try (refine gate_guard (by rfl) ?_; dsimp only)); refine box_event ?hg (N := 4) ?hd (cs := #[.int .i64 0, .string (⟨#[]⟩ : ByteArray), .slice none 0 0]) (t := 24) ?hr ?_; (case hd => rfl); (case hg => rfl); (case hr => first | (go_simp; done) | (go_simp; rfl)); intro gb220 hg w16 hbox hb; have n0_ := Aside0.mk (Kd.R_below (Kd.R_elderB (rkq HO217.out) gb220 (Nat.le_of_eq hg.symm)) hb); have n1_ := Aside0.mk (below_step q0_ hb); have n2_ := Aside0.mk (hbox); have n3_ := Aside0.mk ((by rw [hg]; exact (below_size q0_) : w.heap.size ≤ gb220)); have n4_ := Aside0.mk ((by rw [hg]; exact (below_size q0_) : w.heap.size ≤ gb220)); clear HO217; clear HB; have HO217 := n0_; have HB := n1_; have BK220 := n2_; have GW220 := n3_; have GE220 := n4_; clear n0_ n1_ n2_ n3_ n4_; clear hb hbox hg; have hcz17_0 : w16.cell? ⟨gb220, 0, none⟩ = some (.int .i64 0) := (blk_cell BK220.out 0).trans rfl; have hcz17_1 : w16.cell? ⟨gb220, 1, none⟩ = some (.string (⟨#[]⟩ : ByteArray)) := (blk_cell BK220.out 1).trans rfl; have hcz17_2 : w16.cell? ⟨gb220, 2, none⟩ = some (.slice none 0 0) := (blk_cell BK220.out 2).trans rfl; have hfz17_0 := blk_frozen BK220.out 0; have hfz17_1 := blk_frozen BK220.out 1; have hfz17_2 := blk_frozen BK220.out 2; obtain ⟨Ao18, co18, eo18⟩ := Kd.R_slice HO217.out; subst eo18) | ((with_reducible refine gate_callee (f := 15) rfl ?_); refine goesL_ (some 34) rfl rfl Tryd.func15 (by kernel_rfl) rfl #[.agg #[.int .i64 t213, .string t214, .slice Ao18 t215.length co18]] rfl argq ?_; (with_reducible refine (tlv_Encode.calls (G := G) t213 t214 _ _ t215 t221 t222 _ ?side1 ?side2 ?side3 A6.out).mono ?_); (case side1 => refine (Kd.R_reads' (e := 24) (base := w.heap.size) (ok := fun k_ => (True ∧ k_ ≠ gb220)) (n := t215.length) (c := co18) ?_).2.2; exact (by refine rkq ?_; exact (Kd.R_mono (Kd.R_far (p := ⟨gb220, 2, none⟩) (Kd.R_far (p := ⟨gb220, 1, none⟩) (Kd.R_far (p := ⟨gb220, 0, none⟩) (Kd.R_mono HO217.out (fun k_ hk => (⟨hk, hk.2⟩ : _ ∧ k_ ≠ gb220))) (fun _ hk => hk.2) (.int .i64 t213)) (fun _ hk => hk.2) (.string t214)) (fun _ hk => hk.2) (.slice Ao18 t215.length co18)) (fun _ h_ => h_.1)))); (case side2 => exact (Kd.R_reads' HO217.out).2.1); (case side3 => first | exact hG | exact GW.below hG q0_); rintro e w19 ⟨rfl, hb⟩; refine ⟨_, rfl, ?_⟩; have n0_ := Aside0.mk (Kd.R_below (by refine rkq ?_; exact (Kd.R_mono (Kd.R_far (p := ⟨gb220, 2, none⟩) (Kd.R_far (p := ⟨gb220, 1, none⟩) (Kd.R_far (p := ⟨gb220, 0, none⟩) (Kd.R_mono HO217.out (fun k_ hk => (⟨hk, hk.2⟩ : _ ∧ k_ ≠ gb220))) (fun _ hk => hk.2) (.int .i64 t213)) (fun _ hk => hk.2) (.string t214)) (fun _ hk => hk.2) (.slice Ao18 t215.length co18)) (fun _ h_ => h_.1))) hb); have n1_ := Aside0.mk (blk_below (g := gb220) (o := .cells #[.int .i64 t213, .string t214, .slice Ao18 t215.length co18] 24 (0, 0)) (by refine bkq ?_; refine blk_put (cs := #[.int .i64 t213, .string t214, .slice none 0 0]) ?_ 2 _ rfl; refine bkq ?_; refine blk_put (cs := #[.int .i64 t213, .string (⟨#[]⟩ : ByteArray), .slice none 0 0]) ?_ 1 _ rfl; refine bkq ?_; refine blk_put (cs := #[.int .i64 0, .string (⟨#[]⟩ : ByteArray), .slice none 0 0]) ?_ 0 _ rfl; refine bkq ?_; exact BK220.out) hb); have n2_ := Aside0.mk (below_step q0_ hb); clear HO217; clear BK220; clear HB; have HO217 := n0_; have BK220 := n1_; have HB := n2_; clear n0_ n1_ n2_; (try clear hb); (try clear hb2); (try clear hk); (try clear hi)) | ((with_reducible refine gate_callee (f := 19) rfl ?_); refine goesL_ (some 39) rfl rfl Tryd.func19 (by kernel_rfl) rfl #[.string t221] rfl argq ?_; (with_reducible refine (tlv_Whole.calls (G := G) k t221 t223 t224 t225 t228 _ ?side1 A7.out).mono ?_); (case side1 => first | exact hG | exact GW.below hG q0_); rintro e w20 ⟨v226, rfl, ho0, hb⟩; refine ⟨_, rfl, ?_⟩; have n0_ := Aside0.mk (Kd.R_elder' (rkq HO217.out) (Kd.R_base ho0) hb); have n1_ := Aside0.mk (Kd.R_lower (Kd.R_newB (Kd.R_new' ho0 (Kd.R_lt (rkq HO217.out))) (g := gb220) (o := .cells #[.int .i64 t213, .string t214, .slice Ao18 t215.length co18] 24 (0, 0)) (bkq BK220.out)) (below_size q0_)); have n2_ := Aside0.mk (blk_below (g := gb220) (o := .cells #[.int .i64 t213, .string t214, .slice Ao18 t215.length co18] 24 (0, 0)) (bkq BK220.out) hb); have n3_ := Aside0.mk (below_step q0_ hb); clear HO217; clear BK220; clear HB; have HO217 := n0_; have HO227 := n1_; have BK220 := n2_; have HB := n3_; clear n0_ n1_ n2_ n3_; (try clear hb); (try clear hb2); (try clear hk); (try clear hi); (try clear ho0)) | ((with_reducible refine gate_dst (N := 9) rfl ?_); (try (refine gate_guard (by rfl) ?_; dsimp only)); refine box_event ?hg (N := 9) ?hd (cs := #[.int .i64 0, .string (⟨#[]⟩ : ByteArray), .slice none 0 0]) (t := 24) ?hr ?_; (case hd => rfl); (case hg => rfl); (case hr => first | (go_simp; done) | (go_simp; rfl)); intro gb229 hg w21 hbox hb; have n0_ := Aside0.mk (Kd.R_below (Kd.R_elderB (rkq HO217.out) gb229 (Nat.le_of_eq hg.symm)) hb); have n1_ := Aside0.mk (Kd.R_below (Kd.R_elderB (rkq HO227.out) gb229 (Nat.le_of_eq hg.symm)) hb); have n2_ := Aside0.mk (blk_below (g := gb220) (o := .cells #[.int .i64 t213, .string t214, .slice Ao18 t215.length co18] 24 (0, 0)) (bkq BK220.out) hb); have n3_ := Aside0.mk (below_step q0_ hb); have n4_ := Aside0.mk (hbox); have n5_ := Aside0.mk ((by rw [hg]; exact (below_size q0_) : w.heap.size ≤ gb229)); have n6_ := Aside0.mk ((by rw [hg]; exact (below_size q0_) : w.heap.size ≤ gb229)); have n7_ := Aside0.mk ((by rw [hg]; exact Nat.ne_of_lt (blk_lt (g := gb220) (o := .cells #[.int .i64 t213, .string t214, .slice Ao18 t215.length co18] 24 (0, 0)) (bkq BK220.out)) : gb220 ≠ gb229)); have n8_ := Aside0.mk ((by rw [hg]; exact Nat.ne_of_gt (blk_lt (g := gb220) (o := .cells #[.int .i64 t213, .string t214, .slice Ao18 t215.length co18] 24 (0, 0)) (bkq BK220.out)) : gb229 ≠ gb220)); clear HO217; clear HO227; clear BK220; clear HB; have HO217 := n0_; have HO227 := n1_; have BK220 := n2_; have HB := n3_; have BK229 := n4_; have GW229 := n5_; have GE229 := n6_; have NB220_229 := n7_; have NB229_220 := n8_; clear n0_ n1_ n2_ n3_ n4_ n5_ n6_ n7_ n8_; clear hb hbox hg; have hnb22 := NB229_220.out; have hnc22 := NB220_229.out; have hcz23_0 : w21.cell? ⟨gb229, 0, none⟩ = some (.int .i64 0) := (blk_cell BK229.out 0).trans rfl; have hcz23_1 : w21.cell? ⟨gb229, 1, none⟩ = some (.string (⟨#[]⟩ : ByteArray)) := (blk_cell BK229.out 1).trans rfl; have hcz23_2 : w21.cell? ⟨gb229, 2, none⟩ = some (.slice none 0 0) := (blk_cell BK229.out 2).trans rfl; have hfz23_0 := blk_frozen BK229.out 0; have hfz23_1 := blk_frozen BK229.out 1; have hfz23_2 := blk_frozen BK229.out 2; obtain ⟨Ao24, co24, eo24⟩ := Kd.R_slice HO227.out; subst eo24; have hcz25_0 : w21.cell? ⟨gb220, 0, none⟩ = some (.int .i64 t213) := (blk_cell BK220.out 0).trans rfl; have hcz25_1 : w21.cell? ⟨gb220, 1, none⟩ = some (.string t214) := (blk_cell BK220.out 1).trans rfl; have hcz25_2 : w21.cell? ⟨gb220, 2, none⟩ = some (.slice Ao18 t215.length co18) := (blk_cell BK220.out 2).trans rfl; have hfz25_0 := blk_frozen BK220.out 0; have hfz25_1 := blk_frozen BK220.out 1; have hfz25_2 := blk_frozen BK220.out 2) | (go_at_call 23; (with_reducible refine (tlv_Same.calls t213 t214 _ _ t215 t223 t224 _ _ t225 t230 _ ?side1 ?side2 ?side3 ?side4 A12.out).mono ?_); (case side1 => refine (Kd.R_reads' (e := 24) (base := w.heap.size) (ok := fun k_ => (((True ∧ k_ ≠ gb220) ∧ some k_ ≠ (.slice Ao24 t225.length co24 : Value).ownBlock) ∧ k_ ≠ gb229)) (n := t215.length) (c := co18) ?_).2.2; exact (by refine rkq ?_; exact (Kd.R_mono (Kd.R_far (p := ⟨gb229, 2, none⟩) (Kd.R_far (p := ⟨gb229, 1, none⟩) (Kd.R_far (p := ⟨gb229, 0, none⟩) (Kd.R_mono HO217.out (fun k_ hk => (⟨hk, hk.2⟩ : _ ∧ k_ ≠ gb229))) (fun _ hk => hk.2) (.int .i64 t223)) (fun _ hk => hk.2) (.string t224)) (fun _ hk => hk.2) (.slice Ao24 t225.length co24)) (fun _ h_ => h_.1)))); (case side2 => exact (Kd.R_reads' HO217.out).2.1); (case side3 => refine (Kd.R_reads' (e := 24) (base := w.heap.size) (ok := fun k_ => (((True ∧ some k_ ≠ (.slice Ao18 t215.length co18 : Value).ownBlock) ∧ k_ ≠ gb220) ∧ k_ ≠ gb229)) (n := t225.length) (c := co24) ?_).2.2; exact (by refine rkq ?_; exact (Kd.R_mono (Kd.R_far (p := ⟨gb229, 2, none⟩) (Kd.R_far (p := ⟨gb229, 1, none⟩) (Kd.R_far (p := ⟨gb229, 0, none⟩) (Kd.R_mono HO227.out (fun k_ hk => (⟨hk, hk.2⟩ : _ ∧ k_ ≠ gb229))) (fun _ hk => hk.2) (.int .i64 t223)) (fun _ hk => hk.2) (.string t224)) (fun _ hk => hk.2) (.slice Ao24 t225.length co24)) (fun _ h_ => h_.1)))); (case side4 => exact (Kd.R_reads' HO227.out).2.1); rintro e w26 ⟨rfl, hb⟩; have n0_ := Aside0.mk (Kd.R_below (by refine rkq ?_; exact (Kd.R_mono (Kd.R_far (p := ⟨gb229, 2, none⟩) (Kd.R_far (p := ⟨gb229, 1, none⟩) (Kd.R_far (p := ⟨gb229, 0, none⟩) (Kd.R_mono HO217.out (fun k_ hk => (⟨hk, hk.2⟩ : _ ∧ k_ ≠ gb229))) (fun _ hk => hk.2) (.int .i64 t223)) (fun _ hk => hk.2) (.string t224)) (fun _ hk => hk.2) (.slice Ao24 t225.length co24)) (fun _ h_ => h_.1))) hb); have n1_ := Aside0.mk (Kd.R_below (by refine rkq ?_; exact (Kd.R_mono (Kd.R_far (p := ⟨gb229, 2, none⟩) (Kd.R_far (p := ⟨gb229, 1, none⟩) (Kd.R_far (p := ⟨gb229, 0, none⟩) (Kd.R_mono HO227.out (fun k_ hk => (⟨hk, hk.2⟩ : _ ∧ k_ ≠ gb229))) (fun _ hk => hk.2) (.int .i64 t223)) (fun _ hk => hk.2) (.string t224)) (fun _ hk => hk.2) (.slice Ao24 t225.length co24)) (fun _ h_ => h_.1))) hb); have n2_ := Aside0.mk (blk_below (g := gb220) (o := .cells #[.int .i64 t213, .string t214, .slice Ao18 t215.length co18] 24 (0, 0)) (by refine bkq ?_; refine blk_far ?_ NB220_229.out _; refine bkq ?_; refine blk_far ?_ NB220_229.out _; refine bkq ?_; refine blk_far ?_ NB220_229.out _; refine bkq ?_; exact BK220.out) hb); have n3_ := Aside0.mk (blk_below (g := gb229) (o := .cells #[.int .i64 t223, .string t224, .slice Ao24 t225.length co24] 24 (0, 0)) (by refine bkq ?_; refine blk_put (cs := #[.int .i64 t223, .string t224, .slice none 0 0]) ?_ 2 _ rfl; refine bkq ?_; refine blk_put (cs := #[.int .i64 t223, .string (⟨#[]⟩ : ByteArray), .slice none 0 0]) ?_ 1 _ rfl; refine bkq ?_; refine blk_put (cs := #[.int .i64 0, .string (⟨#[]⟩ : ByteArray), .slice none 0 0]) ?_ 0 _ rfl; refine bkq ?_; exact BK229.out) hb); have n4_ := Aside0.mk (below_step q0_ hb); clear HO217; clear HO227; clear BK220; clear BK229; clear HB; have HO217 := n0_; have HO227 := n1_; have BK220 := n2_; have BK229 := n3_; have HB := n4_; clear n0_ n1_ n2_ n3_ n4_; (try clear hb); (try clear hb2); (try clear hk); (try clear hi)))
      go_ret
      exact ⟨q2_, q0_⟩
     ·rw [if_neg c11] at H
      exact absurd H (by simp)
    ·rw [if_neg c10] at H
     exact absurd H (by simp)
   ·rw [if_neg c9] at H
    exact absurd H (by simp)
  ·replace c8 := Bool.eq_false_iff.mpr c8
   subst c8
   have H1 : (none) = some r := by rw [if_neg (show ¬ (false = true) by decide)] at H; exact H
   clear H
   have H := H1
   clear H1
   exact absurd H (by simp)
 ·rw [if_neg c5] at H
  have c5b0 : (t219 == 0) = false := beq_eq_false_iff_ne.mpr c5
  have c5b1 : (t219 != 0) = true := bne_iff_ne.mpr c5
  by_cases c27 : t211 = true
  ·subst c27
   have H1 : (if t218 = 0 then (some (t213 == 0)) else (none)) = some r := by rw [if_pos rfl] at H; exact H
   clear H
   have H := H1
   clear H1
   by_cases c28 : t218 = 0
   ·rw [if_pos c28] at H
    have c28b0 : (t218 == 0) = true := beq_iff_eq.mpr c28
    have c28b1 : (t218 != 0) = false := bne_eq_false_iff_eq.mpr c28
    clear c28
    obtain rfl := Option.some.inj H
    go_enter Tryd.func5, Tryd.ntmps5
    go_wp2_with (first | ((with_reducible refine gate_callee (f := 12) rfl ?_); refine goesL_ (some 11) rfl rfl Tryd.func12 (by kernel_rfl) rfl #[] rfl argq ?_; (with_reducible refine (latinerlaw02_shown.calls (G := G) k  true _ ?side1 A2.out).mono ?_); (case side1 => first | exact hG | exact GW.below hG q0_); rintro e w29 ⟨rfl, hb⟩; refine ⟨_, rfl, ?_⟩; have n0_ := Aside0.mk (below_step q0_ hb); clear HB; have HB := n0_; clear n0_; (try clear hb); (try clear hb2); (try clear hk); (try clear hi)) | ((with_reducible refine gate_callee (f := 14) rfl ?_); refine goesL_ (some 13) rfl rfl Tryd.func14 (by kernel_rfl) rfl #[.string a0] rfl argq ?_; (with_reducible refine (latinerlaw02_cut.calls a0 t212 _ A3.out).mono ?_); rintro e w30 ⟨rfl, hb⟩; refine ⟨_, rfl, ?_⟩; have n0_ := Aside0.mk (below_step q0_ hb); clear HB; have HB := n0_; clear n0_; (try clear hb); (try clear hb2); (try clear hk); (try clear hi)) | ((with_reducible refine gate_callee (f := 17) rfl ?_); refine goesL_ (some 16) rfl rfl Tryd.func17 (by kernel_rfl) rfl #[.string t212, .int .i64 0] rfl argq ?_; (with_reducible refine (tlv_Decode.calls (G := G) k t212 0 t213 t214 t215 t218 t219 _ ?side1 A4.out).mono ?_); (case side1 => first | exact hG | exact GW.below hG q0_); rintro e w31 ⟨v216, rfl, ho0, hb⟩; refine ⟨_, rfl, ?_⟩; have n0_ := Aside0.mk (Kd.R_lower ho0 (below_size q0_)); have n1_ := Aside0.mk (below_step q0_ hb); clear HB; have HO217 := n0_; have HB := n1_; clear n0_ n1_; (try clear hb); (try clear hb2); (try clear hk); (try clear hi); (try clear ho0)) | ((with_reducible refine gate_dst (N := 4) rfl ?_); (try (refine gate_guard (by rfl) ?_; dsimp only)); refine box_event ?hg (N := 4) ?hd (cs := #[.int .i64 0, .string (⟨#[]⟩ : ByteArray), .slice none 0 0]) (t := 24) ?hr ?_; (case hd => rfl); (case hg => rfl); (case hr => first | (go_simp; done) | (go_simp; rfl)); intro gb220 hg w32 hbox hb; have n0_ := Aside0.mk (Kd.R_below (Kd.R_elderB (rkq HO217.out) gb220 (Nat.le_of_eq hg.symm)) hb); have n1_ := Aside0.mk (below_step q0_ hb); have n2_ := Aside0.mk (hbox); have n3_ := Aside0.mk ((by rw [hg]; exact (below_size q0_) : w.heap.size ≤ gb220)); have n4_ := Aside0.mk ((by rw [hg]; exact (below_size q0_) : w.heap.size ≤ gb220)); clear HO217; clear HB; have HO217 := n0_; have HB := n1_; have BK220 := n2_; have GW220 := n3_; have GE220 := n4_; clear n0_ n1_ n2_ n3_ n4_; clear hb hbox hg; have hcz33_0 : w32.cell? ⟨gb220, 0, none⟩ = some (.int .i64 0) := (blk_cell BK220.out 0).trans rfl; have hcz33_1 : w32.cell? ⟨gb220, 1, none⟩ = some (.string (⟨#[]⟩ : ByteArray)) := (blk_cell BK220.out 1).trans rfl; have hcz33_2 : w32.cell? ⟨gb220, 2, none⟩ = some (.slice none 0 0) := (blk_cell BK220.out 2).trans rfl; have hfz33_0 := blk_frozen BK220.out 0; have hfz33_1 := blk_frozen BK220.out 1; have hfz33_2 := blk_frozen BK220.out 2; obtain ⟨Ao34, co34, eo34⟩ := Kd.R_slice HO217.out; subst eo34))
    go_ret
    exact ⟨q2_, q0_⟩
   ·rw [if_neg c28] at H
    exact absurd H (by simp)
  ·replace c27 := Bool.eq_false_iff.mpr c27
   subst c27
   have H1 : (none) = some r := by rw [if_neg (show ¬ (false = true) by decide)] at H; exact H
   clear H
   have H := H1
   clear H1
   exact absurd H (by simp)
def latinerlaw02_TlvLeast.Pure : Prop := ∀ (a0 : ByteArray), a0.size ≤ 140737488351232 → ∃ k, latinerlaw02_TlvLeast.f k a0 = some true
end Go.Proofs.YthnddhgkjkpmfaaDoor.LTlvC
/- Trees' reader, plainly: what tlv's printed functions answer. No program in sight. -/
namespace Go.Proofs.YthnddhgkjkpmfaaDoor
set_option linter.unusedSimpArgs false
set_option linter.unusedVariables false
namespace Tlv
open Go.RowKit Go.Proofs.YthnddhgkjkpmfaaDoorW.PrintWords Go.Proofs.YthnddhgkjkpmfaaDoor.PureB Go.Proofs.YthnddhgkjkpmfaaDoor.KTlv Go.Proofs.YthnddhgkjkpmfaaDoor.ExtTlvC Go.Proofs.YthnddhgkjkpmfaaDoor.LTlvC
theorem eta (x : Nd) : (⟨x.f0, x.f1, x.f2⟩ : Nd) = x := by cases x; rfl
theorem right_f (x : Nd) (h : few x = true) : tlv_Right.f x.f0 x.f1 x.f2 = some (right x) := by
  unfold tlv_Right.f tlv_isShaped.f tlv_laid.f right
  rw [eta x, if_pos h]
  simp only [Option.bind_some]
  cases hs : shaped x with
  | true =>
    rw [if_pos rfl, if_pos rfl]
    simp only [Option.bind_some, Bool.true_and, Option.some.injEq]
    rw [Bool.eq_iff_iff, decide_eq_true_eq, decide_eq_true_eq]
    omega
  | false => rw [if_neg (by simp), Bool.false_and]
theorem enc_f (x : Nd) (h : few x = true) : tlv_Encode.f x.f0 x.f1 x.f2 = some (enc x) := by
  unfold tlv_Encode.f enc
  rw [right_f x h]
  simp only [Option.bind_some]
  by_cases hr : right x = true
  · have hs : shaped x = true := by unfold right at hr; rw [Bool.and_eq_true] at hr; exact hr.1
    rw [if_pos hr, if_pos hr, tlv_laid.f, eta x, if_pos hs]
    rfl
  · rw [if_neg hr, if_neg hr]
    rfl
theorem few_iff (x : Nd) : few x = true ↔ ∀ p ∈ pre 1 x, p.2.f2.length ≤ 1000 := by
  unfold few
  rw [List.all_eq_true]
  simp
theorem few_of_len {x : Nd} (h : (pre 1 x).length ≤ 1000) : few x = true := by
  rw [few_iff]
  have key : ∀ (m : Nat) (y : Nd), SizeOf.sizeOf y < m → ∀ d, ∀ p ∈ pre d y, p.2.f2.length ≤ (pre d y).length := by
    intro m
    induction m with
    | zero => intro y h; exact absurd h (Nat.not_lt_zero _)
    | succ m ih =>
      rintro ⟨t, b, ks⟩ hy d p hp
      rw [pre, preL_flat'] at hp
      rw [pre, List.length_cons]
      have hl := preL_len (d + 1) ks
      rcases List.mem_cons.1 hp with rfl | hp
      · show ks.length ≤ _
        omega
      · obtain ⟨k, hk, hpk⟩ := List.mem_flatMap.1 hp
        have h1 := ih k (by have := List.sizeOf_lt_of_mem hk; simp only [S24.mk.sizeOf_spec] at hy; omega) (d + 1) p hpk
        have h2 : ∀ l : List Nd, k ∈ l → (pre (d + 1) k).length ≤ (preL (d + 1) l).length := by
          intro l
          induction l with
          | nil => intro h; cases h
          | cons y l ihl =>
            intro h
            rw [preL, List.length_append]
            rcases List.mem_cons.1 h with h | h
            · rw [← h]; omega
            · have := ihl h; omega
        have := h2 ks hk
        omega
  intro p hp
  have := key _ x (Nat.lt_succ_self _) 1 p hp
  omega
theorem has_f (s : ByteArray) (a n k e : Int) (h0 : -9223372036854775808 ≤ e - a) (h1 : e - a ≤ 9223372036854775807) : tlv_text_has.f s a n k e = some (decide (k ≤ e - a), s, a, n) := by
  unfold tlv_text_has.f
  rw [w64 h0 h1]
theorem head_f (s : ByteArray) (a n e d : Int) (hs : s.size ≤ 100000) (ha : 0 ≤ a) (ha2 : a ≤ 1000000) (hn : 0 ≤ n) (hn2 : n ≤ 1000) (he : 0 ≤ e) (he2 : e ≤ s.size) :
    match hd s a n e d with
    | (.ok (t, te), a') => tlv_reader_head.f s a n e d = some (t, te, none, s, a', n + 1)
    | (.error x, a') => ∃ er : Er, er.num = x ∧ tlv_reader_head.f s a n e d = some (0, 0, some er, s, a', n + 1) := by
  unfold tlv_reader_head.f hd
  rw [w64 (n := n + 1) (by omega) (by omega)]
  by_cases h1 : 200 < n + 1
  · rw [if_pos (show n + 1 > 200 from h1), if_pos (.inl h1)]
    exact ⟨_, rfl, rfl⟩
  rw [if_neg (show ¬ n + 1 > 200 from h1)]
  by_cases h2 : 12 < d
  · rw [if_pos (show d > 12 from h2), if_pos (.inr h2)]
    exact ⟨_, rfl, rfl⟩
  rw [if_neg (show ¬ d > 12 from h2), if_neg (show ¬ (200 < n + 1 ∨ 12 < d) by omega), has_f s a (n + 1) 1 e (by omega) (by omega)]
  simp only [Option.bind_some]
  by_cases h3 : e - a < 1
  · rw [decide_eq_false (show ¬ 1 ≤ e - a by omega), if_neg Bool.false_ne_true, if_pos h3]
    exact ⟨_, rfl, rfl⟩
  rw [decide_eq_true (show 1 ≤ e - a by omega), if_pos rfl, if_neg h3, if_pos ha, if_pos (show a < (s.size : Int) by omega)]
  have hb := bt_bd s a
  have hbits := (bits_all (bt s a).toNat (by omega)).1
  rw [show (((bt s a).toNat : Nat) : Int) = bt s a by omega] at hbits
  rw [w64 (n := bt s a) (by omega) (by omega), hbits]
  by_cases h4 : bt s a % 32 = 31
  · rw [if_pos h4, if_pos h4]
    exact ⟨_, rfl, rfl⟩
  rw [if_neg h4, if_neg h4, if_pos he, if_pos he2, w64 (n := a + 1) (by omega) (by omega)]
  unfold size_Decode.f
  rw [if_pos (show (s.extract 0 e.toNat).size ≤ 100000 by rw [extract_size s 0 e.toNat (by omega)]; omega)]
  simp only [Option.bind_some]
  by_cases h5 : (Size.decS (s.extract 0 e.toNat) (a + 1)).2.2 = 0
  · obtain ⟨g1, g2, g3, g4, g5, g6⟩ := SizeQ.dec_ok _ _ h5
    have hez : (s.extract 0 e.toNat).size = e.toNat - 0 := extract_size s 0 e.toNat (by omega)
    rw [if_pos h5, if_neg (show ¬ (Size.decS (s.extract 0 e.toNat) (a + 1)).2.2 ≠ 0 by omega), has_f _ _ _ _ _ (by omega) (by omega)]
    simp only [Option.bind_some]
    by_cases h6 : e - (Size.decS (s.extract 0 e.toNat) (a + 1)).2.1 < (Size.decS (s.extract 0 e.toNat) (a + 1)).1
    · rw [decide_eq_false (show ¬ (Size.decS (s.extract 0 e.toNat) (a + 1)).1 ≤ e - (Size.decS (s.extract 0 e.toNat) (a + 1)).2.1 by omega), if_neg Bool.false_ne_true, if_pos h6]
      exact ⟨_, rfl, rfl⟩
    · rw [decide_eq_true (show (Size.decS (s.extract 0 e.toNat) (a + 1)).1 ≤ e - (Size.decS (s.extract 0 e.toNat) (a + 1)).2.1 by omega), if_pos rfl, if_neg h6, w64 (n := (Size.decS (s.extract 0 e.toNat) (a + 1)).2.1 + (Size.decS (s.extract 0 e.toNat) (a + 1)).1) (by omega) (by omega)]
  · rw [if_neg h5, if_pos h5]
    exact ⟨_, rfl, rfl⟩
def RdAns (s : ByteArray) (r : Except Int Nd × Int × Int) (o : Option (Int × ByteArray × List Nd × Option Er × ByteArray × Int × Int)) : Prop :=
  match r with
  | (.ok y, a', n') => o = some (y.f0, y.f1, y.f2, none, s, a', n')
  | (.error x, a', n') => ∃ er : Er, er.num = x ∧ o = some (0, ⟨#[]⟩, [], some er, s, a', n')
theorem tree_f (s : ByteArray) (hs : s.size ≤ 100000) : ∀ (f : Nat) (a n e d : Int) (k : Nat), 0 ≤ a → a ≤ 1000000 → 0 ≤ n → n ≤ 200 → 0 ≤ e → e ≤ s.size → 1 ≤ d → d ≤ 1000 → 13 ≤ f + d → 203 * f + 1 ≤ k →
    RdAns s (rd s f a n e d) (tlv_reader_tree.f k s a n e d) := by
  intro f
  induction f with
  | zero =>
    intro a n e d k ha ha2 hn hn2 he he2 hd1 hd2 hf hk
    obtain ⟨k, rfl⟩ : ∃ j, k = j + 1 := ⟨k - 1, by omega⟩
    have := head_f s a n e d hs ha ha2 hn (by omega) he he2
    have hh : hd s a n e d = (.error 21, a) := by unfold hd; rw [if_pos (.inr (by omega))]
    rw [hh] at this
    obtain ⟨er, h1, h2⟩ := this
    rw [rd]
    simp only [tlv_reader_tree.f, h2, Option.bind_some, RdAns]
    exact ⟨er, h1, rfl⟩
  | succ f ih =>
    intro a n e d k ha ha2 hn hn2 he he2 hd1 hd2 hf hk
    obtain ⟨k, rfl⟩ : ∃ j, k = j + 1 := ⟨k - 1, by omega⟩
    have hh := head_f s a n e d hs ha ha2 hn (by omega) he he2
    rw [rd]
    simp only [tlv_reader_tree.f]
    cases hr : hd s a n e d with
    | mk r a1 =>
      rw [hr] at hh
      cases r with
      | error x =>
        obtain ⟨er, h1, h2⟩ := hh
        simp only [h2, Option.bind_some, RdAns]
        exact ⟨er, h1, rfl⟩
      | ok q =>
        obtain ⟨t, te⟩ := q
        simp only at hh ⊢
        obtain ⟨g1, g2, g3, g4, g5, g6, g7, g8, g9⟩ := hd_ok hr ha he2
        have hbt := bt_bd s a
        rw [← g3] at hbt
        rw [hh]
        simp only [Option.bind_some, Option.isNone_none, if_true]
        have hin : tlv_isInner.f t = some (inner t) := inner_f t hbt.1 hbt.2
        rw [hin]
        simp only [Option.bind_some]
        by_cases hi : inner t = true
        · rw [if_pos hi, if_pos hi]
          have loop : ∀ (j : Nat) (acc : List Nd) (a n : Int) (k : Nat), j ≤ 201 → 201 - (j : Int) ≤ n - 1 + 1 → acc.length + j = 201 → 0 ≤ a → a ≤ te → 0 ≤ n → n ≤ 200 → acc.length + 1 ≤ n → 203 * f + 1 + j + 1 ≤ k →
              RdAns s (rdK (fun a n => rd s f a n te (d + 1)) t te j acc a n) (tlv_reader_tree.l0 k d te s a n t ⟨#[]⟩ acc) := by
            intro j
            induction j with
            | zero =>
              intro acc a n k hj h2 hac _ _ _ hn2 hacn _
              omega
            | succ j ihj =>
              intro acc a n k hj h2 hac ha hate hn hn2 hacn hk
              obtain ⟨k, rfl⟩ : ∃ i, k = i + 1 := ⟨k - 1, by omega⟩
              rw [rdK]
              simp only [tlv_reader_tree.l0]
              by_cases hlt : a < te
              · rw [if_pos hlt, if_pos hlt, w64 (n := d + 1) (by omega) (by omega)]
                have hk1 := ih a n te (d + 1) k ha (by omega) hn hn2 (by omega) (by omega) (by omega) (by omega) (by omega) (by omega)
                cases hq : rd s f a n te (d + 1) with
                | mk r p =>
                  obtain ⟨a2, n2⟩ := p
                  rw [hq] at hk1
                  cases r with
                  | error x =>
                    obtain ⟨er, e1, e2⟩ := hk1
                    simp only [e2, Option.bind_some, RdAns]
                    exact ⟨er, e1, rfl⟩
                  | ok y =>
                    simp only [RdAns] at hk1
                    obtain ⟨q1, q2, q3, q4, q5, q6⟩ := rd_ok f a n te (d + 1) y a2 n2 ha hn (by omega) hq
                    have hp := pre_pos (d + 1) y
                    simp only [hk1, Option.bind_some, Option.isNone_none, if_true]
                    rw [if_pos (by omega), eta y]
                    exact ihj (acc ++ [y]) a2 n2 k (by omega) (by omega) (by rw [List.length_append, List.length_singleton]; omega) (by omega) q3 (by omega) q5 (by rw [List.length_append, List.length_singleton]; omega) (by omega)
              · rw [if_neg hlt, if_neg hlt]
                rfl
          exact loop 201 [] a1 (n + 1) k (by omega) (by omega) rfl (by omega) g6 (by omega) g1 (by simp; omega) (by omega)
        · rw [if_neg hi, if_neg hi, if_pos (by omega), if_pos g6, if_pos (by omega)]
          rfl
theorem dec_f (s : ByteArray) (a : Int) (hs : s.size ≤ 100000) (k : Nat) (hk : 2700 ≤ k) : tlv_Decode.f k s a = some ((dec s a).1.f0, (dec s a).1.f1, (dec s a).1.f2, (dec s a).2.1, (dec s a).2.2) ∧
    ∃ er : Option Er, (tlv_told.f er = some (dec s a).2.2) ∧ (er.isNone = true ↔ (dec s a).2.2 = 0) ∧ tlv_decoded.f k s a = some ((dec s a).1.f0, (dec s a).1.f1, (dec s a).1.f2, (dec s a).2.1, er) := by
  have key : ∃ er : Option Er, (tlv_told.f er = some (dec s a).2.2) ∧ (er.isNone = true ↔ (dec s a).2.2 = 0) ∧ tlv_decoded.f k s a = some ((dec s a).1.f0, (dec s a).1.f1, (dec s a).1.f2, (dec s a).2.1, er) := by
    obtain ⟨k, rfl⟩ : ∃ j, k = j + 1 := ⟨k - 1, by omega⟩
    unfold tlv_decoded.f dec
    by_cases h0 : a < 0 ∨ (s.size : Int) < a
    · rw [if_pos h0]
      have : (if a < 0 then tlv_decoded.j0 (k + 1) s a true else tlv_decoded.j0 (k + 1) s a (decide (a > (s.size : Int)))) = tlv_decoded.j0 (k + 1) s a true := by
        by_cases h1 : a < 0
        · rw [if_pos h1]
        · rw [if_neg h1, decide_eq_true (show a > (s.size : Int) by omega)]
      rw [this]
      exact ⟨some (Er.short a), rfl, by simp, rfl⟩
    · rw [if_neg h0, if_neg (by omega), decide_eq_false (show ¬ a > (s.size : Int) by omega)]
      simp only [tlv_decoded.j0, Bool.false_eq_true, if_false]
      have ht := tree_f s hs 13 a 0 s.size 1 k (by omega) (by omega) (by omega) (by omega) (by omega) (Int.le_refl _) (by omega) (by omega) (by omega) (by omega)
      cases hr : rd s 13 a 0 s.size 1 with
      | mk r q =>
        obtain ⟨a', n'⟩ := q
        rw [hr] at ht
        cases r with
        | error x =>
          obtain ⟨er, e1, e2⟩ := ht
          simp only [e2, Option.bind_some]
          have hx := rd_err _ _ _ _ _ _ _ _ hr
          exact ⟨some er, by rw [← e1]; rfl, by simp [hx], rfl⟩
        | ok y =>
          simp only [RdAns] at ht
          obtain ⟨q1, q2, q3, q4, q5, q6⟩ := rd_ok 13 a 0 s.size 1 y a' n' (by omega) (Int.le_refl _) (Int.le_refl _) hr
          have hfew : few y = true := few_of_len (by omega)
          simp only [ht, Option.bind_some, Option.isNone_none, if_true]
          rw [right_f y hfew]
          simp only [Option.bind_some]
          by_cases hy : right y = true
          · rw [if_pos hy, if_pos hy]
            exact ⟨none, rfl, by simp, rfl⟩
          · rw [if_neg hy, if_neg hy]
            exact ⟨some (Er.node a), rfl, by simp, rfl⟩
  obtain ⟨er, h1, h2, h3⟩ := key
  refine ⟨?_, er, h1, h2, h3⟩
  unfold tlv_Decode.f
  rw [h3]
  simp only [Option.bind_some]
  rw [h1]
  rfl
theorem whole_f (s : ByteArray) (hs : s.size ≤ 100000) (k : Nat) (hk : 2700 ≤ k) : tlv_Whole.f k s = some ((whole s).1.f0, (whole s).1.f1, (whole s).1.f2, (whole s).2) := by
  obtain ⟨_, er, h1, h2, h3⟩ := dec_f s 0 hs k hk
  unfold tlv_Whole.f whole
  rw [h3]
  simp only [Option.bind_some]
  by_cases hz : (dec s 0).2.2 = 0
  · have hn := h2.2 hz
    rw [if_pos hn]
    have her : er = none := by cases er with
      | none => rfl
      | some q => cases hn
    subst her
    by_cases ha : (dec s 0).2.1 = (s.size : Int)
    · rw [if_pos ha, if_neg (by simp [ha]), h1]
      rfl
    · rw [if_neg ha, if_pos ⟨hz, ha⟩]
      rfl
  · have hn : ¬ er.isNone = true := fun h => hz (h2.1 h)
    rw [if_neg hn, if_neg (fun h => hz h.1)]
    cases er with
    | none => exact absurd rfl hn
    | some q =>
      rw [Option.getD_some, h1]
      rfl
end Tlv
end Go.Proofs.YthnddhgkjkpmfaaDoor
-- Written by this repo's own program over the kit's printer: YthnddhgkjkpmfaaDoor.LTlvC
namespace Go.Proofs.YthnddhgkjkpmfaaDoor.LTlvC
open Go.Proofs.YthnddhgkjkpmfaaDoor.ExtTlvC
open Go.Proofs.YthnddhgkjkpmfaaDoor.KTlv
open Go.RowKit Go.Proofs.YthnddhgkjkpmfaaDoorW.PrintWords Go.Proofs.YthnddhgkjkpmfaaDoorW.PrintLast Go.Proofs.YthnddhgkjkpmfaaDoorW.PrintMore
attribute [local go_sem] max2_int min2_int max_two min_two max_three min_three max_four min_four   -- for this text's walks alone
attribute [local go_sem] some_set
set_option linter.unusedVariables false
set_option linter.unusedSimpArgs false
variable {G : Gl}
mutual
def latinerlaw02_cutAt.l0 : Nat → Int → Int → Int → ByteArray → List (S24) → Int → ByteArray → List (S24) → Option (Int × ByteArray × (List (S24)))
 | 0, _, _, _, _, _, _, _, _ => none
 | k + 1, x1, x6, x232000, x232001, x232002, x234000, x234001, x234002 => if x6 < (x232002.length : Int) then (if x6 < 60 then (if x1 > 1 then (if 0 ≤ x6 then ((latinerlaw02_cutAt.f k ((rd_T24 x232002 x6).f0) ((rd_T24 x232002 x6).f1) ((rd_T24 x232002 x6).f2) (wrap64 (x1 - 1))).bind fun bt235 => (if x234002.length < 2932031007402 then (latinerlaw02_cutAt.l0 k x1 (wrap64 (x6 + 1)) x232000 x232001 x232002 x234000 x234001 (x234002 ++ [(⟨bt235.1, bt235.2.1, bt235.2.2⟩ : S24)])) else (none))) else (none)) else (some (x234000, x234001, x234002))) else (some (x234000, x234001, x234002))) else (some (x234000, x234001, x234002))
def latinerlaw02_cutAt.f : Nat → Int → ByteArray → List (S24) → Int → Option (Int × ByteArray × (List (S24)))
 | 0, _, _, _, _ => none
 | k + 1, a0_0, a0_1, l0_2, a1 => if 0 ≤ (mn (a0_1.size : Int) 4000) then (if (mn (a0_1.size : Int) 4000) ≤ (a0_1.size : Int) then (latinerlaw02_cutAt.l0 k a1 0 a0_0 a0_1 l0_2 a0_0 (a0_1.extract 0 ((mn (a0_1.size : Int) 4000) : Int).toNat) ([] : List (S24))) else (none)) else (none)
end
def latinerlaw02_cutAt.T1 : Bool × List (List Nat × List Nat) := (true, [([], []), ([0], [0]), ([], []), ([2], [2]), ([], []), ([4], [4]), ([5], [5]), ([6], [6]), ([3, 7], [3, 7]), ([1, 8], [1, 8]), ([], []), ([10, 9, 0, 1, 2, 3, 4, 5, 6, 7, 8, 9, 10], [9, 10])])
def latinerlaw02_cutAt.B1 : List Nat := [0, 1, 0, 4, 0, 16, 48, 112, 252, 511, 0, 2047]
theorem latinerlaw02_cutAt.tab1 : rtab .any (opsOf Tryd.f27 1) = latinerlaw02_cutAt.T1 := by kernel_rfl
theorem latinerlaw02_cutAt.bits1 : waitsOk latinerlaw02_cutAt.T1.2 latinerlaw02_cutAt.B1 = true := by kernel_rfl
def latinerlaw02_cutAt.T5 : Bool × List (List Nat × List Nat) := (true, [([], []), ([0], [0]), ([], []), ([2], [2]), ([], []), ([3, 4], [3, 4]), ([5], [5]), ([], []), ([7], [7]), ([6, 8], [6, 8]), ([9], [9]), ([1, 10, 9], [1, 10]), ([0, 1, 2, 3, 4, 5, 6, 7, 8, 9, 10, 11], []), ([12, 11, 11, 0, 1, 2, 3, 4, 5, 6, 7, 8, 9, 10, 11], [11, 12])])
def latinerlaw02_cutAt.B5 : List Nat := [0, 1, 0, 4, 0, 28, 60, 0, 128, 508, 1020, 2047, 4095, 8191]
theorem latinerlaw02_cutAt.tab5 : rtab .any (opsOf Tryd.f27 5) = latinerlaw02_cutAt.T5 := by kernel_rfl
theorem latinerlaw02_cutAt.bits5 : waitsOk latinerlaw02_cutAt.T5.2 latinerlaw02_cutAt.B5 = true := by kernel_rfl
set_option maxHeartbeats 8000000 in
set_option maxRecDepth 100000 in
theorem latinerlaw02_cutAt.calls (k : Nat) : ∀ (a0_0 : Int) (a0_1 : ByteArray) (A0_2 : Option Addr) (c0_2 : Nat) (l0_2 : List (S24)) (a1 : Int) (r1 : Int) (r2 : ByteArray) (r3 : List (S24)) (w : World) (hr0_2 : Kd.C k24 w A0_2 l0_2.length l0_2) (hc0_2 : l0_2.length ≤ c0_2) (h : latinerlaw02_cutAt.f k a0_0 a0_1 l0_2 a1 = some (r1, r2, r3)),
  Calls Tryd.prog 27 #[.agg #[.int .i64 a0_0, .string a0_1, .slice A0_2 l0_2.length c0_2], .int .i64 a1] w fun e w' => ∃ v2_ : Value, e = .returned (.agg #[.int .i64 r1, .string r2, v2_]) ∧ Kd.R k24 24 w' w.heap.size (fun _ => True) v2_ r3 ∧ Below w.heap.size w w' := by
 induction k using Nat.strongRecOn with
 | _ k ih =>
 intro a0_0 a0_1 A0_2 c0_2 l0_2 a1 r1 r2 r3 w hr0_2 hc0_2 h
 cases k with
 | zero => exact absurd h (by simp [latinerlaw02_cutAt.f])
 | succ k =>
 simp only [latinerlaw02_cutAt.f] at h
 have hu24 := Tryd.underlying24
 have HR0_2 := Aside0.mk hr0_2
 have HC0_2 := Aside0.mk hc0_2
 clear hr0_2 hc0_2
 have HB := Aside0.mk (Below.refl w.heap.size w)
 have H : (if 0 ≤ (mn (a0_1.size : Int) 4000) then (if (mn (a0_1.size : Int) 4000) ≤ (a0_1.size : Int) then (latinerlaw02_cutAt.l0 k a1 0 a0_0 a0_1 l0_2 a0_0 (a0_1.extract 0 ((mn (a0_1.size : Int) 4000) : Int).toNat) ([] : List (S24))) else (none)) else (none)) = some (r1, r2, r3) := h
 clear h
 obtain ⟨ji3, hji3⟩ : ∃ j_ : Int, (mn (a0_1.size : Int) 4000) = j_ := ⟨_, rfl⟩
 replace H : (if 0 ≤ (ji3) then (if (ji3) ≤ (a0_1.size : Int) then (latinerlaw02_cutAt.l0 k a1 0 a0_0 a0_1 l0_2 a0_0 (a0_1.extract 0 ((ji3) : Int).toNat) ([] : List (S24))) else (none)) else (none)) = some (r1, r2, r3) := by first | (rw [hji3] at H; exact H) | (simp only [hji3] at H ⊢; exact H)
 (try (have hji3h : ji3 ≤ 4000 := by (rw [← hji3]; unfold mn; (repeat' split) <;> omega)))
 (try (have hji3g : ji3 ≤ 64 := by omega))
 (try (have hji3l : 0 ≤ ji3 := by (rw [← hji3]; unfold mn; (repeat' split) <;> omega)))
 (try (have hji3m : 0 ≤ ji3 := by omega))
 have hji3_ : (if 4000 < (a0_1.size : Int) then 4000 else (a0_1.size : Int)) = ji3 := hji3
 by_cases c4 : 0 ≤ (ji3)
 ·rw [if_pos c4] at H
  have c4b0 := eq_true c4
  have c4b1 : decide (0 ≤ (ji3)) = true := decide_eq_true c4
  clear c4
  by_cases c5 : (ji3) ≤ (a0_1.size : Int)
  ·rw [if_pos c5] at H
   have c5b0 := eq_true c5
   have c5b1 : decide ((ji3) ≤ (a0_1.size : Int)) = true := decide_eq_true c5
   clear c5
   have H' := Aside0.mk H
   clear H
   go_enter Tryd.func27, Tryd.ntmps27
   try go_wp2_with (first | ((with_reducible refine gate_dst (N := 2) rfl ?_); refine box_event ?hg (N := 2) ?hd (cs := #[.int .i64 a0_0, .string a0_1, .slice A0_2 l0_2.length c0_2]) (t := 24) ?hr ?_; (case hd => rfl); (case hg => rfl); (case hr => first | (go_simp; done) | (go_simp; rfl)); intro gb231 hg w6 hbox hb; have n0_ := Aside0.mk (below_step q0_ hb); have n1_ := Aside0.mk (hbox); have n2_ := Aside0.mk ((by rw [hg]; exact (below_size q0_) : w.heap.size ≤ gb231)); have n3_ := Aside0.mk ((by rw [hg]; exact (below_size q0_) : w.heap.size ≤ gb231)); clear HB; have HB := n0_; have BK231 := n1_; have GW231 := n2_; have GE231 := n3_; clear n0_ n1_ n2_ n3_; clear hb hbox hg) | ((with_reducible refine gate_dst (N := 4) rfl ?_); refine box_event ?hg (N := 4) ?hd (cs := #[.int .i64 0, .string (⟨#[]⟩ : ByteArray), .slice none 0 0]) (t := 24) ?hr ?_; (case hd => rfl); (case hg => rfl); (case hr => first | (go_simp; done) | (go_simp; rfl)); intro gb232 hg w7 hbox hb; have n0_ := Aside0.mk (blk_below (g := gb231) (o := .cells #[.int .i64 a0_0, .string a0_1, .slice A0_2 l0_2.length c0_2] 24 (0, 0)) (bkq BK231.out) hb); have n1_ := Aside0.mk (below_step q0_ hb); have n2_ := Aside0.mk (hbox); have n3_ := Aside0.mk ((by rw [hg]; exact (below_size q0_) : w.heap.size ≤ gb232)); have n4_ := Aside0.mk ((by rw [hg]; exact (below_size q0_) : w.heap.size ≤ gb232)); have n5_ := Aside0.mk ((by rw [hg]; exact Nat.ne_of_lt (blk_lt (g := gb231) (o := .cells #[.int .i64 a0_0, .string a0_1, .slice A0_2 l0_2.length c0_2] 24 (0, 0)) (bkq BK231.out)) : gb231 ≠ gb232)); have n6_ := Aside0.mk ((by rw [hg]; exact Nat.ne_of_gt (blk_lt (g := gb231) (o := .cells #[.int .i64 a0_0, .string a0_1, .slice A0_2 l0_2.length c0_2] 24 (0, 0)) (bkq BK231.out)) : gb232 ≠ gb231)); clear BK231; clear HB; have BK231 := n0_; have HB := n1_; have BK232 := n2_; have GW232 := n3_; have GE232 := n4_; have NB231_232 := n5_; have NB232_231 := n6_; clear n0_ n1_ n2_ n3_ n4_ n5_ n6_; clear hb hbox hg))
   have n0_ := Aside0.mk (blk_drew BK231.out)
   have n1_ := Aside0.mk (blk_drew BK232.out)
   have n2_ := Aside0.mk (below_drew1 HB.out)
   clear BK231
   clear BK232
   clear HB
   have BK231 := n0_
   have BK232 := n1_
   have HB := n2_
   clear n0_ n1_ n2_
   refine start_ (n := 12) (S := fun w' => w'.cell? ⟨gb231, 0, none⟩ = some (.int .i64 a0_0) ∧ w'.cell? ⟨gb231, 1, none⟩ = some (.string a0_1) ∧ w'.cell? ⟨gb231, 2, none⟩ = some (.slice A0_2 l0_2.length c0_2)) (ds := []) #[false, false, false, false, false, false, false, false, false, false, false, false] (by kernel_rfl) rfl rfl ⟨(blk_cell BK231.out 0).trans rfl, (blk_cell BK231.out 1).trans rfl, (blk_cell BK231.out 2).trans rfl⟩ (fun hHeld => ?_); refine with_tabW latinerlaw02_cutAt.tab1 latinerlaw02_cutAt.bits1 (fun HT_ HW_ => ?_)
   generalize w7.drew = w8 at BK231 BK232 HB hHeld ⊢
   refine p_ 0 (some 7) ?_
   refine p_ 2 (some 9) ?_
   refine p_ 4 (some 11) ?_
   refine t0_ 1 (some 8) ?_
   refine t0_ 3 (some 10) ?_
   refine t0_ 5 (some 12) ?_
   refine p_ 6 (some 13) ?_
   refine p_ 7 (some 14) ?_
   refine p_ 8 (some 15) ?_
   refine p_ 9 (some 16) ?_
   refine one_ (i := 10) (N := some 5) #[true, true, true, true, true, true, true, true, true, true, true, false] rfl rfl (one_of HT_.out (by kernel_rfl)) (by decide) (fun K hK => ?_)
   refine box_step ?hg (N := 5) ?hd (cs := #[.int .i64 0, .string (⟨#[]⟩ : ByteArray), .slice none 0 0]) (t := 24) ?hr ?_; (case hd => rfl); (case hg => rfl); (case hr => first | (go_simp; done) | (go_simp; rfl))
   intro gb233 hg w9 hbox hb
   have n0_ := Aside0.mk (blk_below (g := gb231) (o := .cells #[.int .i64 a0_0, .string a0_1, .slice A0_2 l0_2.length c0_2] 24 (0, 0)) (bkq BK231.out) hb)
   have n1_ := Aside0.mk (blk_below (g := gb232) (o := .cells #[.int .i64 0, .string (⟨#[]⟩ : ByteArray), .slice none 0 0] 24 (0, 0)) (bkq BK232.out) hb)
   have n2_ := Aside0.mk (below_step q0_ hb)
   have n3_ := Aside0.mk (hbox)
   have n4_ := Aside0.mk ((by rw [hg]; exact (below_size q0_) : w.heap.size ≤ gb233))
   have n5_ := Aside0.mk ((by rw [hg]; exact (below_size q0_) : w.heap.size ≤ gb233))
   have n6_ := Aside0.mk ((by rw [hg]; exact Nat.ne_of_lt (blk_lt (g := gb231) (o := .cells #[.int .i64 a0_0, .string a0_1, .slice A0_2 l0_2.length c0_2] 24 (0, 0)) (bkq BK231.out)) : gb231 ≠ gb233))
   have n7_ := Aside0.mk ((by rw [hg]; exact Nat.ne_of_gt (blk_lt (g := gb231) (o := .cells #[.int .i64 a0_0, .string a0_1, .slice A0_2 l0_2.length c0_2] 24 (0, 0)) (bkq BK231.out)) : gb233 ≠ gb231))
   have n8_ := Aside0.mk ((by rw [hg]; exact Nat.ne_of_lt (blk_lt (g := gb232) (o := .cells #[.int .i64 0, .string (⟨#[]⟩ : ByteArray), .slice none 0 0] 24 (0, 0)) (bkq BK232.out)) : gb232 ≠ gb233))
   have n9_ := Aside0.mk ((by rw [hg]; exact Nat.ne_of_gt (blk_lt (g := gb232) (o := .cells #[.int .i64 0, .string (⟨#[]⟩ : ByteArray), .slice none 0 0] 24 (0, 0)) (bkq BK232.out)) : gb233 ≠ gb232))
   clear BK231
   clear BK232
   clear HB
   have BK231 := n0_
   have BK232 := n1_
   have HB := n2_
   have BK233 := n3_
   have GW233 := n4_
   have GE233 := n5_
   have NB231_233 := n6_
   have NB233_231 := n7_
   have NB232_233 := n8_
   have NB233_232 := n9_
   clear n0_ n1_ n2_ n3_ n4_ n5_ n6_ n7_ n8_ n9_
   clear hb hbox hg
   refine hK.out _ _ ⟨(blk_cell BK231.out 0).trans rfl, (blk_cell BK231.out 1).trans rfl, (blk_cell BK231.out 2).trans rfl⟩ (fun hHeld => ?_)
   clear hK K
   refine norm_ (a' := ?_) ?_ ?_
   rotate_left
   ·show Act.put _ (some 5) _ = _
    exact putq
   refine one_ (i := 11) (N := none) #[true, true, true, true, true, true, true, true, true, true, true, true] rfl rfl (one_of HT_.out (by kernel_rfl)) (by decide) (fun K hK => ?_)
   have hs10 : w9.cell? ⟨gb233, 0, none⟩ = some (.int .i64 0) := (blk_cell BK233.out 0).trans rfl
   have hfs10 := blk_frozen BK233.out 0
   have hns10_0 := NB231_233.out
   have hns10_1 := NB232_233.out
   have hms10_0 := NB233_231.out
   have hms10_1 := NB233_232.out
   have hs11 : w9.cell? ⟨gb233, 1, none⟩ = some (.string (⟨#[]⟩ : ByteArray)) := (blk_cell BK233.out 1).trans rfl
   have hfs11 := blk_frozen BK233.out 1
   have hns11_0 := NB231_233.out
   have hns11_1 := NB232_233.out
   have hms11_0 := NB233_231.out
   have hms11_1 := NB233_232.out
   have hs12 : w9.cell? ⟨gb233, 2, none⟩ = some (.slice none 0 0) := (blk_cell BK233.out 2).trans rfl
   have hfs12 := blk_frozen BK233.out 2
   have hns12_0 := NB231_233.out
   have hns12_1 := NB232_233.out
   have hms12_0 := NB233_231.out
   have hms12_1 := NB233_232.out
   refine skip_ (w1 := ?_) (by rfl) rfl ?_ ?_
   rotate_left
   ·go_simp
    rfl
   refine hK.out _ _ ⟨((cell_far (p := ⟨gb233, _, none⟩) NB231_233.out _).trans (((cell_far (p := ⟨gb233, _, none⟩) NB231_233.out _).trans (((cell_far (p := ⟨gb233, _, none⟩) NB231_233.out _).trans (hHeld.1)))))), ((cell_far (p := ⟨gb233, _, none⟩) NB231_233.out _).trans (((cell_far (p := ⟨gb233, _, none⟩) NB231_233.out _).trans (((cell_far (p := ⟨gb233, _, none⟩) NB231_233.out _).trans (hHeld.2.1)))))), ((cell_far (p := ⟨gb233, _, none⟩) NB231_233.out _).trans (((cell_far (p := ⟨gb233, _, none⟩) NB231_233.out _).trans (((cell_far (p := ⟨gb233, _, none⟩) NB231_233.out _).trans (hHeld.2.2))))))⟩ (fun hHeld => ?_)
   clear hK K
   refine done_ (done_of HT_.out (by kernel_rfl)) ?_
   try go_wp2
   go_loopg [6] k (fun kq v6 w' => ∃ (x6_1 : Int) (x234002_1 : List (S24)) (u234002 : Value), v6 = .int .i64 x6_1 ∧ Aside0 (latinerlaw02_cutAt.l0 kq a1 x6_1 a0_0 a0_1 l0_2 a0_0 (a0_1.extract 0 ((ji3) : Int).toNat) x234002_1 = some (r1, r2, r3)) ∧ Aside0 (kq ≤ k) ∧ Aside0 (Kd.R k24 24 w' w.heap.size (fun k_ => k_ ≠ gb231 ∧ k_ ≠ gb232 ∧ k_ ≠ gb233) u234002 x234002_1) ∧ Aside0 (w'.heap[gb231]? = some (.cells #[.int .i64 a0_0, .string a0_1, (.slice A0_2 l0_2.length c0_2)] 24 (0, 0))) ∧ Aside0 (w'.heap[gb232]? = some (.cells #[.int .i64 0, .string (⟨#[]⟩ : ByteArray), (.slice none 0 0)] 24 (0, 0))) ∧ Aside0 (w'.heap[gb233]? = some (.cells #[.int .i64 a0_0, .string (a0_1.extract 0 ((ji3) : Int).toNat), u234002] 24 (0, 0))) ∧ Aside0 (Below w.heap.size w w'))
   case atStart => exact ⟨(0), (([] : List (S24))), (.slice none 0 0), q9_, H', ⟨Nat.le_refl _⟩, ⟨q10_⟩, ⟨by refine bkq ?_; refine blk_far ?_ NB231_233.out _; refine bkq ?_; refine blk_far ?_ NB231_233.out _; refine bkq ?_; refine blk_far ?_ NB231_233.out _; refine bkq ?_; exact BK231.out⟩, ⟨by refine bkq ?_; refine blk_far ?_ NB232_233.out _; refine bkq ?_; refine blk_far ?_ NB232_233.out _; refine bkq ?_; refine blk_far ?_ NB232_233.out _; refine bkq ?_; exact BK232.out⟩, ⟨by refine bkq ?_; refine blk_put (cs := #[.int .i64 a0_0, .string (a0_1.extract 0 ((ji3) : Int).toNat), .slice none 0 0]) ?_ 2 _ rfl; refine bkq ?_; refine blk_put (cs := #[.int .i64 a0_0, .string (⟨#[]⟩ : ByteArray), .slice none 0 0]) ?_ 1 _ rfl; refine bkq ?_; refine blk_put (cs := #[.int .i64 0, .string (⟨#[]⟩ : ByteArray), .slice none 0 0]) ?_ 0 _ rfl; refine bkq ?_; exact BK233.out⟩, ⟨q0_⟩⟩
   case round =>
    clear H'
    try clear c2
    try clear p2
    try clear c4
    try clear c4b0
    try clear c4b1
    try clear c5
    try clear c5b0
    try clear c5b1
    obtain ⟨x6_1, x234002_1, u234002, rfl, HA, HK1, HO_234002, BK231, BK232, BK233, HB⟩ := hrel
    cases gk with
    | zero => exact absurd HA.out (by simp [latinerlaw02_cutAt.l0])
    | succ k1 =>
     have H := HA.out
     clear HA
     simp only [latinerlaw02_cutAt.l0] at H
     by_cases c13 : x6_1 < (l0_2.length : Int)
     ·rw [if_pos c13] at H
      have c13b0 : decide (x6_1 < (l0_2.length : Int)) = true := decide_eq_true c13
      clear c13
      by_cases c14 : x6_1 < 60
      ·rw [if_pos c14] at H
       have c14b0 : decide (x6_1 < 60) = true := decide_eq_true c14
       clear c14
       by_cases c15 : a1 > 1
       ·rw [if_pos c15] at H
        have c15b0 : decide (1 < a1) = true := decide_eq_true c15
        clear c15
        by_cases c16 : 0 ≤ x6_1
        ·rw [if_pos c16] at H
         have c16b0 : decide (0 ≤ x6_1) = true := decide_eq_true c16
         clear c16
         replace H := Option.bind_eq_some_iff.mp H
         obtain ⟨⟨t235, t236, t237⟩, A170, H⟩ := H
         replace H : (if x234002_1.length < 2932031007402 then (latinerlaw02_cutAt.l0 k1 a1 (wrap64 (x6_1 + 1)) a0_0 a0_1 l0_2 a0_0 (a0_1.extract 0 ((ji3) : Int).toNat) (x234002_1 ++ [(⟨t235, t236, t237⟩ : S24)])) else (none)) = some (r1, r2, r3) := H
         have A17 := Aside0.mk A170
         clear A170
         by_cases c18 : x234002_1.length < 2932031007402
         ·rw [if_pos c18] at H
          have LMc18 := Aside0.mk c18
          clear c18
          obtain ⟨y240, hy240⟩ : ∃ y_ : List (S24), y_ = (x234002_1 ++ [(⟨t235, t236, t237⟩ : S24)]) := ⟨_, rfl⟩
          replace H : (latinerlaw02_cutAt.l0 k1 a1 (wrap64 (x6_1 + 1)) a0_0 a0_1 l0_2 a0_0 (a0_1.extract 0 ((ji3) : Int).toNat) y240) = some (r1, r2, r3) := by first | (rw [hy240]; with_reducible exact H) | (have H2_ := (Option.bind_some _ _).symm.trans H; rw [hy240]; with_reducible exact H2_) | (have H2_ := (Option.bind_some _ _).symm.trans H; with_reducible exact H2_) | with_reducible exact H | (rw [hy240]; exact H) | exact H
          have Ny240 := Aside0.mk hy240
          clear hy240
          have H' := Aside0.mk H
          clear H
          have hnb19 := NB231_232.out
          have hnc19 := NB232_231.out
          have hnb20 := NB231_233.out
          have hnc20 := NB233_231.out
          have hcz21_0 : wr.cell? ⟨gb231, 0, none⟩ = some (.int .i64 a0_0) := (blk_cell BK231.out 0).trans rfl
          have hcz21_1 : wr.cell? ⟨gb231, 1, none⟩ = some (.string a0_1) := (blk_cell BK231.out 1).trans rfl
          have hcz21_2 : wr.cell? ⟨gb231, 2, none⟩ = some (.slice A0_2 l0_2.length c0_2) := (blk_cell BK231.out 2).trans rfl
          have hfz21_0 := blk_frozen BK231.out 0
          have hfz21_1 := blk_frozen BK231.out 1
          have hfz21_2 := blk_frozen BK231.out 2
          try go_wp2
          have n0_ := Aside0.mk (Kd.R_drew HO_234002.out)
          have n1_ := Aside0.mk (blk_drew BK231.out)
          have n2_ := Aside0.mk (blk_drew BK232.out)
          have n3_ := Aside0.mk (blk_drew BK233.out)
          have n4_ := Aside0.mk (below_drew1 HB.out)
          clear HO_234002
          clear BK231
          clear BK232
          clear BK233
          clear HB
          have HO_234002 := n0_
          have BK231 := n1_
          have BK232 := n2_
          have BK233 := n3_
          have HB := n4_
          clear n0_ n1_ n2_ n3_ n4_
          have p234 : 0 ≤ (x6_1 : Int) := of_decide_eq_true q7_
          have q234 : x6_1 < (l0_2.length : Int) := of_decide_eq_true q7_
          obtain ⟨ad234, A234_2, c234_2, e234, hx234_0, hx234_1, hx234_2, hl234_2, hi234_2⟩ := at_T24 HR0_2.out x6_1 p234 q234
          have hw234_2 := hx234_2
          have hw234_1 := hx234_1
          have hw234_0 := hx234_0
          cases e234
          replace hx234_0 := (HB.out.cell (World.block_lt_of_cell? w _ hx234_0)).trans hx234_0
          replace hx234_1 := (HB.out.cell (World.block_lt_of_cell? w _ hx234_1)).trans hx234_1
          replace hx234_2 := (HB.out.cell (World.block_lt_of_cell? w _ hx234_2)).trans hx234_2
          have HR234_2 := Aside0.mk hi234_2
          have HC234_2 := Aside0.mk hl234_2
          clear hi234_2 hl234_2
          replace p234 := eq_true p234
          replace q234 := eq_true q234
          refine start_ (n := 14) (S := fun w' => w'.cell? ⟨gb233, 0, none⟩ = some (.int .i64 a0_0) ∧ w'.cell? ⟨gb233, 1, none⟩ = some (.string (a0_1.extract 0 ((ji3) : Int).toNat)) ∧ w'.cell? ⟨gb233, 2, none⟩ = some (u234002) ∧ w'.cell? ⟨gb231, 0, none⟩ = some (.int .i64 a0_0) ∧ w'.cell? ⟨gb231, 1, none⟩ = some (.string a0_1) ∧ w'.cell? ⟨gb231, 2, none⟩ = some (.slice (some ad234) l0_2.length c0_2) ∧ w'.cell? (ad234.add ((x6_1).toNat * 3)) = some (.int .i64 ((rd_T24 l0_2 x6_1).f0)) ∧ w'.cell? ⟨(ad234.add ((x6_1).toNat * 3)).block, (ad234.add ((x6_1).toNat * 3)).off + 1, none⟩ = some (.string ((rd_T24 l0_2 x6_1).f1)) ∧ w'.cell? ⟨(ad234.add ((x6_1).toNat * 3)).block, (ad234.add ((x6_1).toNat * 3)).off + 2, none⟩ = some (.slice A234_2 ((rd_T24 l0_2 x6_1).f2).length c234_2)) (ds := [13]) #[false, false, false, false, false, false, false, false, false, false, false, false, false, false] (by kernel_rfl) rfl rfl ⟨(blk_cell BK233.out 0).trans rfl, (blk_cell BK233.out 1).trans rfl, (blk_cell BK233.out 2).trans rfl, (blk_cell BK231.out 0).trans rfl, (blk_cell BK231.out 1).trans rfl, (blk_cell BK231.out 2).trans rfl, ((HB.out.cell (World.block_lt_of_cell? w _ hw234_0)).trans hw234_0), ((HB.out.cell (World.block_lt_of_cell? w _ hw234_1)).trans hw234_1), ((HB.out.cell (World.block_lt_of_cell? w _ hw234_2)).trans hw234_2)⟩ (fun hHeld => ?_); refine with_tabW latinerlaw02_cutAt.tab5 latinerlaw02_cutAt.bits5 (fun HT_ HW_ => ?_)
          generalize wr.drew = w22 at HO_234002 BK231 BK232 BK233 HB HR234_2 hx234_0 hx234_1 hx234_2 hHeld ⊢
          refine p_ 0 (some 32) ?_
          refine p_ 2 (some 34) ?_
          refine p_ 4 (some 36) ?_
          refine p_ 7 (some 39) ?_
          refine p_ 8 (some 40) ?_
          refine t3_ 1 (some 33) ?_
          refine t3_ 3 (some 35) ?_
          refine p_ 5 (some 37) ?_
          refine t3_ 6 (some 38) ?_
          refine one_ (i := 9) (N := some 41) #[true, true, true, true, true, true, true, true, true, true, false, false, false, false] rfl rfl (one_of HT_.out (by kernel_rfl)) (by decide) (fun K hK => ?_)
          refine goes_ Tryd.func27 (by kernel_rfl) rfl #[.agg #[.int .i64 ((rd_T24 l0_2 x6_1).f0), .string ((rd_T24 l0_2 x6_1).f1), .slice A234_2 ((rd_T24 l0_2 x6_1).f2).length c234_2], .int .i64 (wrap64 (a1 - 1))] (by rfl) rfl rfl argq ?_
          with_reducible refine (ih k1 (by have := HK1.out; omega) ((rd_T24 l0_2 x6_1).f0) ((rd_T24 l0_2 x6_1).f1) _ _ ((rd_T24 l0_2 x6_1).f2) (wrap64 (a1 - 1)) t235 t236 t237 _ ?side1 ?side2 A17.out).mono ?_
          (case side1 => repeat (first | exact (Kd.C_below HR234_2.out HB.out) | (with_reducible refine Kd.C_alloc ?_ _) | (with_reducible refine Kd.C_drewN ?_ _) | (with_reducible refine Kd.C_drew ?_)))
          (case side2 => exact HC234_2.out)
          rintro e w23 ⟨v238, rfl, ho0, hb⟩
          refine ⟨_, rfl, ?_⟩
          have n0_ := Aside0.mk (Kd.R_elder' (rkq HO_234002.out) (Kd.R_base ho0) hb)
          have n1_ := Aside0.mk (Kd.R_lower (Kd.R_newB (Kd.R_newB (Kd.R_newB (Kd.R_new' ho0 (Kd.R_lt (rkq HO_234002.out))) (g := gb231) (o := .cells #[.int .i64 a0_0, .string a0_1, .slice (some ad234) l0_2.length c0_2] 24 (0, 0)) (bkq BK231.out)) (g := gb232) (o := .cells #[.int .i64 0, .string (⟨#[]⟩ : ByteArray), .slice none 0 0] 24 (0, 0)) (bkq BK232.out)) (g := gb233) (o := .cells #[.int .i64 a0_0, .string (a0_1.extract 0 ((ji3) : Int).toNat), u234002] 24 (0, 0)) (bkq BK233.out)) (below_size q0_))
          have n2_ := Aside0.mk (blk_below (g := gb231) (o := .cells #[.int .i64 a0_0, .string a0_1, .slice (some ad234) l0_2.length c0_2] 24 (0, 0)) (bkq BK231.out) hb)
          have n3_ := Aside0.mk (blk_below (g := gb232) (o := .cells #[.int .i64 0, .string (⟨#[]⟩ : ByteArray), .slice none 0 0] 24 (0, 0)) (bkq BK232.out) hb)
          have n4_ := Aside0.mk (blk_below (g := gb233) (o := .cells #[.int .i64 a0_0, .string (a0_1.extract 0 ((ji3) : Int).toNat), u234002] 24 (0, 0)) (bkq BK233.out) hb)
          have n5_ := Aside0.mk (below_step q0_ hb)
          clear HO_234002
          clear BK231
          clear BK232
          clear BK233
          clear HB
          have HO_234002 := n0_
          have HO239 := n1_
          have BK231 := n2_
          have BK232 := n3_
          have BK233 := n4_
          have HB := n5_
          clear n0_ n1_ n2_ n3_ n4_ n5_
          (try clear hb)
          (try clear hb2)
          (try clear hk)
          (try clear hi)
          (try clear ho0)
          obtain ⟨Ao25, co25, eo25⟩ := Kd.R_slice HO239.out
          (first | subst eo25 | (injection eo25 with f1_ f2_ f3_; have f4_ := f1_.symm; have f5_ := f3_.symm; clear f1_ f2_ f3_; subst f4_; subst f5_))
          refine hK.out _ _ ⟨(blk_cell BK233.out 0).trans rfl, (blk_cell BK233.out 1).trans rfl, (blk_cell BK233.out 2).trans rfl, (blk_cell BK231.out 0).trans rfl, (blk_cell BK231.out 1).trans rfl, (blk_cell BK231.out 2).trans rfl, ((HB.out.cell (World.block_lt_of_cell? w _ hw234_0)).trans hw234_0), ((HB.out.cell (World.block_lt_of_cell? w _ hw234_1)).trans hw234_1), ((HB.out.cell (World.block_lt_of_cell? w _ hw234_2)).trans hw234_2)⟩ (fun hHeld => ?_)
          clear hK K
          refine norm_ (a' := ?_) ?_ ?_
          rotate_left
          ·show Act.put _ (some 41) _ = _
           exact putq
          refine one_ (i := 10) (N := some 42) #[true, true, true, true, true, true, true, true, true, true, true, false, false, false] rfl rfl (one_of HT_.out (by kernel_rfl)) (by decide) (fun K hK => ?_)
          refine value_ (w1 := ?_) (v := ?_) (by rfl) rfl ?_ ?_
          rotate_left 2
          ·go_simp
           constructor
           ·rfl
           ·rfl
          refine hK.out _ _ ⟨(blk_cell (blk_alloc BK233.out _) 0).trans rfl, (blk_cell (blk_alloc BK233.out _) 1).trans rfl, (blk_cell (blk_alloc BK233.out _) 2).trans rfl, (blk_cell (blk_alloc BK231.out _) 0).trans rfl, (blk_cell (blk_alloc BK231.out _) 1).trans rfl, (blk_cell (blk_alloc BK231.out _) 2).trans rfl, (World.cell?_alloc_lt _ _ _ (World.block_lt_of_cell? _ _ (((HB.out.cell (World.block_lt_of_cell? w _ hw234_0)).trans hw234_0)))).trans (((HB.out.cell (World.block_lt_of_cell? w _ hw234_0)).trans hw234_0)), (World.cell?_alloc_lt _ _ _ (World.block_lt_of_cell? _ _ (((HB.out.cell (World.block_lt_of_cell? w _ hw234_1)).trans hw234_1)))).trans (((HB.out.cell (World.block_lt_of_cell? w _ hw234_1)).trans hw234_1)), (World.cell?_alloc_lt _ _ _ (World.block_lt_of_cell? _ _ (((HB.out.cell (World.block_lt_of_cell? w _ hw234_2)).trans hw234_2)))).trans (((HB.out.cell (World.block_lt_of_cell? w _ hw234_2)).trans hw234_2))⟩ (fun hHeld => ?_)
          clear hK K
          refine norm_ (a' := ?_) ?_ ?_
          rotate_left
          ·show Act.put _ (some 42) _ = _
           exact putq
          refine one_ (i := 11) (N := some 43) #[true, true, true, true, true, true, true, true, true, true, true, true, false, false] rfl rfl (one_of HT_.out (by kernel_rfl)) (by decide) (fun K hK => ?_)
          refine Kd.R_append_step k24 (w0 := w) w.heap.size (by rfl) (.tmp 33) (.tmp 42) 22 24 (.agg #[(.int .i64 0), (.string ⟨#[]⟩), (.slice none 0 0)]) 48 rfl Tryd.underlying22 info24 rfl (by decide) (by omega) u234002 x234002_1 (⟨t235, t236, t237⟩ : S24) [.int .i64 t235, .string t236, .slice Ao25 t237.length co25] (fun k_ => k_ ≠ gb231 ∧ k_ ≠ gb232 ∧ k_ ≠ gb233) (fun k_ => ((fun k_ => k_ ≠ gb231 ∧ k_ ≠ gb232 ∧ k_ ≠ gb233)) k_ ∧ some k_ ≠ (u234002 : Value).ownBlock) rfl rfl ?aP (fun _ hk => hk) ?aF ?aO ?aB ?aS ?aL ?_
          (case aP => exact k24_mkM _ _ _ (⟨t235, t236, t237⟩ : S24) (Kd.R_mono (HO239.out) (fun k_ hk => ⟨⟨hk.1.1.2, ⟨hk.1.2, hk.2⟩⟩, hk.1.1.1.2⟩)))
          (case aB => exact q0_)
          (case aF => exact (fun k_ hk => ⟨Kd.freshB (g := gb231) (o := .cells #[.int .i64 a0_0, .string a0_1, .slice (some ad234) l0_2.length c0_2] 24 (0, 0)) (bkq BK231.out) k_ hk, Kd.freshB (g := gb232) (o := .cells #[.int .i64 0, .string (⟨#[]⟩ : ByteArray), .slice none 0 0] 24 (0, 0)) (bkq BK232.out) k_ hk, Kd.freshB (g := gb233) (o := .cells #[.int .i64 a0_0, .string (a0_1.extract 0 ((ji3) : Int).toNat), u234002] 24 (0, 0)) (bkq BK233.out) k_ hk⟩))
          (case aO => exact (by refine rkq ?_; exact Kd.R_mono HO_234002.out (fun _ hk => ⟨hk.1.1, ⟨hk.1.2.1, hk.1.2.2⟩⟩)))
          (case aS => exact (below_size q0_))
          (case aL => have := LMc18.out; omega)
          intro v241 w24 ho hb hg hat
          rw [← Ny240.out] at ho
          have n0_ := Aside0.mk (blk_grown (g := gb231) (o := .cells #[.int .i64 a0_0, .string a0_1, .slice (some ad234) l0_2.length c0_2] 24 (0, 0)) (bkq BK231.out) hg (Kd.R_away HO_234002.out (fun _ hk => hk.1.1)))
          have n1_ := Aside0.mk (blk_grown (g := gb232) (o := .cells #[.int .i64 0, .string (⟨#[]⟩ : ByteArray), .slice none 0 0] 24 (0, 0)) (bkq BK232.out) hg (Kd.R_away HO_234002.out (fun _ hk => hk.1.2.1)))
          have n2_ := Aside0.mk (blk_grown (g := gb233) (o := .cells #[.int .i64 a0_0, .string (a0_1.extract 0 ((ji3) : Int).toNat), u234002] 24 (0, 0)) (bkq BK233.out) hg (Kd.R_away HO_234002.out (fun _ hk => hk.1.2.2)))
          have n3_ := Aside0.mk (hb)
          have n4_ := Aside0.mk (ho)
          clear BK231
          clear BK232
          clear BK233
          clear HB
          clear HO_234002
          clear HO239
          have BK231 := n0_
          have BK232 := n1_
          have BK233 := n2_
          have HB := n3_
          have HO242 := n4_
          clear n0_ n1_ n2_ n3_ n4_
          clear ho hb hg hat
          obtain ⟨Ao26, co26, eo26⟩ := Kd.R_slice HO242.out
          (first | subst eo26 | (injection eo26 with f1_ f2_ f3_; have f4_ := f1_.symm; have f5_ := f3_.symm; clear f1_ f2_ f3_; subst f4_; subst f5_))
          refine hK.out _ _ ⟨(blk_cell BK233.out 0).trans rfl, (blk_cell BK233.out 1).trans rfl, (blk_cell BK233.out 2).trans rfl, (blk_cell BK231.out 0).trans rfl, (blk_cell BK231.out 1).trans rfl, (blk_cell BK231.out 2).trans rfl, ((HB.out.cell (World.block_lt_of_cell? w _ hw234_0)).trans hw234_0), ((HB.out.cell (World.block_lt_of_cell? w _ hw234_1)).trans hw234_1), ((HB.out.cell (World.block_lt_of_cell? w _ hw234_2)).trans hw234_2)⟩ (fun hHeld => ?_)
          clear hK K
          refine norm_ (a' := ?_) ?_ ?_
          rotate_left
          ·show Act.put _ (some 43) _ = _
           exact putq
          refine p_ 12 (some 44) ?_
          refine last_ (i := 13) (N := none) #[true, true, true, true, true, true, true, true, true, true, true, true, true, true] rfl rfl (one_of HT_.out (by kernel_rfl)) (by decide) (fun K hK => ?_)
          have hs27 : w24.cell? ⟨gb233, 2, none⟩ = some (u234002) := (blk_cell BK233.out 2).trans rfl
          have hfs27 := blk_frozen BK233.out 2
          have hns27_0 := NB231_233.out
          have hns27_1 := NB232_233.out
          have hms27_0 := NB233_231.out
          have hms27_1 := NB233_232.out
          refine skip_ (w1 := ?_) (by rfl) rfl ?_ ?_
          rotate_left
          ·go_simp
           rfl
          refine hK.out _ _ ?_
          clear hK K
          refine done_ (done_of HT_.out (by kernel_rfl)) ?_
          try go_wp2
          go_roundg k1
          case measure => have := HK1.out; omega
          case rel => exact ⟨(wrap64 (x6_1 + 1)), (y240), (.slice Ao26 y240.length co26), q9_, H', ⟨by have := HK1.out; omega⟩, ⟨by refine rkq ?_; exact Kd.R_mono (Kd.R_far (p := ⟨gb233, 2, none⟩) (Kd.R_mono HO242.out (fun k_ hk => (⟨hk, hk.2.2⟩ : _ ∧ k_ ≠ gb233))) (fun _ hk => hk.2) (.slice Ao26 y240.length co26)) (fun _ hk => ⟨hk.1.1, ⟨hk.1.2.1, hk.1.2.2⟩⟩)⟩, ⟨by refine bkq ?_; refine blk_far ?_ NB231_233.out _; refine bkq ?_; exact BK231.out⟩, ⟨by refine bkq ?_; refine blk_far ?_ NB232_233.out _; refine bkq ?_; exact BK232.out⟩, ⟨by refine bkq ?_; refine blk_put (cs := #[.int .i64 a0_0, .string (a0_1.extract 0 ((ji3) : Int).toNat), u234002]) ?_ 2 _ rfl; refine bkq ?_; exact BK233.out⟩, ⟨q0_⟩⟩
         ·rw [if_neg c18] at H
          exact absurd H (by simp)
        ·rw [if_neg c16] at H
         exact absurd H (by simp)
       ·rw [if_neg c15] at H
        have c15b0 : decide (1 < a1) = false := decide_eq_false c15
        clear c15
        simp only [Option.some.injEq, Prod.mk.injEq] at H
        obtain ⟨rfl, rfl, rfl⟩ := H
        have hnb28 := NB231_232.out
        have hnc28 := NB232_231.out
        have hnb29 := NB231_233.out
        have hnc29 := NB233_231.out
        have hcz30_0 : wr.cell? ⟨gb231, 0, none⟩ = some (.int .i64 a0_0) := (blk_cell BK231.out 0).trans rfl
        have hcz30_1 : wr.cell? ⟨gb231, 1, none⟩ = some (.string a0_1) := (blk_cell BK231.out 1).trans rfl
        have hcz30_2 : wr.cell? ⟨gb231, 2, none⟩ = some (.slice A0_2 l0_2.length c0_2) := (blk_cell BK231.out 2).trans rfl
        have hfz30_0 := blk_frozen BK231.out 0
        have hfz30_1 := blk_frozen BK231.out 1
        have hfz30_2 := blk_frozen BK231.out 2
        have hnb31 := NB233_232.out
        have hnc31 := NB232_233.out
        have hcz32_0 : wr.cell? ⟨gb233, 0, none⟩ = some (.int .i64 a0_0) := (blk_cell BK233.out 0).trans rfl
        have hcz32_1 : wr.cell? ⟨gb233, 1, none⟩ = some (.string (a0_1.extract 0 ((ji3) : Int).toNat)) := (blk_cell BK233.out 1).trans rfl
        have hcz32_2 : wr.cell? ⟨gb233, 2, none⟩ = some (u234002) := (blk_cell BK233.out 2).trans rfl
        have hfz32_0 := blk_frozen BK233.out 0
        have hfz32_1 := blk_frozen BK233.out 1
        have hfz32_2 := blk_frozen BK233.out 2
        have hcz33_0 : wr.cell? ⟨gb232, 0, none⟩ = some (.int .i64 0) := (blk_cell BK232.out 0).trans rfl
        have hcz33_1 : wr.cell? ⟨gb232, 1, none⟩ = some (.string (⟨#[]⟩ : ByteArray)) := (blk_cell BK232.out 1).trans rfl
        have hcz33_2 : wr.cell? ⟨gb232, 2, none⟩ = some (.slice none 0 0) := (blk_cell BK232.out 2).trans rfl
        have hfz33_0 := blk_frozen BK232.out 0
        have hfz33_1 := blk_frozen BK232.out 1
        have hfz33_2 := blk_frozen BK232.out 2
        obtain ⟨Ao34, co34, eo34⟩ := Kd.R_slice HO_234002.out
        subst eo34
        go_wp2
        refine bodyPost_ret (results_cell_row rfl _ _ gb232 24 #[.int .i64 a0_0, .string (a0_1.extract 0 ((ji3) : Int).toNat), .slice Ao34 x234002_1.length co34] (0, 0) _ rfl (by refine bkq ?_; refine blk_put (cs := #[.int .i64 a0_0, .string (a0_1.extract 0 ((ji3) : Int).toNat), .slice none 0 0]) ?_ 2 _ rfl; refine bkq ?_; refine blk_put (cs := #[.int .i64 a0_0, .string (⟨#[]⟩ : ByteArray), .slice none 0 0]) ?_ 1 _ rfl; refine bkq ?_; refine blk_put (cs := #[.int .i64 0, .string (⟨#[]⟩ : ByteArray), .slice none 0 0]) ?_ 0 _ rfl; refine bkq ?_; exact BK232.out) Tryd.underlying24 rfl (by kernel_rfl)) rfl ?_
        exact ⟨_, q17_, by refine rkq ?_; exact Kd.R_mono (Kd.R_far (p := ⟨gb232, 2, none⟩) (Kd.R_far (p := ⟨gb232, 1, none⟩) (Kd.R_far (p := ⟨gb232, 0, none⟩) (Kd.R_mono HO_234002.out (fun k_ hk => (⟨hk, hk.2.1⟩ : _ ∧ k_ ≠ gb232))) (fun _ hk => hk.2) (.int .i64 a0_0)) (fun _ hk => hk.2) (.string (a0_1.extract 0 ((ji3) : Int).toNat))) (fun _ hk => hk.2) (.slice Ao34 x234002_1.length co34)) (fun _ hk => trivial), q0_⟩
      ·rw [if_neg c14] at H
       have c14b0 : decide (x6_1 < 60) = false := decide_eq_false c14
       clear c14
       simp only [Option.some.injEq, Prod.mk.injEq] at H
       obtain ⟨rfl, rfl, rfl⟩ := H
       have hnb35 := NB231_232.out
       have hnc35 := NB232_231.out
       have hnb36 := NB231_233.out
       have hnc36 := NB233_231.out
       have hcz37_0 : wr.cell? ⟨gb231, 0, none⟩ = some (.int .i64 a0_0) := (blk_cell BK231.out 0).trans rfl
       have hcz37_1 : wr.cell? ⟨gb231, 1, none⟩ = some (.string a0_1) := (blk_cell BK231.out 1).trans rfl
       have hcz37_2 : wr.cell? ⟨gb231, 2, none⟩ = some (.slice A0_2 l0_2.length c0_2) := (blk_cell BK231.out 2).trans rfl
       have hfz37_0 := blk_frozen BK231.out 0
       have hfz37_1 := blk_frozen BK231.out 1
       have hfz37_2 := blk_frozen BK231.out 2
       have hnb38 := NB233_232.out
       have hnc38 := NB232_233.out
       have hcz39_0 : wr.cell? ⟨gb233, 0, none⟩ = some (.int .i64 a0_0) := (blk_cell BK233.out 0).trans rfl
       have hcz39_1 : wr.cell? ⟨gb233, 1, none⟩ = some (.string (a0_1.extract 0 ((ji3) : Int).toNat)) := (blk_cell BK233.out 1).trans rfl
       have hcz39_2 : wr.cell? ⟨gb233, 2, none⟩ = some (u234002) := (blk_cell BK233.out 2).trans rfl
       have hfz39_0 := blk_frozen BK233.out 0
       have hfz39_1 := blk_frozen BK233.out 1
       have hfz39_2 := blk_frozen BK233.out 2
       have hcz40_0 : wr.cell? ⟨gb232, 0, none⟩ = some (.int .i64 0) := (blk_cell BK232.out 0).trans rfl
       have hcz40_1 : wr.cell? ⟨gb232, 1, none⟩ = some (.string (⟨#[]⟩ : ByteArray)) := (blk_cell BK232.out 1).trans rfl
       have hcz40_2 : wr.cell? ⟨gb232, 2, none⟩ = some (.slice none 0 0) := (blk_cell BK232.out 2).trans rfl
       have hfz40_0 := blk_frozen BK232.out 0
       have hfz40_1 := blk_frozen BK232.out 1
       have hfz40_2 := blk_frozen BK232.out 2
       obtain ⟨Ao41, co41, eo41⟩ := Kd.R_slice HO_234002.out
       subst eo41
       go_wp2
       refine bodyPost_ret (results_cell_row rfl _ _ gb232 24 #[.int .i64 a0_0, .string (a0_1.extract 0 ((ji3) : Int).toNat), .slice Ao41 x234002_1.length co41] (0, 0) _ rfl (by refine bkq ?_; refine blk_put (cs := #[.int .i64 a0_0, .string (a0_1.extract 0 ((ji3) : Int).toNat), .slice none 0 0]) ?_ 2 _ rfl; refine bkq ?_; refine blk_put (cs := #[.int .i64 a0_0, .string (⟨#[]⟩ : ByteArray), .slice none 0 0]) ?_ 1 _ rfl; refine bkq ?_; refine blk_put (cs := #[.int .i64 0, .string (⟨#[]⟩ : ByteArray), .slice none 0 0]) ?_ 0 _ rfl; refine bkq ?_; exact BK232.out) Tryd.underlying24 rfl (by kernel_rfl)) rfl ?_
       exact ⟨_, q17_, by refine rkq ?_; exact Kd.R_mono (Kd.R_far (p := ⟨gb232, 2, none⟩) (Kd.R_far (p := ⟨gb232, 1, none⟩) (Kd.R_far (p := ⟨gb232, 0, none⟩) (Kd.R_mono HO_234002.out (fun k_ hk => (⟨hk, hk.2.1⟩ : _ ∧ k_ ≠ gb232))) (fun _ hk => hk.2) (.int .i64 a0_0)) (fun _ hk => hk.2) (.string (a0_1.extract 0 ((ji3) : Int).toNat))) (fun _ hk => hk.2) (.slice Ao41 x234002_1.length co41)) (fun _ hk => trivial), q0_⟩
     ·rw [if_neg c13] at H
      have c13b0 : decide (x6_1 < (l0_2.length : Int)) = false := decide_eq_false c13
      clear c13
      simp only [Option.some.injEq, Prod.mk.injEq] at H
      obtain ⟨rfl, rfl, rfl⟩ := H
      have hnb42 := NB231_232.out
      have hnc42 := NB232_231.out
      have hnb43 := NB231_233.out
      have hnc43 := NB233_231.out
      have hcz44_0 : wr.cell? ⟨gb231, 0, none⟩ = some (.int .i64 a0_0) := (blk_cell BK231.out 0).trans rfl
      have hcz44_1 : wr.cell? ⟨gb231, 1, none⟩ = some (.string a0_1) := (blk_cell BK231.out 1).trans rfl
      have hcz44_2 : wr.cell? ⟨gb231, 2, none⟩ = some (.slice A0_2 l0_2.length c0_2) := (blk_cell BK231.out 2).trans rfl
      have hfz44_0 := blk_frozen BK231.out 0
      have hfz44_1 := blk_frozen BK231.out 1
      have hfz44_2 := blk_frozen BK231.out 2
      have hnb45 := NB233_232.out
      have hnc45 := NB232_233.out
      have hcz46_0 : wr.cell? ⟨gb233, 0, none⟩ = some (.int .i64 a0_0) := (blk_cell BK233.out 0).trans rfl
      have hcz46_1 : wr.cell? ⟨gb233, 1, none⟩ = some (.string (a0_1.extract 0 ((ji3) : Int).toNat)) := (blk_cell BK233.out 1).trans rfl
      have hcz46_2 : wr.cell? ⟨gb233, 2, none⟩ = some (u234002) := (blk_cell BK233.out 2).trans rfl
      have hfz46_0 := blk_frozen BK233.out 0
      have hfz46_1 := blk_frozen BK233.out 1
      have hfz46_2 := blk_frozen BK233.out 2
      have hcz47_0 : wr.cell? ⟨gb232, 0, none⟩ = some (.int .i64 0) := (blk_cell BK232.out 0).trans rfl
      have hcz47_1 : wr.cell? ⟨gb232, 1, none⟩ = some (.string (⟨#[]⟩ : ByteArray)) := (blk_cell BK232.out 1).trans rfl
      have hcz47_2 : wr.cell? ⟨gb232, 2, none⟩ = some (.slice none 0 0) := (blk_cell BK232.out 2).trans rfl
      have hfz47_0 := blk_frozen BK232.out 0
      have hfz47_1 := blk_frozen BK232.out 1
      have hfz47_2 := blk_frozen BK232.out 2
      obtain ⟨Ao48, co48, eo48⟩ := Kd.R_slice HO_234002.out
      subst eo48
      go_wp2
      refine bodyPost_ret (results_cell_row rfl _ _ gb232 24 #[.int .i64 a0_0, .string (a0_1.extract 0 ((ji3) : Int).toNat), .slice Ao48 x234002_1.length co48] (0, 0) _ rfl (by refine bkq ?_; refine blk_put (cs := #[.int .i64 a0_0, .string (a0_1.extract 0 ((ji3) : Int).toNat), .slice none 0 0]) ?_ 2 _ rfl; refine bkq ?_; refine blk_put (cs := #[.int .i64 a0_0, .string (⟨#[]⟩ : ByteArray), .slice none 0 0]) ?_ 1 _ rfl; refine bkq ?_; refine blk_put (cs := #[.int .i64 0, .string (⟨#[]⟩ : ByteArray), .slice none 0 0]) ?_ 0 _ rfl; refine bkq ?_; exact BK232.out) Tryd.underlying24 rfl (by kernel_rfl)) rfl ?_
      exact ⟨_, q17_, by refine rkq ?_; exact Kd.R_mono (Kd.R_far (p := ⟨gb232, 2, none⟩) (Kd.R_far (p := ⟨gb232, 1, none⟩) (Kd.R_far (p := ⟨gb232, 0, none⟩) (Kd.R_mono HO_234002.out (fun k_ hk => (⟨hk, hk.2.1⟩ : _ ∧ k_ ≠ gb232))) (fun _ hk => hk.2) (.int .i64 a0_0)) (fun _ hk => hk.2) (.string (a0_1.extract 0 ((ji3) : Int).toNat))) (fun _ hk => hk.2) (.slice Ao48 x234002_1.length co48)) (fun _ hk => trivial), q0_⟩
  ·rw [if_neg c5] at H
   exact absurd H (by simp)
 ·rw [if_neg c4] at H
  exact absurd H (by simp)
def latinerlaw02_Cut.f (k : Nat) (a0_0 : Int) (a0_1 : ByteArray) (l0_2 : List (S24)) : Option (Int × ByteArray × (List (S24))) := (latinerlaw02_cutAt.f k a0_0 a0_1 l0_2 13).bind fun bt245 => (some (bt245.1, bt245.2.1, bt245.2.2))
set_option maxHeartbeats 8000000 in
set_option maxRecDepth 100000 in
theorem latinerlaw02_Cut.calls (k : Nat) (a0_0 : Int) (a0_1 : ByteArray) (A0_2 : Option Addr) (c0_2 : Nat) (l0_2 : List (S24)) (r1 : Int) (r2 : ByteArray) (r3 : List (S24)) (w : World) (hr0_2 : Kd.C k24 w A0_2 l0_2.length l0_2) (hc0_2 : l0_2.length ≤ c0_2) (h : latinerlaw02_Cut.f k a0_0 a0_1 l0_2 = some (r1, r2, r3)) :
  Calls Tryd.prog 13 #[.agg #[.int .i64 a0_0, .string a0_1, .slice A0_2 l0_2.length c0_2]] w fun e w' => ∃ v2_ : Value, e = .returned (.agg #[.int .i64 r1, .string r2, v2_]) ∧ Kd.R k24 24 w' w.heap.size (fun _ => True) v2_ r3 ∧ Below w.heap.size w w' := by
 have hu24 := Tryd.underlying24
 have HR0_2 := Aside0.mk hr0_2
 have HC0_2 := Aside0.mk hc0_2
 clear hr0_2 hc0_2
 have HB := Aside0.mk (Below.refl w.heap.size w)
 have H : ((latinerlaw02_cutAt.f k a0_0 a0_1 l0_2 13).bind fun bt245 => (some (bt245.1, bt245.2.1, bt245.2.2))) = some (r1, r2, r3) := h
 clear h
 replace H := Option.bind_eq_some_iff.mp H
 obtain ⟨⟨t245, t246, t247⟩, A20, H⟩ := H
 replace H : (some (t245, t246, t247)) = some (r1, r2, r3) := H
 have A2 := Aside0.mk A20
 clear A20
 simp only [Option.some.injEq, Prod.mk.injEq] at H
 obtain ⟨rfl, rfl, rfl⟩ := H
 go_enter Tryd.func13, Tryd.ntmps13
 go_wp2_with (first | ((with_reducible refine gate_dst (N := 1) rfl ?_); refine box_event ?hg (N := 1) ?hd (cs := #[.int .i64 a0_0, .string a0_1, .slice A0_2 l0_2.length c0_2]) (t := 24) ?hr ?_; (case hd => rfl); (case hg => rfl); (case hr => first | (go_simp; done) | (go_simp; rfl)); intro gb243 hg w3 hbox hb; have n0_ := Aside0.mk (below_step q0_ hb); have n1_ := Aside0.mk (hbox); have n2_ := Aside0.mk ((by rw [hg]; exact (below_size q0_) : w.heap.size ≤ gb243)); have n3_ := Aside0.mk ((by rw [hg]; exact (below_size q0_) : w.heap.size ≤ gb243)); clear HB; have HB := n0_; have BK243 := n1_; have GW243 := n2_; have GE243 := n3_; clear n0_ n1_ n2_ n3_; clear hb hbox hg) | ((with_reducible refine gate_dst (N := 2) rfl ?_); refine box_event ?hg (N := 2) ?hd (cs := #[.int .i64 0, .string (⟨#[]⟩ : ByteArray), .slice none 0 0]) (t := 24) ?hr ?_; (case hd => rfl); (case hg => rfl); (case hr => first | (go_simp; done) | (go_simp; rfl)); intro gb244 hg w4 hbox hb; have n0_ := Aside0.mk (blk_below (g := gb243) (o := .cells #[.int .i64 a0_0, .string a0_1, .slice A0_2 l0_2.length c0_2] 24 (0, 0)) (bkq BK243.out) hb); have n1_ := Aside0.mk (below_step q0_ hb); have n2_ := Aside0.mk (hbox); have n3_ := Aside0.mk ((by rw [hg]; exact (below_size q0_) : w.heap.size ≤ gb244)); have n4_ := Aside0.mk ((by rw [hg]; exact (below_size q0_) : w.heap.size ≤ gb244)); have n5_ := Aside0.mk ((by rw [hg]; exact Nat.ne_of_lt (blk_lt (g := gb243) (o := .cells #[.int .i64 a0_0, .string a0_1, .slice A0_2 l0_2.length c0_2] 24 (0, 0)) (bkq BK243.out)) : gb243 ≠ gb244)); have n6_ := Aside0.mk ((by rw [hg]; exact Nat.ne_of_gt (blk_lt (g := gb243) (o := .cells #[.int .i64 a0_0, .string a0_1, .slice A0_2 l0_2.length c0_2] 24 (0, 0)) (bkq BK243.out)) : gb244 ≠ gb243)); clear BK243; clear HB; have BK243 := n0_; have HB := n1_; have BK244 := n2_; have GW244 := n3_; have GE244 := n4_; have NB243_244 := n5_; have NB244_243 := n6_; clear n0_ n1_ n2_ n3_ n4_ n5_ n6_; clear hb hbox hg; have hnb5 := NB243_244.out; have hnc5 := NB244_243.out; have hcz6_0 : w4.cell? ⟨gb243, 0, none⟩ = some (.int .i64 a0_0) := (blk_cell BK243.out 0).trans rfl; have hcz6_1 : w4.cell? ⟨gb243, 1, none⟩ = some (.string a0_1) := (blk_cell BK243.out 1).trans rfl; have hcz6_2 : w4.cell? ⟨gb243, 2, none⟩ = some (.slice A0_2 l0_2.length c0_2) := (blk_cell BK243.out 2).trans rfl; have hfz6_0 := blk_frozen BK243.out 0; have hfz6_1 := blk_frozen BK243.out 1; have hfz6_2 := blk_frozen BK243.out 2) | ((with_reducible refine gate_callee (f := 27) rfl ?_); refine goesL_ (some 4) rfl rfl Tryd.func27 (by kernel_rfl) rfl #[.agg #[.int .i64 a0_0, .string a0_1, .slice A0_2 l0_2.length c0_2], .int .i64 13] rfl argq ?_; (with_reducible refine (latinerlaw02_cutAt.calls k a0_0 a0_1 _ _ l0_2 13 t245 t246 t247 _ ?side1 ?side2 A2.out).mono ?_); (case side1 => repeat (first | exact (Kd.C_below HR0_2.out HB.out) | (with_reducible refine Kd.C_alloc ?_ _) | (with_reducible refine Kd.C_drewN ?_ _) | (with_reducible refine Kd.C_drew ?_))); (case side2 => exact HC0_2.out); rintro e w7 ⟨v248, rfl, ho0, hb⟩; refine ⟨_, rfl, ?_⟩; have n0_ := Aside0.mk (Kd.R_lower (Kd.R_newB (Kd.R_newB ho0 (g := gb243) (o := .cells #[.int .i64 a0_0, .string a0_1, .slice A0_2 l0_2.length c0_2] 24 (0, 0)) (bkq BK243.out)) (g := gb244) (o := .cells #[.int .i64 0, .string (⟨#[]⟩ : ByteArray), .slice none 0 0] 24 (0, 0)) (bkq BK244.out)) (below_size q0_)); have n1_ := Aside0.mk (blk_below (g := gb243) (o := .cells #[.int .i64 a0_0, .string a0_1, .slice A0_2 l0_2.length c0_2] 24 (0, 0)) (bkq BK243.out) hb); have n2_ := Aside0.mk (blk_below (g := gb244) (o := .cells #[.int .i64 0, .string (⟨#[]⟩ : ByteArray), .slice none 0 0] 24 (0, 0)) (bkq BK244.out) hb); have n3_ := Aside0.mk (below_step q0_ hb); clear BK243; clear BK244; clear HB; have HO249 := n0_; have BK243 := n1_; have BK244 := n2_; have HB := n3_; clear n0_ n1_ n2_ n3_; (try clear hb); (try clear hb2); (try clear hk); (try clear hi); (try clear ho0); have hcz8_0 : w7.cell? ⟨gb244, 0, none⟩ = some (.int .i64 0) := (blk_cell BK244.out 0).trans rfl; have hcz8_1 : w7.cell? ⟨gb244, 1, none⟩ = some (.string (⟨#[]⟩ : ByteArray)) := (blk_cell BK244.out 1).trans rfl; have hcz8_2 : w7.cell? ⟨gb244, 2, none⟩ = some (.slice none 0 0) := (blk_cell BK244.out 2).trans rfl; have hfz8_0 := blk_frozen BK244.out 0; have hfz8_1 := blk_frozen BK244.out 1; have hfz8_2 := blk_frozen BK244.out 2; obtain ⟨Ao9, co9, eo9⟩ := Kd.R_slice HO249.out; subst eo9))
 refine bodyPost_ret (results_cell_row rfl _ _ gb244 24 #[.int .i64 t245, .string t246, .slice Ao9 t247.length co9] (0, 0) _ rfl (by refine bkq ?_; refine blk_put (cs := #[.int .i64 t245, .string t246, .slice none 0 0]) ?_ 2 _ rfl; refine bkq ?_; refine blk_put (cs := #[.int .i64 t245, .string (⟨#[]⟩ : ByteArray), .slice none 0 0]) ?_ 1 _ rfl; refine bkq ?_; refine blk_put (cs := #[.int .i64 0, .string (⟨#[]⟩ : ByteArray), .slice none 0 0]) ?_ 0 _ rfl; refine bkq ?_; exact BK244.out) Tryd.underlying24 rfl (by kernel_rfl)) rfl ?_
 exact ⟨_, q2_, by refine rkq ?_; exact Kd.R_mono (Kd.R_far (p := ⟨gb244, 2, none⟩) (Kd.R_far (p := ⟨gb244, 1, none⟩) (Kd.R_far (p := ⟨gb244, 0, none⟩) (Kd.R_mono HO249.out (fun k_ hk => (⟨hk, hk.2⟩ : _ ∧ k_ ≠ gb244))) (fun _ hk => hk.2) (.int .i64 t245)) (fun _ hk => hk.2) (.string t246)) (fun _ hk => hk.2) (.slice Ao9 t247.length co9)) (fun _ hk => trivial), q0_⟩
end Go.Proofs.YthnddhgkjkpmfaaDoor.LTlvC
/- Trees' laws, plainly: what all of them begin with. -/
namespace Go.Proofs.YthnddhgkjkpmfaaDoor
set_option linter.unusedSimpArgs false
set_option linter.unusedVariables false
namespace Tlv
open Go.RowKit Go.Proofs.YthnddhgkjkpmfaaDoorW.PrintWords Go.Proofs.YthnddhgkjkpmfaaDoorW.PrintMore Go.Proofs.YthnddhgkjkpmfaaDoor.PureB Go.Proofs.YthnddhgkjkpmfaaDoor.KTlv Go.Proofs.YthnddhgkjkpmfaaDoor.ExtTlvC Go.Proofs.YthnddhgkjkpmfaaDoor.LTlvC
theorem shown_true : latinerlaw02_shown.f 3000 = some true := by decide +kernel
theorem shown_f (k : Nat) (hk : 3000 ≤ k) : latinerlaw02_shown.f k = some true := at_rounds (g := latinerlaw02_shown.f) latinerlaw02_shown.mono hk shown_true
mutual
def cutT : Nat → Nd → Nd
  | d, ⟨t, b, ks⟩ => ⟨t, b.extract 0 (min b.size 4000), if d ≤ 1 then [] else cutL (d - 1) 60 ks⟩
def cutL : Nat → Nat → List Nd → List Nd
  | _, _, [] => []
  | _, 0, _ :: _ => []
  | d, n + 1, k :: ks => cutT d k :: cutL d n ks
end
theorem cutL_len : ∀ (n d : Nat) (ks : List Nd), (cutL d n ks).length ≤ n
  | _, _, [] => by simp [cutL]
  | 0, _, _ :: _ => by simp [cutL]
  | n + 1, d, k :: ks => by rw [cutL, List.length_cons]; have := cutL_len n d ks; omega
theorem cutL_eq : ∀ (n d : Nat) (ks : List Nd), cutL d n ks = (ks.take n).map (cutT d)
  | _, _, [] => by simp [cutL]
  | 0, _, _ :: _ => by simp [cutL]
  | n + 1, d, k :: ks => by rw [cutL, cutL_eq n d ks]; rfl
theorem cut_eq (d : Nat) (x : Nd) : cutT d x = ⟨x.f0, x.f1.extract 0 (min x.f1.size 4000), if d ≤ 1 then [] else (x.f2.take 60).map (cutT (d - 1))⟩ := by
  obtain ⟨t, b, ks⟩ := x
  rw [cutT]
  congr 1
  split
  · rfl
  · exact cutL_eq _ _ _
theorem mn_nat (n : Nat) (m : Nat) : mn (n : Int) (m : Int) = ((min n m : Nat) : Int) := by unfold mn; split <;> omega
theorem cutAt_f : ∀ (m : Nat) (x : Nd), SizeOf.sizeOf x < m → ∀ (d k : Nat), 1 ≤ d → d ≤ 1000 → 63 * d ≤ k → latinerlaw02_cutAt.f k x.f0 x.f1 x.f2 (d : Int) = some ((cutT d x).f0, (cutT d x).f1, (cutT d x).f2) := by
  intro m
  induction m with
  | zero => intro x h; exact absurd h (Nat.not_lt_zero _)
  | succ m ih =>
    intro x hx d k hd hd2 hk
    obtain ⟨k, rfl⟩ : ∃ j, k = j + 1 := ⟨k - 1, by omega⟩
    rw [cut_eq]
    simp only [latinerlaw02_cutAt.f]
    have hm := mn_nat x.f1.size 4000
    rw [show ((4000 : Nat) : Int) = 4000 from rfl] at hm
    rw [hm, if_pos (by omega), if_pos (by omega), Int.toNat_natCast]
    have loop : ∀ (r i k : Nat) (acc : List Nd), i + r = 60 → 63 * (d - 1) + r + 1 ≤ k → acc.length ≤ i →
        latinerlaw02_cutAt.l0 k (d : Int) (i : Int) x.f0 x.f1 x.f2 x.f0 (x.f1.extract 0 (min x.f1.size 4000)) acc = some (x.f0, x.f1.extract 0 (min x.f1.size 4000), if d ≤ 1 then acc else acc ++ ((x.f2.drop i).take r).map (cutT (d - 1))) := by
      intro r
      induction r with
      | zero =>
        intro i k acc hi hk _
        obtain ⟨k, rfl⟩ : ∃ j, k = j + 1 := ⟨k - 1, by omega⟩
        simp only [latinerlaw02_cutAt.l0]
        have e : ((x.f2.drop i).take 0).map (cutT (d - 1)) = [] := by simp
        rw [e, List.append_nil, ite_self]
        by_cases h1 : (i : Int) < (x.f2.length : Int)
        · rw [if_pos h1, if_neg (by omega)]
        · rw [if_neg h1]
      | succ r ihr =>
        intro i k acc hi hk hacc
        obtain ⟨k, rfl⟩ : ∃ j, k = j + 1 := ⟨k - 1, by omega⟩
        simp only [latinerlaw02_cutAt.l0]
        by_cases h1 : i < x.f2.length
        · rw [if_pos (show (i : Int) < (x.f2.length : Int) by omega), if_pos (show (i : Int) < 60 by omega)]
          by_cases h2 : d ≤ 1
          · rw [if_neg (show ¬ (d : Int) > 1 by omega), if_pos h2]
          · rw [if_pos (show (d : Int) > 1 by omega), if_pos (show (0 : Int) ≤ i by omega), rd_at x.f2 i h1, w64 (n := (d : Int) - 1) (by omega) (by omega), show (d : Int) - 1 = ((d - 1 : Nat) : Int) by omega]
            have hmem : x.f2[i] ∈ x.f2 := List.getElem_mem h1
            rw [ih x.f2[i] (by have := kid_lt5 hmem; omega) (d - 1) k (by omega) (by omega) (by omega)]
            simp only [Option.bind_some]
            rw [if_pos (by omega), w64 (n := (i : Int) + 1) (by omega) (by omega), eta]
            have := ihr (i + 1) k (acc ++ [cutT (d - 1) x.f2[i]]) (by omega) (by omega) (by rw [List.length_append, List.length_singleton]; omega)
            rw [show (i : Int) + 1 = ((i + 1 : Nat) : Int) by omega, this, if_neg h2, if_neg h2, List.drop_eq_getElem_cons h1, List.take_succ_cons, List.map_cons, List.append_assoc]
            rfl
        · rw [if_neg (show ¬ (i : Int) < (x.f2.length : Int) by omega), List.drop_eq_nil_of_le (by omega)]
          simp
    have := loop 60 0 k [] rfl (by omega) (by simp)
    rw [List.nil_append, List.drop_zero] at this
    exact this
theorem cut_f (x : Nd) (k : Nat) (hk : 1000 ≤ k) : latinerlaw02_Cut.f k x.f0 x.f1 x.f2 = some ((cutT 13 x).f0, (cutT 13 x).f1, (cutT 13 x).f2) := by
  unfold latinerlaw02_Cut.f
  have := cutAt_f _ x (Nat.lt_succ_self _) 13 k (by omega) (by omega) (by omega)
  rw [show ((13 : Nat) : Int) = 13 from rfl] at this
  rw [this]
  rfl
theorem cut_few (x : Nd) : few (cutT 13 x) = true := by
  rw [few_iff]
  have key : ∀ (n : Nat) (x : Nd) (e : Int), ∀ p ∈ pre e (cutT n x), p.2.f2.length ≤ 60 := by
    intro n
    induction n with
    | zero =>
      intro x e p hp
      rw [cut_eq, if_pos (by omega), pre, preL] at hp
      rw [List.mem_singleton.1 hp]
      simp
    | succ n ih =>
      intro x e p hp
      rw [cut_eq, pre, preL_flat'] at hp
      rcases List.mem_cons.1 hp with rfl | hp
      · show (if n + 1 ≤ 1 then [] else List.map (cutT (n + 1 - 1)) (List.take 60 x.f2)).length ≤ 60
        split
        · simp
        · rw [List.length_map, List.length_take]; omega
      · obtain ⟨y, hy, hpy⟩ := List.mem_flatMap.1 hp
        split at hy
        · cases hy
        · obtain ⟨z, _, rfl⟩ := List.mem_map.1 hy
          exact ih z _ p hpy
  intro p hp
  have := key 13 x 1 p hp
  omega
theorem cuts_f (s : ByteArray) : latinerlaw02_cut.f s = some (s.extract 0 (min s.size 4100)) ∧ (s.extract 0 (min s.size 4100)).size ≤ 4100 := by
  unfold latinerlaw02_cut.f
  have hm := mn_nat s.size 4100
  rw [show ((4100 : Nat) : Int) = 4100 from rfl] at hm
  rw [hm, if_pos (by omega), if_pos (by omega), Int.toNat_natCast]
  refine ⟨rfl, ?_⟩
  rw [extract_size s 0 _ (by omega)]
  omega
theorem same_self (x : Nd) : same x x = true := (same_iff x x).2 rfl
theorem same_f (x y : Nd) : tlv_Same.f x.f0 x.f1 x.f2 y.f0 y.f1 y.f2 = some (same x y) := by unfold tlv_Same.f; rw [eta, eta]
theorem enc_ok {x : Nd} (h : (enc x).2 = 0) : right x = true ∧ enc x = (laid x, 0) := by
  unfold enc at h ⊢
  by_cases hr : right x = true
  · rw [if_pos hr]; exact ⟨hr, rfl⟩
  · rw [if_neg hr] at h; exact absurd h (by simp)
theorem enc_no {x : Nd} (h : ¬ (enc x).2 = 0) : right x = false ∧ enc x = (⟨#[]⟩, 21) := by
  unfold enc at h ⊢
  by_cases hr : right x = true
  · rw [if_pos hr] at h; exact absurd rfl h
  · rw [if_neg hr]; exact ⟨by simpa using hr, rfl⟩
theorem nil_list : (⟨#[]⟩ : ByteArray).toList = [] := toList_nil.2 rfl
theorem right_few {x : Nd} (h : right x = true) : few x = true := few_of_len (by have := (right_parts h).1; omega)
end Tlv
end Go.Proofs.YthnddhgkjkpmfaaDoor
