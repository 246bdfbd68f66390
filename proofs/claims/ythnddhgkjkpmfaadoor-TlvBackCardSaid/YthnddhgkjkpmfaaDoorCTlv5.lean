/- CTlv5: own texts of this seat, laid as one. -/
import Derived.Test.YthnddhgkjkpmfaaDoorCTlv4
-- Written by this repo's own program over the kit's printer: YthnddhgkjkpmfaaDoor.LTlvC
namespace Go.Proofs.YthnddhgkjkpmfaaDoor.LTlvC
open Go.Proofs.YthnddhgkjkpmfaaDoor.ExtTlvC
open Go.Proofs.YthnddhgkjkpmfaaDoor.KTlv
open Go.RowKit Go.Proofs.YthnddhgkjkpmfaaDoorW.PrintWords Go.Proofs.YthnddhgkjkpmfaaDoorW.PrintLast Go.Proofs.YthnddhgkjkpmfaaDoorW.PrintMore
attribute [local go_sem] max2_int min2_int max_two min_two max_three min_three max_four min_four   -- for this text's walks alone
attribute [local go_sem] some_set
set_option linter.unusedVariables false
set_option linter.unusedSimpArgs false
variable {G : Gl}
def tlv_Right.f (a0_0 : Int) (a0_1 : ByteArray) (l0_2 : List (S24)) : Option (Bool) := (tlv_isShaped.f a0_0 a0_1 l0_2).bind fun t113 => (if t113 = true then ((tlv_laid.f a0_0 a0_1 l0_2).bind fun t114 => (some (decide ((t114.size : Int) ≤ 4000)))) else (some false))
set_option maxHeartbeats 8000000 in
set_option maxRecDepth 100000 in
theorem tlv_Right.calls (a0_0 : Int) (a0_1 : ByteArray) (A0_2 : Option Addr) (c0_2 : Nat) (l0_2 : List (S24)) (r : Bool) (w : World) (hr0_2 : Kd.C k24 w A0_2 l0_2.length l0_2) (hc0_2 : l0_2.length ≤ c0_2) (hG : GW G w) (h : tlv_Right.f a0_0 a0_1 l0_2 = some r) :
  Calls Tryd.prog 21 #[.agg #[.int .i64 a0_0, .string a0_1, .slice A0_2 l0_2.length c0_2]] w fun e w' => e = .returned (.bool r) ∧ Below w.heap.size w w' := by
 have hu24 := Tryd.underlying24
 have HR0_2 := Aside0.mk hr0_2
 have HC0_2 := Aside0.mk hc0_2
 clear hr0_2 hc0_2
 have HB := Aside0.mk (Below.refl w.heap.size w)
 have H : ((tlv_isShaped.f a0_0 a0_1 l0_2).bind fun t113 => (if t113 = true then ((tlv_laid.f a0_0 a0_1 l0_2).bind fun t114 => (some (decide ((t114.size : Int) ≤ 4000)))) else (some false))) = some r := h
 clear h
 replace H := Option.bind_eq_some_iff.mp H
 obtain ⟨t113, A20, H⟩ := H
 replace H : (if t113 = true then ((tlv_laid.f a0_0 a0_1 l0_2).bind fun t114 => (some (decide ((t114.size : Int) ≤ 4000)))) else (some false)) = some r := H
 have A2 := Aside0.mk A20
 clear A20
 by_cases c3 : t113 = true
 ·subst c3
  have H1 : ((tlv_laid.f a0_0 a0_1 l0_2).bind fun t114 => (some (decide ((t114.size : Int) ≤ 4000)))) = some r := by rw [if_pos rfl] at H; exact H
  clear H
  have H := H1
  clear H1
  replace H := Option.bind_eq_some_iff.mp H
  obtain ⟨t114, A40, H⟩ := H
  replace H : (some (decide ((t114.size : Int) ≤ 4000))) = some r := H
  have A4 := Aside0.mk A40
  clear A40
  obtain rfl := Option.some.inj H
  go_enter Tryd.func21, Tryd.ntmps21
  go_wp2_with (first | ((with_reducible refine gate_dst (N := 1) rfl ?_); (try (refine gate_guard (by rfl) ?_; dsimp only)); refine box_event ?hg (N := 1) ?hd (cs := #[.int .i64 a0_0, .string a0_1, .slice A0_2 l0_2.length c0_2]) (t := 24) ?hr ?_; (case hd => rfl); (case hg => rfl); (case hr => first | (go_simp; done) | (go_simp; rfl)); intro gb112 hg w5 hbox hb; have n0_ := Aside0.mk (below_step q0_ hb); have n1_ := Aside0.mk (hbox); have n2_ := Aside0.mk ((by rw [hg]; exact (below_size q0_) : w.heap.size ≤ gb112)); have n3_ := Aside0.mk ((by rw [hg]; exact (below_size q0_) : w.heap.size ≤ gb112)); clear HB; have HB := n0_; have BK112 := n1_; have GW112 := n2_; have GE112 := n3_; clear n0_ n1_ n2_ n3_; clear hb hbox hg; have hcz6_0 : w5.cell? ⟨gb112, 0, none⟩ = some (.int .i64 a0_0) := (blk_cell BK112.out 0).trans rfl; have hcz6_1 : w5.cell? ⟨gb112, 1, none⟩ = some (.string a0_1) := (blk_cell BK112.out 1).trans rfl; have hcz6_2 : w5.cell? ⟨gb112, 2, none⟩ = some (.slice A0_2 l0_2.length c0_2) := (blk_cell BK112.out 2).trans rfl; have hfz6_0 := blk_frozen BK112.out 0; have hfz6_1 := blk_frozen BK112.out 1; have hfz6_2 := blk_frozen BK112.out 2) | ((with_reducible refine gate_callee (f := 34) rfl ?_); refine goesL_ (some 4) rfl rfl Tryd.func34 (by kernel_rfl) rfl #[.agg #[.int .i64 a0_0, .string a0_1, .slice A0_2 l0_2.length c0_2]] rfl argq ?_; (with_reducible refine (tlv_isShaped.calls a0_0 a0_1 _ _ l0_2 true _ ?side1 ?side2 A2.out).mono ?_); (case side1 => repeat (first | exact (Kd.C_below HR0_2.out HB.out) | (with_reducible refine Kd.C_alloc ?_ _) | (with_reducible refine Kd.C_drewN ?_ _) | (with_reducible refine Kd.C_drew ?_))); (case side2 => exact HC0_2.out); rintro e w7 ⟨rfl, hb⟩; refine ⟨_, rfl, ?_⟩; have n0_ := Aside0.mk (blk_below (g := gb112) (o := .cells #[.int .i64 a0_0, .string a0_1, .slice A0_2 l0_2.length c0_2] 24 (0, 0)) (bkq BK112.out) hb); have n1_ := Aside0.mk (below_step q0_ hb); clear BK112; clear HB; have BK112 := n0_; have HB := n1_; clear n0_ n1_; (try clear hb); (try clear hb2); (try clear hk); (try clear hi); have hcz8_0 : w7.cell? ⟨gb112, 0, none⟩ = some (.int .i64 a0_0) := (blk_cell BK112.out 0).trans rfl; have hcz8_1 : w7.cell? ⟨gb112, 1, none⟩ = some (.string a0_1) := (blk_cell BK112.out 1).trans rfl; have hcz8_2 : w7.cell? ⟨gb112, 2, none⟩ = some (.slice A0_2 l0_2.length c0_2) := (blk_cell BK112.out 2).trans rfl; have hfz8_0 := blk_frozen BK112.out 0; have hfz8_1 := blk_frozen BK112.out 1; have hfz8_2 := blk_frozen BK112.out 2) | (go_at_call 29; (with_reducible refine (tlv_laid.calls (G := G) a0_0 a0_1 _ _ l0_2 t114 _ ?side1 ?side2 ?side3 A4.out).mono ?_); (case side1 => repeat (first | exact (Kd.C_below HR0_2.out HB.out) | (with_reducible refine Kd.C_alloc ?_ _) | (with_reducible refine Kd.C_drewN ?_ _) | (with_reducible refine Kd.C_drew ?_))); (case side2 => exact HC0_2.out); (case side3 => first | exact hG | exact GW.below hG q0_); rintro e w9 ⟨rfl, hb⟩; have n0_ := Aside0.mk (blk_below (g := gb112) (o := .cells #[.int .i64 a0_0, .string a0_1, .slice A0_2 l0_2.length c0_2] 24 (0, 0)) (bkq BK112.out) hb); have n1_ := Aside0.mk (below_step q0_ hb); clear BK112; clear HB; have BK112 := n0_; have HB := n1_; clear n0_ n1_; (try clear hb); (try clear hb2); (try clear hk); (try clear hi)))
  go_ret
  exact ⟨q2_, q0_⟩
 ·replace c3 := Bool.eq_false_iff.mpr c3
  subst c3
  have H1 : (some false) = some r := by rw [if_neg (show ¬ (false = true) by decide)] at H; exact H
  clear H
  have H := H1
  clear H1
  obtain rfl := Option.some.inj H
  go_enter Tryd.func21, Tryd.ntmps21
  go_wp2_with (first | ((with_reducible refine gate_dst (N := 1) rfl ?_); (try (refine gate_guard (by rfl) ?_; dsimp only)); refine box_event ?hg (N := 1) ?hd (cs := #[.int .i64 a0_0, .string a0_1, .slice A0_2 l0_2.length c0_2]) (t := 24) ?hr ?_; (case hd => rfl); (case hg => rfl); (case hr => first | (go_simp; done) | (go_simp; rfl)); intro gb112 hg w10 hbox hb; have n0_ := Aside0.mk (below_step q0_ hb); have n1_ := Aside0.mk (hbox); have n2_ := Aside0.mk ((by rw [hg]; exact (below_size q0_) : w.heap.size ≤ gb112)); have n3_ := Aside0.mk ((by rw [hg]; exact (below_size q0_) : w.heap.size ≤ gb112)); clear HB; have HB := n0_; have BK112 := n1_; have GW112 := n2_; have GE112 := n3_; clear n0_ n1_ n2_ n3_; clear hb hbox hg; have hcz11_0 : w10.cell? ⟨gb112, 0, none⟩ = some (.int .i64 a0_0) := (blk_cell BK112.out 0).trans rfl; have hcz11_1 : w10.cell? ⟨gb112, 1, none⟩ = some (.string a0_1) := (blk_cell BK112.out 1).trans rfl; have hcz11_2 : w10.cell? ⟨gb112, 2, none⟩ = some (.slice A0_2 l0_2.length c0_2) := (blk_cell BK112.out 2).trans rfl; have hfz11_0 := blk_frozen BK112.out 0; have hfz11_1 := blk_frozen BK112.out 1; have hfz11_2 := blk_frozen BK112.out 2) | ((with_reducible refine gate_callee (f := 34) rfl ?_); refine goesL_ (some 4) rfl rfl Tryd.func34 (by kernel_rfl) rfl #[.agg #[.int .i64 a0_0, .string a0_1, .slice A0_2 l0_2.length c0_2]] rfl argq ?_; (with_reducible refine (tlv_isShaped.calls a0_0 a0_1 _ _ l0_2 false _ ?side1 ?side2 A2.out).mono ?_); (case side1 => repeat (first | exact (Kd.C_below HR0_2.out HB.out) | (with_reducible refine Kd.C_alloc ?_ _) | (with_reducible refine Kd.C_drewN ?_ _) | (with_reducible refine Kd.C_drew ?_))); (case side2 => exact HC0_2.out); rintro e w12 ⟨rfl, hb⟩; refine ⟨_, rfl, ?_⟩; have n0_ := Aside0.mk (blk_below (g := gb112) (o := .cells #[.int .i64 a0_0, .string a0_1, .slice A0_2 l0_2.length c0_2] 24 (0, 0)) (bkq BK112.out) hb); have n1_ := Aside0.mk (below_step q0_ hb); clear BK112; clear HB; have BK112 := n0_; have HB := n1_; clear n0_ n1_; (try clear hb); (try clear hb2); (try clear hk); (try clear hi)))
  go_ret
  exact ⟨q2_, q0_⟩
def tlv_Encode.f (a0_0 : Int) (a0_1 : ByteArray) (l0_2 : List (S24)) : Option (ByteArray × Int) := (tlv_Right.f a0_0 a0_1 l0_2).bind fun t116 => (if t116 = true then ((tlv_laid.f a0_0 a0_1 l0_2).bind fun t117 => (some (t117, 0))) else ((tlv_told.f (some (Er.node 0))).bind fun t118 => (some ((⟨#[]⟩ : ByteArray), t118))))
set_option maxHeartbeats 8000000 in
set_option maxRecDepth 100000 in
theorem tlv_Encode.calls (a0_0 : Int) (a0_1 : ByteArray) (A0_2 : Option Addr) (c0_2 : Nat) (l0_2 : List (S24)) (r1 : ByteArray) (r2 : Int) (w : World) (hr0_2 : Kd.C k24 w A0_2 l0_2.length l0_2) (hc0_2 : l0_2.length ≤ c0_2) (hG : GW G w) (h : tlv_Encode.f a0_0 a0_1 l0_2 = some (r1, r2)) :
  Calls Tryd.prog 15 #[.agg #[.int .i64 a0_0, .string a0_1, .slice A0_2 l0_2.length c0_2]] w fun e w' => e = .returned (.tuple #[.string r1, .int .i64 r2]) ∧ Below w.heap.size w w' := by
 have hu24 := Tryd.underlying24
 have hu49 := Tryd.underlying49
 have HR0_2 := Aside0.mk hr0_2
 have HC0_2 := Aside0.mk hc0_2
 clear hr0_2 hc0_2
 have HB := Aside0.mk (Below.refl w.heap.size w)
 have H : ((tlv_Right.f a0_0 a0_1 l0_2).bind fun t116 => (if t116 = true then ((tlv_laid.f a0_0 a0_1 l0_2).bind fun t117 => (some (t117, 0))) else ((tlv_told.f (some (Er.node 0))).bind fun t118 => (some ((⟨#[]⟩ : ByteArray), t118))))) = some (r1, r2) := h
 clear h
 replace H := Option.bind_eq_some_iff.mp H
 obtain ⟨t116, A20, H⟩ := H
 replace H : (if t116 = true then ((tlv_laid.f a0_0 a0_1 l0_2).bind fun t117 => (some (t117, 0))) else ((tlv_told.f (some (Er.node 0))).bind fun t118 => (some ((⟨#[]⟩ : ByteArray), t118)))) = some (r1, r2) := H
 have A2 := Aside0.mk A20
 clear A20
 by_cases c3 : t116 = true
 ·subst c3
  have H1 : ((tlv_laid.f a0_0 a0_1 l0_2).bind fun t117 => (some (t117, 0))) = some (r1, r2) := by rw [if_pos rfl] at H; exact H
  clear H
  have H := H1
  clear H1
  replace H := Option.bind_eq_some_iff.mp H
  obtain ⟨t117, A40, H⟩ := H
  replace H : (some (t117, 0)) = some (r1, r2) := H
  have A4 := Aside0.mk A40
  clear A40
  simp only [Option.some.injEq, Prod.mk.injEq] at H
  obtain ⟨rfl, rfl⟩ := H
  go_enter Tryd.func15, Tryd.ntmps15
  go_wp2_with (first | ((with_reducible refine gate_dst (N := 1) rfl ?_); refine box_event ?hg (N := 1) ?hd (cs := #[.int .i64 a0_0, .string a0_1, .slice A0_2 l0_2.length c0_2]) (t := 24) ?hr ?_; (case hd => rfl); (case hg => rfl); (case hr => first | (go_simp; done) | (go_simp; rfl)); intro gb115 hg w5 hbox hb; have n0_ := Aside0.mk (below_step q0_ hb); have n1_ := Aside0.mk (hbox); have n2_ := Aside0.mk ((by rw [hg]; exact (below_size q0_) : w.heap.size ≤ gb115)); have n3_ := Aside0.mk ((by rw [hg]; exact (below_size q0_) : w.heap.size ≤ gb115)); clear HB; have HB := n0_; have BK115 := n1_; have GW115 := n2_; have GE115 := n3_; clear n0_ n1_ n2_ n3_; clear hb hbox hg; have hcz6_0 : w5.cell? ⟨gb115, 0, none⟩ = some (.int .i64 a0_0) := (blk_cell BK115.out 0).trans rfl; have hcz6_1 : w5.cell? ⟨gb115, 1, none⟩ = some (.string a0_1) := (blk_cell BK115.out 1).trans rfl; have hcz6_2 : w5.cell? ⟨gb115, 2, none⟩ = some (.slice A0_2 l0_2.length c0_2) := (blk_cell BK115.out 2).trans rfl; have hfz6_0 := blk_frozen BK115.out 0; have hfz6_1 := blk_frozen BK115.out 1; have hfz6_2 := blk_frozen BK115.out 2) | ((with_reducible refine gate_callee (f := 21) rfl ?_); refine goesL_ (some 5) rfl rfl Tryd.func21 (by kernel_rfl) rfl #[.agg #[.int .i64 a0_0, .string a0_1, .slice A0_2 l0_2.length c0_2]] rfl argq ?_; (with_reducible refine (tlv_Right.calls (G := G) a0_0 a0_1 _ _ l0_2 true _ ?side1 ?side2 ?side3 A2.out).mono ?_); (case side1 => repeat (first | exact (Kd.C_below HR0_2.out HB.out) | (with_reducible refine Kd.C_alloc ?_ _) | (with_reducible refine Kd.C_drewN ?_ _) | (with_reducible refine Kd.C_drew ?_))); (case side2 => exact HC0_2.out); (case side3 => first | exact hG | exact GW.below hG q0_); rintro e w7 ⟨rfl, hb⟩; refine ⟨_, rfl, ?_⟩; have n0_ := Aside0.mk (blk_below (g := gb115) (o := .cells #[.int .i64 a0_0, .string a0_1, .slice A0_2 l0_2.length c0_2] 24 (0, 0)) (bkq BK115.out) hb); have n1_ := Aside0.mk (below_step q0_ hb); clear BK115; clear HB; have BK115 := n0_; have HB := n1_; clear n0_ n1_; (try clear hb); (try clear hb2); (try clear hk); (try clear hi); have hcz8_0 : w7.cell? ⟨gb115, 0, none⟩ = some (.int .i64 a0_0) := (blk_cell BK115.out 0).trans rfl; have hcz8_1 : w7.cell? ⟨gb115, 1, none⟩ = some (.string a0_1) := (blk_cell BK115.out 1).trans rfl; have hcz8_2 : w7.cell? ⟨gb115, 2, none⟩ = some (.slice A0_2 l0_2.length c0_2) := (blk_cell BK115.out 2).trans rfl; have hfz8_0 := blk_frozen BK115.out 0; have hfz8_1 := blk_frozen BK115.out 1; have hfz8_2 := blk_frozen BK115.out 2) | ((with_reducible refine gate_callee (f := 29) rfl ?_); refine goesL_ (some 12) rfl rfl Tryd.func29 (by kernel_rfl) rfl #[.agg #[.int .i64 a0_0, .string a0_1, .slice A0_2 l0_2.length c0_2]] rfl argq ?_; (with_reducible refine (tlv_laid.calls (G := G) a0_0 a0_1 _ _ l0_2 t117 _ ?side1 ?side2 ?side3 A4.out).mono ?_); (case side1 => repeat (first | exact (Kd.C_below HR0_2.out HB.out) | (with_reducible refine Kd.C_alloc ?_ _) | (with_reducible refine Kd.C_drewN ?_ _) | (with_reducible refine Kd.C_drew ?_))); (case side2 => exact HC0_2.out); (case side3 => first | exact hG | exact GW.below hG q0_); rintro e w9 ⟨rfl, hb⟩; refine ⟨_, rfl, ?_⟩; have n0_ := Aside0.mk (blk_below (g := gb115) (o := .cells #[.int .i64 a0_0, .string a0_1, .slice A0_2 l0_2.length c0_2] 24 (0, 0)) (bkq BK115.out) hb); have n1_ := Aside0.mk (below_step q0_ hb); clear BK115; clear HB; have BK115 := n0_; have HB := n1_; clear n0_ n1_; (try clear hb); (try clear hb2); (try clear hk); (try clear hi)))
  go_ret2
  exact ⟨q2_, q0_⟩
 ·replace c3 := Bool.eq_false_iff.mpr c3
  subst c3
  have H1 : ((tlv_told.f (some (Er.node 0))).bind fun t118 => (some ((⟨#[]⟩ : ByteArray), t118))) = some (r1, r2) := by rw [if_neg (show ¬ (false = true) by decide)] at H; exact H
  clear H
  have H := H1
  clear H1
  replace H := Option.bind_eq_some_iff.mp H
  obtain ⟨t118, A100, H⟩ := H
  replace H : (some ((⟨#[]⟩ : ByteArray), t118)) = some (r1, r2) := H
  have A10 := Aside0.mk A100
  clear A100
  simp only [Option.some.injEq, Prod.mk.injEq] at H
  obtain ⟨rfl, rfl⟩ := H
  go_enter Tryd.func15, Tryd.ntmps15
  go_wp2_with (first | ((with_reducible refine gate_dst (N := 1) rfl ?_); refine box_event ?hg (N := 1) ?hd (cs := #[.int .i64 a0_0, .string a0_1, .slice A0_2 l0_2.length c0_2]) (t := 24) ?hr ?_; (case hd => rfl); (case hg => rfl); (case hr => first | (go_simp; done) | (go_simp; rfl)); intro gb115 hg w11 hbox hb; have n0_ := Aside0.mk (below_step q0_ hb); have n1_ := Aside0.mk (hbox); have n2_ := Aside0.mk ((by rw [hg]; exact (below_size q0_) : w.heap.size ≤ gb115)); have n3_ := Aside0.mk ((by rw [hg]; exact (below_size q0_) : w.heap.size ≤ gb115)); clear HB; have HB := n0_; have BK115 := n1_; have GW115 := n2_; have GE115 := n3_; clear n0_ n1_ n2_ n3_; clear hb hbox hg; have hcz12_0 : w11.cell? ⟨gb115, 0, none⟩ = some (.int .i64 a0_0) := (blk_cell BK115.out 0).trans rfl; have hcz12_1 : w11.cell? ⟨gb115, 1, none⟩ = some (.string a0_1) := (blk_cell BK115.out 1).trans rfl; have hcz12_2 : w11.cell? ⟨gb115, 2, none⟩ = some (.slice A0_2 l0_2.length c0_2) := (blk_cell BK115.out 2).trans rfl; have hfz12_0 := blk_frozen BK115.out 0; have hfz12_1 := blk_frozen BK115.out 1; have hfz12_2 := blk_frozen BK115.out 2) | ((with_reducible refine gate_callee (f := 21) rfl ?_); refine goesL_ (some 5) rfl rfl Tryd.func21 (by kernel_rfl) rfl #[.agg #[.int .i64 a0_0, .string a0_1, .slice A0_2 l0_2.length c0_2]] rfl argq ?_; (with_reducible refine (tlv_Right.calls (G := G) a0_0 a0_1 _ _ l0_2 false _ ?side1 ?side2 ?side3 A2.out).mono ?_); (case side1 => repeat (first | exact (Kd.C_below HR0_2.out HB.out) | (with_reducible refine Kd.C_alloc ?_ _) | (with_reducible refine Kd.C_drewN ?_ _) | (with_reducible refine Kd.C_drew ?_))); (case side2 => exact HC0_2.out); (case side3 => first | exact hG | exact GW.below hG q0_); rintro e w13 ⟨rfl, hb⟩; refine ⟨_, rfl, ?_⟩; have n0_ := Aside0.mk (blk_below (g := gb115) (o := .cells #[.int .i64 a0_0, .string a0_1, .slice A0_2 l0_2.length c0_2] 24 (0, 0)) (bkq BK115.out) hb); have n1_ := Aside0.mk (below_step q0_ hb); clear BK115; clear HB; have BK115 := n0_; have HB := n1_; clear n0_ n1_; (try clear hb); (try clear hb2); (try clear hk); (try clear hi); have hcz14 : w13.cell? ⟨0, 0, none⟩ = some (GC0 G) := GW.c0 (GW.below hG q0_); simp only [GC0] at hcz14; have hnbz14_0 := (Nat.ne_of_lt (Nat.lt_of_lt_of_le (GW.lt0 hG) GE115.out)); have hncz14_0 := Ne.symm (Nat.ne_of_lt (Nat.lt_of_lt_of_le (GW.lt0 hG) GE115.out)); have CA10 := fun W (hG_ : GW G W) => tlv_told.calls (some (Er.node 0)) t118 W hG_ A10.out; try simp only [eW] at CA10) | (go_at_call 28; (with_reducible refine (CA10 _ ?side1).mono ?_); (case side1 => first | exact hG | exact GW.below hG q0_); rintro e w15 ⟨rfl, hb⟩; have n0_ := Aside0.mk (blk_below (g := gb115) (o := .cells #[.int .i64 a0_0, .string a0_1, .slice A0_2 l0_2.length c0_2] 24 (0, 0)) (bkq BK115.out) hb); have n1_ := Aside0.mk (below_step q0_ hb); clear BK115; clear HB; have BK115 := n0_; have HB := n1_; clear n0_ n1_; (try clear hb); (try clear hb2); (try clear hk); (try clear hi)))
  go_ret2
  exact ⟨q2_, q0_⟩
def tlv_isInner.f (a0 : Int) : Option (Bool) := some ((Go.bits .and .i64 a0 32) != 0)
set_option maxHeartbeats 8000000 in
set_option maxRecDepth 100000 in
theorem tlv_isInner.calls (a0 : Int) (r : Bool) (w : World) (h : tlv_isInner.f a0 = some r) :
  Calls Tryd.prog 60 #[.int .i64 a0] w fun e w' => e = .returned (.bool r) ∧ Drawn0 w w' := by
 have H : (some ((Go.bits .and .i64 a0 32) != 0)) = some r := h
 clear h
 obtain rfl := Option.some.inj H
 go_enter Tryd.func60, Tryd.ntmps60
 go_wp2
 go_ret
 exact ⟨q9_, by repeat (first | exact Drawn0.refl _ | apply Drawn0.step)⟩
mutual
def tlv_reader_tree.l0 : Nat → Int → Int → ByteArray → Int → Int → Int → ByteArray → List (S24) → Option (Int × ByteArray × (List (S24)) × Option Er × ByteArray × Int × Int)
 | 0, _, _, _, _, _, _, _, _ => none
 | k + 1, x2, x9, x1000, x1001, x1002, x128000, x128001, x128002 => if x1001 < x9 then ((tlv_reader_tree.f k x1000 x1001 x1002 x9 (wrap64 (x2 + 1))).bind fun bt129 => (if bt129.2.2.2.1.isNone = true then (if x128002.length < 2932031007402 then (tlv_reader_tree.l0 k x2 x9 bt129.2.2.2.2.1 bt129.2.2.2.2.2.1 bt129.2.2.2.2.2.2 x128000 x128001 (x128002 ++ [(⟨bt129.1, bt129.2.1, bt129.2.2.1⟩ : S24)])) else (none)) else (some (0, (⟨#[]⟩ : ByteArray), ([] : List (S24)), some (bt129.2.2.2.1.getD Er.z), bt129.2.2.2.2.1, bt129.2.2.2.2.2.1, bt129.2.2.2.2.2.2)))) else (some (x128000, x128001, x128002, none, x1000, x1001, x1002))
def tlv_reader_tree.f : Nat → ByteArray → Int → Int → Int → Int → Option (Int × ByteArray × (List (S24)) × Option Er × ByteArray × Int × Int)
 | 0, _, _, _, _, _ => none
 | k + 1, s0_0, s0_1, s0_2, a1, a2 => (tlv_reader_head.f s0_0 s0_1 s0_2 a1 a2).bind fun bt120 => (if bt120.2.2.1.isNone = true then ((tlv_isInner.f bt120.1).bind fun t128 => (if t128 = true then (tlv_reader_tree.l0 k a2 bt120.2.1 bt120.2.2.2.1 bt120.2.2.2.2.1 bt120.2.2.2.2.2 bt120.1 (⟨#[]⟩ : ByteArray) ([] : List (S24))) else (if 0 ≤ bt120.2.2.2.2.1 then (if bt120.2.2.2.2.1 ≤ bt120.2.1 then (if bt120.2.1 ≤ (bt120.2.2.2.1.size : Int) then (some (bt120.1, bt120.2.2.2.1.extract (bt120.2.2.2.2.1 : Int).toNat (bt120.2.1 : Int).toNat, ([] : List (S24)), none, bt120.2.2.2.1, bt120.2.1, bt120.2.2.2.2.2)) else (none)) else (none)) else (none)))) else (some (0, (⟨#[]⟩ : ByteArray), ([] : List (S24)), some (bt120.2.2.1.getD Er.z), bt120.2.2.2.1, bt120.2.2.2.2.1, bt120.2.2.2.2.2)))
end
theorem tlv_reader_tree.mono_l : ∀ k, (∀ y0 y1 y2 y3 y4, LeO (tlv_reader_tree.f k y0 y1 y2 y3 y4) (tlv_reader_tree.f (k + 1) y0 y1 y2 y3 y4)) ∧ (∀ y0 y1 y2 y3 y4 y5 y6 y7, LeO (tlv_reader_tree.l0 k y0 y1 y2 y3 y4 y5 y6 y7) (tlv_reader_tree.l0 (k + 1) y0 y1 y2 y3 y4 y5 y6 y7))
 | 0 => ⟨fun _ _ _ _ _ r h => by simp [tlv_reader_tree.f] at h, fun _ _ _ _ _ _ _ _ r h => by simp [tlv_reader_tree.l0] at h⟩
 | k + 1 => by
  obtain ⟨ih0, ih1⟩ := tlv_reader_tree.mono_l k
  refine ⟨?_, ?_⟩
  ·intro y0 y1 y2 y3 y4
   unfold tlv_reader_tree.f
   repeat' first
   | (with_reducible exact ih0 _ _ _ _ _)
   | (with_reducible exact ih1 _ _ _ _ _ _ _ _)
   | (with_reducible exact LeO.refl _)
   | (with_reducible exact LeO.none _)
   | (with_reducible refine LeO.ite ?_ ?_)
   | (with_reducible refine LeO.bind ?_ (fun _ => ?_))
   | exact ih0 _ _ _ _ _
   | exact ih1 _ _ _ _ _ _ _ _
   | exact LeO.none _
   | refine LeO.ite ?_ ?_
   | refine LeO.bind ?_ (fun _ => ?_)
  ·intro y0 y1 y2 y3 y4 y5 y6 y7
   unfold tlv_reader_tree.l0
   repeat' first
   | (with_reducible exact ih0 _ _ _ _ _)
   | (with_reducible exact ih1 _ _ _ _ _ _ _ _)
   | (with_reducible exact LeO.refl _)
   | (with_reducible exact LeO.none _)
   | (with_reducible refine LeO.ite ?_ ?_)
   | (with_reducible refine LeO.bind ?_ (fun _ => ?_))
   | exact ih0 _ _ _ _ _
   | exact ih1 _ _ _ _ _ _ _ _
   | exact LeO.none _
   | refine LeO.ite ?_ ?_
   | refine LeO.bind ?_ (fun _ => ?_)
theorem tlv_reader_tree.mono : ∀ a0 a1 a2 a3 a4 k, LeO (tlv_reader_tree.f k a0 a1 a2 a3 a4) (tlv_reader_tree.f (k + 1) a0 a1 a2 a3 a4) := by
 intro a0 a1 a2 a3 a4 k
 obtain ⟨ih0, ih1⟩ := tlv_reader_tree.mono_l k
 exact ih0 a0 a1 a2 a3 a4
def tlv_reader_tree.T6 : Bool × List (List Nat × List Nat) := (true, [([], []), ([], []), ([1], [1]), ([2], [2]), ([3], [3]), ([4], [4]), ([], []), ([6], [6]), ([7], [7]), ([8], [8]), ([9], [9]), ([], []), ([5, 10, 11], [5, 10, 11]), ([], []), ([1, 2, 3, 4, 5, 6, 7, 8, 9, 10, 11, 12], []), ([14, 12, 1, 2, 3, 4, 5, 6, 7, 8, 9, 10, 11, 12], [12, 14]), ([0, 0, 1, 2, 3, 4, 5, 6, 7, 8, 9, 10, 11, 12, 13, 14, 15], [0]), ([16, 0, 1, 2, 3, 4, 5, 6, 7, 8, 9, 10, 11, 12, 13, 14, 15], [16]), ([17, 0, 1, 2, 3, 4, 5, 6, 7, 8, 9, 10, 11, 12, 13, 14, 15], [17]), ([18, 13, 15, 0, 1, 2, 3, 4, 5, 6, 7, 8, 9, 10, 11, 12, 13, 14, 15], [13, 18])])
def tlv_reader_tree.B6 : List Nat := [0, 0, 2, 6, 14, 30, 0, 64, 192, 448, 960, 0, 4094, 0, 8190, 24574, 65535, 131071, 262143, 524287]
theorem tlv_reader_tree.tab6 : rtab .any (opsOf Tryd.f44 6) = tlv_reader_tree.T6 := by kernel_rfl
theorem tlv_reader_tree.bits6 : waitsOk tlv_reader_tree.T6.2 tlv_reader_tree.B6 = true := by kernel_rfl
set_option maxHeartbeats 8000000 in
set_option maxRecDepth 100000 in
theorem tlv_reader_tree.calls (k : Nat) : ∀ (g : Nat) (s0_0 : ByteArray) (s0_1 : Int) (s0_2 : Int) (a1 : Int) (a2 : Int) (r1 : Int) (r2 : ByteArray) (r3 : List (S24)) (r4 : Option Er) (r5 : ByteArray) (r6 : Int) (r7 : Int) (w0 w : World) (hI : IsS74 w0 w g s0_0 s0_1 s0_2) (hB : Below w0.heap.size w0 w) (hG : GW G w0) (h : tlv_reader_tree.f k s0_0 s0_1 s0_2 a1 a2 = some (r1, r2, r3, r4, r5, r6, r7)),
  Calls Tryd.prog 44 #[.pointer (some ⟨g, 0, none⟩), .int .i64 a1, .int .i64 a2] w fun e w' => ∃ v2_ : Value, e = .returned (.tuple #[.agg #[.int .i64 r1, .string r2, v2_], errW G r4]) ∧ Kd.R k24 24 w' w.heap.size (fun _ => True) v2_ r3 ∧ IsS74 w0 w' g r5 r6 r7 ∧ Below w0.heap.size w0 w' ∧ KeepBut w w' g none := by
 induction k using Nat.strongRecOn with
 | _ k ih =>
 intro g s0_0 s0_1 s0_2 a1 a2 r1 r2 r3 r4 r5 r6 r7 w0 w hI hB hG h
 cases k with
 | zero => exact absurd h (by simp [tlv_reader_tree.f])
 | succ k =>
 simp only [tlv_reader_tree.f] at h
 have hu24 := Tryd.underlying24
 have hu49 := Tryd.underlying49
 have HI0 := Aside0.mk hI
 have HK := Aside0.mk (KeepBut.refl w g none)
 have HL := Aside0.mk hB.size
 clear hI
 have HW0 := Aside0.mk hB.size
 have HB := Aside0.mk hB
 clear hB
 have H : ((tlv_reader_head.f s0_0 s0_1 s0_2 a1 a2).bind fun bt120 => (if bt120.2.2.1.isNone = true then ((tlv_isInner.f bt120.1).bind fun t128 => (if t128 = true then (tlv_reader_tree.l0 k a2 bt120.2.1 bt120.2.2.2.1 bt120.2.2.2.2.1 bt120.2.2.2.2.2 bt120.1 (⟨#[]⟩ : ByteArray) ([] : List (S24))) else (if 0 ≤ bt120.2.2.2.2.1 then (if bt120.2.2.2.2.1 ≤ bt120.2.1 then (if bt120.2.1 ≤ (bt120.2.2.2.1.size : Int) then (some (bt120.1, bt120.2.2.2.1.extract (bt120.2.2.2.2.1 : Int).toNat (bt120.2.1 : Int).toNat, ([] : List (S24)), none, bt120.2.2.2.1, bt120.2.1, bt120.2.2.2.2.2)) else (none)) else (none)) else (none)))) else (some (0, (⟨#[]⟩ : ByteArray), ([] : List (S24)), some (bt120.2.2.1.getD Er.z), bt120.2.2.2.1, bt120.2.2.2.2.1, bt120.2.2.2.2.2)))) = some (r1, r2, r3, r4, r5, r6, r7) := h
 clear h
 replace H := Option.bind_eq_some_iff.mp H
 obtain ⟨⟨t120, t121, t122, t123, t124, t125⟩, A40, H⟩ := H
 replace H : (if t122.isNone = true then ((tlv_isInner.f t120).bind fun t128 => (if t128 = true then (tlv_reader_tree.l0 k a2 t121 t123 t124 t125 t120 (⟨#[]⟩ : ByteArray) ([] : List (S24))) else (if 0 ≤ t124 then (if t124 ≤ t121 then (if t121 ≤ (t123.size : Int) then (some (t120, t123.extract (t124 : Int).toNat (t121 : Int).toNat, ([] : List (S24)), none, t123, t121, t125)) else (none)) else (none)) else (none)))) else (some (0, (⟨#[]⟩ : ByteArray), ([] : List (S24)), some (t122.getD Er.z), t123, t124, t125))) = some (r1, r2, r3, r4, r5, r6, r7) := H
 have A4 := Aside0.mk A40
 clear A40
 rcases t122 with _ | q126
 ·have H1 : ((tlv_isInner.f t120).bind fun t128 => (if t128 = true then (tlv_reader_tree.l0 k a2 t121 t123 t124 t125 t120 (⟨#[]⟩ : ByteArray) ([] : List (S24))) else (if 0 ≤ t124 then (if t124 ≤ t121 then (if t121 ≤ (t123.size : Int) then (some (t120, t123.extract (t124 : Int).toNat (t121 : Int).toNat, ([] : List (S24)), none, t123, t121, t125)) else (none)) else (none)) else (none)))) = some (r1, r2, r3, r4, r5, r6, r7) := by rw [if_pos (show (none : Option Er).isNone = true by rfl)] at H; exact H
  clear H
  have H := H1
  clear H1
  try simp only [eW]
  replace H := Option.bind_eq_some_iff.mp H
  obtain ⟨t128, A50, H⟩ := H
  replace H : (if t128 = true then (tlv_reader_tree.l0 k a2 t121 t123 t124 t125 t120 (⟨#[]⟩ : ByteArray) ([] : List (S24))) else (if 0 ≤ t124 then (if t124 ≤ t121 then (if t121 ≤ (t123.size : Int) then (some (t120, t123.extract (t124 : Int).toNat (t121 : Int).toNat, ([] : List (S24)), none, t123, t121, t125)) else (none)) else (none)) else (none))) = some (r1, r2, r3, r4, r5, r6, r7) := H
  have A5 := Aside0.mk A50
  clear A50
  by_cases c6 : t128 = true
  ·subst c6
   have H1 : (tlv_reader_tree.l0 k a2 t121 t123 t124 t125 t120 (⟨#[]⟩ : ByteArray) ([] : List (S24))) = some (r1, r2, r3, r4, r5, r6, r7) := by rw [if_pos rfl] at H; exact H
   clear H
   have H := H1
   clear H1
   have H' := Aside0.mk H
   clear H
   go_enter Tryd.func44, Tryd.ntmps44
   go_wp2_with (first | ((with_reducible refine gate_dst (N := 6) rfl ?_); refine box_event ?hg (N := 6) ?hd (cs := #[.int .i64 0, .string (⟨#[]⟩ : ByteArray), .slice none 0 0]) (t := 24) ?hr ?_; (case hd => rfl); (case hg => rfl); (case hr => first | (go_simp; done) | (go_simp; rfl)); intro gb119 hg w7 hbox hb; have n0_ := Aside0.mk (IsS74.below q5_ hb); have n1_ := Aside0.mk (KeepBut.trans q1_ (KeepBut.of_below hb g none) (.inl rfl)); have n2_ := Aside0.mk (below_step q3_ hb); have n3_ := Aside0.mk (hbox); have n4_ := Aside0.mk ((by rw [hg]; exact (keep_size (w := w) (g := g) (row := none) q1_) : w.heap.size ≤ gb119)); have n5_ := Aside0.mk ((Nat.le_trans HW0.out (by rw [hg]; exact (keep_size (w := w) (g := g) (row := none) q1_) : w.heap.size ≤ gb119) : w0.heap.size ≤ gb119)); have n6_ := Aside0.mk ((by rw [hg]; exact Nat.ne_of_lt (IsS74.lt (show IsS74 w0 _ g s0_0 s0_1 s0_2 from q5_)) : g ≠ gb119)); have n7_ := Aside0.mk ((by rw [hg]; exact Nat.ne_of_gt (IsS74.lt (show IsS74 w0 _ g s0_0 s0_1 s0_2 from q5_)) : gb119 ≠ g)); clear HI0; clear HK; clear HB; have HI0 := n0_; have HK := n1_; have HB := n2_; have BK119 := n3_; have GW119 := n4_; have GE119 := n5_; have NB0_119 := n6_; have NB119_0 := n7_; clear n0_ n1_ n2_ n3_ n4_ n5_ n6_ n7_; clear hb hbox hg) | ((with_reducible refine gate_callee (f := 59) rfl ?_); refine goesL_ (some 18) rfl rfl Tryd.func59 (by kernel_rfl) rfl #[.pointer (some ⟨g, 0, none⟩), .int .i64 a1, .int .i64 a2] rfl argq ?_; (with_reducible refine (tlv_reader_head.calls (G := G) g s0_0 s0_1 s0_2 a1 a2 t120 t121 none t123 t124 t125 w0 _ ?side1 ?side2 ?side3 A4.out).mono ?_); (case side1 => repeat (first | (with_reducible first | exact HI0.out | apply IsS74.alloc | apply IsS74.drewN | apply IsS74.drew | apply IsS74.set_0 | apply IsS74.set_1 | apply IsS74.set_2 | refine IsS74.far ?_ NB0_119.out _) | exact HI0.out | refine IsS74.far (f0 := ?f0) ?_ NB0_119.out _ | refine IsS74.far (f1 := ?f1) ?_ NB0_119.out _ | refine IsS74.far (f2 := ?f2) ?_ NB0_119.out _ | refine IsS74.far (f0 := ?f0) (f1 := ?f1) ?_ NB0_119.out _ | refine IsS74.far (f0 := ?f0) (f2 := ?f2) ?_ NB0_119.out _ | refine IsS74.far (f1 := ?f1) (f2 := ?f2) ?_ NB0_119.out _)); (case side2 => repeat (first | (with_reducible first | exact HB.out | apply below_alloc | apply pw_below_drewN | apply below_drew1 | refine below_set ?_ (IsS74.ge HI0.out) | refine below_set ?_ (Aside0.out (by assumption))) | exact HB.out)); (case side3 => first | exact hG | exact GW.below hG q6_); rintro e w8 ⟨rfl, hi, hb, hk⟩; refine ⟨_, rfl, ?_⟩; have n0_ := Aside0.mk (KeepBut.blk hk (g' := gb119) (o := .cells #[.int .i64 0, .string (⟨#[]⟩ : ByteArray), .slice none 0 0] 24 (0, 0)) (bkq BK119.out) NB119_0.out (by simp)); have n1_ := Aside0.mk (KeepBut.trans q1_ hk (.inl rfl)); have n2_ := Aside0.mk (hb); have n3_ := Aside0.mk (hi); clear BK119; clear HK; clear HB; clear HI0; have BK119 := n0_; have HK := n1_; have HB := n2_; have HI0 := n3_; clear n0_ n1_ n2_ n3_; (try clear hb); (try clear hb2); (try clear hk); (try clear hi); (try simp only [eW])) | ((with_reducible refine gate_dst (N := 11) rfl ?_); refine box_event ?hg (N := 11) ?hd (cs := #[.int .i64 0, .string (⟨#[]⟩ : ByteArray), .slice none 0 0]) (t := 24) ?hr ?_; (case hd => rfl); (case hg => rfl); (case hr => first | (go_simp; done) | (go_simp; rfl)); intro gb127 hg w9 hbox hb; have n0_ := Aside0.mk (IsS74.below q13_ hb); have n1_ := Aside0.mk (blk_below (g := gb119) (o := .cells #[.int .i64 0, .string (⟨#[]⟩ : ByteArray), .slice none 0 0] 24 (0, 0)) (bkq BK119.out) hb); have n2_ := Aside0.mk (KeepBut.trans q1_ (KeepBut.of_below hb g none) (.inl rfl)); have n3_ := Aside0.mk (below_step q6_ hb); have n4_ := Aside0.mk (hbox); have n5_ := Aside0.mk ((by rw [hg]; exact (keep_size (w := w) (g := g) (row := none) q1_) : w.heap.size ≤ gb127)); have n6_ := Aside0.mk ((Nat.le_trans HW0.out (by rw [hg]; exact (keep_size (w := w) (g := g) (row := none) q1_) : w.heap.size ≤ gb127) : w0.heap.size ≤ gb127)); have n7_ := Aside0.mk ((by rw [hg]; exact Nat.ne_of_lt (blk_lt (g := gb119) (o := .cells #[.int .i64 0, .string (⟨#[]⟩ : ByteArray), .slice none 0 0] 24 (0, 0)) (bkq BK119.out)) : gb119 ≠ gb127)); have n8_ := Aside0.mk ((by rw [hg]; exact Nat.ne_of_gt (blk_lt (g := gb119) (o := .cells #[.int .i64 0, .string (⟨#[]⟩ : ByteArray), .slice none 0 0] 24 (0, 0)) (bkq BK119.out)) : gb127 ≠ gb119)); have n9_ := Aside0.mk ((by rw [hg]; exact Nat.ne_of_lt (IsS74.lt (show IsS74 w0 _ g t123 t124 t125 from q13_)) : g ≠ gb127)); have n10_ := Aside0.mk ((by rw [hg]; exact Nat.ne_of_gt (IsS74.lt (show IsS74 w0 _ g t123 t124 t125 from q13_)) : gb127 ≠ g)); clear HI0; clear BK119; clear HK; clear HB; have HI0 := n0_; have BK119 := n1_; have HK := n2_; have HB := n3_; have BK127 := n4_; have GW127 := n5_; have GE127 := n6_; have NB119_127 := n7_; have NB127_119 := n8_; have NB0_127 := n9_; have NB127_0 := n10_; clear n0_ n1_ n2_ n3_ n4_ n5_ n6_ n7_ n8_ n9_ n10_; clear hb hbox hg; have hnb10 := NB127_119.out; have hnc10 := NB119_127.out; have hnb11 := NB127_0.out; have hnc11 := NB0_127.out; have hcz12_0 : w9.cell? ⟨gb127, 0, none⟩ = some (.int .i64 0) := (blk_cell BK127.out 0).trans rfl; have hcz12_1 : w9.cell? ⟨gb127, 1, none⟩ = some (.string (⟨#[]⟩ : ByteArray)) := (blk_cell BK127.out 1).trans rfl; have hcz12_2 : w9.cell? ⟨gb127, 2, none⟩ = some (.slice none 0 0) := (blk_cell BK127.out 2).trans rfl; have hfz12_0 := blk_frozen BK127.out 0; have hfz12_1 := blk_frozen BK127.out 1; have hfz12_2 := blk_frozen BK127.out 2) | ((with_reducible refine gate_callee (f := 60) rfl ?_); refine goesL_ (some 29) rfl rfl Tryd.func60 (by kernel_rfl) rfl #[.int .i64 t120] rfl argq ?_; (with_reducible refine (tlv_isInner.calls t120 true _ A5.out).mono ?_); rintro e w' ⟨rfl, ⟨nd, rfl⟩⟩; refine ⟨_, rfl, ?_⟩))
   go_loopg [] k (fun kq w' => ∃ (x1000_1 : ByteArray) (x1001_1 : Int) (x1002_1 : Int) (x120000_1 : Int) (x120001_1 : ByteArray) (x128002_1 : List (S24)) (u128002 : Value), Aside0 (tlv_reader_tree.l0 kq a2 t121 x1000_1 x1001_1 x1002_1 t120 (⟨#[]⟩ : ByteArray) x128002_1 = some (r1, r2, r3, r4, r5, r6, r7)) ∧ Aside0 (kq ≤ k) ∧ Aside0 (Kd.R k24 24 w' w.heap.size (fun k_ => k_ ≠ gb119 ∧ k_ ≠ gb127) u128002 x128002_1) ∧ Aside0 (w'.heap[gb119]? = some (.cells #[.int .i64 x120000_1, .string x120001_1, (.slice none 0 0)] 24 (0, 0))) ∧ Aside0 (w'.heap[gb127]? = some (.cells #[.int .i64 t120, .string (⟨#[]⟩ : ByteArray), u128002] 24 (0, 0))) ∧ Aside0 (IsS74 w0 w' g x1000_1 x1001_1 x1002_1) ∧ Aside0 (KeepBut w w' g none) ∧ Aside0 (Below w0.heap.size w0 w'))
   case atStart => exact ⟨(t123), (t124), (t125), (0), ((⟨#[]⟩ : ByteArray)), (([] : List (S24))), (.slice none 0 0), H', ⟨Nat.le_refl _⟩, ⟨q10_⟩, ⟨by refine bkq ?_; refine blk_far ?_ NB119_127.out _; refine bkq ?_; refine blk_far ?_ NB119_127.out _; refine bkq ?_; refine blk_far ?_ NB119_127.out _; refine bkq ?_; exact BK119.out⟩, ⟨by refine bkq ?_; refine blk_put (cs := #[.int .i64 t120, .string (⟨#[]⟩ : ByteArray), .slice none 0 0]) ?_ 2 _ rfl; refine bkq ?_; refine blk_put (cs := #[.int .i64 t120, .string (⟨#[]⟩ : ByteArray), .slice none 0 0]) ?_ 1 _ rfl; refine bkq ?_; refine blk_put (cs := #[.int .i64 0, .string (⟨#[]⟩ : ByteArray), .slice none 0 0]) ?_ 0 _ rfl; refine bkq ?_; exact BK127.out⟩, ⟨q8_⟩, ⟨q1_⟩, ⟨q6_⟩⟩
   case round =>
    clear H'
    try clear c1
    try clear q1
    try clear p2
    try clear c4
    try clear c5
    try clear c6
    try clear c10
    try clear c11
    try clear q12
    try clear hcz12_0
    try clear hcz12_1
    try clear hcz12_2
    try clear hfz12_0
    try clear hfz12_1
    try clear hfz12_2
    try clear q126
    obtain ⟨x1000_1, x1001_1, x1002_1, x120000_1, x120001_1, x128002_1, u128002, HA, HK1, HO_128002, BK119, BK127, HI0, HK, HB⟩ := hrel
    cases gk with
    | zero => exact absurd HA.out (by simp [tlv_reader_tree.l0])
    | succ k1 =>
     have H := HA.out
     clear HA
     simp only [tlv_reader_tree.l0] at H
     by_cases c13 : x1001_1 < t121
     ·rw [if_pos c13] at H
      have c13b0 : decide (x1001_1 < t121) = true := decide_eq_true c13
      clear c13
      replace H := Option.bind_eq_some_iff.mp H
      obtain ⟨⟨t129, t130, t131, t134, t135, t136, t137⟩, A140, H⟩ := H
      replace H : (if t134.isNone = true then (if x128002_1.length < 2932031007402 then (tlv_reader_tree.l0 k1 a2 t121 t135 t136 t137 t120 (⟨#[]⟩ : ByteArray) (x128002_1 ++ [(⟨t129, t130, t131⟩ : S24)])) else (none)) else (some (0, (⟨#[]⟩ : ByteArray), ([] : List (S24)), some (t134.getD Er.z), t135, t136, t137))) = some (r1, r2, r3, r4, r5, r6, r7) := H
      have A14 := Aside0.mk A140
      clear A140
      rcases t134 with _ | q139
      ·have H1 : (if x128002_1.length < 2932031007402 then (tlv_reader_tree.l0 k1 a2 t121 t135 t136 t137 t120 (⟨#[]⟩ : ByteArray) (x128002_1 ++ [(⟨t129, t130, t131⟩ : S24)])) else (none)) = some (r1, r2, r3, r4, r5, r6, r7) := by rw [if_pos (show (none : Option Er).isNone = true by rfl)] at H; exact H
       clear H
       have H := H1
       clear H1
       try simp only [eW]
       by_cases c15 : x128002_1.length < 2932031007402
       ·rw [if_pos c15] at H
        have LMc15 := Aside0.mk c15
        clear c15
        obtain ⟨y140, hy140⟩ : ∃ y_ : List (S24), y_ = (x128002_1 ++ [(⟨t129, t130, t131⟩ : S24)]) := ⟨_, rfl⟩
        replace H : (tlv_reader_tree.l0 k1 a2 t121 t135 t136 t137 t120 (⟨#[]⟩ : ByteArray) y140) = some (r1, r2, r3, r4, r5, r6, r7) := by first | (rw [hy140]; with_reducible exact H) | (have H2_ := (Option.bind_some _ _).symm.trans H; rw [hy140]; with_reducible exact H2_) | (have H2_ := (Option.bind_some _ _).symm.trans H; with_reducible exact H2_) | with_reducible exact H | (rw [hy140]; exact H) | exact H
        have Ny140 := Aside0.mk hy140
        clear hy140
        have H' := Aside0.mk H
        clear H
        obtain ⟨HGz16, hgz16⟩ := HI0.out
        have hcz16_0 := cellS74_0 HGz16
        have hcz16_1 := cellS74_1 HGz16
        have hcz16_2 := cellS74_2 HGz16
        have hfz16_0 := blk_frozen HGz16 0
        have hfz16_1 := blk_frozen HGz16 1
        have hfz16_2 := blk_frozen HGz16 2
        clear HGz16 hgz16
        go_wp2_with (first | ((with_reducible refine gate_callee (f := 44) rfl ?_); refine goesL_ (some 62) rfl rfl Tryd.func44 (by kernel_rfl) rfl #[.pointer (some ⟨g, 0, none⟩), .int .i64 t121, .int .i64 (wrap64 (a2 + 1))] rfl argq ?_; (with_reducible refine (ih k1 (by have := HK1.out; omega) g x1000_1 x1001_1 x1002_1 t121 (wrap64 (a2 + 1)) t129 t130 t131 none t135 t136 t137 w0 _ ?side1 ?side2 ?side3 A14.out).mono ?_); (case side1 => repeat (first | (with_reducible first | exact HI0.out | apply IsS74.alloc | apply IsS74.drewN | apply IsS74.drew | apply IsS74.set_0 | apply IsS74.set_1 | apply IsS74.set_2 | refine IsS74.far ?_ NB0_119.out _ | refine IsS74.far ?_ NB0_127.out _) | exact HI0.out | refine IsS74.far (f0 := ?f0) ?_ NB0_119.out _ | refine IsS74.far (f1 := ?f1) ?_ NB0_119.out _ | refine IsS74.far (f2 := ?f2) ?_ NB0_119.out _ | refine IsS74.far (f0 := ?f0) (f1 := ?f1) ?_ NB0_119.out _ | refine IsS74.far (f0 := ?f0) (f2 := ?f2) ?_ NB0_119.out _ | refine IsS74.far (f1 := ?f1) (f2 := ?f2) ?_ NB0_119.out _ | refine IsS74.far (f0 := ?f0) ?_ NB0_127.out _ | refine IsS74.far (f1 := ?f1) ?_ NB0_127.out _ | refine IsS74.far (f2 := ?f2) ?_ NB0_127.out _ | refine IsS74.far (f0 := ?f0) (f1 := ?f1) ?_ NB0_127.out _ | refine IsS74.far (f0 := ?f0) (f2 := ?f2) ?_ NB0_127.out _ | refine IsS74.far (f1 := ?f1) (f2 := ?f2) ?_ NB0_127.out _)); (case side2 => repeat (first | (with_reducible first | exact HB.out | apply below_alloc | apply pw_below_drewN | apply below_drew1 | refine below_set ?_ (IsS74.ge HI0.out) | refine below_set ?_ (Aside0.out (by assumption))) | exact HB.out)); (case side3 => first | exact hG | exact GW.below hG q6_); rintro e w17 ⟨v132, rfl, ho0, hi, hb, hk⟩; refine ⟨_, rfl, ?_⟩; have n0_ := Aside0.mk (Kd.R_mono (Kd.R_told (Kd.R_oldK (IsS74.apart (show IsS74 w0 _ g x1000_1 x1001_1 x1002_1 from q8_) (rkq HO_128002.out) (by decide)) hk) (Kd.R_base ho0)) (fun _ h_ => h_.1)); have n1_ := Aside0.mk (KeepBut.blk hk (g' := gb119) (o := .cells #[.int .i64 x120000_1, .string x120001_1, .slice none 0 0] 24 (0, 0)) (bkq BK119.out) NB119_0.out (by simp)); have n2_ := Aside0.mk (KeepBut.blk hk (g' := gb127) (o := .cells #[.int .i64 t120, .string (⟨#[]⟩ : ByteArray), u128002] 24 (0, 0)) (bkq BK127.out) NB127_0.out (by simp)); have n3_ := Aside0.mk (Kd.R_lower (Kd.R_newB (Kd.R_newB (Kd.R_new' ho0 (Kd.R_lt (rkq HO_128002.out))) (g := gb119) (o := .cells #[.int .i64 x120000_1, .string x120001_1, .slice none 0 0] 24 (0, 0)) (bkq BK119.out)) (g := gb127) (o := .cells #[.int .i64 t120, .string (⟨#[]⟩ : ByteArray), u128002] 24 (0, 0)) (bkq BK127.out)) (keep_size (w := w) (g := g) (row := none) q1_)); have n4_ := Aside0.mk (KeepBut.trans q1_ hk (.inl rfl)); have n5_ := Aside0.mk (hb); have n6_ := Aside0.mk (hi); clear HO_128002; clear BK119; clear BK127; clear HK; clear HB; clear HI0; have HO_128002 := n0_; have BK119 := n1_; have BK127 := n2_; have HO133 := n3_; have HK := n4_; have HB := n5_; have HI0 := n6_; clear n0_ n1_ n2_ n3_ n4_ n5_ n6_; (try clear hb); (try clear hb2); (try clear hk); (try clear hi); (try clear ho0); (try simp only [eW])) | ((with_reducible refine gate_dst (N := 12) rfl ?_); refine box_event ?hg (N := 12) ?hd (cs := #[.int .i64 0, .string (⟨#[]⟩ : ByteArray), .slice none 0 0]) (t := 24) ?hr ?_; (case hd => rfl); (case hg => rfl); (case hr => first | (go_simp; done) | (go_simp; rfl)); intro gb138 hg w18 hbox hb; have n0_ := Aside0.mk (Kd.R_below (Kd.R_elderB (rkq HO_128002.out) gb138 (Nat.le_of_eq hg.symm)) hb); have n1_ := Aside0.mk (Kd.R_below (Kd.R_elderB (rkq HO133.out) gb138 (Nat.le_of_eq hg.symm)) hb); have n2_ := Aside0.mk (blk_below (g := gb119) (o := .cells #[.int .i64 x120000_1, .string x120001_1, .slice none 0 0] 24 (0, 0)) (bkq BK119.out) hb); have n3_ := Aside0.mk (blk_below (g := gb127) (o := .cells #[.int .i64 t120, .string (⟨#[]⟩ : ByteArray), u128002] 24 (0, 0)) (bkq BK127.out) hb); have n4_ := Aside0.mk (IsS74.below q8_ hb); have n5_ := Aside0.mk (KeepBut.trans q1_ (KeepBut.of_below hb g none) (.inl rfl)); have n6_ := Aside0.mk (below_step q6_ hb); have n7_ := Aside0.mk (hbox); have n8_ := Aside0.mk ((by rw [hg]; exact (keep_size (w := w) (g := g) (row := none) q1_) : w.heap.size ≤ gb138)); have n9_ := Aside0.mk ((Nat.le_trans HW0.out (by rw [hg]; exact (keep_size (w := w) (g := g) (row := none) q1_) : w.heap.size ≤ gb138) : w0.heap.size ≤ gb138)); have n10_ := Aside0.mk ((by rw [hg]; exact Nat.ne_of_lt (blk_lt (g := gb119) (o := .cells #[.int .i64 x120000_1, .string x120001_1, .slice none 0 0] 24 (0, 0)) (bkq BK119.out)) : gb119 ≠ gb138)); have n11_ := Aside0.mk ((by rw [hg]; exact Nat.ne_of_gt (blk_lt (g := gb119) (o := .cells #[.int .i64 x120000_1, .string x120001_1, .slice none 0 0] 24 (0, 0)) (bkq BK119.out)) : gb138 ≠ gb119)); have n12_ := Aside0.mk ((by rw [hg]; exact Nat.ne_of_lt (blk_lt (g := gb127) (o := .cells #[.int .i64 t120, .string (⟨#[]⟩ : ByteArray), u128002] 24 (0, 0)) (bkq BK127.out)) : gb127 ≠ gb138)); have n13_ := Aside0.mk ((by rw [hg]; exact Nat.ne_of_gt (blk_lt (g := gb127) (o := .cells #[.int .i64 t120, .string (⟨#[]⟩ : ByteArray), u128002] 24 (0, 0)) (bkq BK127.out)) : gb138 ≠ gb127)); have n14_ := Aside0.mk ((by rw [hg]; exact Nat.ne_of_lt (IsS74.lt (show IsS74 w0 _ g t135 t136 t137 from q8_)) : g ≠ gb138)); have n15_ := Aside0.mk ((by rw [hg]; exact Nat.ne_of_gt (IsS74.lt (show IsS74 w0 _ g t135 t136 t137 from q8_)) : gb138 ≠ g)); clear HO_128002; clear HO133; clear BK119; clear BK127; clear HI0; clear HK; clear HB; have HO_128002 := n0_; have HO133 := n1_; have BK119 := n2_; have BK127 := n3_; have HI0 := n4_; have HK := n5_; have HB := n6_; have BK138 := n7_; have GW138 := n8_; have GE138 := n9_; have NB119_138 := n10_; have NB138_119 := n11_; have NB127_138 := n12_; have NB138_127 := n13_; have NB0_138 := n14_; have NB138_0 := n15_; clear n0_ n1_ n2_ n3_ n4_ n5_ n6_ n7_ n8_ n9_ n10_ n11_ n12_ n13_ n14_ n15_; clear hb hbox hg; have hnb19 := NB138_119.out; have hnc19 := NB119_138.out; have hnb20 := NB138_127.out; have hnc20 := NB127_138.out; have hnb21 := NB138_0.out; have hnc21 := NB0_138.out; have hcz22_0 : w18.cell? ⟨gb138, 0, none⟩ = some (.int .i64 0) := (blk_cell BK138.out 0).trans rfl; have hcz22_1 : w18.cell? ⟨gb138, 1, none⟩ = some (.string (⟨#[]⟩ : ByteArray)) := (blk_cell BK138.out 1).trans rfl; have hcz22_2 : w18.cell? ⟨gb138, 2, none⟩ = some (.slice none 0 0) := (blk_cell BK138.out 2).trans rfl; have hfz22_0 := blk_frozen BK138.out 0; have hfz22_1 := blk_frozen BK138.out 1; have hfz22_2 := blk_frozen BK138.out 2; obtain ⟨Ao23, co23, eo23⟩ := Kd.R_slice HO133.out; subst eo23) | ((with_reducible refine gate_store (t := 24) (p := 12) rfl ?_); refine store_event (t := 24) (p := 12) (v := ?vo_w24) (w1 := (((w18.setCell ⟨gb138, 0, none⟩ (.int .i64 t129)).setCell ⟨gb138, 1, none⟩ (.string t130)).setCell ⟨gb138, 2, none⟩ (.slice Ao23 t131.length co23))) ?hg ?ho ?hn ?hr ?_; (case ho => rfl); (case hg => rfl); (case hn => rfl); (case hr => first | (go_simp; done) | (go_simp; rfl)); intro w24 hw; have n0_ : Aside0 (Kd.R k24 24 w24 w.heap.size (fun k_ => some k_ ≠ (.slice Ao23 t131.length co23 : Value).ownBlock ∧ k_ ≠ gb119 ∧ k_ ≠ gb127 ∧ k_ ≠ gb138) u128002 x128002_1) := ⟨(by rw [hw]; exact (by refine rkq ?_; exact Kd.R_mono (Kd.R_far (p := ⟨gb138, 2, none⟩) (Kd.R_far (p := ⟨gb138, 1, none⟩) (Kd.R_far (p := ⟨gb138, 0, none⟩) (Kd.R_mono HO_128002.out (fun k_ hk => (⟨hk, hk.2⟩ : _ ∧ k_ ≠ gb138))) (fun _ hk => hk.2) (.int .i64 t129)) (fun _ hk => hk.2) (.string t130)) (fun _ hk => hk.2) (.slice Ao23 t131.length co23)) (fun _ hk => ⟨hk.1.1.2, ⟨hk.1.1.1.1, ⟨hk.1.1.1.2, hk.1.2⟩⟩⟩)))⟩; have n1_ : Aside0 (Kd.R k24 24 w24 w.heap.size (fun k_ => some k_ ≠ (u128002 : Value).ownBlock ∧ k_ ≠ gb119 ∧ k_ ≠ gb127 ∧ k_ ≠ gb138) (.slice Ao23 t131.length co23) t131) := ⟨(by rw [hw]; exact (by refine rkq ?_; exact Kd.R_mono (Kd.R_far (p := ⟨gb138, 2, none⟩) (Kd.R_far (p := ⟨gb138, 1, none⟩) (Kd.R_far (p := ⟨gb138, 0, none⟩) (Kd.R_mono HO133.out (fun k_ hk => (⟨hk, hk.2⟩ : _ ∧ k_ ≠ gb138))) (fun _ hk => hk.2) (.int .i64 t129)) (fun _ hk => hk.2) (.string t130)) (fun _ hk => hk.2) (.slice Ao23 t131.length co23)) (fun _ hk => ⟨hk.1.1.1.1.2, ⟨hk.1.1.1.2, ⟨hk.1.1.2, hk.1.2⟩⟩⟩)))⟩; have n2_ : Aside0 (w24.heap[gb119]? = some (.cells #[.int .i64 x120000_1, .string x120001_1, .slice none 0 0] 24 (0, 0))) := ⟨(by rw [hw]; exact (by refine bkq ?_; refine blk_far ?_ NB119_138.out _; refine bkq ?_; refine blk_far ?_ NB119_138.out _; refine bkq ?_; refine blk_far ?_ NB119_138.out _; refine bkq ?_; exact BK119.out))⟩; have n3_ : Aside0 (w24.heap[gb127]? = some (.cells #[.int .i64 t120, .string (⟨#[]⟩ : ByteArray), u128002] 24 (0, 0))) := ⟨(by rw [hw]; exact (by refine bkq ?_; refine blk_far ?_ NB127_138.out _; refine bkq ?_; refine blk_far ?_ NB127_138.out _; refine bkq ?_; refine blk_far ?_ NB127_138.out _; refine bkq ?_; exact BK127.out))⟩; have n4_ : Aside0 (w24.heap[gb138]? = some (.cells #[.int .i64 t129, .string t130, .slice Ao23 t131.length co23] 24 (0, 0))) := ⟨(by rw [hw]; exact (by refine bkq ?_; refine blk_put (cs := #[.int .i64 t129, .string t130, .slice none 0 0]) ?_ 2 _ rfl; refine bkq ?_; refine blk_put (cs := #[.int .i64 t129, .string (⟨#[]⟩ : ByteArray), .slice none 0 0]) ?_ 1 _ rfl; refine bkq ?_; refine blk_put (cs := #[.int .i64 0, .string (⟨#[]⟩ : ByteArray), .slice none 0 0]) ?_ 0 _ rfl; refine bkq ?_; exact BK138.out))⟩; have n5_ : Aside0 (IsS74 w0 w24 g t135 t136 t137) := ⟨(by rw [hw]; exact q15_)⟩; have n6_ : Aside0 (KeepBut w w24 g none) := ⟨(by rw [hw]; exact q1_)⟩; have n7_ : Aside0 (Below w0.heap.size w0 w24) := ⟨(by rw [hw]; exact q6_)⟩; clear hw; clear HO_128002; clear HO133; clear BK119; clear BK127; clear BK138; clear HI0; clear HK; clear HB; have HO_128002 := n0_; have HO133 := n1_; have BK119 := n2_; have BK127 := n3_; have BK138 := n4_; have HI0 := n5_; have HK := n6_; have HB := n7_; clear n0_ n1_ n2_ n3_ n4_ n5_ n6_ n7_; have hnb25 := NB127_119.out; have hnc25 := NB119_127.out; have hnb26 := NB127_0.out; have hnc26 := NB0_127.out; have hcz27_0 : w24.cell? ⟨gb127, 0, none⟩ = some (.int .i64 t120) := (blk_cell BK127.out 0).trans rfl; have hcz27_1 : w24.cell? ⟨gb127, 1, none⟩ = some (.string (⟨#[]⟩ : ByteArray)) := (blk_cell BK127.out 1).trans rfl; have hcz27_2 : w24.cell? ⟨gb127, 2, none⟩ = some (u128002) := (blk_cell BK127.out 2).trans rfl; have hfz27_0 := blk_frozen BK127.out 0; have hfz27_1 := blk_frozen BK127.out 1; have hfz27_2 := blk_frozen BK127.out 2; have hcz28_0 : w24.cell? ⟨gb138, 0, none⟩ = some (.int .i64 t129) := (blk_cell BK138.out 0).trans rfl; have hcz28_1 : w24.cell? ⟨gb138, 1, none⟩ = some (.string t130) := (blk_cell BK138.out 1).trans rfl; have hcz28_2 : w24.cell? ⟨gb138, 2, none⟩ = some (.slice Ao23 t131.length co23) := (blk_cell BK138.out 2).trans rfl; have hfz28_0 := blk_frozen BK138.out 0; have hfz28_1 := blk_frozen BK138.out 1; have hfz28_2 := blk_frozen BK138.out 2) | ((with_reducible refine gate_builtin (b := .append) (xs := #[.tmp 70, .tmp 72]) rfl ?_); at_builtin; refine Kd.R_append k24 w.heap.size rfl (.tmp 70) (.tmp 72) 22 24 (.agg #[(.int .i64 0), (.string ⟨#[]⟩), (.slice none 0 0)]) 48 rfl Tryd.underlying22 info24 rfl (by decide) (by omega) u128002 x128002_1 (⟨t129, t130, t131⟩ : S24) [.int .i64 t129, .string t130, .slice Ao23 t131.length co23] (fun k_ => k_ ≠ gb119 ∧ k_ ≠ gb127 ∧ k_ ≠ gb138) (fun k_ => ((fun k_ => k_ ≠ gb119 ∧ k_ ≠ gb127 ∧ k_ ≠ gb138)) k_ ∧ some k_ ≠ (u128002 : Value).ownBlock) rfl rfl ?aP (fun _ hk => hk) ?aF ?aO (Below.refl _ _) ?aS ?aL ?_; (case aP => exact k24_mkM _ _ _ (⟨t129, t130, t131⟩ : S24) (Kd.R_mono (HO133.out) (fun k_ hk => ⟨⟨hk.2.1, ⟨hk.2.2.1, hk.2.2.2⟩⟩, hk.1⟩))); (case aF => exact (fun k_ hk => ⟨Kd.freshB (g := gb119) (o := .cells #[.int .i64 x120000_1, .string x120001_1, .slice none 0 0] 24 (0, 0)) (bkq BK119.out) k_ hk, Kd.freshB (g := gb127) (o := .cells #[.int .i64 t120, .string (⟨#[]⟩ : ByteArray), u128002] 24 (0, 0)) (bkq BK127.out) k_ hk, Kd.freshB (g := gb138) (o := .cells #[.int .i64 t129, .string t130, .slice Ao23 t131.length co23] 24 (0, 0)) (bkq BK138.out) k_ hk⟩)); (case aO => exact (by refine rkq ?_; exact Kd.R_mono HO_128002.out (fun _ hk => ⟨hk.2.1, ⟨hk.2.2.1, hk.2.2.2⟩⟩))); (case aS => exact (keep_size (w := w) (g := g) (row := none) q1_)); (case aL => have := LMc15.out; omega); intro v141 w29 ho hb hg hat; rw [← Ny140.out] at ho; have n0_ := Aside0.mk (blk_grown (g := gb119) (o := .cells #[.int .i64 x120000_1, .string x120001_1, .slice none 0 0] 24 (0, 0)) (bkq BK119.out) hg (Kd.R_away HO_128002.out (fun _ hk => hk.2.1))); have n1_ := Aside0.mk (blk_grown (g := gb127) (o := .cells #[.int .i64 t120, .string (⟨#[]⟩ : ByteArray), u128002] 24 (0, 0)) (bkq BK127.out) hg (Kd.R_away HO_128002.out (fun _ hk => hk.2.2.1))); have n2_ := Aside0.mk (IsS74.grown q15_ hg (IsS74.own_ne HI0.out HO_128002.out (by decide))); have n3_ := Aside0.mk (blk_grown (g := gb138) (o := .cells #[.int .i64 t129, .string t130, .slice Ao23 t131.length co23] 24 (0, 0)) (bkq BK138.out) hg (Kd.R_away HO_128002.out (fun _ hk => hk.2.2.2))); have n4_ := Aside0.mk (below_weaken q6_ HL.out hb); have n5_ := Aside0.mk (KeepBut.trans q1_ (KeepBut.of_grown hg g) (Kd.R_base2 HO_128002.out)); have n6_ := Aside0.mk (ho); clear BK119; clear BK127; clear HI0; clear BK138; clear HB; clear HK; clear HO_128002; clear HO133; have BK119 := n0_; have BK127 := n1_; have HI0 := n2_; have BK138 := n3_; have HB := n4_; have HK := n5_; have HO142 := n6_; clear n0_ n1_ n2_ n3_ n4_ n5_ n6_; clear ho hb hg hat; obtain ⟨Ao30, co30, eo30⟩ := Kd.R_slice HO142.out; subst eo30; have hcz31_0 : w29.cell? ⟨gb127, 0, none⟩ = some (.int .i64 t120) := (blk_cell BK127.out 0).trans rfl; have hcz31_1 : w29.cell? ⟨gb127, 1, none⟩ = some (.string (⟨#[]⟩ : ByteArray)) := (blk_cell BK127.out 1).trans rfl; have hcz31_2 : w29.cell? ⟨gb127, 2, none⟩ = some (u128002) := (blk_cell BK127.out 2).trans rfl; have hfz31_0 := blk_frozen BK127.out 0; have hfz31_1 := blk_frozen BK127.out 1; have hfz31_2 := blk_frozen BK127.out 2))
        go_roundg k1
        case measure => have := HK1.out; omega
        case rel => exact ⟨(t135), (t136), (t137), (x120000_1), (x120001_1), (y140), (.slice Ao30 y140.length co30), H', ⟨by have := HK1.out; omega⟩, ⟨by refine rkq ?_; exact Kd.R_mono (Kd.R_far (p := ⟨gb127, 2, none⟩) (Kd.R_mono HO142.out (fun k_ hk => (⟨hk, hk.2.1⟩ : _ ∧ k_ ≠ gb127))) (fun _ hk => hk.2) (.slice Ao30 y140.length co30)) (fun _ hk => ⟨hk.1.1, hk.1.2.1⟩)⟩, ⟨by refine bkq ?_; refine blk_far ?_ NB119_127.out _; refine bkq ?_; exact BK119.out⟩, ⟨by refine bkq ?_; refine blk_put (cs := #[.int .i64 t120, .string (⟨#[]⟩ : ByteArray), u128002]) ?_ 2 _ rfl; refine bkq ?_; exact BK127.out⟩, ⟨q15_⟩, ⟨q1_⟩, ⟨q6_⟩⟩
       ·rw [if_neg c15] at H
        exact absurd H (by simp)
      ·have H1 : (some (0, (⟨#[]⟩ : ByteArray), ([] : List (S24)), some q139, t135, t136, t137)) = some (r1, r2, r3, r4, r5, r6, r7) := by rw [if_neg (show ¬ (some q139).isNone = true by simp)] at H; exact H
       clear H
       have H := H1
       clear H1
       try simp only [eW]
       simp only [Option.some.injEq, Prod.mk.injEq] at H
       obtain ⟨rfl, rfl, rfl, rfl, rfl, rfl, rfl⟩ := H
       obtain ⟨HGz32, hgz32⟩ := HI0.out
       have hcz32_0 := cellS74_0 HGz32
       have hcz32_1 := cellS74_1 HGz32
       have hcz32_2 := cellS74_2 HGz32
       have hfz32_0 := blk_frozen HGz32 0
       have hfz32_1 := blk_frozen HGz32 1
       have hfz32_2 := blk_frozen HGz32 2
       clear HGz32 hgz32
       go_wp2_with (first | ((with_reducible refine gate_callee (f := 44) rfl ?_); refine goesL_ (some 62) rfl rfl Tryd.func44 (by kernel_rfl) rfl #[.pointer (some ⟨g, 0, none⟩), .int .i64 t121, .int .i64 (wrap64 (a2 + 1))] rfl argq ?_; (with_reducible refine (ih k1 (by have := HK1.out; omega) g x1000_1 x1001_1 x1002_1 t121 (wrap64 (a2 + 1)) t129 t130 t131 (some q139) t135 t136 t137 w0 _ ?side1 ?side2 ?side3 A14.out).mono ?_); (case side1 => repeat (first | (with_reducible first | exact HI0.out | apply IsS74.alloc | apply IsS74.drewN | apply IsS74.drew | apply IsS74.set_0 | apply IsS74.set_1 | apply IsS74.set_2 | refine IsS74.far ?_ NB0_119.out _ | refine IsS74.far ?_ NB0_127.out _) | exact HI0.out | refine IsS74.far (f0 := ?f0) ?_ NB0_119.out _ | refine IsS74.far (f1 := ?f1) ?_ NB0_119.out _ | refine IsS74.far (f2 := ?f2) ?_ NB0_119.out _ | refine IsS74.far (f0 := ?f0) (f1 := ?f1) ?_ NB0_119.out _ | refine IsS74.far (f0 := ?f0) (f2 := ?f2) ?_ NB0_119.out _ | refine IsS74.far (f1 := ?f1) (f2 := ?f2) ?_ NB0_119.out _ | refine IsS74.far (f0 := ?f0) ?_ NB0_127.out _ | refine IsS74.far (f1 := ?f1) ?_ NB0_127.out _ | refine IsS74.far (f2 := ?f2) ?_ NB0_127.out _ | refine IsS74.far (f0 := ?f0) (f1 := ?f1) ?_ NB0_127.out _ | refine IsS74.far (f0 := ?f0) (f2 := ?f2) ?_ NB0_127.out _ | refine IsS74.far (f1 := ?f1) (f2 := ?f2) ?_ NB0_127.out _)); (case side2 => repeat (first | (with_reducible first | exact HB.out | apply below_alloc | apply pw_below_drewN | apply below_drew1 | refine below_set ?_ (IsS74.ge HI0.out) | refine below_set ?_ (Aside0.out (by assumption))) | exact HB.out)); (case side3 => first | exact hG | exact GW.below hG q6_); rintro e w33 ⟨v132, rfl, ho0, hi, hb, hk⟩; refine ⟨_, rfl, ?_⟩; have n0_ := Aside0.mk (Kd.R_mono (Kd.R_told (Kd.R_oldK (IsS74.apart (show IsS74 w0 _ g x1000_1 x1001_1 x1002_1 from q8_) (rkq HO_128002.out) (by decide)) hk) (Kd.R_base ho0)) (fun _ h_ => h_.1)); have n1_ := Aside0.mk (KeepBut.blk hk (g' := gb119) (o := .cells #[.int .i64 x120000_1, .string x120001_1, .slice none 0 0] 24 (0, 0)) (bkq BK119.out) NB119_0.out (by simp)); have n2_ := Aside0.mk (KeepBut.blk hk (g' := gb127) (o := .cells #[.int .i64 t120, .string (⟨#[]⟩ : ByteArray), u128002] 24 (0, 0)) (bkq BK127.out) NB127_0.out (by simp)); have n3_ := Aside0.mk (Kd.R_lower (Kd.R_newB (Kd.R_newB (Kd.R_new' ho0 (Kd.R_lt (rkq HO_128002.out))) (g := gb119) (o := .cells #[.int .i64 x120000_1, .string x120001_1, .slice none 0 0] 24 (0, 0)) (bkq BK119.out)) (g := gb127) (o := .cells #[.int .i64 t120, .string (⟨#[]⟩ : ByteArray), u128002] 24 (0, 0)) (bkq BK127.out)) (keep_size (w := w) (g := g) (row := none) q1_)); have n4_ := Aside0.mk (KeepBut.trans q1_ hk (.inl rfl)); have n5_ := Aside0.mk (hb); have n6_ := Aside0.mk (hi); clear HO_128002; clear BK119; clear BK127; clear HK; clear HB; clear HI0; have HO_128002 := n0_; have BK119 := n1_; have BK127 := n2_; have HO133 := n3_; have HK := n4_; have HB := n5_; have HI0 := n6_; clear n0_ n1_ n2_ n3_ n4_ n5_ n6_; (try clear hb); (try clear hb2); (try clear hk); (try clear hi); (try clear ho0); (try simp only [eW])) | ((with_reducible refine gate_dst (N := 12) rfl ?_); refine box_event ?hg (N := 12) ?hd (cs := #[.int .i64 0, .string (⟨#[]⟩ : ByteArray), .slice none 0 0]) (t := 24) ?hr ?_; (case hd => rfl); (case hg => rfl); (case hr => first | (go_simp; done) | (go_simp; rfl)); intro gb138 hg w34 hbox hb; have n0_ := Aside0.mk (Kd.R_below (Kd.R_elderB (rkq HO_128002.out) gb138 (Nat.le_of_eq hg.symm)) hb); have n1_ := Aside0.mk (Kd.R_below (Kd.R_elderB (rkq HO133.out) gb138 (Nat.le_of_eq hg.symm)) hb); have n2_ := Aside0.mk (blk_below (g := gb119) (o := .cells #[.int .i64 x120000_1, .string x120001_1, .slice none 0 0] 24 (0, 0)) (bkq BK119.out) hb); have n3_ := Aside0.mk (blk_below (g := gb127) (o := .cells #[.int .i64 t120, .string (⟨#[]⟩ : ByteArray), u128002] 24 (0, 0)) (bkq BK127.out) hb); have n4_ := Aside0.mk (IsS74.below q8_ hb); have n5_ := Aside0.mk (KeepBut.trans q1_ (KeepBut.of_below hb g none) (.inl rfl)); have n6_ := Aside0.mk (below_step q6_ hb); have n7_ := Aside0.mk (hbox); have n8_ := Aside0.mk ((by rw [hg]; exact (keep_size (w := w) (g := g) (row := none) q1_) : w.heap.size ≤ gb138)); have n9_ := Aside0.mk ((Nat.le_trans HW0.out (by rw [hg]; exact (keep_size (w := w) (g := g) (row := none) q1_) : w.heap.size ≤ gb138) : w0.heap.size ≤ gb138)); have n10_ := Aside0.mk ((by rw [hg]; exact Nat.ne_of_lt (blk_lt (g := gb119) (o := .cells #[.int .i64 x120000_1, .string x120001_1, .slice none 0 0] 24 (0, 0)) (bkq BK119.out)) : gb119 ≠ gb138)); have n11_ := Aside0.mk ((by rw [hg]; exact Nat.ne_of_gt (blk_lt (g := gb119) (o := .cells #[.int .i64 x120000_1, .string x120001_1, .slice none 0 0] 24 (0, 0)) (bkq BK119.out)) : gb138 ≠ gb119)); have n12_ := Aside0.mk ((by rw [hg]; exact Nat.ne_of_lt (blk_lt (g := gb127) (o := .cells #[.int .i64 t120, .string (⟨#[]⟩ : ByteArray), u128002] 24 (0, 0)) (bkq BK127.out)) : gb127 ≠ gb138)); have n13_ := Aside0.mk ((by rw [hg]; exact Nat.ne_of_gt (blk_lt (g := gb127) (o := .cells #[.int .i64 t120, .string (⟨#[]⟩ : ByteArray), u128002] 24 (0, 0)) (bkq BK127.out)) : gb138 ≠ gb127)); have n14_ := Aside0.mk ((by rw [hg]; exact Nat.ne_of_lt (IsS74.lt (show IsS74 w0 _ g t135 t136 t137 from q8_)) : g ≠ gb138)); have n15_ := Aside0.mk ((by rw [hg]; exact Nat.ne_of_gt (IsS74.lt (show IsS74 w0 _ g t135 t136 t137 from q8_)) : gb138 ≠ g)); clear HO_128002; clear HO133; clear BK119; clear BK127; clear HI0; clear HK; clear HB; have HO_128002 := n0_; have HO133 := n1_; have BK119 := n2_; have BK127 := n3_; have HI0 := n4_; have HK := n5_; have HB := n6_; have BK138 := n7_; have GW138 := n8_; have GE138 := n9_; have NB119_138 := n10_; have NB138_119 := n11_; have NB127_138 := n12_; have NB138_127 := n13_; have NB0_138 := n14_; have NB138_0 := n15_; clear n0_ n1_ n2_ n3_ n4_ n5_ n6_ n7_ n8_ n9_ n10_ n11_ n12_ n13_ n14_ n15_; clear hb hbox hg; have hnb35 := NB138_119.out; have hnc35 := NB119_138.out; have hnb36 := NB138_127.out; have hnc36 := NB127_138.out; have hnb37 := NB138_0.out; have hnc37 := NB0_138.out; have hcz38_0 : w34.cell? ⟨gb138, 0, none⟩ = some (.int .i64 0) := (blk_cell BK138.out 0).trans rfl; have hcz38_1 : w34.cell? ⟨gb138, 1, none⟩ = some (.string (⟨#[]⟩ : ByteArray)) := (blk_cell BK138.out 1).trans rfl; have hcz38_2 : w34.cell? ⟨gb138, 2, none⟩ = some (.slice none 0 0) := (blk_cell BK138.out 2).trans rfl; have hfz38_0 := blk_frozen BK138.out 0; have hfz38_1 := blk_frozen BK138.out 1; have hfz38_2 := blk_frozen BK138.out 2; obtain ⟨Ao39, co39, eo39⟩ := Kd.R_slice HO133.out; subst eo39; have hnb40 := NB119_127.out; have hnc40 := NB127_119.out; have hnb41 := NB119_0.out; have hnc41 := NB0_119.out; have hcz42_0 : w34.cell? ⟨gb119, 0, none⟩ = some (.int .i64 x120000_1) := (blk_cell BK119.out 0).trans rfl; have hcz42_1 : w34.cell? ⟨gb119, 1, none⟩ = some (.string x120001_1) := (blk_cell BK119.out 1).trans rfl; have hcz42_2 : w34.cell? ⟨gb119, 2, none⟩ = some (.slice none 0 0) := (blk_cell BK119.out 2).trans rfl; have hfz42_0 := blk_frozen BK119.out 0; have hfz42_1 := blk_frozen BK119.out 1; have hfz42_2 := blk_frozen BK119.out 2))
       refine bodyPost_ret (results_ct rfl _ _ gb119 24 #[.int .i64 0, .string (⟨#[]⟩ : ByteArray), .slice none 0 0] (0, 0) _ rfl (by refine bkq ?_; refine blk_put (cs := #[.int .i64 0, .string (⟨#[]⟩ : ByteArray), .slice none 0 0]) ?_ 2 _ rfl; refine bkq ?_; refine blk_put (cs := #[.int .i64 0, .string x120001_1, .slice none 0 0]) ?_ 1 _ rfl; refine bkq ?_; refine blk_put (cs := #[.int .i64 x120000_1, .string x120001_1, .slice none 0 0]) ?_ 0 _ rfl; refine bkq ?_; refine blk_far ?_ NB119_138.out _; refine bkq ?_; refine blk_far ?_ NB119_138.out _; refine bkq ?_; refine blk_far ?_ NB119_138.out _; refine bkq ?_; exact BK119.out) Tryd.underlying24 rfl (by kernel_rfl)) rfl ?_
       exact ⟨_, q2_, q10_, q15_, q6_, q1_⟩
     ·rw [if_neg c13] at H
      have c13b0 : decide (x1001_1 < t121) = false := decide_eq_false c13
      clear c13
      simp only [Option.some.injEq, Prod.mk.injEq] at H
      obtain ⟨rfl, rfl, rfl, rfl, rfl, rfl, rfl⟩ := H
      obtain ⟨HGz43, hgz43⟩ := HI0.out
      have hcz43_0 := cellS74_0 HGz43
      have hcz43_1 := cellS74_1 HGz43
      have hcz43_2 := cellS74_2 HGz43
      have hfz43_0 := blk_frozen HGz43 0
      have hfz43_1 := blk_frozen HGz43 1
      have hfz43_2 := blk_frozen HGz43 2
      clear HGz43 hgz43
      have hnb44 := NB127_119.out
      have hnc44 := NB119_127.out
      have hnb45 := NB127_0.out
      have hnc45 := NB0_127.out
      have hcz46_0 : wr.cell? ⟨gb127, 0, none⟩ = some (.int .i64 t120) := (blk_cell BK127.out 0).trans rfl
      have hcz46_1 : wr.cell? ⟨gb127, 1, none⟩ = some (.string (⟨#[]⟩ : ByteArray)) := (blk_cell BK127.out 1).trans rfl
      have hcz46_2 : wr.cell? ⟨gb127, 2, none⟩ = some (u128002) := (blk_cell BK127.out 2).trans rfl
      have hfz46_0 := blk_frozen BK127.out 0
      have hfz46_1 := blk_frozen BK127.out 1
      have hfz46_2 := blk_frozen BK127.out 2
      have hnb47 := NB119_0.out
      have hnc47 := NB0_119.out
      have hcz48_0 : wr.cell? ⟨gb119, 0, none⟩ = some (.int .i64 x120000_1) := (blk_cell BK119.out 0).trans rfl
      have hcz48_1 : wr.cell? ⟨gb119, 1, none⟩ = some (.string x120001_1) := (blk_cell BK119.out 1).trans rfl
      have hcz48_2 : wr.cell? ⟨gb119, 2, none⟩ = some (.slice none 0 0) := (blk_cell BK119.out 2).trans rfl
      have hfz48_0 := blk_frozen BK119.out 0
      have hfz48_1 := blk_frozen BK119.out 1
      have hfz48_2 := blk_frozen BK119.out 2
      obtain ⟨Ao49, co49, eo49⟩ := Kd.R_slice HO_128002.out
      subst eo49
      go_wp2
      refine bodyPost_ret (results_ct rfl _ _ gb119 24 #[.int .i64 t120, .string (⟨#[]⟩ : ByteArray), .slice Ao49 x128002_1.length co49] (0, 0) _ rfl (by refine bkq ?_; refine blk_put (cs := #[.int .i64 t120, .string (⟨#[]⟩ : ByteArray), .slice none 0 0]) ?_ 2 _ rfl; refine bkq ?_; refine blk_put (cs := #[.int .i64 t120, .string x120001_1, .slice none 0 0]) ?_ 1 _ rfl; refine bkq ?_; refine blk_put (cs := #[.int .i64 x120000_1, .string x120001_1, .slice none 0 0]) ?_ 0 _ rfl; refine bkq ?_; exact BK119.out) Tryd.underlying24 rfl (by kernel_rfl)) rfl ?_
      exact ⟨_, q2_, by refine rkq ?_; exact Kd.R_mono (Kd.R_far (p := ⟨gb119, 2, none⟩) (Kd.R_far (p := ⟨gb119, 1, none⟩) (Kd.R_far (p := ⟨gb119, 0, none⟩) (Kd.R_mono HO_128002.out (fun k_ hk => (⟨hk, hk.1⟩ : _ ∧ k_ ≠ gb119))) (fun _ hk => hk.2) (.int .i64 t120)) (fun _ hk => hk.2) (.string (⟨#[]⟩ : ByteArray))) (fun _ hk => hk.2) (.slice Ao49 x128002_1.length co49)) (fun _ hk => trivial), q8_, q6_, q1_⟩
  ·replace c6 := Bool.eq_false_iff.mpr c6
   subst c6
   have H1 : (if 0 ≤ t124 then (if t124 ≤ t121 then (if t121 ≤ (t123.size : Int) then (some (t120, t123.extract (t124 : Int).toNat (t121 : Int).toNat, ([] : List (S24)), none, t123, t121, t125)) else (none)) else (none)) else (none)) = some (r1, r2, r3, r4, r5, r6, r7) := by rw [if_neg (show ¬ (false = true) by decide)] at H; exact H
   clear H
   have H := H1
   clear H1
   by_cases c50 : 0 ≤ t124
   ·rw [if_pos c50] at H
    have c50b0 := eq_true c50
    have c50b1 : decide (0 ≤ t124) = true := decide_eq_true c50
    clear c50
    by_cases c51 : t124 ≤ t121
    ·rw [if_pos c51] at H
     have c51b0 := eq_true c51
     have c51b1 : decide (t124 ≤ t121) = true := decide_eq_true c51
     clear c51
     by_cases c52 : t121 ≤ (t123.size : Int)
     ·rw [if_pos c52] at H
      have c52b0 := eq_true c52
      have c52b1 : decide (t121 ≤ (t123.size : Int)) = true := decide_eq_true c52
      clear c52
      simp only [Option.some.injEq, Prod.mk.injEq] at H
      obtain ⟨rfl, rfl, rfl, rfl, rfl, rfl, rfl⟩ := H
      go_enter Tryd.func44, Tryd.ntmps44
      try go_wp2_with (first | ((with_reducible refine gate_dst (N := 6) rfl ?_); refine box_event ?hg (N := 6) ?hd (cs := #[.int .i64 0, .string (⟨#[]⟩ : ByteArray), .slice none 0 0]) (t := 24) ?hr ?_; (case hd => rfl); (case hg => rfl); (case hr => first | (go_simp; done) | (go_simp; rfl)); intro gb119 hg w53 hbox hb; have n0_ := Aside0.mk (IsS74.below q5_ hb); have n1_ := Aside0.mk (KeepBut.trans q1_ (KeepBut.of_below hb g none) (.inl rfl)); have n2_ := Aside0.mk (below_step q3_ hb); have n3_ := Aside0.mk (hbox); have n4_ := Aside0.mk ((by rw [hg]; exact (keep_size (w := w) (g := g) (row := none) q1_) : w.heap.size ≤ gb119)); have n5_ := Aside0.mk ((Nat.le_trans HW0.out (by rw [hg]; exact (keep_size (w := w) (g := g) (row := none) q1_) : w.heap.size ≤ gb119) : w0.heap.size ≤ gb119)); have n6_ := Aside0.mk ((by rw [hg]; exact Nat.ne_of_lt (IsS74.lt (show IsS74 w0 _ g s0_0 s0_1 s0_2 from q5_)) : g ≠ gb119)); have n7_ := Aside0.mk ((by rw [hg]; exact Nat.ne_of_gt (IsS74.lt (show IsS74 w0 _ g s0_0 s0_1 s0_2 from q5_)) : gb119 ≠ g)); clear HI0; clear HK; clear HB; have HI0 := n0_; have HK := n1_; have HB := n2_; have BK119 := n3_; have GW119 := n4_; have GE119 := n5_; have NB0_119 := n6_; have NB119_0 := n7_; clear n0_ n1_ n2_ n3_ n4_ n5_ n6_ n7_; clear hb hbox hg) | ((with_reducible refine gate_callee (f := 59) rfl ?_); refine goesL_ (some 18) rfl rfl Tryd.func59 (by kernel_rfl) rfl #[.pointer (some ⟨g, 0, none⟩), .int .i64 a1, .int .i64 a2] rfl argq ?_; (with_reducible refine (tlv_reader_head.calls (G := G) g s0_0 s0_1 s0_2 a1 a2 t120 t121 none t123 t124 t125 w0 _ ?side1 ?side2 ?side3 A4.out).mono ?_); (case side1 => repeat (first | (with_reducible first | exact HI0.out | apply IsS74.alloc | apply IsS74.drewN | apply IsS74.drew | apply IsS74.set_0 | apply IsS74.set_1 | apply IsS74.set_2 | refine IsS74.far ?_ NB0_119.out _) | exact HI0.out | refine IsS74.far (f0 := ?f0) ?_ NB0_119.out _ | refine IsS74.far (f1 := ?f1) ?_ NB0_119.out _ | refine IsS74.far (f2 := ?f2) ?_ NB0_119.out _ | refine IsS74.far (f0 := ?f0) (f1 := ?f1) ?_ NB0_119.out _ | refine IsS74.far (f0 := ?f0) (f2 := ?f2) ?_ NB0_119.out _ | refine IsS74.far (f1 := ?f1) (f2 := ?f2) ?_ NB0_119.out _)); (case side2 => repeat (first | (with_reducible first | exact HB.out | apply below_alloc | apply pw_below_drewN | apply below_drew1 | refine below_set ?_ (IsS74.ge HI0.out) | refine below_set ?_ (Aside0.out (by assumption))) | exact HB.out)); (case side3 => first | exact hG | exact GW.below hG q6_); rintro e w54 ⟨rfl, hi, hb, hk⟩; refine ⟨_, rfl, ?_⟩; have n0_ := Aside0.mk (KeepBut.blk hk (g' := gb119) (o := .cells #[.int .i64 0, .string (⟨#[]⟩ : ByteArray), .slice none 0 0] 24 (0, 0)) (bkq BK119.out) NB119_0.out (by simp)); have n1_ := Aside0.mk (KeepBut.trans q1_ hk (.inl rfl)); have n2_ := Aside0.mk (hb); have n3_ := Aside0.mk (hi); clear BK119; clear HK; clear HB; clear HI0; have BK119 := n0_; have HK := n1_; have HB := n2_; have HI0 := n3_; clear n0_ n1_ n2_ n3_; (try clear hb); (try clear hb2); (try clear hk); (try clear hi); (try simp only [eW])) | ((with_reducible refine gate_dst (N := 11) rfl ?_); refine box_event ?hg (N := 11) ?hd (cs := #[.int .i64 0, .string (⟨#[]⟩ : ByteArray), .slice none 0 0]) (t := 24) ?hr ?_; (case hd => rfl); (case hg => rfl); (case hr => first | (go_simp; done) | (go_simp; rfl)); intro gb127 hg w55 hbox hb; have n0_ := Aside0.mk (IsS74.below q13_ hb); have n1_ := Aside0.mk (blk_below (g := gb119) (o := .cells #[.int .i64 0, .string (⟨#[]⟩ : ByteArray), .slice none 0 0] 24 (0, 0)) (bkq BK119.out) hb); have n2_ := Aside0.mk (KeepBut.trans q1_ (KeepBut.of_below hb g none) (.inl rfl)); have n3_ := Aside0.mk (below_step q6_ hb); have n4_ := Aside0.mk (hbox); have n5_ := Aside0.mk ((by rw [hg]; exact (keep_size (w := w) (g := g) (row := none) q1_) : w.heap.size ≤ gb127)); have n6_ := Aside0.mk ((Nat.le_trans HW0.out (by rw [hg]; exact (keep_size (w := w) (g := g) (row := none) q1_) : w.heap.size ≤ gb127) : w0.heap.size ≤ gb127)); have n7_ := Aside0.mk ((by rw [hg]; exact Nat.ne_of_lt (blk_lt (g := gb119) (o := .cells #[.int .i64 0, .string (⟨#[]⟩ : ByteArray), .slice none 0 0] 24 (0, 0)) (bkq BK119.out)) : gb119 ≠ gb127)); have n8_ := Aside0.mk ((by rw [hg]; exact Nat.ne_of_gt (blk_lt (g := gb119) (o := .cells #[.int .i64 0, .string (⟨#[]⟩ : ByteArray), .slice none 0 0] 24 (0, 0)) (bkq BK119.out)) : gb127 ≠ gb119)); have n9_ := Aside0.mk ((by rw [hg]; exact Nat.ne_of_lt (IsS74.lt (show IsS74 w0 _ g t123 t124 t125 from q13_)) : g ≠ gb127)); have n10_ := Aside0.mk ((by rw [hg]; exact Nat.ne_of_gt (IsS74.lt (show IsS74 w0 _ g t123 t124 t125 from q13_)) : gb127 ≠ g)); clear HI0; clear BK119; clear HK; clear HB; have HI0 := n0_; have BK119 := n1_; have HK := n2_; have HB := n3_; have BK127 := n4_; have GW127 := n5_; have GE127 := n6_; have NB119_127 := n7_; have NB127_119 := n8_; have NB0_127 := n9_; have NB127_0 := n10_; clear n0_ n1_ n2_ n3_ n4_ n5_ n6_ n7_ n8_ n9_ n10_; clear hb hbox hg; have hnb56 := NB127_119.out; have hnc56 := NB119_127.out; have hnb57 := NB127_0.out; have hnc57 := NB0_127.out; have hcz58_0 : w55.cell? ⟨gb127, 0, none⟩ = some (.int .i64 0) := (blk_cell BK127.out 0).trans rfl; have hcz58_1 : w55.cell? ⟨gb127, 1, none⟩ = some (.string (⟨#[]⟩ : ByteArray)) := (blk_cell BK127.out 1).trans rfl; have hcz58_2 : w55.cell? ⟨gb127, 2, none⟩ = some (.slice none 0 0) := (blk_cell BK127.out 2).trans rfl; have hfz58_0 := blk_frozen BK127.out 0; have hfz58_1 := blk_frozen BK127.out 1; have hfz58_2 := blk_frozen BK127.out 2) | ((with_reducible refine gate_callee (f := 60) rfl ?_); refine goesL_ (some 29) rfl rfl Tryd.func60 (by kernel_rfl) rfl #[.int .i64 t120] rfl argq ?_; (with_reducible refine (tlv_isInner.calls t120 false _ A5.out).mono ?_); rintro e w' ⟨rfl, ⟨nd, rfl⟩⟩; refine ⟨_, rfl, ?_⟩))
      have n0_ : Aside0 ((((w55.setCell ⟨gb127, 0, none⟩ (.int .i64 t120)).setCell ⟨gb127, 1, none⟩ (.string (⟨#[]⟩ : ByteArray))).setCell ⟨gb127, 2, none⟩ (.slice none 0 0)).heap[gb119]? = some (.cells #[.int .i64 0, .string (⟨#[]⟩ : ByteArray), .slice none 0 0] 24 (0, 0))) := ⟨by refine bkq ?_; refine blk_far ?_ NB119_127.out _; refine bkq ?_; refine blk_far ?_ NB119_127.out _; refine bkq ?_; refine blk_far ?_ NB119_127.out _; refine bkq ?_; exact BK119.out⟩
      have n1_ : Aside0 ((((w55.setCell ⟨gb127, 0, none⟩ (.int .i64 t120)).setCell ⟨gb127, 1, none⟩ (.string (⟨#[]⟩ : ByteArray))).setCell ⟨gb127, 2, none⟩ (.slice none 0 0)).heap[gb127]? = some (.cells #[.int .i64 t120, .string (⟨#[]⟩ : ByteArray), .slice none 0 0] 24 (0, 0))) := ⟨by refine bkq ?_; refine blk_put (cs := #[.int .i64 t120, .string (⟨#[]⟩ : ByteArray), .slice none 0 0]) ?_ 2 _ rfl; refine bkq ?_; refine blk_put (cs := #[.int .i64 t120, .string (⟨#[]⟩ : ByteArray), .slice none 0 0]) ?_ 1 _ rfl; refine bkq ?_; refine blk_put (cs := #[.int .i64 0, .string (⟨#[]⟩ : ByteArray), .slice none 0 0]) ?_ 0 _ rfl; refine bkq ?_; exact BK127.out⟩
      have n2_ : Aside0 (IsS74 w0 (((w55.setCell ⟨gb127, 0, none⟩ (.int .i64 t120)).setCell ⟨gb127, 1, none⟩ (.string (⟨#[]⟩ : ByteArray))).setCell ⟨gb127, 2, none⟩ (.slice none 0 0)) g t123 t124 t125) := ⟨q8_⟩
      have n3_ : Aside0 (KeepBut w (((w55.setCell ⟨gb127, 0, none⟩ (.int .i64 t120)).setCell ⟨gb127, 1, none⟩ (.string (⟨#[]⟩ : ByteArray))).setCell ⟨gb127, 2, none⟩ (.slice none 0 0)) g none) := ⟨q1_⟩
      have n4_ : Aside0 (Below w0.heap.size w0 (((w55.setCell ⟨gb127, 0, none⟩ (.int .i64 t120)).setCell ⟨gb127, 1, none⟩ (.string (⟨#[]⟩ : ByteArray))).setCell ⟨gb127, 2, none⟩ (.slice none 0 0))) := ⟨q6_⟩
      (try clear BK119)
      (try clear BK127)
      (try clear HI0)
      (try clear HK)
      (try clear HB)
      generalize (((w55.setCell ⟨gb127, 0, none⟩ (.int .i64 t120)).setCell ⟨gb127, 1, none⟩ (.string (⟨#[]⟩ : ByteArray))).setCell ⟨gb127, 2, none⟩ (.slice none 0 0)) = w59 at n0_ n1_ n2_ n3_ n4_ ⊢
      have BK119 := n0_
      have BK127 := n1_
      have HI0 := n2_
      have HK := n3_
      have HB := n4_
      clear n0_ n1_ n2_ n3_ n4_
      (try (rw [drewN_self w59]; generalize hq_ : World.drewN w59 _ = w59; have n0_ : Aside0 (w59.heap[gb119]? = some (.cells #[.int .i64 0, .string (⟨#[]⟩ : ByteArray), .slice none 0 0] 24 (0, 0))) := ⟨by rw [← hq_]; exact (bkq BK119.out)⟩; have n1_ : Aside0 (w59.heap[gb127]? = some (.cells #[.int .i64 t120, .string (⟨#[]⟩ : ByteArray), .slice none 0 0] 24 (0, 0))) := ⟨by rw [← hq_]; exact (bkq BK127.out)⟩; have n2_ : Aside0 (IsS74 w0 w59 g t123 t124 t125) := ⟨by rw [← hq_]; exact q8_⟩; have n3_ : Aside0 (KeepBut w w59 g none) := ⟨by rw [← hq_]; exact q1_⟩; have n4_ : Aside0 (Below w0.heap.size w0 w59) := ⟨by rw [← hq_]; exact q6_⟩; clear BK119 BK127 HI0 HK HB hq_; have BK119 := n0_; have BK127 := n1_; have HI0 := n2_; have HK := n3_; have HB := n4_; clear n0_ n1_ n2_ n3_ n4_))
      have n0_ := Aside0.mk (blk_drew BK119.out)
      have n1_ := Aside0.mk (blk_drew BK127.out)
      have n2_ := Aside0.mk (IsS74.drew HI0.out)
      have n3_ := Aside0.mk (keep_drew HK.out)
      have n4_ := Aside0.mk (below_drew1 HB.out)
      clear BK119
      clear BK127
      clear HI0
      clear HK
      clear HB
      have BK119 := n0_
      have BK127 := n1_
      have HI0 := n2_
      have HK := n3_
      have HB := n4_
      clear n0_ n1_ n2_ n3_ n4_
      refine start_ (n := 20) (S := fun w' => w'.cell? ⟨g, 0, none⟩ = some (.string t123) ∧ w'.cell? ⟨g, 1, none⟩ = some (.int .i64 t124) ∧ w'.cell? ⟨g, 2, none⟩ = some (.int .i64 t125)) (ds := [19]) #[false, false, false, false, false, false, false, false, false, false, false, false, false, false, false, false, false, false, false, false] (by kernel_rfl) rfl rfl ⟨(cellS74_0 HI0.out.1), (cellS74_1 HI0.out.1), (cellS74_2 HI0.out.1)⟩ (fun hHeld => ?_); refine with_tabW tlv_reader_tree.tab6 tlv_reader_tree.bits6 (fun HT_ HW_ => ?_)
      generalize w59.drew = w60 at BK119 BK127 HI0 HK HB hHeld ⊢
      refine p_ 0 (some 31) ?_
      refine p_ 1 (some 32) ?_
      refine p_ 2 (some 33) ?_
      refine p_ 3 (some 34) ?_
      refine p_ 4 (some 35) ?_
      refine p_ 6 (some 37) ?_
      refine p_ 7 (some 38) ?_
      refine p_ 8 (some 39) ?_
      refine p_ 9 (some 40) ?_
      refine p_ 11 (some 42) ?_
      refine p_ 13 (some 44) ?_
      refine t0_ 5 (some 36) ?_
      refine t0_ 10 (some 41) ?_
      refine p_ 12 (some 43) ?_
      refine p_ 14 (some 45) ?_
      refine one_ (i := 15) (N := none) #[true, true, true, true, true, true, true, true, true, true, true, true, true, true, true, true, false, false, false, false] rfl rfl (one_of HT_.out (by kernel_rfl)) (by decide) (fun K hK => ?_)
      have hs61 : w60.cell? ⟨gb127, 1, none⟩ = some (.string (⟨#[]⟩ : ByteArray)) := (blk_cell BK127.out 1).trans rfl
      have hfs61 := blk_frozen BK127.out 1
      have hns61_0 := NB119_127.out
      have hms61_0 := NB127_119.out
      refine skip_ (w1 := ?_) (by rfl) rfl ?_ ?_
      rotate_left
      ·go_simp
       rfl
      refine hK.out _ _ ⟨((cell_far (p := ⟨gb127, _, none⟩) NB0_127.out _).trans (hHeld.1)), ((cell_far (p := ⟨gb127, _, none⟩) NB0_127.out _).trans (hHeld.2.1)), ((cell_far (p := ⟨gb127, _, none⟩) NB0_127.out _).trans (hHeld.2.2))⟩ (fun hHeld => ?_)
      clear hK K
      refine p_ 16 (some 46) ?_
      refine p_ 17 (some 47) ?_
      refine p_ 18 (some 48) ?_
      refine last_ (i := 19) (N := none) #[true, true, true, true, true, true, true, true, true, true, true, true, true, true, true, true, true, true, true, true] rfl rfl (one_of HT_.out (by kernel_rfl)) (by decide) (fun K hK => ?_)
      have hfs62 := blk_frozen HI0.out.1 1
      have hns62_0 := NB119_0.out
      have hns62_1 := NB127_0.out
      have hms62_0 := NB0_119.out
      have hms62_1 := NB0_127.out
      refine skip_ (w1 := ?_) (by rfl) rfl ?_ ?_
      rotate_left
      ·go_simp
       rfl
      refine hK.out _ _ ?_
      clear hK K
      refine done_ (done_of HT_.out (by kernel_rfl)) ?_
      have hcz63_0 : w60.cell? ⟨gb127, 0, none⟩ = some (.int .i64 t120) := (blk_cell BK127.out 0).trans rfl
      have hcz63_1 : w60.cell? ⟨gb127, 1, none⟩ = some (.string (⟨#[]⟩ : ByteArray)) := (blk_cell BK127.out 1).trans rfl
      have hcz63_2 : w60.cell? ⟨gb127, 2, none⟩ = some (.slice none 0 0) := (blk_cell BK127.out 2).trans rfl
      have hfz63_0 := blk_frozen BK127.out 0
      have hfz63_1 := blk_frozen BK127.out 1
      have hfz63_2 := blk_frozen BK127.out 2
      have hnb64 := NB119_0.out
      have hnc64 := NB0_119.out
      have hcz65_0 : w60.cell? ⟨gb119, 0, none⟩ = some (.int .i64 0) := (blk_cell BK119.out 0).trans rfl
      have hcz65_1 : w60.cell? ⟨gb119, 1, none⟩ = some (.string (⟨#[]⟩ : ByteArray)) := (blk_cell BK119.out 1).trans rfl
      have hcz65_2 : w60.cell? ⟨gb119, 2, none⟩ = some (.slice none 0 0) := (blk_cell BK119.out 2).trans rfl
      have hfz65_0 := blk_frozen BK119.out 0
      have hfz65_1 := blk_frozen BK119.out 1
      have hfz65_2 := blk_frozen BK119.out 2
      try go_wp2
      refine bodyPost_ret (results_ct rfl _ _ gb119 24 #[.int .i64 t120, .string (t123.extract (t124 : Int).toNat (t121 : Int).toNat), .slice none 0 0] (0, 0) _ rfl (by refine bkq ?_; refine blk_put (cs := #[.int .i64 t120, .string (t123.extract (t124 : Int).toNat (t121 : Int).toNat), .slice none 0 0]) ?_ 2 _ rfl; refine bkq ?_; refine blk_put (cs := #[.int .i64 t120, .string (⟨#[]⟩ : ByteArray), .slice none 0 0]) ?_ 1 _ rfl; refine bkq ?_; refine blk_put (cs := #[.int .i64 0, .string (⟨#[]⟩ : ByteArray), .slice none 0 0]) ?_ 0 _ rfl; refine bkq ?_; refine blk_far ?_ NB119_0.out _; refine bkq ?_; refine blk_far ?_ NB119_127.out _; refine bkq ?_; exact BK119.out) Tryd.underlying24 rfl (by kernel_rfl)) rfl ?_
      exact ⟨_, q2_, q10_, q8_, q6_, q1_⟩
     ·rw [if_neg c52] at H
      exact absurd H (by simp)
    ·rw [if_neg c51] at H
     exact absurd H (by simp)
   ·rw [if_neg c50] at H
    exact absurd H (by simp)
 ·have H1 : (some (0, (⟨#[]⟩ : ByteArray), ([] : List (S24)), some q126, t123, t124, t125)) = some (r1, r2, r3, r4, r5, r6, r7) := by rw [if_neg (show ¬ (some q126).isNone = true by simp)] at H; exact H
  clear H
  have H := H1
  clear H1
  try simp only [eW]
  simp only [Option.some.injEq, Prod.mk.injEq] at H
  obtain ⟨rfl, rfl, rfl, rfl, rfl, rfl, rfl⟩ := H
  go_enter Tryd.func44, Tryd.ntmps44
  go_wp2_with (first | ((with_reducible refine gate_dst (N := 6) rfl ?_); refine box_event ?hg (N := 6) ?hd (cs := #[.int .i64 0, .string (⟨#[]⟩ : ByteArray), .slice none 0 0]) (t := 24) ?hr ?_; (case hd => rfl); (case hg => rfl); (case hr => first | (go_simp; done) | (go_simp; rfl)); intro gb119 hg w66 hbox hb; have n0_ := Aside0.mk (IsS74.below q5_ hb); have n1_ := Aside0.mk (KeepBut.trans q1_ (KeepBut.of_below hb g none) (.inl rfl)); have n2_ := Aside0.mk (below_step q3_ hb); have n3_ := Aside0.mk (hbox); have n4_ := Aside0.mk ((by rw [hg]; exact (keep_size (w := w) (g := g) (row := none) q1_) : w.heap.size ≤ gb119)); have n5_ := Aside0.mk ((Nat.le_trans HW0.out (by rw [hg]; exact (keep_size (w := w) (g := g) (row := none) q1_) : w.heap.size ≤ gb119) : w0.heap.size ≤ gb119)); have n6_ := Aside0.mk ((by rw [hg]; exact Nat.ne_of_lt (IsS74.lt (show IsS74 w0 _ g s0_0 s0_1 s0_2 from q5_)) : g ≠ gb119)); have n7_ := Aside0.mk ((by rw [hg]; exact Nat.ne_of_gt (IsS74.lt (show IsS74 w0 _ g s0_0 s0_1 s0_2 from q5_)) : gb119 ≠ g)); clear HI0; clear HK; clear HB; have HI0 := n0_; have HK := n1_; have HB := n2_; have BK119 := n3_; have GW119 := n4_; have GE119 := n5_; have NB0_119 := n6_; have NB119_0 := n7_; clear n0_ n1_ n2_ n3_ n4_ n5_ n6_ n7_; clear hb hbox hg) | ((with_reducible refine gate_callee (f := 59) rfl ?_); refine goesL_ (some 18) rfl rfl Tryd.func59 (by kernel_rfl) rfl #[.pointer (some ⟨g, 0, none⟩), .int .i64 a1, .int .i64 a2] rfl argq ?_; (with_reducible refine (tlv_reader_head.calls (G := G) g s0_0 s0_1 s0_2 a1 a2 t120 t121 (some q126) t123 t124 t125 w0 _ ?side1 ?side2 ?side3 A4.out).mono ?_); (case side1 => repeat (first | (with_reducible first | exact HI0.out | apply IsS74.alloc | apply IsS74.drewN | apply IsS74.drew | apply IsS74.set_0 | apply IsS74.set_1 | apply IsS74.set_2 | refine IsS74.far ?_ NB0_119.out _) | exact HI0.out | refine IsS74.far (f0 := ?f0) ?_ NB0_119.out _ | refine IsS74.far (f1 := ?f1) ?_ NB0_119.out _ | refine IsS74.far (f2 := ?f2) ?_ NB0_119.out _ | refine IsS74.far (f0 := ?f0) (f1 := ?f1) ?_ NB0_119.out _ | refine IsS74.far (f0 := ?f0) (f2 := ?f2) ?_ NB0_119.out _ | refine IsS74.far (f1 := ?f1) (f2 := ?f2) ?_ NB0_119.out _)); (case side2 => repeat (first | (with_reducible first | exact HB.out | apply below_alloc | apply pw_below_drewN | apply below_drew1 | refine below_set ?_ (IsS74.ge HI0.out) | refine below_set ?_ (Aside0.out (by assumption))) | exact HB.out)); (case side3 => first | exact hG | exact GW.below hG q6_); rintro e w67 ⟨rfl, hi, hb, hk⟩; refine ⟨_, rfl, ?_⟩; have n0_ := Aside0.mk (KeepBut.blk hk (g' := gb119) (o := .cells #[.int .i64 0, .string (⟨#[]⟩ : ByteArray), .slice none 0 0] 24 (0, 0)) (bkq BK119.out) NB119_0.out (by simp)); have n1_ := Aside0.mk (KeepBut.trans q1_ hk (.inl rfl)); have n2_ := Aside0.mk (hb); have n3_ := Aside0.mk (hi); clear BK119; clear HK; clear HB; clear HI0; have BK119 := n0_; have HK := n1_; have HB := n2_; have HI0 := n3_; clear n0_ n1_ n2_ n3_; (try clear hb); (try clear hb2); (try clear hk); (try clear hi); (try simp only [eW]); have hnb68 := NB119_0.out; have hnc68 := NB0_119.out; have hcz69_0 : w67.cell? ⟨gb119, 0, none⟩ = some (.int .i64 0) := (blk_cell BK119.out 0).trans rfl; have hcz69_1 : w67.cell? ⟨gb119, 1, none⟩ = some (.string (⟨#[]⟩ : ByteArray)) := (blk_cell BK119.out 1).trans rfl; have hcz69_2 : w67.cell? ⟨gb119, 2, none⟩ = some (.slice none 0 0) := (blk_cell BK119.out 2).trans rfl; have hfz69_0 := blk_frozen BK119.out 0; have hfz69_1 := blk_frozen BK119.out 1; have hfz69_2 := blk_frozen BK119.out 2))
  refine bodyPost_ret (results_ct rfl _ _ gb119 24 #[.int .i64 0, .string (⟨#[]⟩ : ByteArray), .slice none 0 0] (0, 0) _ rfl (by refine bkq ?_; refine blk_put (cs := #[.int .i64 0, .string (⟨#[]⟩ : ByteArray), .slice none 0 0]) ?_ 2 _ rfl; refine bkq ?_; refine blk_put (cs := #[.int .i64 0, .string (⟨#[]⟩ : ByteArray), .slice none 0 0]) ?_ 1 _ rfl; refine bkq ?_; refine blk_put (cs := #[.int .i64 0, .string (⟨#[]⟩ : ByteArray), .slice none 0 0]) ?_ 0 _ rfl; refine bkq ?_; exact BK119.out) Tryd.underlying24 rfl (by kernel_rfl)) rfl ?_
  exact ⟨_, q2_, q10_, q13_, q6_, q1_⟩
end Go.Proofs.YthnddhgkjkpmfaaDoor.LTlvC
-- Written by this repo's own program over the kit's printer: YthnddhgkjkpmfaaDoor.LTlvC
namespace Go.Proofs.YthnddhgkjkpmfaaDoor.LTlvC
open Go.Proofs.YthnddhgkjkpmfaaDoor.ExtTlvC
open Go.Proofs.YthnddhgkjkpmfaaDoor.KTlv
open Go.RowKit Go.Proofs.YthnddhgkjkpmfaaDoorW.PrintWords Go.Proofs.YthnddhgkjkpmfaaDoorW.PrintLast Go.Proofs.YthnddhgkjkpmfaaDoorW.PrintMore
attribute [local go_sem] max2_int min2_int max_two min_two max_three min_three max_four min_four   -- for this text's walks alone
attribute [local go_sem] some_set
set_option linter.unusedVariables false
set_option linter.unusedSimpArgs false
variable {G : Gl}
def tlv_decoded.j0 : Nat → ByteArray → Int → Bool → Option (Int × ByteArray × (List (S24)) × Int × Option Er)
 | 0, _, _, _ => none
 | k + 1, x0, x1, x17 => if x17 = true then (some (0, (⟨#[]⟩ : ByteArray), ([] : List (S24)), 0, some (Er.short x1))) else ((tlv_reader_tree.f k x0 x1 0 (x0.size : Int) 1).bind fun bt145 => (if bt145.2.2.2.1.isNone = true then ((tlv_Right.f bt145.1 bt145.2.1 bt145.2.2.1).bind fun t156 => (if t156 = true then (some (bt145.1, bt145.2.1, bt145.2.2.1, bt145.2.2.2.2.2.1, none)) else (some (0, (⟨#[]⟩ : ByteArray), ([] : List (S24)), 0, some (Er.node x1))))) else (some (0, (⟨#[]⟩ : ByteArray), ([] : List (S24)), 0, some (bt145.2.2.2.1.getD Er.z)))))
def tlv_decoded.f (k : Nat) (a0 : ByteArray) (a1 : Int) : Option (Int × ByteArray × (List (S24)) × Int × Option Er) := if a1 < 0 then (tlv_decoded.j0 k a0 a1 true) else (tlv_decoded.j0 k a0 a1 (decide (a1 > (a0.size : Int))))
theorem tlv_decoded.mono_l : ∀ k, (∀ y0 y1 y2, LeO (tlv_decoded.j0 k y0 y1 y2) (tlv_decoded.j0 (k + 1) y0 y1 y2))
 | 0 => fun _ _ _ r h => by simp [tlv_decoded.j0] at h
 | k + 1 => by
  have ih0 := tlv_decoded.mono_l k
  ·intro y0 y1 y2
   unfold tlv_decoded.j0
   repeat' first
   | (with_reducible exact ih0 _ _ _)
   | (with_reducible exact tlv_reader_tree.mono _ _ _ _ _ _)
   | (with_reducible exact LeO.refl _)
   | (with_reducible exact LeO.none _)
   | (with_reducible refine LeO.ite ?_ ?_)
   | (with_reducible refine LeO.bind ?_ (fun _ => ?_))
   | exact ih0 _ _ _
   | exact tlv_reader_tree.mono _ _ _ _ _ _
   | exact LeO.none _
   | refine LeO.ite ?_ ?_
   | refine LeO.bind ?_ (fun _ => ?_)
theorem tlv_decoded.mono : ∀ a0 a1 k, LeO (tlv_decoded.f k a0 a1) (tlv_decoded.f (k + 1) a0 a1) := by
 intro a0 a1 k
 have ih0 := tlv_decoded.mono_l k
 unfold tlv_decoded.f
 repeat' first
   | (with_reducible exact ih0 _ _ _)
   | (with_reducible exact tlv_reader_tree.mono _ _ _ _ _ _)
   | (with_reducible exact LeO.refl _)
   | (with_reducible exact LeO.none _)
   | (with_reducible refine LeO.ite ?_ ?_)
   | (with_reducible refine LeO.bind ?_ (fun _ => ?_))
   | exact ih0 _ _ _
   | exact tlv_reader_tree.mono _ _ _ _ _ _
   | exact LeO.none _
   | refine LeO.ite ?_ ?_
   | refine LeO.bind ?_ (fun _ => ?_)
def tlv_decoded.T2 : Bool × List (List Nat × List Nat) := (true, [([], []), ([], []), ([], []), ([1, 2], [1, 2]), ([3], [3]), ([0, 0], [0]), ([5, 0, 5], []), ([4, 6, 0, 1, 2, 3, 4, 5, 6], [4])])
def tlv_decoded.B2 : List Nat := [0, 0, 0, 6, 14, 1, 33, 127]
theorem tlv_decoded.tab2 : rtab .any (opsOf Tryd.f31 2) = tlv_decoded.T2 := by kernel_rfl
theorem tlv_decoded.bits2 : waitsOk tlv_decoded.T2.2 tlv_decoded.B2 = true := by kernel_rfl
def tlv_decoded.T8 : Bool × List (List Nat × List Nat) := (true, [([], []), ([], []), ([], []), ([1, 2], [1, 2]), ([3], [3]), ([0, 0], [0]), ([5, 0, 5], []), ([4, 6, 0, 1, 2, 3, 4, 5, 6], [4])])
def tlv_decoded.B8 : List Nat := [0, 0, 0, 6, 14, 1, 33, 127]
theorem tlv_decoded.tab8 : rtab .any (opsOf Tryd.f31 8) = tlv_decoded.T8 := by kernel_rfl
theorem tlv_decoded.bits8 : waitsOk tlv_decoded.T8.2 tlv_decoded.B8 = true := by kernel_rfl
def tlv_decoded.T9 : Bool × List (List Nat × List Nat) := (true, [([], []), ([], []), ([1], [1]), ([2], [2]), ([3], [3]), ([4], [4]), ([0, 0], [0]), ([5, 6, 0, 1, 2, 3, 4, 5, 6], [5]), ([7, 0, 1, 2, 3, 4, 5, 6, 7], [])])
def tlv_decoded.B9 : List Nat := [0, 0, 2, 6, 14, 30, 1, 127, 255]
theorem tlv_decoded.tab9 : rtab .any (opsOf Tryd.f31 9) = tlv_decoded.T9 := by kernel_rfl
theorem tlv_decoded.bits9 : waitsOk tlv_decoded.T9.2 tlv_decoded.B9 = true := by kernel_rfl
set_option maxHeartbeats 8000000 in
set_option maxRecDepth 100000 in
theorem tlv_decoded.calls (k : Nat) (a0 : ByteArray) (a1 : Int) (r1 : Int) (r2 : ByteArray) (r3 : List (S24)) (r4 : Int) (r5 : Option Er) (w : World) (hG : GW G w) (h : tlv_decoded.f k a0 a1 = some (r1, r2, r3, r4, r5)) :
  Calls Tryd.prog 31 #[.string a0, .int .i64 a1] w fun e w' => ∃ v2_ : Value, e = .returned (.tuple #[.agg #[.int .i64 r1, .string r2, v2_], .int .i64 r4, errW G r5]) ∧ Kd.R k24 24 w' w.heap.size (fun _ => True) v2_ r3 ∧ Below w.heap.size w w' := by
 have hu24 := Tryd.underlying24
 have hu72 := Tryd.underlying72
 have hu74 := Tryd.underlying74
 have hu49 := Tryd.underlying49
 have HB := Aside0.mk (Below.refl w.heap.size w)
 have H : (if a1 < 0 then (tlv_decoded.j0 k a0 a1 true) else (tlv_decoded.j0 k a0 a1 (decide (a1 > (a0.size : Int))))) = some (r1, r2, r3, r4, r5) := h
 clear h
 have HC3 := Aside0.mk H
 clear H
 go_enter Tryd.func31, Tryd.ntmps31
 go_upto_region 1 with (first | ((with_reducible refine gate_dst (N := 4) rfl ?_); (try (refine gate_guard (by rfl) ?_; dsimp only)); refine box_event ?hg (N := 4) ?hd (cs := #[.int .i64 0, .string (⟨#[]⟩ : ByteArray), .slice none 0 0]) (t := 24) ?hr ?_; (case hd => rfl); (case hg => rfl); (case hr => first | (go_simp; done) | (go_simp; rfl)); intro gb143 hg w4 hbox hb; have n0_ := Aside0.mk (below_step q0_ hb); have n1_ := Aside0.mk (hbox); have n2_ := Aside0.mk ((by rw [hg]; exact (below_size q0_) : w.heap.size ≤ gb143)); have n3_ := Aside0.mk ((by rw [hg]; exact (below_size q0_) : w.heap.size ≤ gb143)); clear HB; have HB := n0_; have BK143 := n1_; have GW143 := n2_; have GE143 := n3_; clear n0_ n1_ n2_ n3_; clear hb hbox hg))
 (try simp only [Act.put, List.setIfInBounds_toArray, List.set_cons_zero, List.set_cons_succ])
 go_cut [17] (fun v17 wc => ∃ (kq : Nat) (x17_2 : Bool), v17 = .bool x17_2 ∧ Aside0 (tlv_decoded.j0 kq a0 a1 x17_2 = some (r1, r2, r3, r4, r5)) ∧ Aside0 (kq ≤ k) ∧ Aside0 (wc.heap[gb143]? = some (.cells #[.int .i64 0, .string (⟨#[]⟩ : ByteArray), (.slice none 0 0)] 24 (0, 0))) ∧ Aside0 (Below w.heap.size w wc))
 case first =>
  have H := HC3.out
  clear HC3
  by_cases c5 : a1 < 0
  ·rw [if_pos c5] at H
   have c5b0 : decide (a1 < 0) = true := decide_eq_true c5
   clear c5
   (first | rw [c5b0] | (simp only [i64_w, i32_w]; rw [c5b0]) | skip)
   have H' := Aside0.mk H
   clear H
   go_wp2
   go_meet
   case rel => exact ⟨_, (true), q9_, H', ⟨by first | omega | exact Nat.le_refl _⟩, ⟨by refine bkq ?_; exact BK143.out⟩, ⟨q0_⟩⟩
  ·rw [if_neg c5] at H
   have c5b0 : decide (a1 < 0) = false := decide_eq_false c5
   clear c5
   (first | rw [c5b0] | (simp only [i64_w, i32_w]; rw [c5b0]) | skip)
   have H' := Aside0.mk H
   clear H
   go_wp2
   go_meet
   case rel => exact ⟨_, (decide (a1 > (a0.size : Int))), q9_, H', ⟨by first | omega | exact Nat.le_refl _⟩, ⟨by refine bkq ?_; exact BK143.out⟩, ⟨q0_⟩⟩
 case rest =>
  clear HC3
  try clear p2
  try clear c3
  try clear c5
  try clear c5b0
  obtain ⟨kq, x17_2, rfl, HA, HJ2, BK143, HB⟩ := hcut
  cases kq with
  | zero => exact absurd HA.out (by simp [tlv_decoded.j0])
  | succ kj2 =>
   have H := HA.out
   clear HA
   simp only [tlv_decoded.j0] at H
   by_cases c6 : x17_2 = true
   ·subst c6
    have H1 : (some (0, (⟨#[]⟩ : ByteArray), ([] : List (S24)), 0, some (Er.short a1))) = some (r1, r2, r3, r4, r5) := by rw [if_pos rfl] at H; exact H
    clear H
    have H := H1
    clear H1
    simp only [Option.some.injEq, Prod.mk.injEq] at H
    obtain ⟨rfl, rfl, rfl, rfl, rfl⟩ := H
    try go_wp2
    have n0_ := Aside0.mk (blk_drew BK143.out)
    have n1_ := Aside0.mk (below_drew1 HB.out)
    clear BK143
    clear HB
    have BK143 := n0_
    have HB := n1_
    clear n0_ n1_
    refine start_ (n := 8) (S := fun w' => w'.cell? ⟨2, 0, none⟩ = some (GC2 G)) (ds := []) #[false, false, false, false, false, false, false, false] (by kernel_rfl) rfl rfl ((GW.c2 (GW.below hG q0_))) (fun hHeld => ?_); refine with_tabW tlv_decoded.tab2 tlv_decoded.bits2 (fun HT_ HW_ => ?_)
    generalize wc.drew = w7 at BK143 HB hHeld ⊢
    refine p_ 0 (some 18) ?_
    refine p_ 1 (some 19) ?_
    refine take_ (i := 2) (N := some 20) (v := ?_) (a' := ?_) #[true, true, true, false, false, false, false, false] rfl rfl (take_ofW HT_.out HW_.out (by kernel_rfl)) (fun _ _ _ h => h) (Or.inl ⟨by rfl, ?_⟩) hHeld ?_ ?_
    rotate_left
    ·intro w' s0
     go_simp
     with_reducible rfl
    rotate_left
    ·exact putq
    refine p_ 3 (some 21) ?_
    refine p_ 4 (some 22) ?_
    refine one_ (i := 5) (N := none) #[true, true, true, true, true, true, false, false] rfl rfl (one_of HT_.out (by kernel_rfl)) (by decide) (fun K hK => ?_)
    have hs8 : w7.cell? ⟨gb143, 0, none⟩ = some (.int .i64 0) := (blk_cell BK143.out 0).trans rfl
    have hfs8 := blk_frozen BK143.out 0
    have hs9 : w7.cell? ⟨gb143, 1, none⟩ = some (.string (⟨#[]⟩ : ByteArray)) := (blk_cell BK143.out 1).trans rfl
    have hfs9 := blk_frozen BK143.out 1
    have hs10 : w7.cell? ⟨gb143, 2, none⟩ = some (.slice none 0 0) := (blk_cell BK143.out 2).trans rfl
    have hfs10 := blk_frozen BK143.out 2
    refine skip_ (w1 := ?_) (by rfl) rfl ?_ ?_
    rotate_left
    ·go_simp
     rfl
    refine hK.out _ _ (((cell_far (p := ⟨gb143, _, none⟩) (Nat.ne_of_lt (Nat.lt_of_lt_of_le (GW.lt2 hG) GE143.out)) _).trans (((cell_far (p := ⟨gb143, _, none⟩) (Nat.ne_of_lt (Nat.lt_of_lt_of_le (GW.lt2 hG) GE143.out)) _).trans (((cell_far (p := ⟨gb143, _, none⟩) (Nat.ne_of_lt (Nat.lt_of_lt_of_le (GW.lt2 hG) GE143.out)) _).trans (hHeld))))))) (fun hHeld => ?_)
    clear hK K
    refine p_ 6 (some 5) ?_
    refine p_ 7 (some 6) ?_
    refine done_ (done_of HT_.out (by kernel_rfl)) ?_
    try go_wp2
    refine bodyPost_ret (results_ctt rfl _ _ gb143 24 #[.int .i64 0, .string (⟨#[]⟩ : ByteArray), .slice none 0 0] (0, 0) _ rfl (by refine bkq ?_; refine blk_put (cs := #[.int .i64 0, .string (⟨#[]⟩ : ByteArray), .slice none 0 0]) ?_ 2 _ rfl; refine bkq ?_; refine blk_put (cs := #[.int .i64 0, .string (⟨#[]⟩ : ByteArray), .slice none 0 0]) ?_ 1 _ rfl; refine bkq ?_; refine blk_put (cs := #[.int .i64 0, .string (⟨#[]⟩ : ByteArray), .slice none 0 0]) ?_ 0 _ rfl; refine bkq ?_; exact BK143.out) Tryd.underlying24 rfl (by kernel_rfl)) rfl ?_
    exact ⟨_, q2_, q10_, q0_⟩
   ·replace c6 := Bool.eq_false_iff.mpr c6
    subst c6
    have H1 : ((tlv_reader_tree.f kj2 a0 a1 0 (a0.size : Int) 1).bind fun bt145 => (if bt145.2.2.2.1.isNone = true then ((tlv_Right.f bt145.1 bt145.2.1 bt145.2.2.1).bind fun t156 => (if t156 = true then (some (bt145.1, bt145.2.1, bt145.2.2.1, bt145.2.2.2.2.2.1, none)) else (some (0, (⟨#[]⟩ : ByteArray), ([] : List (S24)), 0, some (Er.node a1))))) else (some (0, (⟨#[]⟩ : ByteArray), ([] : List (S24)), 0, some (bt145.2.2.2.1.getD Er.z))))) = some (r1, r2, r3, r4, r5) := by rw [if_neg (show ¬ (false = true) by decide)] at H; exact H
    clear H
    have H := H1
    clear H1
    replace H := Option.bind_eq_some_iff.mp H
    obtain ⟨⟨t145, t146, t147, t150, t151, t152, t153⟩, A110, H⟩ := H
    replace H : (if t150.isNone = true then ((tlv_Right.f t145 t146 t147).bind fun t156 => (if t156 = true then (some (t145, t146, t147, t152, none)) else (some (0, (⟨#[]⟩ : ByteArray), ([] : List (S24)), 0, some (Er.node a1))))) else (some (0, (⟨#[]⟩ : ByteArray), ([] : List (S24)), 0, some (t150.getD Er.z)))) = some (r1, r2, r3, r4, r5) := H
    have A11 := Aside0.mk A110
    clear A110
    rcases t150 with _ | q155
    ·have H1 : ((tlv_Right.f t145 t146 t147).bind fun t156 => (if t156 = true then (some (t145, t146, t147, t152, none)) else (some (0, (⟨#[]⟩ : ByteArray), ([] : List (S24)), 0, some (Er.node a1))))) = some (r1, r2, r3, r4, r5) := by rw [if_pos (show (none : Option Er).isNone = true by rfl)] at H; exact H
     clear H
     have H := H1
     clear H1
     try simp only [eW]
     replace H := Option.bind_eq_some_iff.mp H
     obtain ⟨t156, A120, H⟩ := H
     replace H : (if t156 = true then (some (t145, t146, t147, t152, none)) else (some (0, (⟨#[]⟩ : ByteArray), ([] : List (S24)), 0, some (Er.node a1)))) = some (r1, r2, r3, r4, r5) := H
     have A12 := Aside0.mk A120
     clear A120
     by_cases c13 : t156 = true
     ·subst c13
      have H1 : (some (t145, t146, t147, t152, none)) = some (r1, r2, r3, r4, r5) := by rw [if_pos rfl] at H; exact H
      clear H
      have H := H1
      clear H1
      simp only [Option.some.injEq, Prod.mk.injEq] at H
      obtain ⟨rfl, rfl, rfl, rfl, rfl⟩ := H
      try go_wp2_with (first | ((with_reducible refine gate_dst (N := 27) rfl ?_); (try (refine gate_guard (by rfl) ?_; dsimp only)); refine box_event ?hg (N := 27) ?hd (cs := #[.string a0, .int .i64 a1, .int .i64 0]) (t := 74) ?hr ?_; (case hd => rfl); (case hg => rfl); (case hr => first | (go_simp; done) | (go_simp; rfl)); intro gb144 hg w14 hbox hb; have n0_ := Aside0.mk (blk_below (g := gb143) (o := .cells #[.int .i64 0, .string (⟨#[]⟩ : ByteArray), .slice none 0 0] 24 (0, 0)) (bkq BK143.out) hb); have n1_ := Aside0.mk (below_step q0_ hb); have n2_ := Aside0.mk (hbox); have n3_ := Aside0.mk ((by rw [hg]; exact (below_size q0_) : w.heap.size ≤ gb144)); have n4_ := Aside0.mk ((by rw [hg]; exact (below_size q0_) : w.heap.size ≤ gb144)); have n5_ := Aside0.mk ((by rw [hg]; exact Nat.ne_of_lt (blk_lt (g := gb143) (o := .cells #[.int .i64 0, .string (⟨#[]⟩ : ByteArray), .slice none 0 0] 24 (0, 0)) (bkq BK143.out)) : gb143 ≠ gb144)); have n6_ := Aside0.mk ((by rw [hg]; exact Nat.ne_of_gt (blk_lt (g := gb143) (o := .cells #[.int .i64 0, .string (⟨#[]⟩ : ByteArray), .slice none 0 0] 24 (0, 0)) (bkq BK143.out)) : gb144 ≠ gb143)); clear BK143; clear HB; have BK143 := n0_; have HB := n1_; have BK144 := n2_; have GW144 := n3_; have GE144 := n4_; have NB143_144 := n5_; have NB144_143 := n6_; clear n0_ n1_ n2_ n3_ n4_ n5_ n6_; clear hb hbox hg; have HI144 := Aside0.mk (show IsS74 w w14 gb144 a0 a1 0 from ⟨BK144.out, GE144.out⟩)) | ((with_reducible refine gate_callee (f := 44) rfl ?_); refine goesL_ (some 32) rfl rfl Tryd.func44 (by kernel_rfl) rfl #[.pointer (some ⟨gb144, 0, none⟩), .int .i64 (a0.size : Int), .int .i64 1] rfl argq ?_; (with_reducible refine (tlv_reader_tree.calls (G := G) kj2 gb144 a0 a1 0 (a0.size : Int) 1 t145 t146 t147 none t151 t152 t153 w _ ?side1 ?side2 ?side3 A11.out).mono ?_); (case side1 => repeat (first | (with_reducible first | exact HI144.out | apply IsS74.alloc | apply IsS74.drewN | apply IsS74.drew | apply IsS74.set_0 | apply IsS74.set_1 | apply IsS74.set_2 | refine IsS74.far ?_ NB144_143.out _) | exact HI144.out | refine IsS74.far (f0 := ?f0) ?_ NB144_143.out _ | refine IsS74.far (f1 := ?f1) ?_ NB144_143.out _ | refine IsS74.far (f2 := ?f2) ?_ NB144_143.out _ | refine IsS74.far (f0 := ?f0) (f1 := ?f1) ?_ NB144_143.out _ | refine IsS74.far (f0 := ?f0) (f2 := ?f2) ?_ NB144_143.out _ | refine IsS74.far (f1 := ?f1) (f2 := ?f2) ?_ NB144_143.out _)); (case side2 => repeat (first | (with_reducible first | exact HB.out | apply below_alloc | apply pw_below_drewN | apply below_drew1 | refine below_set ?_ (IsS74.ge HI144.out) | refine below_set ?_ (Aside0.out (by assumption))) | exact HB.out)); (case side3 => first | exact hG | exact GW.below hG q4_); rintro e w15 ⟨v148, rfl, ho0, hi, hb, hk⟩; refine ⟨_, rfl, ?_⟩; have n0_ := Aside0.mk (KeepBut.blk hk (g' := gb143) (o := .cells #[.int .i64 0, .string (⟨#[]⟩ : ByteArray), .slice none 0 0] 24 (0, 0)) (bkq BK143.out) NB143_144.out (by simp)); have n1_ := Aside0.mk (Kd.R_lower (Kd.R_newB ho0 (g := gb143) (o := .cells #[.int .i64 0, .string (⟨#[]⟩ : ByteArray), .slice none 0 0] 24 (0, 0)) (bkq BK143.out)) (below_size q4_)); have n2_ := Aside0.mk (hb); have n3_ := Aside0.mk (hi); clear BK143; clear HB; clear HI144; have BK143 := n0_; have HO149 := n1_; have HB := n2_; have HI144 := n3_; clear n0_ n1_ n2_ n3_; (try clear hb); (try clear hb2); (try clear hk); (try clear hi); (try clear ho0); (try simp only [eW])) | ((with_reducible refine gate_dst (N := 8) rfl ?_); (try (refine gate_guard (by rfl) ?_; dsimp only)); refine box_event ?hg (N := 8) ?hd (cs := #[.int .i64 0, .string (⟨#[]⟩ : ByteArray), .slice none 0 0]) (t := 24) ?hr ?_; (case hd => rfl); (case hg => rfl); (case hr => first | (go_simp; done) | (go_simp; rfl)); intro gb154 hg w16 hbox hb; have n0_ := Aside0.mk (Kd.R_below (Kd.R_elderB (rkq HO149.out) gb154 (Nat.le_of_eq hg.symm)) hb); have n1_ := Aside0.mk (blk_below (g := gb143) (o := .cells #[.int .i64 0, .string (⟨#[]⟩ : ByteArray), .slice none 0 0] 24 (0, 0)) (bkq BK143.out) hb); have n2_ := Aside0.mk (IsS74.below q11_ hb); have n3_ := Aside0.mk (below_step q4_ hb); have n4_ := Aside0.mk (hbox); have n5_ := Aside0.mk ((by rw [hg]; exact (below_size q4_) : w.heap.size ≤ gb154)); have n6_ := Aside0.mk ((by rw [hg]; exact (below_size q4_) : w.heap.size ≤ gb154)); have n7_ := Aside0.mk ((by rw [hg]; exact Nat.ne_of_lt (blk_lt (g := gb143) (o := .cells #[.int .i64 0, .string (⟨#[]⟩ : ByteArray), .slice none 0 0] 24 (0, 0)) (bkq BK143.out)) : gb143 ≠ gb154)); have n8_ := Aside0.mk ((by rw [hg]; exact Nat.ne_of_gt (blk_lt (g := gb143) (o := .cells #[.int .i64 0, .string (⟨#[]⟩ : ByteArray), .slice none 0 0] 24 (0, 0)) (bkq BK143.out)) : gb154 ≠ gb143)); have n9_ := Aside0.mk ((by rw [hg]; exact Nat.ne_of_lt (IsS74.lt (show IsS74 w _ gb144 t151 t152 t153 from q11_)) : gb144 ≠ gb154)); have n10_ := Aside0.mk ((by rw [hg]; exact Nat.ne_of_gt (IsS74.lt (show IsS74 w _ gb144 t151 t152 t153 from q11_)) : gb154 ≠ gb144)); clear HO149; clear BK143; clear HI144; clear HB; have HO149 := n0_; have BK143 := n1_; have HI144 := n2_; have HB := n3_; have BK154 := n4_; have GW154 := n5_; have GE154 := n6_; have NB143_154 := n7_; have NB154_143 := n8_; have NB144_154 := n9_; have NB154_144 := n10_; clear n0_ n1_ n2_ n3_ n4_ n5_ n6_ n7_ n8_ n9_ n10_; clear hb hbox hg; have hnb17 := NB154_143.out; have hnc17 := NB143_154.out; have hnb18 := NB154_144.out; have hnc18 := NB144_154.out; have hcz19_0 : w16.cell? ⟨gb154, 0, none⟩ = some (.int .i64 0) := (blk_cell BK154.out 0).trans rfl; have hcz19_1 : w16.cell? ⟨gb154, 1, none⟩ = some (.string (⟨#[]⟩ : ByteArray)) := (blk_cell BK154.out 1).trans rfl; have hcz19_2 : w16.cell? ⟨gb154, 2, none⟩ = some (.slice none 0 0) := (blk_cell BK154.out 2).trans rfl; have hfz19_0 := blk_frozen BK154.out 0; have hfz19_1 := blk_frozen BK154.out 1; have hfz19_2 := blk_frozen BK154.out 2; obtain ⟨Ao20, co20, eo20⟩ := Kd.R_slice HO149.out; subst eo20) | ((with_reducible refine gate_callee (f := 21) rfl ?_); refine goesL_ (some 42) rfl rfl Tryd.func21 (by kernel_rfl) rfl #[.agg #[.int .i64 t145, .string t146, .slice Ao20 t147.length co20]] rfl argq ?_; (with_reducible refine (tlv_Right.calls (G := G) t145 t146 _ _ t147 true _ ?side1 ?side2 ?side3 A12.out).mono ?_); (case side1 => refine (Kd.R_reads' (e := 24) (base := w.heap.size) (ok := fun k_ => ((True ∧ k_ ≠ gb143) ∧ k_ ≠ gb154)) (n := t147.length) (c := co20) ?_).2.2; exact (by refine rkq ?_; exact (Kd.R_mono (Kd.R_far (p := ⟨gb154, 2, none⟩) (Kd.R_far (p := ⟨gb154, 1, none⟩) (Kd.R_far (p := ⟨gb154, 0, none⟩) (Kd.R_mono HO149.out (fun k_ hk => (⟨hk, hk.2⟩ : _ ∧ k_ ≠ gb154))) (fun _ hk => hk.2) (.int .i64 t145)) (fun _ hk => hk.2) (.string t146)) (fun _ hk => hk.2) (.slice Ao20 t147.length co20)) (fun _ h_ => h_.1)))); (case side2 => exact (Kd.R_reads' HO149.out).2.1); (case side3 => first | exact hG | exact GW.below hG q4_); rintro e w21 ⟨rfl, hb⟩; refine ⟨_, rfl, ?_⟩; have n0_ := Aside0.mk (Kd.R_below (by refine rkq ?_; exact (Kd.R_mono (Kd.R_far (p := ⟨gb154, 2, none⟩) (Kd.R_far (p := ⟨gb154, 1, none⟩) (Kd.R_far (p := ⟨gb154, 0, none⟩) (Kd.R_mono HO149.out (fun k_ hk => (⟨hk, hk.2⟩ : _ ∧ k_ ≠ gb154))) (fun _ hk => hk.2) (.int .i64 t145)) (fun _ hk => hk.2) (.string t146)) (fun _ hk => hk.2) (.slice Ao20 t147.length co20)) (fun _ h_ => h_.1))) hb); have n1_ := Aside0.mk (blk_below (g := gb143) (o := .cells #[.int .i64 0, .string (⟨#[]⟩ : ByteArray), .slice none 0 0] 24 (0, 0)) (by refine bkq ?_; refine blk_far ?_ NB143_154.out _; refine bkq ?_; refine blk_far ?_ NB143_154.out _; refine bkq ?_; refine blk_far ?_ NB143_154.out _; refine bkq ?_; exact BK143.out) hb); have n2_ := Aside0.mk (IsS74.below (show IsS74 w (((w16.setCell ⟨gb154, 0, none⟩ (.int .i64 t145)).setCell ⟨gb154, 1, none⟩ (.string t146)).setCell ⟨gb154, 2, none⟩ (.slice Ao20 t147.length co20)) gb144 t151 t152 t153 from q18_) hb); have n3_ := Aside0.mk (blk_below (g := gb154) (o := .cells #[.int .i64 t145, .string t146, .slice Ao20 t147.length co20] 24 (0, 0)) (by refine bkq ?_; refine blk_put (cs := #[.int .i64 t145, .string t146, .slice none 0 0]) ?_ 2 _ rfl; refine bkq ?_; refine blk_put (cs := #[.int .i64 t145, .string (⟨#[]⟩ : ByteArray), .slice none 0 0]) ?_ 1 _ rfl; refine bkq ?_; refine blk_put (cs := #[.int .i64 0, .string (⟨#[]⟩ : ByteArray), .slice none 0 0]) ?_ 0 _ rfl; refine bkq ?_; exact BK154.out) hb); have n4_ := Aside0.mk (below_step q4_ hb); clear HO149; clear BK143; clear HI144; clear BK154; clear HB; have HO149 := n0_; have BK143 := n1_; have HI144 := n2_; have BK154 := n3_; have HB := n4_; clear n0_ n1_ n2_ n3_ n4_; (try clear hb); (try clear hb2); (try clear hk); (try clear hi)))
      have n0_ := Aside0.mk (Kd.R_drew HO149.out)
      have n1_ := Aside0.mk (blk_drew BK143.out)
      have n2_ := Aside0.mk (blk_drew BK154.out)
      have n3_ := Aside0.mk (IsS74.drew HI144.out)
      have n4_ := Aside0.mk (below_drew1 HB.out)
      clear HO149
      clear BK143
      clear BK154
      clear HI144
      clear HB
      have HO149 := n0_
      have BK143 := n1_
      have BK154 := n2_
      have HI144 := n3_
      have HB := n4_
      clear n0_ n1_ n2_ n3_ n4_
      refine start_ (n := 9) (S := fun w' => w'.cell? ⟨gb154, 0, none⟩ = some (.int .i64 t145) ∧ w'.cell? ⟨gb154, 1, none⟩ = some (.string t146) ∧ w'.cell? ⟨gb154, 2, none⟩ = some (.slice Ao20 t147.length co20) ∧ w'.cell? ⟨gb144, 0, none⟩ = some (.string t151) ∧ w'.cell? ⟨gb144, 1, none⟩ = some (.int .i64 t152) ∧ w'.cell? ⟨gb144, 2, none⟩ = some (.int .i64 t153)) (ds := []) #[false, false, false, false, false, false, false, false, false] (by kernel_rfl) rfl rfl ⟨(blk_cell BK154.out 0).trans rfl, (blk_cell BK154.out 1).trans rfl, (blk_cell BK154.out 2).trans rfl, (cellS74_0 HI144.out.1), (cellS74_1 HI144.out.1), (cellS74_2 HI144.out.1)⟩ (fun hHeld => ?_); refine with_tabW tlv_decoded.tab9 tlv_decoded.bits9 (fun HT_ HW_ => ?_)
      generalize w21.drew = w22 at HO149 BK143 BK154 HI144 HB hHeld ⊢
      refine p_ 1 (some 50) ?_
      refine p_ 2 (some 51) ?_
      refine p_ 3 (some 52) ?_
      refine p_ 4 (some 53) ?_
      refine t2_ 0 (some 49) ?_
      refine t2_ 5 (some 54) ?_
      refine one_ (i := 6) (N := none) #[true, true, true, true, true, true, true, false, false] rfl rfl (one_of HT_.out (by kernel_rfl)) (by decide) (fun K hK => ?_)
      have hs23 : w22.cell? ⟨gb143, 0, none⟩ = some (.int .i64 0) := (blk_cell BK143.out 0).trans rfl
      have hfs23 := blk_frozen BK143.out 0
      have hns23_1 := NB154_143.out
      have hms23_1 := NB143_154.out
      have hs24 : w22.cell? ⟨gb143, 1, none⟩ = some (.string (⟨#[]⟩ : ByteArray)) := (blk_cell BK143.out 1).trans rfl
      have hfs24 := blk_frozen BK143.out 1
      have hns24_1 := NB154_143.out
      have hms24_1 := NB143_154.out
      have hs25 : w22.cell? ⟨gb143, 2, none⟩ = some (.slice none 0 0) := (blk_cell BK143.out 2).trans rfl
      have hfs25 := blk_frozen BK143.out 2
      have hns25_1 := NB154_143.out
      have hms25_1 := NB143_154.out
      refine skip_ (w1 := ?_) (by rfl) rfl ?_ ?_
      rotate_left
      ·go_simp
       rfl
      refine hK.out _ _ ⟨((cell_far (p := ⟨gb143, _, none⟩) NB154_143.out _).trans (((cell_far (p := ⟨gb143, _, none⟩) NB154_143.out _).trans (((cell_far (p := ⟨gb143, _, none⟩) NB154_143.out _).trans (hHeld.1)))))), ((cell_far (p := ⟨gb143, _, none⟩) NB154_143.out _).trans (((cell_far (p := ⟨gb143, _, none⟩) NB154_143.out _).trans (((cell_far (p := ⟨gb143, _, none⟩) NB154_143.out _).trans (hHeld.2.1)))))), ((cell_far (p := ⟨gb143, _, none⟩) NB154_143.out _).trans (((cell_far (p := ⟨gb143, _, none⟩) NB154_143.out _).trans (((cell_far (p := ⟨gb143, _, none⟩) NB154_143.out _).trans (hHeld.2.2.1)))))), ((cell_far (p := ⟨gb143, _, none⟩) NB144_143.out _).trans (((cell_far (p := ⟨gb143, _, none⟩) NB144_143.out _).trans (((cell_far (p := ⟨gb143, _, none⟩) NB144_143.out _).trans (hHeld.2.2.2.1)))))), ((cell_far (p := ⟨gb143, _, none⟩) NB144_143.out _).trans (((cell_far (p := ⟨gb143, _, none⟩) NB144_143.out _).trans (((cell_far (p := ⟨gb143, _, none⟩) NB144_143.out _).trans (hHeld.2.2.2.2.1)))))), ((cell_far (p := ⟨gb143, _, none⟩) NB144_143.out _).trans (((cell_far (p := ⟨gb143, _, none⟩) NB144_143.out _).trans (((cell_far (p := ⟨gb143, _, none⟩) NB144_143.out _).trans (hHeld.2.2.2.2.2))))))⟩ (fun hHeld => ?_)
      clear hK K
      refine p_ 7 (some 5) ?_
      refine p_ 8 (some 6) ?_
      refine done_ (done_of HT_.out (by kernel_rfl)) ?_
      try go_wp2
      refine bodyPost_ret (results_ctt rfl _ _ gb143 24 #[.int .i64 t145, .string t146, .slice Ao20 t147.length co20] (0, 0) _ rfl (by refine bkq ?_; refine blk_put (cs := #[.int .i64 t145, .string t146, .slice none 0 0]) ?_ 2 _ rfl; refine bkq ?_; refine blk_put (cs := #[.int .i64 t145, .string (⟨#[]⟩ : ByteArray), .slice none 0 0]) ?_ 1 _ rfl; refine bkq ?_; refine blk_put (cs := #[.int .i64 0, .string (⟨#[]⟩ : ByteArray), .slice none 0 0]) ?_ 0 _ rfl; refine bkq ?_; exact BK143.out) Tryd.underlying24 rfl (by kernel_rfl)) rfl ?_
      exact ⟨_, q2_, by refine rkq ?_; exact Kd.R_mono (Kd.R_far (p := ⟨gb143, 2, none⟩) (Kd.R_far (p := ⟨gb143, 1, none⟩) (Kd.R_far (p := ⟨gb143, 0, none⟩) (Kd.R_mono HO149.out (fun k_ hk => (⟨hk, hk.1.2⟩ : _ ∧ k_ ≠ gb143))) (fun _ hk => hk.2) (.int .i64 t145)) (fun _ hk => hk.2) (.string t146)) (fun _ hk => hk.2) (.slice Ao20 t147.length co20)) (fun _ hk => trivial), q4_⟩
     ·replace c13 := Bool.eq_false_iff.mpr c13
      subst c13
      have H1 : (some (0, (⟨#[]⟩ : ByteArray), ([] : List (S24)), 0, some (Er.node a1))) = some (r1, r2, r3, r4, r5) := by rw [if_neg (show ¬ (false = true) by decide)] at H; exact H
      clear H
      have H := H1
      clear H1
      simp only [Option.some.injEq, Prod.mk.injEq] at H
      obtain ⟨rfl, rfl, rfl, rfl, rfl⟩ := H
      try go_wp2_with (first | ((with_reducible refine gate_dst (N := 27) rfl ?_); (try (refine gate_guard (by rfl) ?_; dsimp only)); refine box_event ?hg (N := 27) ?hd (cs := #[.string a0, .int .i64 a1, .int .i64 0]) (t := 74) ?hr ?_; (case hd => rfl); (case hg => rfl); (case hr => first | (go_simp; done) | (go_simp; rfl)); intro gb144 hg w26 hbox hb; have n0_ := Aside0.mk (blk_below (g := gb143) (o := .cells #[.int .i64 0, .string (⟨#[]⟩ : ByteArray), .slice none 0 0] 24 (0, 0)) (bkq BK143.out) hb); have n1_ := Aside0.mk (below_step q0_ hb); have n2_ := Aside0.mk (hbox); have n3_ := Aside0.mk ((by rw [hg]; exact (below_size q0_) : w.heap.size ≤ gb144)); have n4_ := Aside0.mk ((by rw [hg]; exact (below_size q0_) : w.heap.size ≤ gb144)); have n5_ := Aside0.mk ((by rw [hg]; exact Nat.ne_of_lt (blk_lt (g := gb143) (o := .cells #[.int .i64 0, .string (⟨#[]⟩ : ByteArray), .slice none 0 0] 24 (0, 0)) (bkq BK143.out)) : gb143 ≠ gb144)); have n6_ := Aside0.mk ((by rw [hg]; exact Nat.ne_of_gt (blk_lt (g := gb143) (o := .cells #[.int .i64 0, .string (⟨#[]⟩ : ByteArray), .slice none 0 0] 24 (0, 0)) (bkq BK143.out)) : gb144 ≠ gb143)); clear BK143; clear HB; have BK143 := n0_; have HB := n1_; have BK144 := n2_; have GW144 := n3_; have GE144 := n4_; have NB143_144 := n5_; have NB144_143 := n6_; clear n0_ n1_ n2_ n3_ n4_ n5_ n6_; clear hb hbox hg; have HI144 := Aside0.mk (show IsS74 w w26 gb144 a0 a1 0 from ⟨BK144.out, GE144.out⟩)) | ((with_reducible refine gate_callee (f := 44) rfl ?_); refine goesL_ (some 32) rfl rfl Tryd.func44 (by kernel_rfl) rfl #[.pointer (some ⟨gb144, 0, none⟩), .int .i64 (a0.size : Int), .int .i64 1] rfl argq ?_; (with_reducible refine (tlv_reader_tree.calls (G := G) kj2 gb144 a0 a1 0 (a0.size : Int) 1 t145 t146 t147 none t151 t152 t153 w _ ?side1 ?side2 ?side3 A11.out).mono ?_); (case side1 => repeat (first | (with_reducible first | exact HI144.out | apply IsS74.alloc | apply IsS74.drewN | apply IsS74.drew | apply IsS74.set_0 | apply IsS74.set_1 | apply IsS74.set_2 | refine IsS74.far ?_ NB144_143.out _) | exact HI144.out | refine IsS74.far (f0 := ?f0) ?_ NB144_143.out _ | refine IsS74.far (f1 := ?f1) ?_ NB144_143.out _ | refine IsS74.far (f2 := ?f2) ?_ NB144_143.out _ | refine IsS74.far (f0 := ?f0) (f1 := ?f1) ?_ NB144_143.out _ | refine IsS74.far (f0 := ?f0) (f2 := ?f2) ?_ NB144_143.out _ | refine IsS74.far (f1 := ?f1) (f2 := ?f2) ?_ NB144_143.out _)); (case side2 => repeat (first | (with_reducible first | exact HB.out | apply below_alloc | apply pw_below_drewN | apply below_drew1 | refine below_set ?_ (IsS74.ge HI144.out) | refine below_set ?_ (Aside0.out (by assumption))) | exact HB.out)); (case side3 => first | exact hG | exact GW.below hG q4_); rintro e w27 ⟨v148, rfl, ho0, hi, hb, hk⟩; refine ⟨_, rfl, ?_⟩; have n0_ := Aside0.mk (KeepBut.blk hk (g' := gb143) (o := .cells #[.int .i64 0, .string (⟨#[]⟩ : ByteArray), .slice none 0 0] 24 (0, 0)) (bkq BK143.out) NB143_144.out (by simp)); have n1_ := Aside0.mk (Kd.R_lower (Kd.R_newB ho0 (g := gb143) (o := .cells #[.int .i64 0, .string (⟨#[]⟩ : ByteArray), .slice none 0 0] 24 (0, 0)) (bkq BK143.out)) (below_size q4_)); have n2_ := Aside0.mk (hb); have n3_ := Aside0.mk (hi); clear BK143; clear HB; clear HI144; have BK143 := n0_; have HO149 := n1_; have HB := n2_; have HI144 := n3_; clear n0_ n1_ n2_ n3_; (try clear hb); (try clear hb2); (try clear hk); (try clear hi); (try clear ho0); (try simp only [eW])) | ((with_reducible refine gate_dst (N := 8) rfl ?_); (try (refine gate_guard (by rfl) ?_; dsimp only)); refine box_event ?hg (N := 8) ?hd (cs := #[.int .i64 0, .string (⟨#[]⟩ : ByteArray), .slice none 0 0]) (t := 24) ?hr ?_; (case hd => rfl); (case hg => rfl); (case hr => first | (go_simp; done) | (go_simp; rfl)); intro gb154 hg w28 hbox hb; have n0_ := Aside0.mk (Kd.R_below (Kd.R_elderB (rkq HO149.out) gb154 (Nat.le_of_eq hg.symm)) hb); have n1_ := Aside0.mk (blk_below (g := gb143) (o := .cells #[.int .i64 0, .string (⟨#[]⟩ : ByteArray), .slice none 0 0] 24 (0, 0)) (bkq BK143.out) hb); have n2_ := Aside0.mk (IsS74.below q11_ hb); have n3_ := Aside0.mk (below_step q4_ hb); have n4_ := Aside0.mk (hbox); have n5_ := Aside0.mk ((by rw [hg]; exact (below_size q4_) : w.heap.size ≤ gb154)); have n6_ := Aside0.mk ((by rw [hg]; exact (below_size q4_) : w.heap.size ≤ gb154)); have n7_ := Aside0.mk ((by rw [hg]; exact Nat.ne_of_lt (blk_lt (g := gb143) (o := .cells #[.int .i64 0, .string (⟨#[]⟩ : ByteArray), .slice none 0 0] 24 (0, 0)) (bkq BK143.out)) : gb143 ≠ gb154)); have n8_ := Aside0.mk ((by rw [hg]; exact Nat.ne_of_gt (blk_lt (g := gb143) (o := .cells #[.int .i64 0, .string (⟨#[]⟩ : ByteArray), .slice none 0 0] 24 (0, 0)) (bkq BK143.out)) : gb154 ≠ gb143)); have n9_ := Aside0.mk ((by rw [hg]; exact Nat.ne_of_lt (IsS74.lt (show IsS74 w _ gb144 t151 t152 t153 from q11_)) : gb144 ≠ gb154)); have n10_ := Aside0.mk ((by rw [hg]; exact Nat.ne_of_gt (IsS74.lt (show IsS74 w _ gb144 t151 t152 t153 from q11_)) : gb154 ≠ gb144)); clear HO149; clear BK143; clear HI144; clear HB; have HO149 := n0_; have BK143 := n1_; have HI144 := n2_; have HB := n3_; have BK154 := n4_; have GW154 := n5_; have GE154 := n6_; have NB143_154 := n7_; have NB154_143 := n8_; have NB144_154 := n9_; have NB154_144 := n10_; clear n0_ n1_ n2_ n3_ n4_ n5_ n6_ n7_ n8_ n9_ n10_; clear hb hbox hg; have hnb29 := NB154_143.out; have hnc29 := NB143_154.out; have hnb30 := NB154_144.out; have hnc30 := NB144_154.out; have hcz31_0 : w28.cell? ⟨gb154, 0, none⟩ = some (.int .i64 0) := (blk_cell BK154.out 0).trans rfl; have hcz31_1 : w28.cell? ⟨gb154, 1, none⟩ = some (.string (⟨#[]⟩ : ByteArray)) := (blk_cell BK154.out 1).trans rfl; have hcz31_2 : w28.cell? ⟨gb154, 2, none⟩ = some (.slice none 0 0) := (blk_cell BK154.out 2).trans rfl; have hfz31_0 := blk_frozen BK154.out 0; have hfz31_1 := blk_frozen BK154.out 1; have hfz31_2 := blk_frozen BK154.out 2; obtain ⟨Ao32, co32, eo32⟩ := Kd.R_slice HO149.out; subst eo32) | ((with_reducible refine gate_callee (f := 21) rfl ?_); refine goesL_ (some 42) rfl rfl Tryd.func21 (by kernel_rfl) rfl #[.agg #[.int .i64 t145, .string t146, .slice Ao32 t147.length co32]] rfl argq ?_; (with_reducible refine (tlv_Right.calls (G := G) t145 t146 _ _ t147 false _ ?side1 ?side2 ?side3 A12.out).mono ?_); (case side1 => refine (Kd.R_reads' (e := 24) (base := w.heap.size) (ok := fun k_ => ((True ∧ k_ ≠ gb143) ∧ k_ ≠ gb154)) (n := t147.length) (c := co32) ?_).2.2; exact (by refine rkq ?_; exact (Kd.R_mono (Kd.R_far (p := ⟨gb154, 2, none⟩) (Kd.R_far (p := ⟨gb154, 1, none⟩) (Kd.R_far (p := ⟨gb154, 0, none⟩) (Kd.R_mono HO149.out (fun k_ hk => (⟨hk, hk.2⟩ : _ ∧ k_ ≠ gb154))) (fun _ hk => hk.2) (.int .i64 t145)) (fun _ hk => hk.2) (.string t146)) (fun _ hk => hk.2) (.slice Ao32 t147.length co32)) (fun _ h_ => h_.1)))); (case side2 => exact (Kd.R_reads' HO149.out).2.1); (case side3 => first | exact hG | exact GW.below hG q4_); rintro e w33 ⟨rfl, hb⟩; refine ⟨_, rfl, ?_⟩; have n0_ := Aside0.mk (Kd.R_below (by refine rkq ?_; exact (Kd.R_mono (Kd.R_far (p := ⟨gb154, 2, none⟩) (Kd.R_far (p := ⟨gb154, 1, none⟩) (Kd.R_far (p := ⟨gb154, 0, none⟩) (Kd.R_mono HO149.out (fun k_ hk => (⟨hk, hk.2⟩ : _ ∧ k_ ≠ gb154))) (fun _ hk => hk.2) (.int .i64 t145)) (fun _ hk => hk.2) (.string t146)) (fun _ hk => hk.2) (.slice Ao32 t147.length co32)) (fun _ h_ => h_.1))) hb); have n1_ := Aside0.mk (blk_below (g := gb143) (o := .cells #[.int .i64 0, .string (⟨#[]⟩ : ByteArray), .slice none 0 0] 24 (0, 0)) (by refine bkq ?_; refine blk_far ?_ NB143_154.out _; refine bkq ?_; refine blk_far ?_ NB143_154.out _; refine bkq ?_; refine blk_far ?_ NB143_154.out _; refine bkq ?_; exact BK143.out) hb); have n2_ := Aside0.mk (IsS74.below (show IsS74 w (((w28.setCell ⟨gb154, 0, none⟩ (.int .i64 t145)).setCell ⟨gb154, 1, none⟩ (.string t146)).setCell ⟨gb154, 2, none⟩ (.slice Ao32 t147.length co32)) gb144 t151 t152 t153 from q18_) hb); have n3_ := Aside0.mk (blk_below (g := gb154) (o := .cells #[.int .i64 t145, .string t146, .slice Ao32 t147.length co32] 24 (0, 0)) (by refine bkq ?_; refine blk_put (cs := #[.int .i64 t145, .string t146, .slice none 0 0]) ?_ 2 _ rfl; refine bkq ?_; refine blk_put (cs := #[.int .i64 t145, .string (⟨#[]⟩ : ByteArray), .slice none 0 0]) ?_ 1 _ rfl; refine bkq ?_; refine blk_put (cs := #[.int .i64 0, .string (⟨#[]⟩ : ByteArray), .slice none 0 0]) ?_ 0 _ rfl; refine bkq ?_; exact BK154.out) hb); have n4_ := Aside0.mk (below_step q4_ hb); clear HO149; clear BK143; clear HI144; clear BK154; clear HB; have HO149 := n0_; have BK143 := n1_; have HI144 := n2_; have BK154 := n3_; have HB := n4_; clear n0_ n1_ n2_ n3_ n4_; (try clear hb); (try clear hb2); (try clear hk); (try clear hi)))
      have n0_ := Aside0.mk (Kd.R_drew HO149.out)
      have n1_ := Aside0.mk (blk_drew BK143.out)
      have n2_ := Aside0.mk (blk_drew BK154.out)
      have n3_ := Aside0.mk (IsS74.drew HI144.out)
      have n4_ := Aside0.mk (below_drew1 HB.out)
      clear HO149
      clear BK143
      clear BK154
      clear HI144
      clear HB
      have HO149 := n0_
      have BK143 := n1_
      have BK154 := n2_
      have HI144 := n3_
      have HB := n4_
      clear n0_ n1_ n2_ n3_ n4_
      refine start_ (n := 8) (S := fun w' => w'.cell? ⟨0, 0, none⟩ = some (GC0 G)) (ds := []) #[false, false, false, false, false, false, false, false] (by kernel_rfl) rfl rfl ((GW.c0 (GW.below hG q4_))) (fun hHeld => ?_); refine with_tabW tlv_decoded.tab8 tlv_decoded.bits8 (fun HT_ HW_ => ?_)
      generalize w33.drew = w34 at HO149 BK143 BK154 HI144 HB hHeld ⊢
      refine p_ 0 (some 44) ?_
      refine p_ 1 (some 45) ?_
      refine take_ (i := 2) (N := some 46) (v := ?_) (a' := ?_) #[true, true, true, false, false, false, false, false] rfl rfl (take_ofW HT_.out HW_.out (by kernel_rfl)) (fun _ _ _ h => h) (Or.inl ⟨by rfl, ?_⟩) hHeld ?_ ?_
      rotate_left
      ·intro w' s0
       go_simp
       with_reducible rfl
      rotate_left
      ·exact putq
      refine p_ 3 (some 47) ?_
      refine p_ 4 (some 48) ?_
      refine one_ (i := 5) (N := none) #[true, true, true, true, true, true, false, false] rfl rfl (one_of HT_.out (by kernel_rfl)) (by decide) (fun K hK => ?_)
      have hs35 : w34.cell? ⟨gb143, 0, none⟩ = some (.int .i64 0) := (blk_cell BK143.out 0).trans rfl
      have hfs35 := blk_frozen BK143.out 0
      have hns35_1 := NB154_143.out
      have hms35_1 := NB143_154.out
      have hs36 : w34.cell? ⟨gb143, 1, none⟩ = some (.string (⟨#[]⟩ : ByteArray)) := (blk_cell BK143.out 1).trans rfl
      have hfs36 := blk_frozen BK143.out 1
      have hns36_1 := NB154_143.out
      have hms36_1 := NB143_154.out
      have hs37 : w34.cell? ⟨gb143, 2, none⟩ = some (.slice none 0 0) := (blk_cell BK143.out 2).trans rfl
      have hfs37 := blk_frozen BK143.out 2
      have hns37_1 := NB154_143.out
      have hms37_1 := NB143_154.out
      refine skip_ (w1 := ?_) (by rfl) rfl ?_ ?_
      rotate_left
      ·go_simp
       rfl
      refine hK.out _ _ (((cell_far (p := ⟨gb143, _, none⟩) (Nat.ne_of_lt (Nat.lt_of_lt_of_le (GW.lt0 hG) GE143.out)) _).trans (((cell_far (p := ⟨gb143, _, none⟩) (Nat.ne_of_lt (Nat.lt_of_lt_of_le (GW.lt0 hG) GE143.out)) _).trans (((cell_far (p := ⟨gb143, _, none⟩) (Nat.ne_of_lt (Nat.lt_of_lt_of_le (GW.lt0 hG) GE143.out)) _).trans (hHeld))))))) (fun hHeld => ?_)
      clear hK K
      refine p_ 6 (some 5) ?_
      refine p_ 7 (some 6) ?_
      refine done_ (done_of HT_.out (by kernel_rfl)) ?_
      try go_wp2
      refine bodyPost_ret (results_ctt rfl _ _ gb143 24 #[.int .i64 0, .string (⟨#[]⟩ : ByteArray), .slice none 0 0] (0, 0) _ rfl (by refine bkq ?_; refine blk_put (cs := #[.int .i64 0, .string (⟨#[]⟩ : ByteArray), .slice none 0 0]) ?_ 2 _ rfl; refine bkq ?_; refine blk_put (cs := #[.int .i64 0, .string (⟨#[]⟩ : ByteArray), .slice none 0 0]) ?_ 1 _ rfl; refine bkq ?_; refine blk_put (cs := #[.int .i64 0, .string (⟨#[]⟩ : ByteArray), .slice none 0 0]) ?_ 0 _ rfl; refine bkq ?_; exact BK143.out) Tryd.underlying24 rfl (by kernel_rfl)) rfl ?_
      exact ⟨_, q2_, q10_, q4_⟩
    ·have H1 : (some (0, (⟨#[]⟩ : ByteArray), ([] : List (S24)), 0, some q155)) = some (r1, r2, r3, r4, r5) := by rw [if_neg (show ¬ (some q155).isNone = true by simp)] at H; exact H
     clear H
     have H := H1
     clear H1
     try simp only [eW]
     simp only [Option.some.injEq, Prod.mk.injEq] at H
     obtain ⟨rfl, rfl, rfl, rfl, rfl⟩ := H
     go_wp2_with (first | ((with_reducible refine gate_dst (N := 27) rfl ?_); (try (refine gate_guard (by rfl) ?_; dsimp only)); refine box_event ?hg (N := 27) ?hd (cs := #[.string a0, .int .i64 a1, .int .i64 0]) (t := 74) ?hr ?_; (case hd => rfl); (case hg => rfl); (case hr => first | (go_simp; done) | (go_simp; rfl)); intro gb144 hg w38 hbox hb; have n0_ := Aside0.mk (blk_below (g := gb143) (o := .cells #[.int .i64 0, .string (⟨#[]⟩ : ByteArray), .slice none 0 0] 24 (0, 0)) (bkq BK143.out) hb); have n1_ := Aside0.mk (below_step q0_ hb); have n2_ := Aside0.mk (hbox); have n3_ := Aside0.mk ((by rw [hg]; exact (below_size q0_) : w.heap.size ≤ gb144)); have n4_ := Aside0.mk ((by rw [hg]; exact (below_size q0_) : w.heap.size ≤ gb144)); have n5_ := Aside0.mk ((by rw [hg]; exact Nat.ne_of_lt (blk_lt (g := gb143) (o := .cells #[.int .i64 0, .string (⟨#[]⟩ : ByteArray), .slice none 0 0] 24 (0, 0)) (bkq BK143.out)) : gb143 ≠ gb144)); have n6_ := Aside0.mk ((by rw [hg]; exact Nat.ne_of_gt (blk_lt (g := gb143) (o := .cells #[.int .i64 0, .string (⟨#[]⟩ : ByteArray), .slice none 0 0] 24 (0, 0)) (bkq BK143.out)) : gb144 ≠ gb143)); clear BK143; clear HB; have BK143 := n0_; have HB := n1_; have BK144 := n2_; have GW144 := n3_; have GE144 := n4_; have NB143_144 := n5_; have NB144_143 := n6_; clear n0_ n1_ n2_ n3_ n4_ n5_ n6_; clear hb hbox hg; have HI144 := Aside0.mk (show IsS74 w w38 gb144 a0 a1 0 from ⟨BK144.out, GE144.out⟩)) | ((with_reducible refine gate_callee (f := 44) rfl ?_); refine goesL_ (some 32) rfl rfl Tryd.func44 (by kernel_rfl) rfl #[.pointer (some ⟨gb144, 0, none⟩), .int .i64 (a0.size : Int), .int .i64 1] rfl argq ?_; (with_reducible refine (tlv_reader_tree.calls (G := G) kj2 gb144 a0 a1 0 (a0.size : Int) 1 t145 t146 t147 (some q155) t151 t152 t153 w _ ?side1 ?side2 ?side3 A11.out).mono ?_); (case side1 => repeat (first | (with_reducible first | exact HI144.out | apply IsS74.alloc | apply IsS74.drewN | apply IsS74.drew | apply IsS74.set_0 | apply IsS74.set_1 | apply IsS74.set_2 | refine IsS74.far ?_ NB144_143.out _) | exact HI144.out | refine IsS74.far (f0 := ?f0) ?_ NB144_143.out _ | refine IsS74.far (f1 := ?f1) ?_ NB144_143.out _ | refine IsS74.far (f2 := ?f2) ?_ NB144_143.out _ | refine IsS74.far (f0 := ?f0) (f1 := ?f1) ?_ NB144_143.out _ | refine IsS74.far (f0 := ?f0) (f2 := ?f2) ?_ NB144_143.out _ | refine IsS74.far (f1 := ?f1) (f2 := ?f2) ?_ NB144_143.out _)); (case side2 => repeat (first | (with_reducible first | exact HB.out | apply below_alloc | apply pw_below_drewN | apply below_drew1 | refine below_set ?_ (IsS74.ge HI144.out) | refine below_set ?_ (Aside0.out (by assumption))) | exact HB.out)); (case side3 => first | exact hG | exact GW.below hG q4_); rintro e w39 ⟨v148, rfl, ho0, hi, hb, hk⟩; refine ⟨_, rfl, ?_⟩; have n0_ := Aside0.mk (KeepBut.blk hk (g' := gb143) (o := .cells #[.int .i64 0, .string (⟨#[]⟩ : ByteArray), .slice none 0 0] 24 (0, 0)) (bkq BK143.out) NB143_144.out (by simp)); have n1_ := Aside0.mk (Kd.R_lower (Kd.R_newB ho0 (g := gb143) (o := .cells #[.int .i64 0, .string (⟨#[]⟩ : ByteArray), .slice none 0 0] 24 (0, 0)) (bkq BK143.out)) (below_size q4_)); have n2_ := Aside0.mk (hb); have n3_ := Aside0.mk (hi); clear BK143; clear HB; clear HI144; have BK143 := n0_; have HO149 := n1_; have HB := n2_; have HI144 := n3_; clear n0_ n1_ n2_ n3_; (try clear hb); (try clear hb2); (try clear hk); (try clear hi); (try clear ho0); (try simp only [eW])) | ((with_reducible refine gate_dst (N := 8) rfl ?_); (try (refine gate_guard (by rfl) ?_; dsimp only)); refine box_event ?hg (N := 8) ?hd (cs := #[.int .i64 0, .string (⟨#[]⟩ : ByteArray), .slice none 0 0]) (t := 24) ?hr ?_; (case hd => rfl); (case hg => rfl); (case hr => first | (go_simp; done) | (go_simp; rfl)); intro gb154 hg w40 hbox hb; have n0_ := Aside0.mk (Kd.R_below (Kd.R_elderB (rkq HO149.out) gb154 (Nat.le_of_eq hg.symm)) hb); have n1_ := Aside0.mk (blk_below (g := gb143) (o := .cells #[.int .i64 0, .string (⟨#[]⟩ : ByteArray), .slice none 0 0] 24 (0, 0)) (bkq BK143.out) hb); have n2_ := Aside0.mk (IsS74.below q11_ hb); have n3_ := Aside0.mk (below_step q4_ hb); have n4_ := Aside0.mk (hbox); have n5_ := Aside0.mk ((by rw [hg]; exact (below_size q4_) : w.heap.size ≤ gb154)); have n6_ := Aside0.mk ((by rw [hg]; exact (below_size q4_) : w.heap.size ≤ gb154)); have n7_ := Aside0.mk ((by rw [hg]; exact Nat.ne_of_lt (blk_lt (g := gb143) (o := .cells #[.int .i64 0, .string (⟨#[]⟩ : ByteArray), .slice none 0 0] 24 (0, 0)) (bkq BK143.out)) : gb143 ≠ gb154)); have n8_ := Aside0.mk ((by rw [hg]; exact Nat.ne_of_gt (blk_lt (g := gb143) (o := .cells #[.int .i64 0, .string (⟨#[]⟩ : ByteArray), .slice none 0 0] 24 (0, 0)) (bkq BK143.out)) : gb154 ≠ gb143)); have n9_ := Aside0.mk ((by rw [hg]; exact Nat.ne_of_lt (IsS74.lt (show IsS74 w _ gb144 t151 t152 t153 from q11_)) : gb144 ≠ gb154)); have n10_ := Aside0.mk ((by rw [hg]; exact Nat.ne_of_gt (IsS74.lt (show IsS74 w _ gb144 t151 t152 t153 from q11_)) : gb154 ≠ gb144)); clear HO149; clear BK143; clear HI144; clear HB; have HO149 := n0_; have BK143 := n1_; have HI144 := n2_; have HB := n3_; have BK154 := n4_; have GW154 := n5_; have GE154 := n6_; have NB143_154 := n7_; have NB154_143 := n8_; have NB144_154 := n9_; have NB154_144 := n10_; clear n0_ n1_ n2_ n3_ n4_ n5_ n6_ n7_ n8_ n9_ n10_; clear hb hbox hg; have hnb41 := NB154_143.out; have hnc41 := NB143_154.out; have hnb42 := NB154_144.out; have hnc42 := NB144_154.out; have hcz43_0 : w40.cell? ⟨gb154, 0, none⟩ = some (.int .i64 0) := (blk_cell BK154.out 0).trans rfl; have hcz43_1 : w40.cell? ⟨gb154, 1, none⟩ = some (.string (⟨#[]⟩ : ByteArray)) := (blk_cell BK154.out 1).trans rfl; have hcz43_2 : w40.cell? ⟨gb154, 2, none⟩ = some (.slice none 0 0) := (blk_cell BK154.out 2).trans rfl; have hfz43_0 := blk_frozen BK154.out 0; have hfz43_1 := blk_frozen BK154.out 1; have hfz43_2 := blk_frozen BK154.out 2; obtain ⟨Ao44, co44, eo44⟩ := Kd.R_slice HO149.out; subst eo44; have hnb45 := NB143_144.out; have hnc45 := NB144_143.out; have hcz46_0 : w40.cell? ⟨gb143, 0, none⟩ = some (.int .i64 0) := (blk_cell BK143.out 0).trans rfl; have hcz46_1 : w40.cell? ⟨gb143, 1, none⟩ = some (.string (⟨#[]⟩ : ByteArray)) := (blk_cell BK143.out 1).trans rfl; have hcz46_2 : w40.cell? ⟨gb143, 2, none⟩ = some (.slice none 0 0) := (blk_cell BK143.out 2).trans rfl; have hfz46_0 := blk_frozen BK143.out 0; have hfz46_1 := blk_frozen BK143.out 1; have hfz46_2 := blk_frozen BK143.out 2))
     refine bodyPost_ret (results_ctt rfl _ _ gb143 24 #[.int .i64 0, .string (⟨#[]⟩ : ByteArray), .slice none 0 0] (0, 0) _ rfl (by refine bkq ?_; refine blk_put (cs := #[.int .i64 0, .string (⟨#[]⟩ : ByteArray), .slice none 0 0]) ?_ 2 _ rfl; refine bkq ?_; refine blk_put (cs := #[.int .i64 0, .string (⟨#[]⟩ : ByteArray), .slice none 0 0]) ?_ 1 _ rfl; refine bkq ?_; refine blk_put (cs := #[.int .i64 0, .string (⟨#[]⟩ : ByteArray), .slice none 0 0]) ?_ 0 _ rfl; refine bkq ?_; refine blk_far ?_ NB143_154.out _; refine bkq ?_; refine blk_far ?_ NB143_154.out _; refine bkq ?_; refine blk_far ?_ NB143_154.out _; refine bkq ?_; exact BK143.out) Tryd.underlying24 rfl (by kernel_rfl)) rfl ?_
     exact ⟨_, q2_, q10_, q4_⟩
def tlv_Decode.f (k : Nat) (a0 : ByteArray) (a1 : Int) : Option (Int × ByteArray × (List (S24)) × Int × Int) := (tlv_decoded.f k a0 a1).bind fun bt158 => ((tlv_told.f bt158.2.2.2.2).bind fun t166 => (some (bt158.1, bt158.2.1, bt158.2.2.1, bt158.2.2.2.1, t166)))
theorem tlv_Decode.mono : ∀ a0 a1 k, LeO (tlv_Decode.f k a0 a1) (tlv_Decode.f (k + 1) a0 a1) := by
 intro a0 a1 k
 unfold tlv_Decode.f
 repeat' first
   | (with_reducible exact tlv_decoded.mono _ _ _)
   | (with_reducible exact LeO.refl _)
   | (with_reducible exact LeO.none _)
   | (with_reducible refine LeO.ite ?_ ?_)
   | (with_reducible refine LeO.bind ?_ (fun _ => ?_))
   | exact tlv_decoded.mono _ _ _
   | exact LeO.none _
   | refine LeO.ite ?_ ?_
   | refine LeO.bind ?_ (fun _ => ?_)
set_option maxHeartbeats 8000000 in
set_option maxRecDepth 100000 in
theorem tlv_Decode.calls (k : Nat) (a0 : ByteArray) (a1 : Int) (r1 : Int) (r2 : ByteArray) (r3 : List (S24)) (r4 : Int) (r5 : Int) (w : World) (hG : GW G w) (h : tlv_Decode.f k a0 a1 = some (r1, r2, r3, r4, r5)) :
  Calls Tryd.prog 17 #[.string a0, .int .i64 a1] w fun e w' => ∃ v2_ : Value, e = .returned (.tuple #[.agg #[.int .i64 r1, .string r2, v2_], .int .i64 r4, .int .i64 r5]) ∧ Kd.R k24 24 w' w.heap.size (fun _ => True) v2_ r3 ∧ Below w.heap.size w w' := by
 have hu24 := Tryd.underlying24
 have HB := Aside0.mk (Below.refl w.heap.size w)
 have H : ((tlv_decoded.f k a0 a1).bind fun bt158 => ((tlv_told.f bt158.2.2.2.2).bind fun t166 => (some (bt158.1, bt158.2.1, bt158.2.2.1, bt158.2.2.2.1, t166)))) = some (r1, r2, r3, r4, r5) := h
 clear h
 replace H := Option.bind_eq_some_iff.mp H
 obtain ⟨⟨t158, t159, t160, t163, t164⟩, A30, H⟩ := H
 replace H : ((tlv_told.f t164).bind fun t166 => (some (t158, t159, t160, t163, t166))) = some (r1, r2, r3, r4, r5) := H
 have A3 := Aside0.mk A30
 clear A30
 replace H := Option.bind_eq_some_iff.mp H
 obtain ⟨t166, A40, H⟩ := H
 replace H : (some (t158, t159, t160, t163, t166)) = some (r1, r2, r3, r4, r5) := H
 have A4 := Aside0.mk A40
 clear A40
 simp only [Option.some.injEq, Prod.mk.injEq] at H
 obtain ⟨rfl, rfl, rfl, rfl, rfl⟩ := H
 go_enter Tryd.func17, Tryd.ntmps17
 try go_wp2_with (first | ((with_reducible refine gate_dst (N := 4) rfl ?_); refine box_event ?hg (N := 4) ?hd (cs := #[.int .i64 0, .string (⟨#[]⟩ : ByteArray), .slice none 0 0]) (t := 24) ?hr ?_; (case hd => rfl); (case hg => rfl); (case hr => first | (go_simp; done) | (go_simp; rfl)); intro gb157 hg w5 hbox hb; have n0_ := Aside0.mk (below_step q0_ hb); have n1_ := Aside0.mk (hbox); have n2_ := Aside0.mk ((by rw [hg]; exact (below_size q0_) : w.heap.size ≤ gb157)); have n3_ := Aside0.mk ((by rw [hg]; exact (below_size q0_) : w.heap.size ≤ gb157)); clear HB; have HB := n0_; have BK157 := n1_; have GW157 := n2_; have GE157 := n3_; clear n0_ n1_ n2_ n3_; clear hb hbox hg) | ((with_reducible refine gate_callee (f := 31) rfl ?_); refine goesL_ (some 13) rfl rfl Tryd.func31 (by kernel_rfl) rfl #[.string a0, .int .i64 a1] rfl argq ?_; (with_reducible refine (tlv_decoded.calls (G := G) k a0 a1 t158 t159 t160 t163 t164 _ ?side1 A3.out).mono ?_); (case side1 => first | exact hG | exact GW.below hG q0_); rintro e w6 ⟨v161, rfl, ho0, hb⟩; refine ⟨_, rfl, ?_⟩; have n0_ := Aside0.mk (Kd.R_lower (Kd.R_newB ho0 (g := gb157) (o := .cells #[.int .i64 0, .string (⟨#[]⟩ : ByteArray), .slice none 0 0] 24 (0, 0)) (bkq BK157.out)) (below_size q0_)); have n1_ := Aside0.mk (blk_below (g := gb157) (o := .cells #[.int .i64 0, .string (⟨#[]⟩ : ByteArray), .slice none 0 0] 24 (0, 0)) (bkq BK157.out) hb); have n2_ := Aside0.mk (below_step q0_ hb); clear BK157; clear HB; have HO162 := n0_; have BK157 := n1_; have HB := n2_; clear n0_ n1_ n2_; (try clear hb); (try clear hb2); (try clear hk); (try clear hi); (try clear ho0); (try simp only [eW])) | ((with_reducible refine gate_dst (N := 7) rfl ?_); refine box_event ?hg (N := 7) ?hd (cs := #[.int .i64 0, .string (⟨#[]⟩ : ByteArray), .slice none 0 0]) (t := 24) ?hr ?_; (case hd => rfl); (case hg => rfl); (case hr => first | (go_simp; done) | (go_simp; rfl)); intro gb165 hg w7 hbox hb; have n0_ := Aside0.mk (Kd.R_below (Kd.R_elderB (rkq HO162.out) gb165 (Nat.le_of_eq hg.symm)) hb); have n1_ := Aside0.mk (blk_below (g := gb157) (o := .cells #[.int .i64 0, .string (⟨#[]⟩ : ByteArray), .slice none 0 0] 24 (0, 0)) (bkq BK157.out) hb); have n2_ := Aside0.mk (below_step q0_ hb); have n3_ := Aside0.mk (hbox); have n4_ := Aside0.mk ((by rw [hg]; exact (below_size q0_) : w.heap.size ≤ gb165)); have n5_ := Aside0.mk ((by rw [hg]; exact (below_size q0_) : w.heap.size ≤ gb165)); have n6_ := Aside0.mk ((by rw [hg]; exact Nat.ne_of_lt (blk_lt (g := gb157) (o := .cells #[.int .i64 0, .string (⟨#[]⟩ : ByteArray), .slice none 0 0] 24 (0, 0)) (bkq BK157.out)) : gb157 ≠ gb165)); have n7_ := Aside0.mk ((by rw [hg]; exact Nat.ne_of_gt (blk_lt (g := gb157) (o := .cells #[.int .i64 0, .string (⟨#[]⟩ : ByteArray), .slice none 0 0] 24 (0, 0)) (bkq BK157.out)) : gb165 ≠ gb157)); clear HO162; clear BK157; clear HB; have HO162 := n0_; have BK157 := n1_; have HB := n2_; have BK165 := n3_; have GW165 := n4_; have GE165 := n5_; have NB157_165 := n6_; have NB165_157 := n7_; clear n0_ n1_ n2_ n3_ n4_ n5_ n6_ n7_; clear hb hbox hg; have hnb8 := NB165_157.out; have hnc8 := NB157_165.out; have hcz9_0 : w7.cell? ⟨gb165, 0, none⟩ = some (.int .i64 0) := (blk_cell BK165.out 0).trans rfl; have hcz9_1 : w7.cell? ⟨gb165, 1, none⟩ = some (.string (⟨#[]⟩ : ByteArray)) := (blk_cell BK165.out 1).trans rfl; have hcz9_2 : w7.cell? ⟨gb165, 2, none⟩ = some (.slice none 0 0) := (blk_cell BK165.out 2).trans rfl; have hfz9_0 := blk_frozen BK165.out 0; have hfz9_1 := blk_frozen BK165.out 1; have hfz9_2 := blk_frozen BK165.out 2; obtain ⟨Ao10, co10, eo10⟩ := Kd.R_slice HO162.out; subst eo10))
 have n0_ : Aside0 (Kd.R k24 24 (((w7.setCell ⟨gb165, 0, none⟩ (.int .i64 t158)).setCell ⟨gb165, 1, none⟩ (.string t159)).setCell ⟨gb165, 2, none⟩ (.slice Ao10 t160.length co10)) w.heap.size (fun k_ => k_ ≠ gb157 ∧ k_ ≠ gb165) (.slice Ao10 t160.length co10) t160) := ⟨by refine rkq ?_; exact Kd.R_mono (Kd.R_far (p := ⟨gb165, 2, none⟩) (Kd.R_far (p := ⟨gb165, 1, none⟩) (Kd.R_far (p := ⟨gb165, 0, none⟩) (Kd.R_mono HO162.out (fun k_ hk => (⟨hk, hk.2⟩ : _ ∧ k_ ≠ gb165))) (fun _ hk => hk.2) (.int .i64 t158)) (fun _ hk => hk.2) (.string t159)) (fun _ hk => hk.2) (.slice Ao10 t160.length co10)) (fun _ hk => ⟨hk.1.1.2, hk.1.2⟩)⟩
 have n1_ : Aside0 ((((w7.setCell ⟨gb165, 0, none⟩ (.int .i64 t158)).setCell ⟨gb165, 1, none⟩ (.string t159)).setCell ⟨gb165, 2, none⟩ (.slice Ao10 t160.length co10)).heap[gb157]? = some (.cells #[.int .i64 0, .string (⟨#[]⟩ : ByteArray), .slice none 0 0] 24 (0, 0))) := ⟨by refine bkq ?_; refine blk_far ?_ NB157_165.out _; refine bkq ?_; refine blk_far ?_ NB157_165.out _; refine bkq ?_; refine blk_far ?_ NB157_165.out _; refine bkq ?_; exact BK157.out⟩
 have n2_ : Aside0 ((((w7.setCell ⟨gb165, 0, none⟩ (.int .i64 t158)).setCell ⟨gb165, 1, none⟩ (.string t159)).setCell ⟨gb165, 2, none⟩ (.slice Ao10 t160.length co10)).heap[gb165]? = some (.cells #[.int .i64 t158, .string t159, .slice Ao10 t160.length co10] 24 (0, 0))) := ⟨by refine bkq ?_; refine blk_put (cs := #[.int .i64 t158, .string t159, .slice none 0 0]) ?_ 2 _ rfl; refine bkq ?_; refine blk_put (cs := #[.int .i64 t158, .string (⟨#[]⟩ : ByteArray), .slice none 0 0]) ?_ 1 _ rfl; refine bkq ?_; refine blk_put (cs := #[.int .i64 0, .string (⟨#[]⟩ : ByteArray), .slice none 0 0]) ?_ 0 _ rfl; refine bkq ?_; exact BK165.out⟩
 have n3_ : Aside0 (Below w.heap.size w (((w7.setCell ⟨gb165, 0, none⟩ (.int .i64 t158)).setCell ⟨gb165, 1, none⟩ (.string t159)).setCell ⟨gb165, 2, none⟩ (.slice Ao10 t160.length co10))) := ⟨q0_⟩
 (try clear HO162)
 (try clear BK157)
 (try clear BK165)
 (try clear HB)
 generalize (((w7.setCell ⟨gb165, 0, none⟩ (.int .i64 t158)).setCell ⟨gb165, 1, none⟩ (.string t159)).setCell ⟨gb165, 2, none⟩ (.slice Ao10 t160.length co10)) = w11 at n0_ n1_ n2_ n3_ ⊢
 have HO162 := n0_
 have BK157 := n1_
 have BK165 := n2_
 have HB := n3_
 clear n0_ n1_ n2_ n3_
 have n0_ := Aside0.mk (Kd.R_drew HO162.out)
 have n1_ := Aside0.mk (blk_drew BK157.out)
 have n2_ := Aside0.mk (blk_drew BK165.out)
 have n3_ := Aside0.mk (below_drew1 HB.out)
 clear HO162
 clear BK157
 clear BK165
 clear HB
 have HO162 := n0_
 have BK157 := n1_
 have BK165 := n2_
 have HB := n3_
 clear n0_ n1_ n2_ n3_
 have CA4 := fun W (hG_ : GW G W) => tlv_told.calls t164 t166 W hG_ A4.out
 refine start_ (n := 7) (S := fun w' => w'.cell? ⟨gb165, 0, none⟩ = some (.int .i64 t158) ∧ w'.cell? ⟨gb165, 1, none⟩ = some (.string t159) ∧ w'.cell? ⟨gb165, 2, none⟩ = some (.slice Ao10 t160.length co10)) (ds := []) #[false, false, false, false, false, false, false] (by kernel_rfl) rfl rfl ⟨(blk_cell BK165.out 0).trans rfl, (blk_cell BK165.out 1).trans rfl, (blk_cell BK165.out 2).trans rfl⟩ (fun hHeld => ?_)
 generalize w11.drew = w12 at HO162 BK157 BK165 HB hHeld ⊢
 refine pure_ (i := 1) (N := some 18) (v := ?_) (a' := ?_) #[false, true, false, false, false, false, false] rfl rfl (by kernel_rfl) (fun _ _ _ h => h) (Or.inl ⟨by rfl, ?_⟩) ?_ ?_
 rotate_left
 ·intro w'
  go_simp
  with_reducible rfl
 rotate_left
 ·exact putq
 refine pure_ (i := 2) (N := some 19) (v := ?_) (a' := ?_) #[false, true, true, false, false, false, false] rfl rfl (by kernel_rfl) (fun _ _ _ h => h) (Or.inl ⟨by rfl, ?_⟩) ?_ ?_
 rotate_left
 ·intro w'
  go_simp
  with_reducible rfl
 rotate_left
 ·exact putq
 refine take_ (i := 0) (N := some 17) (v := ?_) (a' := ?_) #[true, true, true, false, false, false, false] rfl rfl (by kernel_rfl) (fun _ _ _ h => h) (Or.inl ⟨by rfl, ?_⟩) hHeld ?_ ?_
 rotate_left
 ·rintro w' ⟨s0, s1, s2⟩
  go_simp
  with_reducible rfl
 rotate_left
 ·exact putq
 refine one_ (i := 3) (N := some 20) #[true, true, true, true, false, false, false] rfl rfl (by kernel_rfl) (by decide) (fun K hK => ?_)
 refine goes_ Tryd.func28 (by kernel_rfl) rfl #[errW G t164] (by rfl) rfl rfl argq ?_
 with_reducible refine (CA4 _ ?side1).mono ?_
 (case side1 => first | exact hG | exact GW.below hG q0_)
 rintro e w13 ⟨rfl, hb⟩
 refine ⟨_, rfl, ?_⟩
 have n0_ := Aside0.mk (Kd.R_below (rkq HO162.out) hb)
 have n1_ := Aside0.mk (blk_below (g := gb157) (o := .cells #[.int .i64 0, .string (⟨#[]⟩ : ByteArray), .slice none 0 0] 24 (0, 0)) (bkq BK157.out) hb)
 have n2_ := Aside0.mk (blk_below (g := gb165) (o := .cells #[.int .i64 t158, .string t159, .slice Ao10 t160.length co10] 24 (0, 0)) (bkq BK165.out) hb)
 have n3_ := Aside0.mk (below_step q0_ hb)
 clear HO162
 clear BK157
 clear BK165
 clear HB
 have HO162 := n0_
 have BK157 := n1_
 have BK165 := n2_
 have HB := n3_
 clear n0_ n1_ n2_ n3_
 (try clear hb)
 (try clear hb2)
 (try clear hk)
 (try clear hi)
 refine hK.out _ _ ⟨(blk_cell BK165.out 0).trans rfl, (blk_cell BK165.out 1).trans rfl, (blk_cell BK165.out 2).trans rfl⟩ (fun hHeld => ?_)
 clear hK K
 refine norm_ (a' := ?_) ?_ ?_
 rotate_left
 ·show Act.put _ (some 20) _ = _
  exact putq
 refine one_ (i := 4) (N := none) #[true, true, true, true, true, false, false] rfl rfl (by kernel_rfl) (by decide) (fun K hK => ?_)
 have hs14 : w13.cell? ⟨gb157, 0, none⟩ = some (.int .i64 0) := (blk_cell BK157.out 0).trans rfl
 have hfs14 := blk_frozen BK157.out 0
 have hns14_1 := NB165_157.out
 have hms14_1 := NB157_165.out
 have hs15 : w13.cell? ⟨gb157, 1, none⟩ = some (.string (⟨#[]⟩ : ByteArray)) := (blk_cell BK157.out 1).trans rfl
 have hfs15 := blk_frozen BK157.out 1
 have hns15_1 := NB165_157.out
 have hms15_1 := NB157_165.out
 have hs16 : w13.cell? ⟨gb157, 2, none⟩ = some (.slice none 0 0) := (blk_cell BK157.out 2).trans rfl
 have hfs16 := blk_frozen BK157.out 2
 have hns16_1 := NB165_157.out
 have hms16_1 := NB157_165.out
 refine skip_ (w1 := ?_) (by rfl) rfl ?_ ?_
 rotate_left
 ·go_simp
  rfl
 refine hK.out _ _ ⟨((cell_far (p := ⟨gb157, _, none⟩) NB165_157.out _).trans (((cell_far (p := ⟨gb157, _, none⟩) NB165_157.out _).trans (((cell_far (p := ⟨gb157, _, none⟩) NB165_157.out _).trans (hHeld.1)))))), ((cell_far (p := ⟨gb157, _, none⟩) NB165_157.out _).trans (((cell_far (p := ⟨gb157, _, none⟩) NB165_157.out _).trans (((cell_far (p := ⟨gb157, _, none⟩) NB165_157.out _).trans (hHeld.2.1)))))), ((cell_far (p := ⟨gb157, _, none⟩) NB165_157.out _).trans (((cell_far (p := ⟨gb157, _, none⟩) NB165_157.out _).trans (((cell_far (p := ⟨gb157, _, none⟩) NB165_157.out _).trans (hHeld.2.2))))))⟩ (fun hHeld => ?_)
 clear hK K
 refine pure_ (i := 5) (N := some 5) (v := ?_) (a' := ?_) #[true, true, true, true, true, true, false] rfl rfl (by kernel_rfl) (fun _ _ _ h => h) (Or.inl ⟨by rfl, ?_⟩) ?_ ?_
 rotate_left
 ·intro w'
  go_simp
  with_reducible rfl
 rotate_left
 ·exact putq
 refine pure_ (i := 6) (N := some 6) (v := ?_) (a' := ?_) #[true, true, true, true, true, true, true] rfl rfl (by kernel_rfl) (fun _ _ _ h => h) (Or.inl ⟨by rfl, ?_⟩) ?_ ?_
 rotate_left
 ·intro w'
  go_simp
  with_reducible rfl
 rotate_left
 ·exact putq
 refine done_ (by kernel_rfl) ?_
 try go_wp2
 refine bodyPost_ret (results_ctt rfl _ _ gb157 24 #[.int .i64 t158, .string t159, .slice Ao10 t160.length co10] (0, 0) _ rfl (by refine bkq ?_; refine blk_put (cs := #[.int .i64 t158, .string t159, .slice none 0 0]) ?_ 2 _ rfl; refine bkq ?_; refine blk_put (cs := #[.int .i64 t158, .string (⟨#[]⟩ : ByteArray), .slice none 0 0]) ?_ 1 _ rfl; refine bkq ?_; refine blk_put (cs := #[.int .i64 0, .string (⟨#[]⟩ : ByteArray), .slice none 0 0]) ?_ 0 _ rfl; refine bkq ?_; exact BK157.out) Tryd.underlying24 rfl (by kernel_rfl)) rfl ?_
 exact ⟨_, q2_, by refine rkq ?_; exact Kd.R_mono (Kd.R_far (p := ⟨gb157, 2, none⟩) (Kd.R_far (p := ⟨gb157, 1, none⟩) (Kd.R_far (p := ⟨gb157, 0, none⟩) (Kd.R_mono HO162.out (fun k_ hk => (⟨hk, hk.1⟩ : _ ∧ k_ ≠ gb157))) (fun _ hk => hk.2) (.int .i64 t158)) (fun _ hk => hk.2) (.string t159)) (fun _ hk => hk.2) (.slice Ao10 t160.length co10)) (fun _ hk => trivial), q0_⟩
end Go.Proofs.YthnddhgkjkpmfaaDoor.LTlvC
