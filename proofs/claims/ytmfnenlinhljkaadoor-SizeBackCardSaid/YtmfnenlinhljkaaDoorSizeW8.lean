/- size's reader, in range. -/
import Derived.Test.YtmfnenlinhljkaaDoorSizeW7
namespace Go.Proofs.YtmfnenlinhljkaaDoor
set_option linter.unusedSimpArgs false
set_option linter.unusedVariables false
namespace Size
open Go.RowKit Go.Shelf Go.Proofs.YtmfnenlinhljkaaDoorW.PrintWords
attribute [local go_sem] Oper.semAt_some
set_option maxRecDepth 100000 in
set_option maxHeartbeats 40000000 in
theorem read_in_b (s : ByteArray) (at' : Int) (R : Nat) (a0 a1 a2 : Addr) (w : World) (h : GA a0 a1 a2 w) (hR : Cells3 s at' 0 R w)
    (hs : s.size ≤ 1000) (h0 : 0 ≤ at') (h1 : at' < s.size) (hk1 : 128 < bt s at') (hk2 : bt s at' ≤ 132) (hk3 : (s.size : Int) < at' + 1 + (bt s at' - 128)) :
    Calls Tryd.prog 41 #[.pointer (some ⟨R, 0, none⟩)] w (RdPost s at' R a0 a1 a2 w) := by
  go_enter Tryd.func41, Tryd.ntmps41
  have hg := h.g0
  have c0 := cell_of_row w R 0 _ _ _ hR
  have c1 := cell_of_row w R 1 _ _ _ hR
  have c2 := cell_of_row w R 2 _ _ _ hR
  simp at c0 c1 c2
  have hlt := lt_of_cell c0
  have hdec : decide (0 ≤ at' ∧ at' ≤ s.size ∧ 1 ≤ wrap64 (s.size - at')) = true := by
    apply decide_eq_true; unfold wrap64; omega
  go_wp2_with fail
  have hgl := lt_of_cell hg
  simp only at hgl
  have HDEC := Lib.hid hdec
  clear hdec
  have HROW := Lib.hid (row_two w (.cells #[.string s, .int .i64 at'] 63) (.cells #[.bool false, ese a0] 75))
  go_cut [3] from 7 (fun s3 wx => s3 = .nilIface ∧ Below w.heap.size w wx)
  case first =>
    go_region_with (first
      | (go_at_call 49; refine (has_b s at' 1 _ HDEC.out _).mono ?_; rintro e w' ⟨rfl, rfl⟩)
      | (go_at_call 46; refine (first_no 0 a0 (w.heap.size + 1) _ HROW.out).mono ?_; rintro e w' ⟨rfl, rfl⟩))
    all_goals (go_wp2_with fail; go_meet; exact ⟨rfl, by repeat (first | exact Below.refl _ _ | refine bl_alloc ?_ _ | refine Below.drew ?_)⟩)
  case rest =>
    obtain ⟨rfl, hb1⟩ := hcut
    have hR1 : Cells3 s at' 0 R wc := (Chg.of_below (S := fun _ => False) hb1).heap hR (by simp)
    clear c0 c1 c2 hlt hgl HDEC HROW hg
    have c0 := cell_of_row wc R 0 _ _ _ hR1
    have c1 := cell_of_row wc R 1 _ _ _ hR1
    have c2 := cell_of_row wc R 2 _ _ _ hR1
    simp at c0 c1 c2
    have f1 : wc.frozen? ⟨R, 1, none⟩ = false := frozen_row hR1
    have f2 : wc.frozen? ⟨R, 2, none⟩ = false := frozen_row hR1
    have hG1 := h.below hb1
    have e0 := hG1.g0
    have e1 := hG1.g1
    have e2 := hG1.g2
    have r0 : ¬ R = 3 := by rintro rfl; rw [c0] at e0; cases e0
    have r1 : ¬ R = 4 := by rintro rfl; rw [c0] at e1; cases e1
    have r2 : ¬ R = 2 := by rintro rfl; rw [c0] at e2; cases e2
    go_wp2_with fail
    go_region
    have hlt : at'.toNat < s.size := by omega
    obtain ⟨b, hbv⟩ : ∃ b : Int, ((s[at'.toNat]'hlt).toNat : Int) = b := ⟨_, rfl⟩
    have hbb : bt s at' = b := by rw [← hbv]; exact dif_pos hlt
    have hb0 : 0 ≤ b ∧ b ≤ 255 := by have := (s[at'.toNat]'hlt).toNat_lt; omega
    simp only [hbv]
    clear hbv
    have hC : Chg (fun z => z = R) w wc := Chg.of_below hb1
    rw [hbb] at hk1 hk2 hk3
    go_wp2_with fail
    generalize hW2 : (wc.setCell ⟨R, 1, none⟩ (.int .i64 (at' + 1))).drew = W2
    have hC2 : Chg (fun z => z = R) w W2 := by rw [← hW2]; exact (hC.setCell rfl _).drew
    have hR2 : Cells3 s (at' + 1) 0 R W2 := by rw [← hW2]; exact set_row hR1 _
    have q0 := hC2.cell h.g0 (fun e => r0 e.symm)
    have q2 := hC2.cell h.g2 (fun e => r2 e.symm)
    have qs0 := lt_of_cell q0
    simp only at qs0
    clear c0 c1 c2 f1 f2 e0 e1 e2 hG1 hb1 hC hR1 hW2
    have c0 := cell_of_row W2 R 0 _ _ _ hR2
    have c1 := cell_of_row W2 R 1 _ _ _ hR2
    have c2 := cell_of_row W2 R 2 _ _ _ hR2
    simp at c0 c1 c2
    have hRl := lt_of_cell c0
    simp only at hRl
    obtain ⟨k, hk⟩ : ∃ k : Nat, b - 128 = k := ⟨(b - 128).toNat, by omega⟩
    have HD := Lib.hid (has_b s (at' + 1) (b - 128) false (by apply decide_eq_false; unfold wrap64; omega))
    have HROW := Lib.hid (row_two W2 (.cells #[.string s, .int .i64 (at' + 1)] 63) (.cells #[.bool true, ese a0] 75))
    have HF := Lib.hid (show ∀ w', Chg (fun z => z = R) w w' → RdPost s at' R a0 a1 a2 w (.returned (werr (b - 128) a0)) w' from
      fun w' hc => ⟨hc, .inr (.inr (.inl ⟨by omega, by omega, by rw [hbb]; exact hk3, by rw [hbb]⟩))⟩)
    have HC := Lib.hid hC2
    clear h hR hs h0 h1 hbb hlt hb0 hk1 hk2 hk3 hk r0 r1 r2 q2 c2 hC2 hR2
    go_region_with (first
      | (go_at_call 49; refine (HD.out _).mono ?_; rintro e w' ⟨rfl, rfl⟩)
      | (go_at_call 46; refine (first_yes (b - 128) a0 (W2.heap.size + 1) _ HROW.out).mono ?_; rintro e w' ⟨rfl, rfl⟩))
    all_goals go_wp2_with fail
    all_goals go_ret
    all_goals exact HF.out _ (by repeat (first | exact HC.out | refine Chg.alloc ?_ _ | refine Chg.drew ?_))
end Size
end Go.Proofs.YtmfnenlinhljkaaDoor
