/- size's reader, in range. -/
import Derived.Test.YtmfnenlinhljkaaDoorSizeW7
namespace Go.Proofs.YtmfnenlinhljkaaDoor
set_option linter.unusedSimpArgs false
set_option linter.unusedVariables false
namespace Size
open Go.RowKit Go.Shelf Go.Proofs.YtmfnenlinhljkaaDoorW.PrintWords
attribute [local go_sem] Oper.semAt_some
theorem first_yes_b (n : Int) (b : Bool) (hb : b = true) (a : Addr) (g : Nat) (w : World) (hr : w.heap[g]? = some (.cells #[.bool b, ese a] 75 (0, 0))) :
    Calls Tryd.prog 46 #[.int .i64 n, .slice (some ⟨g, 0, none⟩) 1 1] w fun e' w' => e' = .returned (werr n a) ∧ w' = w.alloc (.cells #[.bool b, ese a] 75) := by
  subst hb; exact first_yes n a g w hr
theorem first_no_b (n : Int) (b : Bool) (hb : b = false) (a : Addr) (g : Nat) (w : World) (hr : w.heap[g]? = some (.cells #[.bool b, ese a] 75 (0, 0))) :
    Calls Tryd.prog 46 #[.int .i64 n, .slice (some ⟨g, 0, none⟩) 1 1] w fun e' w' => e' = .returned .nilIface ∧ w' = w.alloc (.cells #[.bool b, ese a] 75) := by
  subst hb; exact first_no n a g w hr
theorem row_one (w : World) (o1 : Obj) : (w.alloc o1).drew.heap[w.heap.size]? = some o1 := World.alloc_heap_new w o1
theorem bt_bd' (s : ByteArray) (i : Int) : 0 ≤ bt s i ∧ bt s i ≤ 255 := by
  unfold bt
  split
  · rename_i h; have := (s[i.toNat]'h).toNat_lt; omega
  · omega
theorem vl_bd4 (s : ByteArray) (i : Int) (k : Nat) (hk : k ≤ 3) : 0 ≤ vl s i k ∧ vl s i k < 16777216 := by
  have h0 : vl s i 0 = 0 := rfl
  have h1 := vl_succ s i 0
  have h2 := vl_succ s i 1
  have h3 := vl_succ s i 2
  have b0 := bt_bd' s (i + (0 : Nat))
  have b1 := bt_bd' s (i + (1 : Nat))
  have b2 := bt_bd' s (i + (2 : Nat))
  simp only [Nat.zero_add, Nat.reduceAdd] at h1 h2 h3
  rcases (show k = 0 ∨ k = 1 ∨ k = 2 ∨ k = 3 by omega) with rfl | rfl | rfl | rfl <;> omega
set_option maxRecDepth 100000 in
set_option maxHeartbeats 40000000 in
theorem read_in_c (s : ByteArray) (at' : Int) (R : Nat) (a0 a1 a2 : Addr) (w : World) (h : GA a0 a1 a2 w) (hR : Cells3 s at' 0 R w)
    (hs : s.size ≤ 1000) (h0 : 0 ≤ at') (h1 : at' < s.size) (hk1 : 128 < bt s at') (hk2 : bt s at' ≤ 132) (hk3 : at' + 1 + (bt s at' - 128) ≤ (s.size : Int)) :
    Calls Tryd.prog 41 #[.pointer (some ⟨R, 0, none⟩)] w (RdPost s at' R a0 a1 a2 w) := by
  go_enter Tryd.func41, Tryd.ntmps41
  have hg := h.g0
  have c0 := cell_of_row w R 0 _ _ _ hR
  have c1 := cell_of_row w R 1 _ _ _ hR
  have c2 := cell_of_row w R 2 _ _ _ hR
  simp at c0 c1 c2
  have hlt := lt_of_cell c0
  have hdec : decide (0 ≤ at' ∧ at' ≤ s.size ∧ 1 ≤ wrap64 (s.size - at')) = true := by
    apply decide_eq_true; unfold wrap64; omega
  go_wp2_with fail
  have hgl := lt_of_cell hg
  simp only at hgl
  have HDEC := Lib.hid hdec
  clear hdec
  have HROW := Lib.hid (row_two w (.cells #[.string s, .int .i64 at'] 63) (.cells #[.bool false, ese a0] 75))
  go_cut [3] from 7 (fun s3 wx => s3 = .nilIface ∧ Below w.heap.size w wx)
  case first =>
    go_region_with (first
      | (go_at_call 49; refine (has_b s at' 1 _ HDEC.out _).mono ?_; rintro e w' ⟨rfl, rfl⟩)
      | (go_at_call 46; refine (first_no 0 a0 (w.heap.size + 1) _ HROW.out).mono ?_; rintro e w' ⟨rfl, rfl⟩))
    all_goals (go_wp2_with fail; go_meet; exact ⟨rfl, by repeat (first | exact Below.refl _ _ | refine bl_alloc ?_ _ | refine Below.drew ?_)⟩)
  case rest =>
    obtain ⟨rfl, hb1⟩ := hcut
    have hR1 : Cells3 s at' 0 R wc := (Chg.of_below (S := fun _ => False) hb1).heap hR (by simp)
    clear c0 c1 c2 hlt hgl HDEC HROW hg
    have c0 := cell_of_row wc R 0 _ _ _ hR1
    have c1 := cell_of_row wc R 1 _ _ _ hR1
    have c2 := cell_of_row wc R 2 _ _ _ hR1
    simp at c0 c1 c2
    have f1 : wc.frozen? ⟨R, 1, none⟩ = false := frozen_row hR1
    have f2 : wc.frozen? ⟨R, 2, none⟩ = false := frozen_row hR1
    have hG1 := h.below hb1
    have e0 := hG1.g0
    have e1 := hG1.g1
    have e2 := hG1.g2
    have r0 : ¬ R = 3 := by rintro rfl; rw [c0] at e0; cases e0
    have r1 : ¬ R = 4 := by rintro rfl; rw [c0] at e1; cases e1
    have r2 : ¬ R = 2 := by rintro rfl; rw [c0] at e2; cases e2
    go_wp2_with fail
    go_region
    have hlt : at'.toNat < s.size := by omega
    obtain ⟨b, hbv⟩ : ∃ b : Int, ((s[at'.toNat]'hlt).toNat : Int) = b := ⟨_, rfl⟩
    have hbb : bt s at' = b := by rw [← hbv]; exact dif_pos hlt
    have hb0 : 0 ≤ b ∧ b ≤ 255 := by have := (s[at'.toNat]'hlt).toNat_lt; omega
    simp only [hbv]
    clear hbv
    have hC : Chg (fun z => z = R) w wc := Chg.of_below hb1
    rw [hbb] at hk1 hk2 hk3
    go_wp2_with fail
    generalize hW2 : (wc.setCell ⟨R, 1, none⟩ (.int .i64 (at' + 1))).drew = W2
    have hC2 : Chg (fun z => z = R) w W2 := by rw [← hW2]; exact (hC.setCell rfl _).drew
    have hR2 : Cells3 s (at' + 1) 0 R W2 := by rw [← hW2]; exact set_row hR1 _
    have q0 := hC2.cell h.g0 (fun e => r0 e.symm)
    have q2 := hC2.cell h.g2 (fun e => r2 e.symm)
    have qs0 := lt_of_cell q0
    simp only at qs0
    clear c0 c1 c2 f1 f2 e0 e1 e2 hG1 hb1 hC hR1 hW2
    have c0 := cell_of_row W2 R 0 _ _ _ hR2
    have c1 := cell_of_row W2 R 1 _ _ _ hR2
    have c2 := cell_of_row W2 R 2 _ _ _ hR2
    simp at c0 c1 c2
    have hRl := lt_of_cell c0
    simp only at hRl
    obtain ⟨k, hk⟩ : ∃ k : Nat, b - 128 = k := ⟨(b - 128).toNat, by omega⟩
    have HD := Lib.hid (has_b s (at' + 1) (b - 128) true (by apply decide_eq_true; unfold wrap64; omega))
    have HROW := Lib.hid (row_two W2 (.cells #[.string s, .int .i64 (at' + 1)] 63) (.cells #[.bool false, ese a0] 75))
    have HH := Lib.hid h
    have HC := Lib.hid hC2
    have HR := Lib.hid hR2
    have HB := Lib.hid (And.intro hs (And.intro h0 (And.intro hk1 (And.intro hk2 (And.intro hk3 (And.intro hk (And.intro hbb (And.intro r2 h1))))))))
    clear h hR hs h0 h1 hbb hlt hb0 hk1 hk2 hk3 hk r0 r1 r2 q2 c2 hC2 hR2
    go_cut [6] from 7 (fun s6 wx => s6 = .nilIface ∧ Below W2.heap.size W2 wx)
    case first =>
      go_region_with (first
        | (go_at_call 49; refine (HD.out _).mono ?_; rintro e w' ⟨rfl, rfl⟩)
        | (go_at_call 46; refine (first_no (b - 128) a0 (W2.heap.size + 1) _ HROW.out).mono ?_; rintro e w' ⟨rfl, rfl⟩))
      all_goals go_wp2_with fail
      all_goals go_meet
      all_goals exact ⟨rfl, by repeat (first | exact Below.refl _ _ | refine bl_alloc ?_ _ | refine Below.drew ?_)⟩
    case rest =>
      obtain ⟨rfl, hb3⟩ := hcut
      clear c0 c1 hRl qs0 q0 HD HROW
      obtain ⟨hs, h0, hk1, hk2, hk3, hk, hbb, r2, h1⟩ := HB.out
      have hC3 : Chg (fun z => z = R) w wc := HC.out.call hb3
      have hR3 : Cells3 s (at' + 1) 0 R wc := (Chg.of_below (S := fun _ => False) hb3).heap HR.out (by simp)
      clear hb3 HR HC
      go_wp2_with fail
      go_loopw [78] (fun i wr => ∃ j : Nat, (j : Int) ≤ b - 128 ∧ i = .int .i64 j ∧ Chg (fun z => z = R) w wr ∧ Cells3 s (at' + 1 + j) (vl s (at' + 1) j) R wr) (fun i _ => (b - 128 - intOf i).toNat)
      case atStart => exact ⟨0, by omega, rfl, hC3, by rw [vl]; simpa using hR3⟩
      case round =>
        obtain ⟨j, hj, rfl, hCr, hRr⟩ := hrel
        have c0 := cell_of_row wr R 0 _ _ _ hRr
        have c1 := cell_of_row wr R 1 _ _ _ hRr
        have c2 := cell_of_row wr R 2 _ _ _ hRr
        simp at c0 c1 c2
        have f1 : wr.frozen? ⟨R, 1, none⟩ = false := frozen_row hRr
        have f2 : wr.frozen? ⟨R, 2, none⟩ = false := frozen_row hRr
        by_cases hjk : (j : Int) < b - 128
        · have x0 : 0 ≤ at' + 1 + (j : Int) := by omega
          have x1 : at' + 1 + (j : Int) < s.size := by omega
          have hlt : (at' + 1 + (j : Int)).toNat < s.size := by omega
          have hv := vl_bd4 s (at' + 1) j (by omega)
          have hs2 := vl_succ s (at' + 1) j
          have hsz : j < k := by omega
          obtain ⟨i, hi⟩ : ∃ i : Int, at' + 1 + (j : Int) = i := ⟨_, rfl⟩
          obtain ⟨n, hn⟩ : ∃ n : Int, vl s (at' + 1) j = n := ⟨_, rfl⟩
          rw [hi] at c1 x0 x1 hs2 hRr
          rw [hn] at c2 hv hs2 hRr
          have hlt : i.toNat < s.size := by omega
          have hbt : bt s i = ((s[i.toNat]'hlt).toNat : Int) := dif_pos hlt
          have hbb0 := bt_bd' s i
          have hval : wrap64 (wrap64 (n * 256) + wrap64 ((s[i.toNat]'hlt).toNat : Int)) = vl s (at' + 1) (j + 1) := by
            rw [hs2, ← hbt]; unfold wrap64; omega
          have HI := Lib.hid hi
          have HV := Lib.hid hval
          have HRR := Lib.hid hRr
          have HCR := Lib.hid hCr
          clear hi hn hs2 hbt hbb0 hval hRr hCr hv hC3 hR3
          go_wp2_with fail
          go_region
          go_wp2_with fail
          go_roundw
          case rel =>
            refine ⟨j + 1, by omega, by congr 1, ((HCR.out.setCell rfl _).setCell rfl _).drew, ?_⟩
            rw [← HV.out, show at' + 1 + ((j + 1 : Nat) : Int) = i + 1 by have := HI.out; omega]
            exact set_row (set_row HRR.out _) _
          case measure => simp [intOf]; omega
        · have hje : (j : Int) = b - 128 := by omega
          have hjt : (bt s at' - 128).toNat = j := by omega
          obtain ⟨n, hn⟩ : ∃ n : Int, vl s (at' + 1) j = n := ⟨_, rfl⟩
          have q2 := hCr.cell HH.out.g2 (fun e => r2 e.symm)
          have qs2 := lt_of_cell q2
          simp only at qs2
          have hRl := lt_of_cell c0
          simp only at hRl
          by_cases hm : 16777215 < n
          · have HF := Lib.hid (show ∀ w', Chg (fun z => z = R) wr w' → RdPost s at' R a0 a1 a2 w (.returned (werr n a2)) w' from
              fun w' hc => ⟨hCr.trans hc, .inr (.inr (.inr (.inl ⟨by omega, by omega, by omega, by rw [hjt, hn]; exact hm, by rw [hjt, hn]⟩)))⟩)
            have HROW := Lib.hid (row_one wr (.cells #[.bool (decide (16777215 < n)), ese a2] 75))
            have HD := Lib.hid (show decide (16777215 < n) = true from decide_eq_true hm)
            rw [hn] at c2
            clear hCr hRr hn hm hjt hje hC3 hR3 hs h0 hk1 hk2 hk3 hk hbb r2 h1 hj f1 f2
            go_wp2_with fail
            go_region_with (go_at_call 46; refine (first_yes_b n _ HD.out a2 wr.heap.size _ HROW.out).mono ?_; rintro e w' ⟨rfl, rfl⟩)
            all_goals go_wp2_with fail
            all_goals go_ret
            all_goals exact HF.out _ (by repeat (first | exact Chg.refl _ _ | refine Chg.alloc ?_ _ | refine Chg.drew ?_))
          · have HF := Lib.hid (show ∀ w', Chg (fun _ => False) wr w' → RdPost s at' R a0 a1 a2 w (.returned .nilIface) w' from
              fun w' hc => ⟨hCr.trans (hc.mono (fun _ h => h.elim)), .inr (.inr (.inr (.inr ⟨by omega, by omega, by omega, by rw [hjt, hn]; omega, rfl, by rw [hjt, show bt s at' - 128 = (j : Int) by omega]; exact hc.heap hRr (by simp)⟩)))⟩)
            have HROW := Lib.hid (row_one wr (.cells #[.bool (decide (16777215 < n)), ese a2] 75))
            have HD := Lib.hid (show decide (16777215 < n) = false from decide_eq_false hm)
            rw [hn] at c2
            clear hCr hRr hn hm hjt hje hC3 hR3 hs h0 hk1 hk2 hk3 hk hbb r2 h1 hj f1 f2
            go_wp2_with fail
            go_region_with (go_at_call 46; refine (first_no_b n _ HD.out a2 wr.heap.size _ HROW.out).mono ?_; rintro e w' ⟨rfl, rfl⟩)
            all_goals go_wp2_with fail
            all_goals go_ret
            all_goals exact HF.out _ (by repeat (first | exact Chg.refl _ _ | refine Chg.alloc ?_ _ | refine Chg.drew ?_))
end Size
end Go.Proofs.YtmfnenlinhljkaaDoor
