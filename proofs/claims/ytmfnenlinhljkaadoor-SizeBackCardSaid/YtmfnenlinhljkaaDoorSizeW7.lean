/- size's reader, in range. -/
import Derived.Test.YtmfnenlinhljkaaDoorSizeW6
namespace Go.Proofs.YtmfnenlinhljkaaDoor
set_option linter.unusedSimpArgs false
set_option linter.unusedVariables false
namespace Size
open Go.RowKit Go.Shelf Go.Proofs.YtmfnenlinhljkaaDoorW.PrintWords
attribute [local go_sem] Oper.semAt_some
theorem set_row {w : World} {b off : Nat} {cs : Array Value} {t : TypeId} (h : w.heap[b]? = some (.cells cs t (0, 0))) (v : Value) : (w.setCell ⟨b, off, none⟩ v).heap[b]? = some (.cells (cs.setIfInBounds off v) t (0, 0)) := by
  obtain ⟨hlt, hk⟩ := Array.getElem?_eq_some_iff.1 h
  show (w.heap.modify b _)[b]? = _
  rw [Array.getElem?_eq_getElem (by rw [Array.size_modify]; exact hlt), Array.getElem_modify_self, hk]
  rfl
theorem frozen_row {w : World} {b off : Nat} {cs : Array Value} {t : TypeId} (h : w.heap[b]? = some (.cells cs t (0, 0))) : w.frozen? ⟨b, off, none⟩ = false := by simp [World.frozen?, h]
/-- the number that k bytes say, from the place i on -/
def vl (s : ByteArray) (i : Int) (k : Nat) : Int := (List.range k).foldl (fun n (j : Nat) => n * 256 + bt s (i + j)) 0
theorem vl_succ (s : ByteArray) (i : Int) (k : Nat) : vl s i (k + 1) = vl s i k * 256 + bt s (i + k) := by simp [vl, List.range_succ]
/-- What a reading answers, and leaves. -/
def RdPost (s : ByteArray) (at' : Int) (R : Nat) (a0 a1 a2 : Addr) (w : World) : Ending → World → Prop := fun e w' => Chg (fun z => z = R) w w' ∧
  ((bt s at' < 128 ∧ e = .returned .nilIface ∧ Cells3 s (at' + 1) (bt s at') R w') ∨
   ((bt s at' = 128 ∨ 132 < bt s at') ∧ e = .returned (werr (bt s at') a1)) ∨
   (128 < bt s at' ∧ bt s at' ≤ 132 ∧ (s.size : Int) < at' + 1 + (bt s at' - 128) ∧ e = .returned (werr (bt s at' - 128) a0)) ∨
   (128 < bt s at' ∧ bt s at' ≤ 132 ∧ at' + 1 + (bt s at' - 128) ≤ (s.size : Int) ∧ 16777215 < vl s (at' + 1) (bt s at' - 128).toNat ∧ e = .returned (werr (vl s (at' + 1) (bt s at' - 128).toNat) a2)) ∨
   (128 < bt s at' ∧ bt s at' ≤ 132 ∧ at' + 1 + (bt s at' - 128) ≤ (s.size : Int) ∧ vl s (at' + 1) (bt s at' - 128).toNat ≤ 16777215 ∧ e = .returned .nilIface ∧ Cells3 s (at' + 1 + (bt s at' - 128)) (vl s (at' + 1) (bt s at' - 128).toNat) R w'))
set_option maxRecDepth 100000 in
set_option maxHeartbeats 40000000 in
theorem read_in_a (s : ByteArray) (at' : Int) (R : Nat) (a0 a1 a2 : Addr) (w : World) (h : GA a0 a1 a2 w) (hR : Cells3 s at' 0 R w)
    (hs : s.size ≤ 1000) (h0 : 0 ≤ at') (h1 : at' < s.size) (hk : bt s at' < 129 ∨ 132 < bt s at') :
    Calls Tryd.prog 41 #[.pointer (some ⟨R, 0, none⟩)] w (RdPost s at' R a0 a1 a2 w) := by
  go_enter Tryd.func41, Tryd.ntmps41
  have hg := h.g0
  have c0 := cell_of_row w R 0 _ _ _ hR
  have c1 := cell_of_row w R 1 _ _ _ hR
  have c2 := cell_of_row w R 2 _ _ _ hR
  simp at c0 c1 c2
  have hlt := lt_of_cell c0
  have hdec : decide (0 ≤ at' ∧ at' ≤ s.size ∧ 1 ≤ wrap64 (s.size - at')) = true := by
    apply decide_eq_true; unfold wrap64; omega
  go_wp2_with fail
  have hgl := lt_of_cell hg
  simp only at hgl
  have HDEC := Lib.hid hdec
  clear hdec
  have HROW := Lib.hid (row_two w (.cells #[.string s, .int .i64 at'] 63) (.cells #[.bool false, ese a0] 75))
  go_cut [3] from 7 (fun s3 wx => s3 = .nilIface ∧ Below w.heap.size w wx)
  case first =>
    go_region_with (first
      | (go_at_call 49; refine (has_b s at' 1 _ HDEC.out _).mono ?_; rintro e w' ⟨rfl, rfl⟩)
      | (go_at_call 46; refine (first_no 0 a0 (w.heap.size + 1) _ HROW.out).mono ?_; rintro e w' ⟨rfl, rfl⟩))
    all_goals (go_wp2_with fail; go_meet; exact ⟨rfl, by repeat (first | exact Below.refl _ _ | refine bl_alloc ?_ _ | refine Below.drew ?_)⟩)
  case rest =>
    obtain ⟨rfl, hb1⟩ := hcut
    have hR1 : Cells3 s at' 0 R wc := (Chg.of_below (S := fun _ => False) hb1).heap hR (by simp)
    clear c0 c1 c2 hlt hgl HDEC HROW hg
    have c0 := cell_of_row wc R 0 _ _ _ hR1
    have c1 := cell_of_row wc R 1 _ _ _ hR1
    have c2 := cell_of_row wc R 2 _ _ _ hR1
    simp at c0 c1 c2
    have f1 : wc.frozen? ⟨R, 1, none⟩ = false := frozen_row hR1
    have f2 : wc.frozen? ⟨R, 2, none⟩ = false := frozen_row hR1
    have hG1 := h.below hb1
    have e0 := hG1.g0
    have e1 := hG1.g1
    have e2 := hG1.g2
    have r0 : ¬ R = 3 := by rintro rfl; rw [c0] at e0; cases e0
    have r1 : ¬ R = 4 := by rintro rfl; rw [c0] at e1; cases e1
    have r2 : ¬ R = 2 := by rintro rfl; rw [c0] at e2; cases e2
    go_wp2_with fail
    go_region
    have hlt : at'.toNat < s.size := by omega
    obtain ⟨b, hbv⟩ : ∃ b : Int, ((s[at'.toNat]'hlt).toNat : Int) = b := ⟨_, rfl⟩
    have hbb : bt s at' = b := by rw [← hbv]; exact dif_pos hlt
    have hb0 : 0 ≤ b ∧ b ≤ 255 := by have := (s[at'.toNat]'hlt).toNat_lt; omega
    simp only [hbv]
    clear hbv
    have hC : Chg (fun z => z = R) w wc := Chg.of_below hb1
    by_cases k1 : b < 128
    · go_wp2_with fail
      go_ret
      exact ⟨((hC.setCell rfl _).setCell rfl _).drew, .inl ⟨by omega, rfl, by rw [hbb]; exact set_row (set_row hR1 _) _⟩⟩
    by_cases k2 : b = 128
    · go_wp2_with fail
      go_ret
      exact ⟨(hC.setCell rfl _).drew, .inr (.inl ⟨by omega, by rw [hbb, k2]; rfl⟩)⟩
    by_cases k3 : 132 < b
    · go_wp2_with fail
      go_ret
      exact ⟨(hC.setCell rfl _).drew, .inr (.inl ⟨by omega, by rw [hbb]; rfl⟩)⟩
    omega
end Size
end Go.Proofs.YtmfnenlinhljkaaDoor
