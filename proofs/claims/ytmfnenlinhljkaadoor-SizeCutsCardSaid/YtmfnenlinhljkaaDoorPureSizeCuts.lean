import Derived.Test.YtmfnenlinhljkaaDoorLSizex3
import Derived.Test.YtmfnenlinhljkaaDoorPureSizeBase2
namespace Go.Proofs.YtmfnenlinhljkaaDoor.Pure
set_option linter.unusedSimpArgs false
set_option linter.unusedVariables false
open Go.RowKit Go.Proofs.YtmfnenlinhljkaaDoor.LSize Go.Proofs.YtmfnenlinhljkaaDoor.ExtSize Go.Proofs.YtmfnenlinhljkaaDoor.Size Go.Proofs.YtmfnenlinhljkaaDoorW.PrintWords Go.Proofs.YtmfnenlinhljkaaDoorW.PrintLast
theorem cut_bt (s : ByteArray) (k : Nat) (i : Int) (h0 : 0 ≤ i) (h1 : i < k) (h2 : k ≤ s.size) : bt (s.extract 0 k) i = bt s i := by
  have hl : i.toNat < (s.extract 0 k).size := by rw [ByteArray.size_extract]; omega
  rw [bt_at _ _ hl, bt_at s i (by omega)]
  congr 2
  rw [ByteArray.getElem_extract]
  simp
theorem SizeCuts : latinerlaw01_SizeCuts.Pure := by
  intro n i hn hi
  refine ⟨3, ?_⟩
  unfold latinerlaw01_SizeCuts.f
  rw [shown_true, show size_Encode.f n = some (encS n, encE n) from rfl]
  simp only [Option.bind_some]
  have done : ∀ k t, latinerlaw01_SizeCuts.j0 (k + 1) i true t true = some true := fun k t => by simp [latinerlaw01_SizeCuts.j0]
  by_cases hb : n < 0 ∨ 16777215 < n
  · rw [(encS_bad hb).2, if_neg (by decide)]; exact done 2 _
  rw [encE_ok hb, if_pos rfl]
  by_cases h0 : i < 0
  · rw [if_pos h0]; exact done 2 _
  rw [if_neg h0]
  by_cases h1 : i ≥ ((encS n).size : Int)
  · rw [decide_eq_true h1]; exact done 2 _
  rw [decide_eq_false h1]
  simp only [latinerlaw01_SizeCuts.j0, Bool.false_eq_true, if_false]
  have hz := enc_size n hb
  have hle : (encS n).size ≤ 4 := by rw [hz]; split <;> (try split) <;> (try split) <;> omega
  have hcz : ((encS n).extract 0 i.toNat).size = i.toNat := by rw [ByteArray.size_extract]; omega
  have hd : decS ((encS n).extract 0 i.toNat) 0 = (0, 0, 10) := by
    by_cases hi0 : i = 0
    · unfold decS; rw [if_neg]; rw [hcz]; omega
    · have hb0 : bt ((encS n).extract 0 i.toNat) 0 = bt (encS n) 0 := cut_bt _ _ 0 (by decide) (by omega) (by omega)
      rcases enc_cases n hb with ⟨h2, e⟩ | ⟨h2, h3, e⟩ | ⟨h2, h3, e⟩ | ⟨h2, h3, e⟩
      · rw [if_pos h2] at hz; omega
      all_goals
        have hb1 := hb0
        rw [e] at hb1
        unfold decS
        rw [if_pos (by rw [hcz]; omega), hcz]
      · have b0 : bt (encS n) 0 = 129 := by rw [e]; exact bt_son _ 0 129 rfl (by decide) (by decide)
        rw [if_neg (by omega), if_pos h3] at hz
        rw [hb0, b0, if_neg (by decide), if_neg (by decide), if_pos (by omega)]
      · have b0 : bt (encS n) 0 = 130 := by rw [e]; exact bt_son _ 0 130 rfl (by decide) (by decide)
        rw [if_neg (by omega), if_neg (by omega), if_pos h3] at hz
        rw [hb0, b0, if_neg (by decide), if_neg (by decide), if_pos (by omega)]
      · have b0 : bt (encS n) 0 = 131 := by rw [e]; exact bt_son _ 0 131 rfl (by decide) (by decide)
        rw [if_neg (by omega), if_neg (by omega), if_neg (by omega)] at hz
        rw [hb0, b0, if_neg (by decide), if_neg (by decide), if_pos (by omega)]
  rw [if_pos (by omega), if_pos (by omega), dec_f _ _ (by omega), least_f _ _ (by omega), hd]
  rfl
end Go.Proofs.YtmfnenlinhljkaaDoor.Pure
