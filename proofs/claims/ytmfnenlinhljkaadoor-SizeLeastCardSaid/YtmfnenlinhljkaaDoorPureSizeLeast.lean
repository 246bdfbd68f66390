import Derived.Test.YtmfnenlinhljkaaDoorLSizex2
import Derived.Test.YtmfnenlinhljkaaDoorPureSizeBase2
namespace Go.Proofs.YtmfnenlinhljkaaDoor.Pure
set_option linter.unusedSimpArgs false
set_option linter.unusedVariables false
open Go.RowKit Go.Proofs.YtmfnenlinhljkaaDoor.LSize Go.Proofs.YtmfnenlinhljkaaDoor.ExtSize Go.Proofs.YtmfnenlinhljkaaDoor.Size Go.Proofs.YtmfnenlinhljkaaDoorW.PrintWords Go.Proofs.YtmfnenlinhljkaaDoorW.PrintLast
theorem SizeLeast : latinerlaw01_SizeLeast.Pure := by
  intro s i hs hi
  obtain ⟨p, hp, hpz⟩ := cut_100 s
  unfold latinerlaw01_SizeLeast.f
  rw [shown_true, hp]
  simp only [Option.bind_some]
  rw [dec_f _ _ (by omega), least_f _ _ (by omega)]
  simp only [Option.bind_some, if_true]
  by_cases h : (decS p i).2.2 = 0
  · obtain ⟨hn, h0, h1, h2, h3, h4⟩ := dec_ok p i h
    rw [if_pos h, if_pos h, show size_Size.f (decS p i).1 = some (((encS (decS p i).1).size : Int), encE (decS p i).1) from rfl]
    simp only [Option.bind_some]
    rw [encE_ok hn, if_pos rfl, w64' (n := (decS p i).2.1 - i) (by omega) (by omega), if_pos (by omega)]
    rw [if_pos, decide_eq_true h2]
    by_cases hk : (decS p i).2.1 - i = ((encS (decS p i).1).size : Int)
    · rw [hk]; simp
    · rw [beq_eq_false_iff_ne.2 hk, beq_eq_false_iff_ne.2 (Ne.symm hk)]; rfl
  · obtain ⟨h1, h2⟩ := dec_no p i h
    rw [if_neg h, if_neg h, if_pos h1, if_pos h2]
    rfl
end Go.Proofs.YtmfnenlinhljkaaDoor.Pure
