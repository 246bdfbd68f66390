import Derived.Test.YtmfnenlinhljkaaDoorLPrimx2
import Derived.Test.YtmfnenlinhljkaaDoorPurePrimBase2
namespace Go.Proofs.YtmfnenlinhljkaaDoor.Pure
set_option linter.unusedSimpArgs false
set_option linter.unusedVariables false
open Go.RowKit Go.Proofs.YtmfnenlinhljkaaDoor.LPrim Go.Proofs.YtmfnenlinhljkaaDoor.ExtPrim Go.Proofs.YtmfnenlinhljkaaDoor.Prim Go.Proofs.YtmfnenlinhljkaaDoorW.PrintWords Go.Proofs.YtmfnenlinhljkaaDoorW.PrintLast
theorem PrimCodes : latinerlaw03_PrimCodes.Pure := by
  intro n s b hn hs
  obtain ⟨t, ht, hz⟩ := cut_10 s
  refine ⟨60, ?_⟩
  unfold latinerlaw03_PrimCodes.f
  rw [shown_true, ht]
  simp only [Option.bind_some]
  rw [ref_Int n 60 (by decide), ref_ReadInt t 60 (by decide)]
  have hb : latinerref03_ReadBool.f t = prim_ReadBool.f t := by
    unfold latinerref03_ReadBool.f prim_ReadBool.f
    by_cases h : t.size = 1
    · rw [if_pos h, if_pos (by omega), if_pos (by omega)]
    · rw [if_neg h, if_neg (by omega)]
  rw [hb]
  unfold prim_Int.f prim_ReadInt.f prim_ReadBool.f latinerref03_Bool.f prim_Bool.f
  cases b <;> simp
end Go.Proofs.YtmfnenlinhljkaaDoor.Pure
