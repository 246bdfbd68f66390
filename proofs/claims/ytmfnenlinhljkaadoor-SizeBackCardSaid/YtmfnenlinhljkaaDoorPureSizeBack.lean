import Derived.Test.YtmfnenlinhljkaaDoorLSizex2
import Derived.Test.YtmfnenlinhljkaaDoorPureSizeBase2
namespace Go.Proofs.YtmfnenlinhljkaaDoor.Pure
set_option linter.unusedSimpArgs false
set_option linter.unusedVariables false
open Go.RowKit Go.Proofs.YtmfnenlinhljkaaDoor.LSize Go.Proofs.YtmfnenlinhljkaaDoor.ExtSize Go.Proofs.YtmfnenlinhljkaaDoor.Size Go.Proofs.YtmfnenlinhljkaaDoorW.PrintWords Go.Proofs.YtmfnenlinhljkaaDoorW.PrintLast
theorem SizeBack : latinerlaw01_SizeBack.Pure := by
  intro n s t hn hs ht
  obtain ⟨p, hp, hpz⟩ := cut_100 s
  obtain ⟨r, hr, hrz⟩ := cut_100 t
  unfold latinerlaw01_SizeBack.f
  rw [shown_true, hp, hr]
  simp only [Option.bind_some]
  rw [show size_Encode.f n = some (encS n, encE n) from rfl]
  simp only [Option.bind_some]
  have hz : (encS n).size ≤ 5 := by
    by_cases hb : n < 0 ∨ 16777215 < n
    · rw [(encS_bad hb).1]; decide
    · rw [enc_size n hb]; split <;> (try split) <;> (try split) <;> omega
  have hz1 : (p ++ encS n).size = p.size + (encS n).size := ByteArray.size_append
  have hz2 : (p ++ encS n ++ r).size = p.size + (encS n).size + r.size := by rw [ByteArray.size_append, hz1]
  rw [if_pos (by omega), if_pos (by omega), dec_f _ _ (by omega)]
  simp only [Option.bind_some, if_true]
  by_cases hb : n < 0 ∨ 16777215 < n
  · rw [(encS_bad hb).1, (encS_bad hb).2, if_neg (by decide), if_pos nil_list]
    rfl
  · rw [encE_ok hb, if_pos rfl, least_f _ _ (by omega), dec_enc p r n hb]
    simp only [Option.bind_some, if_true]
    rw [if_pos (by rw [w64' (by omega) (by omega)])]
    simp only [Option.some.injEq, beq_iff_eq]
    omega
end Go.Proofs.YtmfnenlinhljkaaDoor.Pure
