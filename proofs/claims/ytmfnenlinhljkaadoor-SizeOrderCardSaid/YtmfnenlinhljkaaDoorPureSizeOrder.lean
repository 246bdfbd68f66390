import Derived.Test.YtmfnenlinhljkaaDoorLSizex2
import Derived.Test.YtmfnenlinhljkaaDoorPureSizeBase2
namespace Go.Proofs.YtmfnenlinhljkaaDoor.Pure
set_option linter.unusedSimpArgs false
set_option linter.unusedVariables false
open Go.RowKit Go.Proofs.YtmfnenlinhljkaaDoor.LSize Go.Proofs.YtmfnenlinhljkaaDoor.ExtSize Go.Proofs.YtmfnenlinhljkaaDoor.Size Go.Proofs.YtmfnenlinhljkaaDoorW.PrintWords Go.Proofs.YtmfnenlinhljkaaDoorW.PrintLast
theorem SizeOrder : latinerlaw01_SizeOrder.Pure := by
  intro n m hn hm
  unfold latinerlaw01_SizeOrder.f
  rw [shown_true, show size_Size.f n = some (((encS n).size : Int), encE n) from rfl, show size_Size.f m = some (((encS m).size : Int), encE m) from rfl]
  simp only [Option.bind_some, if_true]
  have e0 : ((⟨#[]⟩ : ByteArray).size : Int) = 0 := rfl
  by_cases hb : n < 0 ∨ 16777215 < n
  · rw [(encS_bad hb).1, (encS_bad hb).2, if_neg (by decide), if_pos e0]
    by_cases hc : m < 0 ∨ 16777215 < m
    · rw [(encS_bad hc).1, (encS_bad hc).2, if_neg (by decide), e0]; rfl
    · rw [encE_ok hc, if_pos rfl]
  · rw [encE_ok hb, if_pos rfl]
    by_cases hc : m < 0 ∨ 16777215 < m
    · rw [(encS_bad hc).1, (encS_bad hc).2, if_neg (by decide), e0]; rfl
    · rw [encE_ok hc, if_pos rfl]
      have h1 := enc_size n hb
      have h2 := enc_size m hc
      have g1 : 1 ≤ (encS n).size ∧ (encS n).size ≤ 4 := by rw [h1]; split <;> (try split) <;> (try split) <;> omega
      by_cases hd : n > m
      · rw [if_pos hd, if_pos (by omega), decide_eq_true (by omega)]
      · rw [if_neg hd, if_pos, if_pos (by omega), decide_eq_true (by omega)]
        rw [h1, h2]; split <;> (try split) <;> (try split) <;> (try split) <;> (try split) <;> (try split) <;> omega
end Go.Proofs.YtmfnenlinhljkaaDoor.Pure
