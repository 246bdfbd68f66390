import Derived.Test.YtmfnenlinhljkaaDoorLPrimx3
import Derived.Test.YtmfnenlinhljkaaDoorPurePrimBase2
namespace Go.Proofs.YtmfnenlinhljkaaDoor.Pure
set_option linter.unusedSimpArgs false
set_option linter.unusedVariables false
open Go.RowKit Go.Proofs.YtmfnenlinhljkaaDoor.LPrim Go.Proofs.YtmfnenlinhljkaaDoor.ExtPrim Go.Proofs.YtmfnenlinhljkaaDoor.Prim Go.Proofs.YtmfnenlinhljkaaDoorW.PrintWords Go.Proofs.YtmfnenlinhljkaaDoorW.PrintLast
theorem PrimSizes : latinerlaw03_PrimSizes.Pure := by
  intro n hn
  refine ⟨9, ?_⟩
  unfold latinerlaw03_PrimSizes.f
  rw [shown_true]
  simp only [Option.bind_some]
  rw [show prim_Int.f n = some (if wid n = 0 then (⟨#[]⟩, 30) else (strOfNums (byts (wid n) n), 0)) from rfl]
  simp only [Option.bind_some, if_true]
  by_cases h : wid n = 0
  · have := wid_zero h
    rw [if_pos h, if_neg (by decide)]
    by_cases hl : n < -2147483648
    · rw [if_pos hl]
    · rw [if_neg hl, decide_eq_true (by omega)]
  · rw [if_neg h, if_pos rfl]
    have up : ∀ (k : Nat) (t : ByteArray) (x6 x7 : Int), (n < -x6 ∨ x6 ≤ n) → 0 < x6 → x6 < 1099511627776 → 0 ≤ x7 → x7 < 4 → latinerlaw03_PrimSizes.l0 (k + 1) n true t x6 x7 = latinerlaw03_PrimSizes.l0 k n true t (256 * x6) (x7 + 1) := by
      intro k t x6 x7 h h0 h1 h4 h5
      simp only [latinerlaw03_PrimSizes.l0]
      rw [if_pos h5, w64' (n := -x6) (by omega) (by omega), w64' (n := x7 + 1) (by omega) (by omega), w64' (n := 256 * x6) (by omega) (by omega)]
      by_cases hn : n < -x6
      · rw [if_pos hn]
      · rw [if_neg hn, if_pos (by omega)]
    have stop : ∀ (k : Nat) (t : ByteArray) (x6 x7 : Int), -x6 ≤ n → n < x6 → x6 < 1099511627776 → (t.size : Int) = x7 → latinerlaw03_PrimSizes.l0 (k + 1) n true t x6 x7 = some true := by
      intro k t x6 x7 h h0 h1 h4
      simp only [latinerlaw03_PrimSizes.l0]
      rw [w64' (n := -x6) (by omega) (by omega), h4, if_neg (by omega : ¬ n < -x6), if_neg (by omega : ¬ n ≥ x6)]
      simp
    have last : ∀ (k : Nat) (t : ByteArray) (x6 x7 : Int), 4 ≤ x7 → (t.size : Int) = x7 → latinerlaw03_PrimSizes.l0 (k + 1) n true t x6 x7 = some true := by
      intro k t x6 x7 h h4
      simp only [latinerlaw03_PrimSizes.l0]
      rw [if_neg (by omega : ¬ x7 < 4), h4]
      simp
    have hz : ∀ k : Nat, ((strOfNums (byts k n)).size : Int) = k := fun k => by rw [Int_size]
    rcases wid_bd n h with ⟨e, g1, g2⟩ | ⟨e, g1, g2, g3⟩ | ⟨e, g1, g2, g3⟩ | ⟨e, g1, g2, g3⟩
    · rw [e]
      exact stop _ _ _ _ (by omega) (by omega) (by decide) (hz _)
    · rw [e, up _ _ _ _ (by omega) (by decide) (by decide) (by decide) (by decide)]
      exact stop _ _ _ _ (by omega) (by omega) (by decide) (hz _)
    · rw [e, up _ _ _ _ (by omega) (by decide) (by decide) (by decide) (by decide), up _ _ _ _ (by omega) (by decide) (by decide) (by decide) (by decide)]
      exact stop _ _ _ _ (by omega) (by omega) (by decide) (hz _)
    · rw [e, up _ _ _ _ (by omega) (by decide) (by decide) (by decide) (by decide), up _ _ _ _ (by omega) (by decide) (by decide) (by decide) (by decide), up _ _ _ _ (by omega) (by decide) (by decide) (by decide) (by decide)]
      exact last _ _ _ _ (by decide) (hz _)
end Go.Proofs.YtmfnenlinhljkaaDoor.Pure
