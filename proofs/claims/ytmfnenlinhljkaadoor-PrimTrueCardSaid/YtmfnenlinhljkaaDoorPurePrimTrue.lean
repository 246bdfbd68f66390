import Derived.Test.YtmfnenlinhljkaaDoorLPrimx3
import Derived.Test.YtmfnenlinhljkaaDoorPurePrimBase2
namespace Go.Proofs.YtmfnenlinhljkaaDoor.Pure
set_option linter.unusedSimpArgs false
set_option linter.unusedVariables false
open Go.RowKit Go.Proofs.YtmfnenlinhljkaaDoor.LPrim Go.Proofs.YtmfnenlinhljkaaDoor.ExtPrim Go.Proofs.YtmfnenlinhljkaaDoor.Prim Go.Proofs.YtmfnenlinhljkaaDoorW.PrintWords Go.Proofs.YtmfnenlinhljkaaDoorW.PrintLast
theorem PrimTrue : latinerlaw03_PrimTrue.Pure := by
  intro s hs
  obtain ⟨t, ht, hz⟩ := cut_10 s
  unfold latinerlaw03_PrimTrue.f
  rw [shown_true, ht]
  simp only [Option.bind_some, if_true]
  by_cases h1 : t.size = 1
  · obtain ⟨a, rfl⟩ : ∃ a, t = ⟨#[a]⟩ := by
      rcases some_bytes t (by omega) (by omega) with h | ⟨a, b, h⟩ | ⟨a, b, c, h⟩ | ⟨a, b, c, d, h⟩
      · exact h
      · subst h; exact absurd h1 (by show ¬ 2 = 1; decide)
      · subst h; exact absurd h1 (by show ¬ 3 = 1; decide)
      · subst h; exact absurd h1 (by show ¬ 4 = 1; decide)
    rw [show prim_ReadBool.f (⟨#[a]⟩ : ByteArray) = some (bt ⟨#[a]⟩ 0 != 0, 0) from rfl, bt1_0]
    simp only [Option.bind_some]
    rw [if_pos (show (((ByteArray.mk #[a]).size : Nat) : Int) = 1 from rfl), if_pos trivial, if_pos (by show (0 : Int) < ((1 : Nat) : Int); decide)]
    have key : ∀ c : Fin 256, (if (((c.val : Int) != 0) == decide ((c.val : Int) > 0)) = true then
      ((prim_Bool.f ((c.val : Int) != 0)).bind fun t167 => if (c.val : Int) = 0 then some ((t167.toList == [UInt8.ofNat c.val]) == true) else some ((t167.toList == [UInt8.ofNat c.val]) == ((c.val : Int) == 255))) else some false) = some true := by decide +kernel
    have := key ⟨a.toNat, a.toNat_lt⟩
    simp only [UInt8.ofNat_toNat] at this
    rw [Lib.toList_data ⟨#[a]⟩]
    exact this
  · rw [show prim_ReadBool.f t = some (false, 31) by unfold prim_ReadBool.f; rw [if_neg h1]]
    simp only [Option.bind_some]
    rw [if_neg (by omega)]
    rfl
end Go.Proofs.YtmfnenlinhljkaaDoor.Pure
