import Derived.Test.YtmfnenlinhljkaaDoorLPrimx2
import Derived.Test.YtmfnenlinhljkaaDoorPurePrimBase2
namespace Go.Proofs.YtmfnenlinhljkaaDoor.Pure
set_option linter.unusedSimpArgs false
set_option linter.unusedVariables false
open Go.RowKit Go.Proofs.YtmfnenlinhljkaaDoor.LPrim Go.Proofs.YtmfnenlinhljkaaDoor.ExtPrim Go.Proofs.YtmfnenlinhljkaaDoor.Prim Go.Proofs.YtmfnenlinhljkaaDoorW.PrintWords Go.Proofs.YtmfnenlinhljkaaDoorW.PrintLast
theorem j0_yes (s : ByteArray) (b : Bool) (k : Nat) : latinerlaw03_PrimBack.j0 (k + 1) s b true false = some true := by
  have hB : ∀ (P : Bool × Int → Option Bool), ((prim_Bool.f b).bind fun t => (prim_ReadBool.f t).bind P) = P (b, 0) := by
    intro P
    cases b <;> rfl
  simp only [latinerlaw03_PrimBack.j0, Bool.false_eq_true, if_false]
  unfold prim_ReadInt.f prim_Int.f
  simp only [Option.bind_some, hB]
  by_cases h : okInt s = true
  · obtain ⟨h1, h2, h3⟩ := of_decide_eq_true h
    have hw := wid_ne (rdv_bd s h1 h2)
    simp only [h, if_true]
    rw [if_neg hw, h3, byts_rdv s h1 h2]
    simp
  · simp only [h]
    simp
theorem PrimBack : latinerlaw03_PrimBack.Pure := by
  intro n s b hn hs
  obtain ⟨t, ht, hz⟩ := cut_10 s
  refine ⟨3, ?_⟩
  unfold latinerlaw03_PrimBack.f
  rw [shown_true, ht]
  simp only [Option.bind_some]
  rw [show prim_Int.f n = some (if wid n = 0 then (⟨#[]⟩, 30) else (strOfNums (byts (wid n) n), 0)) from rfl]
  simp only [Option.bind_some]
  by_cases h : wid n = 0
  · rw [if_pos h]
    rw [show prim_ReadInt.f (⟨#[]⟩ : ByteArray) = some (0, 30) by decide +kernel]
    simp only [Option.bind_some]
    rw [if_neg (by decide)]
    exact j0_yes t b 2
  · rw [if_neg h]
    rw [show prim_ReadInt.f (strOfNums (byts (wid n) n)) = some (n, 0) by unfold prim_ReadInt.f; rw [if_pos (okInt_byts n h), rdv_byts n h]]
    simp only [Option.bind_some, if_true]
    have := wid_le n
    rw [Int_size, if_neg (by omega), decide_eq_false (by omega)]
    exact j0_yes t b 2
end Go.Proofs.YtmfnenlinhljkaaDoor.Pure
