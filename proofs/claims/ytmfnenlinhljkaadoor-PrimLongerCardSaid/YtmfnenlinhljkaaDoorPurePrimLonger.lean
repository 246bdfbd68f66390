import Derived.Test.YtmfnenlinhljkaaDoorLPrimx3
import Derived.Test.YtmfnenlinhljkaaDoorPurePrimBase2
namespace Go.Proofs.YtmfnenlinhljkaaDoor.Pure
set_option linter.unusedSimpArgs false
set_option linter.unusedVariables false
open Go.RowKit Go.Proofs.YtmfnenlinhljkaaDoor.LPrim Go.Proofs.YtmfnenlinhljkaaDoor.ExtPrim Go.Proofs.YtmfnenlinhljkaaDoor.Prim Go.Proofs.YtmfnenlinhljkaaDoorW.PrintWords Go.Proofs.YtmfnenlinhljkaaDoorW.PrintLast
theorem long_bad (c : UInt8) (n : Int) (h : wid n ≠ 0) (hc : (c.toNat = 255 ∧ n < 0) ∨ (c.toNat = 0 ∧ 0 ≤ n)) :
    prim_ReadInt.f ((⟨#[c]⟩ : ByteArray) ++ strOfNums (byts (wid n) n)) = some (0, 30) := by
  have hs : ((⟨#[c]⟩ : ByteArray) ++ strOfNums (byts (wid n) n)).size = wid n + 1 := by
    rw [ByteArray.size_append, Int_size, Nat.add_comm]; rfl
  unfold prim_ReadInt.f
  rw [if_neg]
  intro hk
  obtain ⟨h1, h2, h3⟩ := of_decide_eq_true hk
  rw [hs] at h3 h2
  have hr : rdv ((⟨#[c]⟩ : ByteArray) ++ strOfNums (byts (wid n) n)) = n := by
    rcases wid_bd n h with ⟨e, g1, g2⟩ | ⟨e, g1, g2, _⟩ | ⟨e, g1, g2, _⟩ | ⟨e, g1, g2, _⟩
    · rw [e, byts1]
      have : (⟨#[c]⟩ : ByteArray) ++ strOfNums [n % 256] = ⟨#[c, UInt8.ofNat (n % 256).toNat]⟩ := by
        apply ByteArray.ext; simp [strOfNums]
      rw [this, rdv2, of_nat _ (by omega) (by omega)]
      unfold sx; split <;> omega
    · rw [e, byts2]
      have : (⟨#[c]⟩ : ByteArray) ++ strOfNums [n / 256 % 256, n % 256] = ⟨#[c, UInt8.ofNat (n / 256 % 256).toNat, UInt8.ofNat (n % 256).toNat]⟩ := by
        apply ByteArray.ext; simp [strOfNums]
      rw [this, rdv3, of_nat _ (by omega) (by omega), of_nat _ (by omega) (by omega)]
      unfold sx; split <;> omega
    · rw [e, byts3]
      have : (⟨#[c]⟩ : ByteArray) ++ strOfNums [n / 65536 % 256, n / 256 % 256, n % 256] = ⟨#[c, UInt8.ofNat (n / 65536 % 256).toNat, UInt8.ofNat (n / 256 % 256).toNat, UInt8.ofNat (n % 256).toNat]⟩ := by
        apply ByteArray.ext; simp [strOfNums]
      rw [this, rdv4, of_nat _ (by omega) (by omega), of_nat _ (by omega) (by omega), of_nat _ (by omega) (by omega)]
      unfold sx; split <;> omega
    · omega
  rw [hr] at h3; omega
theorem PrimLonger : latinerlaw03_PrimLonger.Pure := by
  intro n hn
  unfold latinerlaw03_PrimLonger.f
  rw [shown_true]
  simp only [Option.bind_some]
  rw [show prim_Int.f n = some (if wid n = 0 then (⟨#[]⟩, 30) else (strOfNums (byts (wid n) n), 0)) from rfl]
  simp only [Option.bind_some, if_true]
  by_cases h : wid n = 0
  · rw [if_pos h, if_neg (by decide)]
    rw [Lib.toList_data]; rfl
  · rw [if_neg h, if_pos rfl, Int_size]
    have := wid_le n
    rw [if_pos (by omega)]
    by_cases hn : n < 0
    · rw [if_pos hn, long_bad 255 n h (.inl ⟨rfl, hn⟩)]
      rfl
    · rw [if_neg hn, long_bad 0 n h (.inr ⟨rfl, by omega⟩)]
      rfl
end Go.Proofs.YtmfnenlinhljkaaDoor.Pure
