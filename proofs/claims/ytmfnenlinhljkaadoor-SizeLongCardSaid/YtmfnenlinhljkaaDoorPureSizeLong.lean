import Derived.Test.YtmfnenlinhljkaaDoorLSizex3
import Derived.Test.YtmfnenlinhljkaaDoorPureSizeBase2
namespace Go.Proofs.YtmfnenlinhljkaaDoor.Pure
set_option linter.unusedSimpArgs false
set_option linter.unusedVariables false
open Go.RowKit Go.Proofs.YtmfnenlinhljkaaDoor.LSize Go.Proofs.YtmfnenlinhljkaaDoor.ExtSize Go.Proofs.YtmfnenlinhljkaaDoor.Size Go.Proofs.YtmfnenlinhljkaaDoorW.PrintWords Go.Proofs.YtmfnenlinhljkaaDoorW.PrintLast
theorem SizeLong : latinerlaw01_SizeLong.Pure := by
  intro n hn
  unfold latinerlaw01_SizeLong.f
  rw [shown_true, show size_Encode.f n = some (encS n, encE n) from rfl]
  simp only [Option.bind_some, if_true]
  by_cases hb : n < 0 ∨ 16777215 < n
  · rw [(encS_bad hb).2, if_neg (by decide), (encS_bad hb).1]
    rw [nil_list]; rfl
  rw [encE_ok hb, if_pos rfl]
  have hz := enc_size n hb
  have hle : (encS n).size ≤ 4 := by rw [hz]; split <;> (try split) <;> (try split) <;> omega
  have e1 : Int.tdiv n 16777216 = n / 16777216 := Int.tdiv_eq_ediv_of_nonneg (by omega)
  have e2 : Int.tdiv n 65536 = n / 65536 := Int.tdiv_eq_ediv_of_nonneg (by omega)
  have e3 : Int.tdiv n 256 = n / 256 := Int.tdiv_eq_ediv_of_nonneg (by omega)
  have e4 : Int.tmod n 256 = n % 256 := Int.tmod_eq_emod_of_nonneg (by omega)
  rw [e1, e2, e3, e4, w64' (n := n / 16777216) (by omega) (by omega), w64' (n := n / 65536) (by omega) (by omega), w64' (n := n / 256) (by omega) (by omega),
    Int.tmod_eq_emod_of_nonneg (show 0 ≤ n / 65536 by omega), Int.tmod_eq_emod_of_nonneg (show 0 ≤ n / 256 by omega), Int.emod_emod_of_dvd _ (by decide), Int.emod_emod_of_dvd _ (by decide), Int.emod_emod_of_dvd _ (by decide)]
  have hs5 : ((⟨#[132]⟩ : ByteArray) ++ strOfNums [n / 16777216 % 256, n / 65536 % 256, n / 256 % 256, n % 256]) = strOfNums [132, n / 16777216 % 256, n / 65536 % 256, n / 256 % 256, n % 256] := by
    rw [son_cons 132]; rfl
  rw [if_pos (by rw [son_size]; show (1 : Nat) + 4 ≤ _; decide), hs5]
  have hsz : (strOfNums [132, n / 16777216 % 256, n / 65536 % 256, n / 256 % 256, n % 256]).size = 5 := son_size _
  have b0 := bt_son [132, n / 16777216 % 256, n / 65536 % 256, n / 256 % 256, n % 256] 0 132 rfl (by decide) (by decide)
  have b1 := bt_son [132, n / 16777216 % 256, n / 65536 % 256, n / 256 % 256, n % 256] 1 _ rfl (by omega) (by omega)
  have b2 := bt_son [132, n / 16777216 % 256, n / 65536 % 256, n / 256 % 256, n % 256] 2 _ rfl (by omega) (by omega)
  have b3 := bt_son [132, n / 16777216 % 256, n / 65536 % 256, n / 256 % 256, n % 256] 3 _ rfl (by omega) (by omega)
  have b4 := bt_son [132, n / 16777216 % 256, n / 65536 % 256, n / 256 % 256, n % 256] 4 _ rfl (by omega) (by omega)
  generalize strOfNums [132, n / 16777216 % 256, n / 65536 % 256, n / 256 % 256, n % 256] = S at hsz b0 b1 b2 b3 b4 ⊢
  have hd : decS S 0 = (n, 5, 0) := by
    have b0 : bt S 0 = 132 := b0
    have b1 : bt S 1 = _ := b1
    have b2 : bt S 2 = _ := b2
    have b3 : bt S 3 = _ := b3
    have b4 : bt S 4 = _ := b4
    unfold decS
    rw [if_pos (by omega), b0, if_neg (by decide), if_neg (by decide), if_neg (by omega), show ((132 : Int) - 128).toNat = 4 from rfl, vl4, show (0 : Int) + 1 = 1 from rfl, show (1 : Int) + 1 = 2 from rfl, show (1 : Int) + 2 = 3 from rfl, show (1 : Int) + 3 = 4 from rfl, b1, b2, b3, b4, if_neg (by omega)]
    simp only [Prod.mk.injEq, and_true]; omega
  rw [dec_f _ _ (by omega), least_f _ _ (by omega), hd]
  simp only [Option.bind_some, if_true, Option.some.injEq, Bool.not_eq_true', beq_eq_false_iff_ne]
  omega
end Go.Proofs.YtmfnenlinhljkaaDoor.Pure
