import Derived.Test.YtmfnenlinhljkaaDoorLSizex1
import Derived.Lib.Strings
namespace Go.Proofs.YtmfnenlinhljkaaDoor.Pure
set_option linter.unusedSimpArgs false
set_option linter.unusedVariables false
open Go.RowKit Go.Proofs.YtmfnenlinhljkaaDoor.LSize Go.Proofs.YtmfnenlinhljkaaDoor.ExtSize Go.Proofs.YtmfnenlinhljkaaDoor.Size Go.Proofs.YtmfnenlinhljkaaDoorW.PrintWords Go.Proofs.YtmfnenlinhljkaaDoorW.PrintLast
theorem w64' {n : Int} (h : -9223372036854775808 ≤ n) (h2 : n ≤ 9223372036854775807) : wrap64 n = n := by unfold wrap64; omega
theorem son_size (xs : List Int) : (strOfNums xs).size = xs.length := by simp [strOfNums, ByteArray.size]
theorem son_cons (x : Int) (xs : List Int) : strOfNums (x :: xs) = ⟨#[UInt8.ofNat x.toNat]⟩ ++ strOfNums xs := by apply ByteArray.ext; simp [strOfNums]
theorem bt_at (s : ByteArray) (i : Int) (h : i.toNat < s.size) : bt s i = ((s[i.toNat]'h).toNat : Int) := dif_pos h
theorem bt_bd (s : ByteArray) (i : Int) : 0 ≤ bt s i ∧ bt s i ≤ 255 := by
  unfold bt
  split
  · rename_i h; have := (s[i.toNat]'h).toNat_lt; omega
  · omega
theorem of_nat (x : Int) (h : 0 ≤ x) (h2 : x < 256) : ((UInt8.ofNat x.toNat).toNat : Int) = x := by rw [UInt8.toNat_ofNat']; omega
/-- A text in the middle. -/
theorem bt_mid (p q r : ByteArray) (i j : Int) (hi : i = p.size + j) (h0 : 0 ≤ j) (h1 : j < q.size) : bt (p ++ q ++ r) i = bt q j := by
  subst hi
  have hl : ((p.size : Int) + j).toNat < (p ++ q ++ r).size := by rw [ByteArray.size_append, ByteArray.size_append]; omega
  have hj : j.toNat < q.size := by omega
  rw [bt_at _ _ hl, bt_at _ _ hj]
  have e : ((p.size : Int) + j).toNat = p.size + j.toNat := by omega
  congr 2
  have key : ∀ (m : Nat) (hm : m < (p ++ q ++ r).size), m = p.size + j.toNat → (p ++ q ++ r)[m]'hm = q[j.toNat]'hj := by
    rintro m hm rfl
    rw [ByteArray.getElem_append_left (by rw [ByteArray.size_append]; omega), ByteArray.getElem_append_right (by omega)]
    simp
  exact key _ hl e
theorem bt_son (xs : List Int) (j : Nat) (x : Int) (h : xs[j]? = some x) (h0 : 0 ≤ x) (h1 : x < 256) : bt (strOfNums xs) j = x := by
  obtain ⟨hj, rfl⟩ := List.getElem?_eq_some_iff.1 h
  have hl : ((j : Int)).toNat < (strOfNums xs).size := by rw [son_size]; omega
  rw [bt_at _ _ hl]
  have : (strOfNums xs)[((j : Int)).toNat]'hl = UInt8.ofNat (xs[j]).toNat := by simp [strOfNums, ByteArray.getElem_eq_getElem_data]
  rw [this, of_nat _ h0 h1]
theorem vl0 (s : ByteArray) (i : Int) : vl s i 0 = 0 := rfl
theorem vl1 (s : ByteArray) (i : Int) : vl s i 1 = bt s i := by rw [vl_succ, vl0]; simp
theorem vl2 (s : ByteArray) (i : Int) : vl s i 2 = bt s i * 256 + bt s (i + 1) := by rw [vl_succ, vl1]; rfl
theorem vl3 (s : ByteArray) (i : Int) : vl s i 3 = (bt s i * 256 + bt s (i + 1)) * 256 + bt s (i + 2) := by rw [vl_succ, vl2]; rfl
theorem vl4 (s : ByteArray) (i : Int) : vl s i 4 = ((bt s i * 256 + bt s (i + 1)) * 256 + bt s (i + 2)) * 256 + bt s (i + 3) := by rw [vl_succ, vl3]; rfl
theorem encS_bad {n : Int} (h : n < 0 ∨ 16777215 < n) : encS n = ⟨#[]⟩ ∧ encE n = 12 := by unfold encS encE; rw [if_pos h, if_pos h]; exact ⟨rfl, rfl⟩
theorem encE_ok {n : Int} (h : ¬ (n < 0 ∨ 16777215 < n)) : encE n = 0 := by unfold encE; rw [if_neg h]
theorem lo1 (n : Int) : (lo n 1).reverse = [n % 256] := by simp [lo, List.range_succ]
theorem lo2 (n : Int) : (lo n 2).reverse = [n / 256 % 256, n % 256] := by simp [lo, List.range_succ]
theorem lo3 (n : Int) : (lo n 3).reverse = [n / 65536 % 256, n / 256 % 256, n % 256] := by simp [lo, List.range_succ]
/-- The least bytes, written out. -/
theorem enc_cases (n : Int) (h : ¬ (n < 0 ∨ 16777215 < n)) :
    (n < 128 ∧ encS n = strOfNums [n]) ∨ (128 ≤ n ∧ n < 256 ∧ encS n = strOfNums [129, n % 256]) ∨ (256 ≤ n ∧ n < 65536 ∧ encS n = strOfNums [130, n / 256 % 256, n % 256]) ∨
      (65536 ≤ n ∧ n < 16777216 ∧ encS n = strOfNums [131, n / 65536 % 256, n / 256 % 256, n % 256]) := by
  unfold encS
  rw [if_neg h]
  by_cases h1 : n < 128
  · left; rw [if_pos h1]; exact ⟨h1, rfl⟩
  rw [if_neg h1]
  by_cases h2 : n < 256
  · right; left; rw [show esz n = 1 by unfold esz; rw [if_neg h1, if_pos h2], lo1]; exact ⟨by omega, h2, rfl⟩
  by_cases h3 : n < 65536
  · right; right; left; rw [show esz n = 2 by unfold esz; rw [if_neg h1, if_neg h2, if_pos h3], lo2]; exact ⟨by omega, h3, rfl⟩
  · right; right; right; rw [show esz n = 3 by unfold esz; rw [if_neg h1, if_neg h2, if_neg h3], lo3]; exact ⟨by omega, by omega, rfl⟩
theorem enc_size (n : Int) (h : ¬ (n < 0 ∨ 16777215 < n)) : (encS n).size = if n < 128 then 1 else if n < 256 then 2 else if n < 65536 then 3 else 4 := by
  rcases enc_cases n h with ⟨h1, e⟩ | ⟨h1, h2, e⟩ | ⟨h1, h2, e⟩ | ⟨h1, h2, e⟩
  · rw [e, son_size, if_pos h1]; rfl
  · rw [e, son_size, if_neg (by omega), if_pos h2]; rfl
  · rw [e, son_size, if_neg (by omega), if_neg (by omega), if_pos h2]; rfl
  · rw [e, son_size, if_neg (by omega), if_neg (by omega), if_neg (by omega)]; rfl
/-- A length is decoded from its least bytes. -/
theorem dec_enc (p r : ByteArray) (n : Int) (h : ¬ (n < 0 ∨ 16777215 < n)) : decS (p ++ encS n ++ r) p.size = (n, (p.size : Int) + ((encS n).size : Nat), 0) := by
  have hb : ∀ (xs : List Int), encS n = strOfNums xs → ∀ (j : Nat) (x : Int), xs[j]? = some x → 0 ≤ x → x < 256 → bt (p ++ encS n ++ r) (p.size + j) = x := by
    intro xs hx j x hj h0 h1
    have hlt := (List.getElem?_eq_some_iff.1 hj).1
    rw [bt_mid p (encS n) r _ j rfl (by omega) (by rw [hx, son_size]; omega), hx, bt_son xs j x hj h0 h1]
  have hz : (p ++ encS n ++ r).size = p.size + (encS n).size + r.size := by rw [ByteArray.size_append, ByteArray.size_append]
  have hs := enc_size n h
  generalize hS : p ++ encS n ++ r = S at hb hz ⊢
  unfold decS
  rcases enc_cases n h with ⟨h1, e⟩ | ⟨h1, h2, e⟩ | ⟨h1, h2, e⟩ | ⟨h1, h2, e⟩
  · rw [if_pos h1] at hs
    have b0 := hb _ e 0 n rfl (by omega) (by omega)
    simp only [Int.natCast_zero, Int.add_zero] at b0
    rw [if_pos (by omega), b0, if_pos h1, hs]; rfl
  · rw [if_neg (by omega), if_pos h2] at hs
    have b0 := hb _ e 0 129 rfl (by omega) (by omega)
    have b1 := hb _ e 1 _ rfl (by omega) (by omega)
    simp only [Int.natCast_zero, Int.add_zero] at b0
    have b1 : bt S ((p.size : Int) + 1) = _ := b1
    rw [if_pos (by omega), b0, if_neg (by decide), if_neg (by decide), if_neg (by omega), show ((129 : Int) - 128).toNat = 1 from rfl, vl1, b1, if_neg (by omega), hs]
    simp only [Prod.mk.injEq, and_true]; omega
  · rw [if_neg (by omega), if_neg (by omega), if_pos h2] at hs
    have b0 := hb _ e 0 130 rfl (by omega) (by omega)
    have b1 := hb _ e 1 _ rfl (by omega) (by omega)
    have b2 := hb _ e 2 _ rfl (by omega) (by omega)
    simp only [Int.natCast_zero, Int.add_zero] at b0
    have b1 : bt S ((p.size : Int) + 1) = _ := b1
    have b2 : bt S ((p.size : Int) + 2) = _ := b2
    rw [if_pos (by omega), b0, if_neg (by decide), if_neg (by decide), if_neg (by omega), show ((130 : Int) - 128).toNat = 2 from rfl, vl2, show (p.size : Int) + 1 + 1 = p.size + 2 by omega, b1, b2, if_neg (by omega), hs]
    simp only [Prod.mk.injEq, and_true]; omega
  · rw [if_neg (by omega), if_neg (by omega), if_neg (by omega)] at hs
    have b0 := hb _ e 0 131 rfl (by omega) (by omega)
    have b1 := hb _ e 1 _ rfl (by omega) (by omega)
    have b2 := hb _ e 2 _ rfl (by omega) (by omega)
    have b3 := hb _ e 3 _ rfl (by omega) (by omega)
    simp only [Int.natCast_zero, Int.add_zero] at b0
    have b1 : bt S ((p.size : Int) + 1) = _ := b1
    have b2 : bt S ((p.size : Int) + 2) = _ := b2
    have b3 : bt S ((p.size : Int) + 3) = _ := b3
    rw [if_pos (by omega), b0, if_neg (by decide), if_neg (by decide), if_neg (by omega), show ((131 : Int) - 128).toNat = 3 from rfl, vl3, show (p.size : Int) + 1 + 1 = p.size + 2 by omega, show (p.size : Int) + 1 + 2 = p.size + 3 by omega, b1, b2, b3, if_neg (by omega), hs]
    simp only [Prod.mk.injEq, and_true]; omega
theorem shown_true : latinerlaw01_shown.f = some true := by decide +kernel
theorem cut_100 (s : ByteArray) : ∃ t, latinerlaw01_cut.f s = some t ∧ t.size ≤ 100 := by
  unfold latinerlaw01_cut.f
  have h : 0 ≤ mn (s.size : Int) 100 ∧ mn (s.size : Int) 100 ≤ s.size ∧ mn (s.size : Int) 100 ≤ 100 := by unfold mn; split <;> omega
  rw [if_pos h.1, if_pos h.2.1]
  exact ⟨_, rfl, by simp; omega⟩
end Go.Proofs.YtmfnenlinhljkaaDoor.Pure
