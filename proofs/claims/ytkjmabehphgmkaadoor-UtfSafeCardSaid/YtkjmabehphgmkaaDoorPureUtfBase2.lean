import Derived.Test.YtkjmabehphgmkaaDoorPureUtfBase
namespace Go.Proofs.YtkjmabehphgmkaaDoor.Pure
set_option linter.unusedSimpArgs false
set_option linter.unusedVariables false
open Go.RowKit Go.Proofs.YtkjmabehphgmkaaDoor.LUtf Go.Proofs.YtkjmabehphgmkaaDoor.ExtUtf Go.Proofs.YtkjmabehphgmkaaDoor.Utf Go.Proofs.YtkjmabehphgmkaaDoorW.PrintWords Go.Proofs.YtkjmabehphgmkaaDoorW.PrintLast Go.Proofs.YtkjmabehphgmkaaDoor.PureB
theorem sign1_none {s : ByteArray} {i : Nat} (h : i < s.size) (hz : (sign1 s i).2 = 0) : sign1 s i = (0, 0) := by
  have hd := decode_bounds s i h
  unfold sign1 at hz ⊢
  split
  · rfl
  · rename_i hb
    rw [if_neg hb] at hz
    simp only at hz
    omega
/-- how many bytes the first one tells, and the number of these -/
def lead (b : Int) : Nat := if b ≥ 240 then 4 else if b ≥ 224 then 3 else if b ≥ 192 then 2 else 1
def vu (s : ByteArray) (i : Int) : Int :=
  if bt s i ≥ 240 then 64 * (64 * (64 * (bt s i - 240) + bt s (i + 1) % 64) + bt s (i + 2) % 64) + bt s (i + 3) % 64
  else if bt s i ≥ 224 then 64 * (64 * (bt s i - 224) + bt s (i + 1) % 64) + bt s (i + 2) % 64
  else if bt s i ≥ 192 then 64 * (bt s i - 192) + bt s (i + 1) % 64 else bt s i
theorem vu_pre {s : ByteArray} {i : Nat} {c : Int} (h : vr c = true) (hp : Pre s i (eb c)) : lead (bt s i) = (eb c).length ∧ vu s i = c := by
  simp only [vr, decide_eq_true_eq] at h
  have hp2 := hp.2
  have g : ∀ (j : Nat) (x : Int), (eb c)[j]? = some x → bt s ((i : Int) + j) = x := fun j x hx => by
    rw [hp2 j (List.getElem?_eq_some_iff.1 hx).1]
    simp [List.getD_eq_getElem?_getD, hx]
  have g0 : ∀ x : Int, (eb c)[0]? = some x → bt s (i : Int) = x := fun x hx => by have := g 0 x hx; simpa using this
  have g1 : ∀ x : Int, (eb c)[1]? = some x → bt s ((i : Int) + 1) = x := fun x hx => g 1 x hx
  have g2 : ∀ x : Int, (eb c)[2]? = some x → bt s ((i : Int) + 2) = x := fun x hx => g 2 x hx
  have g3 : ∀ x : Int, (eb c)[3]? = some x → bt s ((i : Int) + 3) = x := fun x hx => g 3 x hx
  unfold lead vu
  by_cases h1 : c < 128
  · have e : eb c = [c] := by unfold eb; rw [if_pos h1]
    rw [e] at g0 ⊢
    rw [g0 c rfl, if_neg (by omega), if_neg (by omega), if_neg (by omega), if_neg (by omega), if_neg (by omega), if_neg (by omega)]
    exact ⟨rfl, rfl⟩
  by_cases h2 : c < 2048
  · have e : eb c = [192 + c / 64, 128 + c % 64] := by unfold eb; rw [if_neg h1, if_pos h2]
    rw [e] at g0 g1 ⊢
    rw [g0 _ rfl, g1 _ rfl, if_neg (by omega), if_neg (by omega), if_pos (by omega), if_neg (by omega), if_neg (by omega), if_pos (by omega)]
    exact ⟨rfl, by omega⟩
  by_cases h3 : c < 65536
  · have e : eb c = [224 + c / 4096, 128 + c / 64 % 64, 128 + c % 64] := by unfold eb; rw [if_neg h1, if_neg h2, if_pos h3]
    rw [e] at g0 g1 g2 ⊢
    rw [g0 _ rfl, g1 _ rfl, g2 _ rfl, if_neg (by omega), if_pos (by omega), if_neg (by omega), if_pos (by omega)]
    exact ⟨rfl, by omega⟩
  · have e : eb c = [240 + c / 262144, 128 + c / 4096 % 64, 128 + c / 64 % 64, 128 + c % 64] := by unfold eb; rw [if_neg h1, if_neg h2, if_neg h3]
    rw [e] at g0 g1 g2 g3 ⊢
    rw [g0 _ rfl, g1 _ rfl, g2 _ rfl, g3 _ rfl, if_pos (by omega), if_pos (by omega)]
    exact ⟨rfl, by omega⟩
open Classical in
/-- what one answers behind its loop -/
noncomputable def fin (s : ByteArray) (i K : Nat) (n : Int) : Int × Int := if vr n = true ∧ (eb n).length = K ∧ Pre s i (eb n) then (n, (K : Int)) else (0, 0)
theorem l0_endA (s : ByteArray) (i K : Nat) (hi : i + K ≤ s.size) (hs : s.size ≤ 1000) (n : Int) (k : Nat) : latinerref04_one.l0 (k + 1) s i K n K = (latinerref04_sign.f n).bind fun t147 => (if t147 = true then ((latinerref04_Bytes.f n).bind fun t148 => (if 0 ≤ (i : Int) then (if (i : Int) ≤ (wrap64 ((i : Int) + K)) then (if (wrap64 ((i : Int) + K)) ≤ (s.size : Int) then (if t148.toList = (s.extract (i : Int).toNat ((wrap64 ((i : Int) + K)) : Int).toNat).toList then (some (n, (K : Int))) else (some (0, 0))) else (none)) else (none)) else (none))) else (some (0, 0))) := by
  unfold latinerref04_one.l0
  rw [if_neg (by omega)]
theorem l0_end (s : ByteArray) (i K : Nat) (hi : i + K ≤ s.size) (hs : s.size ≤ 1000) (n : Int) (k : Nat) : latinerref04_one.l0 (k + 1) s i K n K = some (fin s i K n) := by
  have hw : wrap64 ((i : Int) + K) = (i : Int) + K := w64 (by omega) (by omega)
  have e1 : ((i : Int)).toNat = i := Int.toNat_natCast i
  have e2 : ((i : Int) + K).toNat = i + K := by omega
  rw [l0_endA s i K hi hs n k, sign_f, hw, e1, e2]
  by_cases hv : vr n = true
  · rw [hv]
    show (if true = true then ((latinerref04_Bytes.f n).bind (fun t148 => (if 0 ≤ (i : Int) then (if (i : Int) ≤ ((i : Int) + K) then (if ((i : Int) + K) ≤ (s.size : Int) then (if t148.toList = (s.extract i (i + K)).toList then (some (n, (K : Int))) else (some (0, 0))) else (none)) else (none)) else (none)))) else (some (0, 0))) = _
    rw [if_pos rfl, bytes_f n hv]
    show (if 0 ≤ (i : Int) then (if (i : Int) ≤ ((i : Int) + K) then (if ((i : Int) + K) ≤ (s.size : Int) then (if (strOfNums (eb n)).toList = (s.extract i (i + K)).toList then (some (n, (K : Int))) else (some (0, 0))) else (none)) else (none)) else (none)) = _
    rw [if_pos (by omega), if_pos (by omega), if_pos (by omega)]
    unfold fin
    by_cases hp : (eb n).length = K ∧ Pre s i (eb n)
    · rw [if_pos ((pre_iff s i K n hv hi).2 hp), if_pos ⟨hv, hp⟩]
    · rw [if_neg (fun h => hp ((pre_iff s i K n hv hi).1 h)), if_neg (fun h => hp h.2)]
  · rw [Option.bind_some, if_neg hv]
    unfold fin
    rw [if_neg (fun h => hv h.1)]
theorem l0_step (s : ByteArray) (i K j : Nat) (hj : j < K) (hi : i + K ≤ s.size) (hs : s.size ≤ 1000) (n : Int) (h0 : 0 ≤ n) (h1 : n ≤ 100000000) (k : Nat) :
    latinerref04_one.l0 (k + 1) s i K n j = latinerref04_one.l0 k s i K (64 * n + bt s ((i : Int) + j) % 64) ((j + 1 : Nat) : Int) := by
  have hb := bt_range s ((i : Int) + j)
  conv => lhs; unfold latinerref04_one.l0
  rw [if_pos (by omega), w64 (n := (i : Int) + j) (by omega) (by omega), if_pos (by omega), if_pos (by omega), w64 (n := 64 * n) (by omega) (by omega), w64 (n := bt s ((i : Int) + j)) (by omega) (by omega), Int.tmod_eq_emod_of_nonneg hb.1,
    w64 (n := 64 * n + bt s ((i : Int) + j) % 64) (by omega) (by omega), w64 (n := (j : Int) + 1) (by omega) (by omega)]
  rfl
theorem j0_eq (s : ByteArray) (x1 x6 x7 : Int) (k : Nat) : latinerref04_one.j0 (k + 6) s x1 x6 x7 = if x6 > wrap64 ((s.size : Int) - x1) then some (0, 0) else latinerref04_one.l0 (k + 5) s x1 x6 x7 1 := by
  conv => lhs; unfold latinerref04_one.j0
theorem one_f (s : ByteArray) (i : Nat) (h : i < s.size) (hs : s.size ≤ 1000) (k : Nat) : latinerref04_one.f (k + 6) s i = some ((sign1 s i).1, ((sign1 s i).2 : Int)) := by
  have hb0 := bt_range s (i : Int)
  have hb1 := bt_range s ((i : Int) + 1)
  have hb2 := bt_range s ((i : Int) + 2)
  have hb3 := bt_range s ((i : Int) + 3)
  -- what it answers, in one row
  have key : latinerref04_one.f (k + 6) s i = some (if (s.size : Int) - i < lead (bt s i) then (0, 0) else fin s i (lead (bt s i)) (vu s i)) := by
    unfold latinerref04_one.f lead vu
    rw [if_pos (by omega), if_pos (by omega), w64 (n := bt s i) (by omega) (by omega)]
    by_cases c1 : bt s i ≥ 240
    · rw [if_pos c1, if_pos c1, if_pos c1, w64 (by omega) (by omega)]
      rw [j0_eq, w64 (by omega) (by omega)]
      by_cases c2 : (4 : Int) > (s.size : Int) - i
      · rw [if_pos c2, if_pos (by omega)]
      · rw [if_neg c2, if_neg (by omega)]
        have a1 := l0_step s i 4 1 (by omega) (by omega) hs (bt s i - 240) (by omega) (by omega) (k + 4)
        have a2 := l0_step s i 4 2 (by omega) (by omega) hs (64 * (bt s i - 240) + bt s ((i : Int) + 1) % 64) (by omega) (by omega) (k + 3)
        have a3 := l0_step s i 4 3 (by omega) (by omega) hs (64 * (64 * (bt s i - 240) + bt s ((i : Int) + 1) % 64) + bt s ((i : Int) + 2) % 64) (by omega) (by omega) (k + 2)
        have a4 := l0_end s i 4 (by omega) hs (64 * (64 * (64 * (bt s i - 240) + bt s ((i : Int) + 1) % 64) + bt s ((i : Int) + 2) % 64) + bt s ((i : Int) + 3) % 64) (k + 1)
        exact a1.trans (a2.trans (a3.trans a4))
    rw [if_neg c1, if_neg c1, if_neg c1]
    by_cases c2 : bt s i ≥ 224
    · rw [if_pos c2, if_pos c2, if_pos c2, w64 (by omega) (by omega)]
      rw [j0_eq, w64 (by omega) (by omega)]
      by_cases c3 : (3 : Int) > (s.size : Int) - i
      · rw [if_pos c3, if_pos (by omega)]
      · rw [if_neg c3, if_neg (by omega)]
        have a1 := l0_step s i 3 1 (by omega) (by omega) hs (bt s i - 224) (by omega) (by omega) (k + 4)
        have a2 := l0_step s i 3 2 (by omega) (by omega) hs (64 * (bt s i - 224) + bt s ((i : Int) + 1) % 64) (by omega) (by omega) (k + 3)
        have a3 := l0_end s i 3 (by omega) hs (64 * (64 * (bt s i - 224) + bt s ((i : Int) + 1) % 64) + bt s ((i : Int) + 2) % 64) (k + 2)
        exact a1.trans (a2.trans a3)
    rw [if_neg c2, if_neg c2, if_neg c2]
    by_cases c3 : bt s i ≥ 192
    · rw [if_pos c3, if_pos c3, if_pos c3, w64 (by omega) (by omega)]
      rw [j0_eq, w64 (by omega) (by omega)]
      by_cases c4 : (2 : Int) > (s.size : Int) - i
      · rw [if_pos c4, if_pos (by omega)]
      · rw [if_neg c4, if_neg (by omega)]
        have a1 := l0_step s i 2 1 (by omega) (by omega) hs (bt s i - 192) (by omega) (by omega) (k + 4)
        have a2 := l0_end s i 2 (by omega) hs (64 * (bt s i - 192) + bt s ((i : Int) + 1) % 64) (k + 3)
        exact a1.trans a2
    rw [if_neg c3, if_neg c3, if_neg c3]
    rw [j0_eq, w64 (by omega) (by omega), if_neg (by omega), if_neg (by omega)]
    exact l0_end s i 1 (by omega) hs (bt s i) (k + 4)
  rw [key]
  congr 1
  by_cases hz : (sign1 s i).2 = 0
  · rw [sign1_none h hz]
    split
    · rfl
    · rename_i hl
      unfold fin
      rw [if_neg]
      · rfl
      · rintro ⟨hv, _, hp⟩
        exact sign1_zero s i hz h _ hv hp
  · obtain ⟨hv, hm, hp⟩ := sign1_pre s i h hz
    obtain ⟨hl, hn⟩ := vu_pre hv hp
    have h1 := hp.1
    rw [hl, hn, if_neg (by omega)]
    unfold fin
    rw [if_pos ⟨hv, rfl, hp⟩, hm]
end Go.Proofs.YtkjmabehphgmkaaDoor.Pure
