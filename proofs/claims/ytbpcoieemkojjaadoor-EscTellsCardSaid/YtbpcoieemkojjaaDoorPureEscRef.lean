/- The reference's functions of the layers 4 and 5 that layer 6 uses. -/
import Derived.Test.YtbpcoieemkojjaaDoorLEscx6
import Derived.Test.YtbpcoieemkojjaaDoorPureEscBase
namespace Go.Proofs.YtbpcoieemkojjaaDoor.Pure
set_option linter.unusedSimpArgs false
set_option linter.unusedVariables false
open Go.RowKit Go.Proofs.YtbpcoieemkojjaaDoor.LEsc Go.Proofs.YtbpcoieemkojjaaDoor.ExtEsc Go.Proofs.YtbpcoieemkojjaaDoor.Esc Go.Proofs.YtbpcoieemkojjaaDoor.Utf Go.Proofs.YtbpcoieemkojjaaDoorW.PrintWords Go.Proofs.YtbpcoieemkojjaaDoorW.PrintLast Go.Proofs.YtbpcoieemkojjaaDoor.PureB
theorem eb_byte (c : Int) (h : vr c = true) : ∀ x ∈ eb c, 0 ≤ x ∧ x < 256 := by
  simp only [vr, decide_eq_true_eq] at h
  intro x hx
  unfold eb at hx
  repeat' split at hx
  all_goals simp at hx
  all_goals omega

theorem sign_f (c : Int) : latinerref04_sign.f c = some (vr c) := by
  unfold latinerref04_sign.f vr
  repeat' split
  all_goals congr 1
  all_goals first | (symm; apply decide_eq_true; omega) | (symm; apply decide_eq_false; omega) | (rw [decide_eq_decide]; omega)
theorem bytes_f (c : Int) (h : vr c = true) : latinerref04_Bytes.f c = some (strOfNums (eb c)) := by
  simp only [vr, decide_eq_true_eq] at h
  have t : ∀ k : Int, 0 < k → Int.tdiv c k = c / k := fun k hk => Int.tdiv_eq_ediv_of_nonneg (by omega)
  have m : ∀ (a k : Int), 0 ≤ a → 0 < k → Int.tmod a k = a % k := fun a k ha hk => Int.tmod_eq_emod_of_nonneg ha
  unfold latinerref04_Bytes.f eb
  have q1 := t 64 (by decide)
  have q2 := t 4096 (by decide)
  have q3 := t 262144 (by decide)
  have d1 : 0 ≤ c / 64 ∧ c / 64 ≤ 1114111 := by omega
  have d2 : 0 ≤ c / 4096 ∧ c / 4096 ≤ 1114111 := by omega
  have d3 : 0 ≤ c / 262144 ∧ c / 262144 ≤ 4 := by omega
  rw [q1, q2, q3, w64 (n := c / 64) (by omega) (by omega), w64 (n := c / 4096) (by omega) (by omega), w64 (n := c / 262144) (by omega) (by omega), m c 64 (by omega) (by decide), m (c / 64) 64 (by omega) (by decide), m (c / 4096) 64 (by omega) (by decide)]
  rw [w64 (n := 192 + c / 64) (by omega) (by omega), w64 (n := 128 + c % 64) (by omega) (by omega), w64 (n := 224 + c / 4096) (by omega) (by omega), w64 (n := 128 + c / 64 % 64) (by omega) (by omega), w64 (n := 240 + c / 262144) (by omega) (by omega), w64 (n := 128 + c / 4096 % 64) (by omega) (by omega)]
  by_cases h1 : c < 128
  · rw [if_pos h1, if_pos h1, show c % 256 = c by omega]
  rw [if_neg h1, if_neg h1]
  by_cases h2 : c < 2048
  · rw [if_pos h2, if_pos h2, show (192 + c / 64) % 256 = 192 + c / 64 by omega, show (128 + c % 64) % 256 = 128 + c % 64 by omega]
  rw [if_neg h2, if_neg h2]
  by_cases h3 : c < 65536
  · rw [if_pos h3, if_pos h3, show (224 + c / 4096) % 256 = 224 + c / 4096 by omega, show (128 + c / 64 % 64) % 256 = 128 + c / 64 % 64 by omega, show (128 + c % 64) % 256 = 128 + c % 64 by omega]
  rw [if_neg h3, if_neg h3, show (240 + c / 262144) % 256 = 240 + c / 262144 by omega, show (128 + c / 4096 % 64) % 256 = 128 + c / 4096 % 64 by omega, show (128 + c / 64 % 64) % 256 = 128 + c / 64 % 64 by omega, show (128 + c % 64) % 256 = 128 + c % 64 by omega]
/-- The bytes of a sign stand at a place. -/
theorem pre_iff (s : ByteArray) (i m : Nat) (c : Int) (h : vr c = true) (hm : i + m ≤ s.size) : (strOfNums (eb c)).toList = (s.extract i (i + m)).toList ↔ (eb c).length = m ∧ Pre s i (eb c) := by
  have hb := eb_byte c h
  rw [toList_inj]
  have hes : (s.extract i (i + m)).size = m := by rw [extract_size _ _ _ hm]; omega
  constructor
  · intro e
    have hl : (eb c).length = m := by have := congrArg ByteArray.size e; rw [son_size, hes] at this; exact this
    refine ⟨hl, by omega, fun j hj => ?_⟩
    have := congrArg (fun z => bt z j) e
    have hj2 : (eb c)[j]? = some ((eb c)[j]) := List.getElem?_eq_getElem hj
    have hbj := hb _ (List.getElem_mem hj)
    rw [bt_son _ _ _ hj2 hbj.1 hbj.2, bt_extract _ _ _ _ (by omega) hm] at this
    rw [← this]
    simp [List.getD_eq_getElem?_getD, hj2]
  · rintro ⟨hl, _, hp⟩
    refine ba_ext (by rw [son_size, hes, hl]) (fun j hj => ?_)
    rw [son_size] at hj
    have hj2 : (eb c)[j]? = some ((eb c)[j]) := List.getElem?_eq_getElem hj
    have hbj := hb _ (List.getElem_mem hj)
    rw [bt_son _ _ _ hj2 hbj.1 hbj.2, bt_extract _ _ _ _ (by omega) hm, hp j hj]
    simp [List.getD_eq_getElem?_getD, hj2]

theorem sign1_none {s : ByteArray} {i : Nat} (h : i < s.size) (hz : (sign1 s i).2 = 0) : sign1 s i = (0, 0) := by
  have hd := decode_bounds s i h
  unfold sign1 at hz ⊢
  split
  · rfl
  · rename_i hb
    rw [if_neg hb] at hz
    simp only at hz
    omega
/-- how many bytes the first one tells, and the number of these -/
def lead (b : Int) : Nat := if b ≥ 240 then 4 else if b ≥ 224 then 3 else if b ≥ 192 then 2 else 1
def vu (s : ByteArray) (i : Int) : Int :=
  if bt s i ≥ 240 then 64 * (64 * (64 * (bt s i - 240) + bt s (i + 1) % 64) + bt s (i + 2) % 64) + bt s (i + 3) % 64
  else if bt s i ≥ 224 then 64 * (64 * (bt s i - 224) + bt s (i + 1) % 64) + bt s (i + 2) % 64
  else if bt s i ≥ 192 then 64 * (bt s i - 192) + bt s (i + 1) % 64 else bt s i
theorem vu_pre {s : ByteArray} {i : Nat} {c : Int} (h : vr c = true) (hp : Pre s i (eb c)) : lead (bt s i) = (eb c).length ∧ vu s i = c := by
  simp only [vr, decide_eq_true_eq] at h
  have hp2 := hp.2
  have g : ∀ (j : Nat) (x : Int), (eb c)[j]? = some x → bt s ((i : Int) + j) = x := fun j x hx => by
    rw [hp2 j (List.getElem?_eq_some_iff.1 hx).1]
    simp [List.getD_eq_getElem?_getD, hx]
  have g0 : ∀ x : Int, (eb c)[0]? = some x → bt s (i : Int) = x := fun x hx => by have := g 0 x hx; simpa using this
  have g1 : ∀ x : Int, (eb c)[1]? = some x → bt s ((i : Int) + 1) = x := fun x hx => g 1 x hx
  have g2 : ∀ x : Int, (eb c)[2]? = some x → bt s ((i : Int) + 2) = x := fun x hx => g 2 x hx
  have g3 : ∀ x : Int, (eb c)[3]? = some x → bt s ((i : Int) + 3) = x := fun x hx => g 3 x hx
  unfold lead vu
  by_cases h1 : c < 128
  · have e : eb c = [c] := by unfold eb; rw [if_pos h1]
    rw [e] at g0 ⊢
    rw [g0 c rfl, if_neg (by omega), if_neg (by omega), if_neg (by omega), if_neg (by omega), if_neg (by omega), if_neg (by omega)]
    exact ⟨rfl, rfl⟩
  by_cases h2 : c < 2048
  · have e : eb c = [192 + c / 64, 128 + c % 64] := by unfold eb; rw [if_neg h1, if_pos h2]
    rw [e] at g0 g1 ⊢
    rw [g0 _ rfl, g1 _ rfl, if_neg (by omega), if_neg (by omega), if_pos (by omega), if_neg (by omega), if_neg (by omega), if_pos (by omega)]
    exact ⟨rfl, by omega⟩
  by_cases h3 : c < 65536
  · have e : eb c = [224 + c / 4096, 128 + c / 64 % 64, 128 + c % 64] := by unfold eb; rw [if_neg h1, if_neg h2, if_pos h3]
    rw [e] at g0 g1 g2 ⊢
    rw [g0 _ rfl, g1 _ rfl, g2 _ rfl, if_neg (by omega), if_pos (by omega), if_neg (by omega), if_pos (by omega)]
    exact ⟨rfl, by omega⟩
  · have e : eb c = [240 + c / 262144, 128 + c / 4096 % 64, 128 + c / 64 % 64, 128 + c % 64] := by unfold eb; rw [if_neg h1, if_neg h2, if_neg h3]
    rw [e] at g0 g1 g2 g3 ⊢
    rw [g0 _ rfl, g1 _ rfl, g2 _ rfl, g3 _ rfl, if_pos (by omega), if_pos (by omega)]
    exact ⟨rfl, by omega⟩
open Classical in
/-- what one answers behind its loop -/
noncomputable def fin (s : ByteArray) (i K : Nat) (n : Int) : Int × Int := if vr n = true ∧ (eb n).length = K ∧ Pre s i (eb n) then (n, (K : Int)) else (0, 0)
theorem l0_endA (s : ByteArray) (i K : Nat) (hi : i + K ≤ s.size) (hs : s.size ≤ 1000) (n : Int) (k : Nat) : latinerref04_one.l0 (k + 1) s i K n K = (latinerref04_sign.f n).bind fun t147 => (if t147 = true then ((latinerref04_Bytes.f n).bind fun t148 => (if 0 ≤ (i : Int) then (if (i : Int) ≤ (wrap64 ((i : Int) + K)) then (if (wrap64 ((i : Int) + K)) ≤ (s.size : Int) then (if t148.toList = (s.extract (i : Int).toNat ((wrap64 ((i : Int) + K)) : Int).toNat).toList then (some (n, (K : Int))) else (some (0, 0))) else (none)) else (none)) else (none))) else (some (0, 0))) := by
  unfold latinerref04_one.l0
  rw [if_neg (by omega)]
theorem l0_end (s : ByteArray) (i K : Nat) (hi : i + K ≤ s.size) (hs : s.size ≤ 1000) (n : Int) (k : Nat) : latinerref04_one.l0 (k + 1) s i K n K = some (fin s i K n) := by
  have hw : wrap64 ((i : Int) + K) = (i : Int) + K := w64 (by omega) (by omega)
  have e1 : ((i : Int)).toNat = i := Int.toNat_natCast i
  have e2 : ((i : Int) + K).toNat = i + K := by omega
  rw [l0_endA s i K hi hs n k, sign_f, hw, e1, e2]
  by_cases hv : vr n = true
  · rw [hv]
    show (if true = true then ((latinerref04_Bytes.f n).bind (fun t148 => (if 0 ≤ (i : Int) then (if (i : Int) ≤ ((i : Int) + K) then (if ((i : Int) + K) ≤ (s.size : Int) then (if t148.toList = (s.extract i (i + K)).toList then (some (n, (K : Int))) else (some (0, 0))) else (none)) else (none)) else (none)))) else (some (0, 0))) = _
    rw [if_pos rfl, bytes_f n hv]
    show (if 0 ≤ (i : Int) then (if (i : Int) ≤ ((i : Int) + K) then (if ((i : Int) + K) ≤ (s.size : Int) then (if (strOfNums (eb n)).toList = (s.extract i (i + K)).toList then (some (n, (K : Int))) else (some (0, 0))) else (none)) else (none)) else (none)) = _
    rw [if_pos (by omega), if_pos (by omega), if_pos (by omega)]
    unfold fin
    by_cases hp : (eb n).length = K ∧ Pre s i (eb n)
    · rw [if_pos ((pre_iff s i K n hv hi).2 hp), if_pos ⟨hv, hp⟩]
    · rw [if_neg (fun h => hp ((pre_iff s i K n hv hi).1 h)), if_neg (fun h => hp h.2)]
  · rw [Option.bind_some, if_neg hv]
    unfold fin
    rw [if_neg (fun h => hv h.1)]
theorem l0_step (s : ByteArray) (i K j : Nat) (hj : j < K) (hi : i + K ≤ s.size) (hs : s.size ≤ 1000) (n : Int) (h0 : 0 ≤ n) (h1 : n ≤ 100000000) (k : Nat) :
    latinerref04_one.l0 (k + 1) s i K n j = latinerref04_one.l0 k s i K (64 * n + bt s ((i : Int) + j) % 64) ((j + 1 : Nat) : Int) := by
  have hb := bt_range s ((i : Int) + j)
  conv => lhs; unfold latinerref04_one.l0
  rw [if_pos (by omega), w64 (n := (i : Int) + j) (by omega) (by omega), if_pos (by omega), if_pos (by omega), w64 (n := 64 * n) (by omega) (by omega), w64 (n := bt s ((i : Int) + j)) (by omega) (by omega), Int.tmod_eq_emod_of_nonneg hb.1,
    w64 (n := 64 * n + bt s ((i : Int) + j) % 64) (by omega) (by omega), w64 (n := (j : Int) + 1) (by omega) (by omega)]
  rfl
theorem j0_eq (s : ByteArray) (x1 x6 x7 : Int) (k : Nat) : latinerref04_one.j0 (k + 6) s x1 x6 x7 = if x6 > wrap64 ((s.size : Int) - x1) then some (0, 0) else latinerref04_one.l0 (k + 5) s x1 x6 x7 1 := by
  conv => lhs; unfold latinerref04_one.j0
theorem one_f (s : ByteArray) (i : Nat) (h : i < s.size) (hs : s.size ≤ 1000) (k : Nat) : latinerref04_one.f (k + 6) s i = some ((sign1 s i).1, ((sign1 s i).2 : Int)) := by
  have hb0 := bt_range s (i : Int)
  have hb1 := bt_range s ((i : Int) + 1)
  have hb2 := bt_range s ((i : Int) + 2)
  have hb3 := bt_range s ((i : Int) + 3)
  -- what it answers, in one row
  have key : latinerref04_one.f (k + 6) s i = some (if (s.size : Int) - i < lead (bt s i) then (0, 0) else fin s i (lead (bt s i)) (vu s i)) := by
    unfold latinerref04_one.f lead vu
    rw [if_pos (by omega), if_pos (by omega), w64 (n := bt s i) (by omega) (by omega)]
    by_cases c1 : bt s i ≥ 240
    · rw [if_pos c1, if_pos c1, if_pos c1, w64 (by omega) (by omega)]
      rw [j0_eq, w64 (by omega) (by omega)]
      by_cases c2 : (4 : Int) > (s.size : Int) - i
      · rw [if_pos c2, if_pos (by omega)]
      · rw [if_neg c2, if_neg (by omega)]
        have a1 := l0_step s i 4 1 (by omega) (by omega) hs (bt s i - 240) (by omega) (by omega) (k + 4)
        have a2 := l0_step s i 4 2 (by omega) (by omega) hs (64 * (bt s i - 240) + bt s ((i : Int) + 1) % 64) (by omega) (by omega) (k + 3)
        have a3 := l0_step s i 4 3 (by omega) (by omega) hs (64 * (64 * (bt s i - 240) + bt s ((i : Int) + 1) % 64) + bt s ((i : Int) + 2) % 64) (by omega) (by omega) (k + 2)
        have a4 := l0_end s i 4 (by omega) hs (64 * (64 * (64 * (bt s i - 240) + bt s ((i : Int) + 1) % 64) + bt s ((i : Int) + 2) % 64) + bt s ((i : Int) + 3) % 64) (k + 1)
        exact a1.trans (a2.trans (a3.trans a4))
    rw [if_neg c1, if_neg c1, if_neg c1]
    by_cases c2 : bt s i ≥ 224
    · rw [if_pos c2, if_pos c2, if_pos c2, w64 (by omega) (by omega)]
      rw [j0_eq, w64 (by omega) (by omega)]
      by_cases c3 : (3 : Int) > (s.size : Int) - i
      · rw [if_pos c3, if_pos (by omega)]
      · rw [if_neg c3, if_neg (by omega)]
        have a1 := l0_step s i 3 1 (by omega) (by omega) hs (bt s i - 224) (by omega) (by omega) (k + 4)
        have a2 := l0_step s i 3 2 (by omega) (by omega) hs (64 * (bt s i - 224) + bt s ((i : Int) + 1) % 64) (by omega) (by omega) (k + 3)
        have a3 := l0_end s i 3 (by omega) hs (64 * (64 * (bt s i - 224) + bt s ((i : Int) + 1) % 64) + bt s ((i : Int) + 2) % 64) (k + 2)
        exact a1.trans (a2.trans a3)
    rw [if_neg c2, if_neg c2, if_neg c2]
    by_cases c3 : bt s i ≥ 192
    · rw [if_pos c3, if_pos c3, if_pos c3, w64 (by omega) (by omega)]
      rw [j0_eq, w64 (by omega) (by omega)]
      by_cases c4 : (2 : Int) > (s.size : Int) - i
      · rw [if_pos c4, if_pos (by omega)]
      · rw [if_neg c4, if_neg (by omega)]
        have a1 := l0_step s i 2 1 (by omega) (by omega) hs (bt s i - 192) (by omega) (by omega) (k + 4)
        have a2 := l0_end s i 2 (by omega) hs (64 * (bt s i - 192) + bt s ((i : Int) + 1) % 64) (k + 3)
        exact a1.trans a2
    rw [if_neg c3, if_neg c3, if_neg c3]
    rw [j0_eq, w64 (by omega) (by omega), if_neg (by omega), if_neg (by omega)]
    exact l0_end s i 1 (by omega) hs (bt s i) (k + 4)
  rw [key]
  congr 1
  by_cases hz : (sign1 s i).2 = 0
  · rw [sign1_none h hz]
    split
    · rfl
    · rename_i hl
      unfold fin
      rw [if_neg]
      · rfl
      · rintro ⟨hv, _, hp⟩
        exact sign1_zero s i hz h _ hv hp
  · obtain ⟨hv, hm, hp⟩ := sign1_pre s i h hz
    obtain ⟨hl, hn⟩ := vu_pre hv hp
    have h1 := hp.1
    rw [hl, hn, if_neg (by omega)]
    unfold fin
    rw [if_pos ⟨hv, rfl, hp⟩, hm]

theorem sign1_le {s : ByteArray} {i : Nat} (h : i < s.size) : i + (sign1 s i).2 ≤ s.size := by
  by_cases hz : (sign1 s i).2 = 0
  · omega
  · obtain ⟨_, hm, hp⟩ := sign1_pre s i h hz
    have := hp.1
    omega
theorem bad_l0 (s : ByteArray) (hs : s.size ≤ 1000) (d : Nat) : ∀ (k i : Nat), s.size ≤ i + d → i ≤ s.size → d + 7 ≤ k → latinerref04_Bad.l0 k s i = some (sc s d i).2 := by
  induction d with
  | zero =>
    intro k i h hi hk
    obtain ⟨m, rfl⟩ : ∃ m, k = m + 1 := ⟨k - 1, by omega⟩
    simp only [latinerref04_Bad.l0]
    rw [if_neg (by omega)]
    rfl
  | succ d ih =>
    intro k i h hi hk
    obtain ⟨q, rfl⟩ : ∃ q, k = q + 1 := ⟨k - 1, by omega⟩
    obtain ⟨m, hm⟩ : ∃ m, q = m + 6 := ⟨q - 6, by omega⟩
    simp only [latinerref04_Bad.l0]
    by_cases hlt : i < s.size
    · have h1 := one_f s i hlt hs m
      rw [← hm] at h1
      rw [if_pos (by omega), h1]
      simp only [Option.bind_some, sc, if_pos hlt]
      have hle := sign1_le hlt
      by_cases hz : (sign1 s i).2 = 0
      · rw [if_pos (by omega), if_pos hz]
      · rw [if_neg (by omega), if_neg hz, w64 (by omega) (by omega)]
        exact ih q (i + (sign1 s i).2) (by omega) hle (by omega)
    · rw [if_neg (by omega)]
      simp only [sc, if_neg hlt]
theorem ref_bad (s : ByteArray) (hs : s.size ≤ 1000) (k : Nat) (hk : s.size + 7 ≤ k) : latinerref04_Bad.f k s = some (bad s) := bad_l0 s hs s.size k 0 (by omega) (by omega) hk
theorem ref_right (s : ByteArray) (hs : s.size ≤ 1000) (k : Nat) (hk : s.size + 7 ≤ k) : latinerref04_Right.f k s = some (decide (bad s < 0)) := by
  unfold latinerref04_Right.f
  rw [ref_bad s hs k hk]
  rfl

end Go.Proofs.YtbpcoieemkojjaaDoor.Pure
