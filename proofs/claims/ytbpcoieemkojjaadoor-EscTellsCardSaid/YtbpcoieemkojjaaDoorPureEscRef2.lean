/- The reference's functions of layer 5 that layer 6 uses. -/
import Derived.Test.YtbpcoieemkojjaaDoorPureEscRef
namespace Go.Proofs.YtbpcoieemkojjaaDoor.Pure
set_option linter.unusedSimpArgs false
set_option linter.unusedVariables false
open Go.RowKit Go.Proofs.YtbpcoieemkojjaaDoor.LEsc Go.Proofs.YtbpcoieemkojjaaDoor.ExtEsc Go.Proofs.YtbpcoieemkojjaaDoor.Code Go.Proofs.YtbpcoieemkojjaaDoorW.PrintWords Go.Proofs.YtbpcoieemkojjaaDoorW.PrintLast Go.Proofs.YtbpcoieemkojjaaDoor.PureB
theorem app_nil (X : ByteArray) : X ++ (⟨#[]⟩ : ByteArray) = X := by
  apply ByteArray.ext
  simp [ByteArray.data_append]
theorem nil_app (a : List Int) : (⟨#[]⟩ : ByteArray) ++ strOfNums a = strOfNums a := by
  have := son_app [] a
  exact this

theorem dig_j1 (k : Nat) (c : Int) (hc : 0 ≤ c ∧ c < 256) (h9 : ¬ (48 ≤ c ∧ c ≤ 57)) (b : Bool) (hb : b = decide (97 ≤ c ∧ c ≤ 102)) : latinerref05_Digit.j1 (k + 1) c b = some (dv c) := by
  conv => lhs; rw [latinerref05_Digit.j1]
  subst hb
  unfold dv
  by_cases h1 : 97 ≤ c ∧ c ≤ 102
  · rw [if_pos (by simpa using h1), if_neg h9, if_pos h1]
    congr 1
    omega
  · rw [if_neg (by simpa using h1), if_neg h9, if_neg h1]
    by_cases h2 : 65 ≤ c ∧ c ≤ 70
    · rw [if_pos (show c ≥ 65 by omega), if_pos h2.2, if_pos h2]
      congr 1
      omega
    · rw [if_neg h2]
      by_cases h3 : c ≥ 65
      · rw [if_pos h3, if_neg (by omega)]
      · rw [if_neg h3]
theorem ref_digit (c : Int) (hc : 0 ≤ c ∧ c < 256) (k : Nat) (hk : 2 ≤ k) : latinerref05_Digit.f k c = some (dv c) := by
  obtain ⟨k, rfl⟩ : ∃ m, k = m + 1 + 1 := ⟨k - 2, by omega⟩
  have hj : ∀ b : Bool, b = decide (48 ≤ c ∧ c ≤ 57) → latinerref05_Digit.j0 (k + 1 + 1) c b = some (dv c) := by
    intro b hb
    conv => lhs; rw [latinerref05_Digit.j0]
    subst hb
    by_cases h9 : 48 ≤ c ∧ c ≤ 57
    · rw [if_pos (by simpa using h9)]
      unfold dv
      rw [if_pos h9]
      congr 1
      omega
    · rw [if_neg (by simpa using h9)]
      by_cases h97 : c ≥ 97
      · rw [if_pos h97]
        refine dig_j1 k c hc h9 _ ?_
        rw [decide_eq_decide]; omega
      · rw [if_neg h97]
        refine dig_j1 k c hc h9 _ ?_
        symm; apply decide_eq_false; omega
  unfold latinerref05_Digit.f
  by_cases h48 : c ≥ 48
  · rw [if_pos h48]
    refine hj _ ?_
    rw [decide_eq_decide]; omega
  · rw [if_neg h48]
    refine hj _ ?_
    symm; apply decide_eq_false; omega
def uhV (X : ByteArray) (o : Option (List Int)) : ByteArray × Int := match o with | none => (⟨#[]⟩, 50) | some r => (X ++ strOfNums r, 0)
theorem ref_unhex_l0 (s : ByteArray) (hs : s.size ≤ 1000) : ∀ (d k j : Nat) (X : ByteArray), s.size ≤ 2 * j + 2 * d → 2 * d + 10 ≤ k → X.size ≤ 2 * j → 2 * j ≤ 1003 →
    latinerref05_Unhex.l0 k s X (2 * j : Nat) = some (uhV X (unhexL ((bl s).drop (2 * j)))) := by
  intro d
  induction d with
  | zero =>
    intro k j X h1 h2 h3 h4
    obtain ⟨k, rfl⟩ : ∃ m, k = m + 1 := ⟨k - 1, by omega⟩
    conv => lhs; rw [latinerref05_Unhex.l0]
    rw [if_neg (by omega), List.drop_eq_nil_of_le (by rw [bl_len]; omega)]
    exact congrArg some (congrArg (·, (0 : Int)) (app_nil X).symm)
  | succ d ih =>
    intro k j X h1 h2 h3 h4
    obtain ⟨k, rfl⟩ : ∃ m, k = m + 1 + 1 := ⟨k - 2, by omega⟩
    have e1 : wrap64 (((2 * j : Nat) : Int) + 1) = ((2 * j + 1 : Nat) : Int) := by rw [w64 (by omega) (by omega)]; omega
    have e2 : wrap64 (((2 * j : Nat) : Int) + 2) = ((2 * (j + 1) : Nat) : Int) := by rw [w64 (by omega) (by omega)]; omega
    have err : latinerref05_Unhex.j1 (k + 1) s X (2 * j : Nat) true = some (⟨#[]⟩, 50) := by
      conv => lhs; rw [latinerref05_Unhex.j1]
      rw [if_pos rfl]
    conv => lhs; rw [latinerref05_Unhex.l0]
    by_cases hlt : 2 * j < s.size
    · rw [if_pos (by omega), e1]
      have hd0 : (bl s).drop (2 * j) = bt s (2 * j : Nat) :: (bl s).drop (2 * j + 1) := by
        have h' : 2 * j < (bl s).length := by rw [bl_len]; exact hlt
        rw [List.drop_eq_getElem_cons h']
        congr 1
        have := bl_get s (2 * j) hlt
        rw [List.getElem?_eq_getElem h'] at this
        exact Option.some.inj this
      by_cases hl2 : 2 * j + 1 < s.size
      · have hd1 : (bl s).drop (2 * j + 1) = bt s (2 * j + 1 : Nat) :: (bl s).drop (2 * (j + 1)) := by
          have h' : 2 * j + 1 < (bl s).length := by rw [bl_len]; exact hl2
          rw [List.drop_eq_getElem_cons h']
          congr 1
          have := bl_get s (2 * j + 1) hl2
          rw [List.getElem?_eq_getElem h'] at this
          exact Option.some.inj this
        have r0 := bt_range s (2 * j : Nat)
        have r1 := bt_range s (2 * j + 1 : Nat)
        obtain ⟨a, ha⟩ : ∃ a, bt s (2 * j : Nat) = a := ⟨_, rfl⟩
        obtain ⟨b, hb⟩ : ∃ b, bt s (2 * j + 1 : Nat) = b := ⟨_, rfl⟩
        have hb' : bt s ((2 * j + 1 : Nat) : Int) = b := hb
        have da := dv_lt a
        have db := dv_lt b
        rw [ha] at r0 hd0
        rw [hb] at r1 hd1
        rw [if_neg (by omega), if_pos (by omega), ha, ref_digit a (by omega) (k + 1) (by omega), Option.bind_some, hd0, hd1]
        unfold unhexL
        by_cases na : dv a < 0
        · rw [if_pos na, err, if_pos (.inl na)]; rfl
        · rw [if_neg na, if_pos (by omega), if_pos (by omega), hb', ref_digit b (by omega) (k + 1) (by omega), Option.bind_some]
          by_cases nb : dv b < 0
          · rw [if_pos (.inr nb), show decide (dv b < 0) = true by simpa using nb, err]; rfl
          · rw [if_neg (by omega), show decide (dv b < 0) = false by simpa using nb]
            conv => lhs; rw [latinerref05_Unhex.j1]
            have w1 : wrap64 (wrap64 (16 * dv a) + dv b) = 16 * dv a + dv b := by rw [w64 (n := 16 * dv a) (by omega) (by omega), w64 (by omega) (by omega)]
            have w2 : (16 * dv a + dv b) % 256 = 16 * dv a + dv b := by omega
            rw [if_neg (by simp), if_pos (by omega), if_pos (by omega), ha, ref_digit a (by omega) k (by omega), Option.bind_some, e1, if_pos (by omega), if_pos (by omega), hb', ref_digit b (by omega) k (by omega), Option.bind_some, w1, w2, Option.bind_some, e2]
            have z : (strOfNums [16 * dv a + dv b]).size = 1 := son_size _
            rw [if_pos (by omega), ih k (j + 1) _ (by omega) (by omega) (by rw [ByteArray.size_append]; omega) (by omega)]
            cases unhexL ((bl s).drop (2 * (j + 1))) with
            | none => rfl
            | some r => simp only [uhV, Option.map_some, ByteArray.append_assoc, son_app]; rfl
      · rw [if_pos (by omega), err, hd0, List.drop_eq_nil_of_le (by rw [bl_len]; omega)]
        simp [unhexL, uhV]
    · rw [if_neg (by omega), List.drop_eq_nil_of_le (by rw [bl_len]; omega)]
      exact congrArg some (congrArg (·, (0 : Int)) (app_nil X).symm)
theorem ref_unhex (s : ByteArray) (hs : s.size ≤ 1000) (k : Nat) (hk : 1100 ≤ k) : latinerref05_Unhex.f k s = some (ubT (unhexL (bl s)), ubN (unhexL (bl s))) := by
  unfold latinerref05_Unhex.f
  have := ref_unhex_l0 s hs 500 k 0 ⟨#[]⟩ (by omega) (by omega) (by decide) (by omega)
  refine this.trans ?_
  simp only [Nat.mul_zero, List.drop_zero]
  cases unhexL (bl s) with
  | none => rfl
  | some r => simp only [uhV, ubT, ubN, nil_app]

end Go.Proofs.YtbpcoieemkojjaaDoor.Pure
