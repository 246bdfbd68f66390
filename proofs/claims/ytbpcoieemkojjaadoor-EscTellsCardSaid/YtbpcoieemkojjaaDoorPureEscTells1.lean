/- The reference of layer 6, as lists: Among, plain, Filter, Name. -/
import Derived.Test.YtbpcoieemkojjaaDoorPureEscRef2
namespace Go.Proofs.YtbpcoieemkojjaaDoor.Pure
set_option linter.unusedSimpArgs false
set_option linter.unusedVariables false
open Go.RowKit Go.Proofs.YtbpcoieemkojjaaDoor.LEsc Go.Proofs.YtbpcoieemkojjaaDoor.ExtEsc Go.Proofs.YtbpcoieemkojjaaDoor.Esc Go.Proofs.YtbpcoieemkojjaaDoorW.PrintWords Go.Proofs.YtbpcoieemkojjaaDoorW.PrintLast Go.Proofs.YtbpcoieemkojjaaDoor.PureB
open Go.Proofs.YtbpcoieemkojjaaDoor.Code (bl bl_len bl_get bl_byte Byt bl_son son_bl hexL hex_byte bl_append bl_extract unhexL ubT ubN unhex_len)
open Go.Proofs.YtbpcoieemkojjaaDoor.Utf (bad)
theorem among_l0 (c : Int) (s : ByteArray) (hs : s.size ≤ 1000) (d : Nat) : ∀ (k j : Nat), s.size = j + d → d < k → latinerref06_Among.l0 k c s (j : Int) = some (decide (c ∈ (bl s).drop j)) := by
  induction d with
  | zero =>
    intro k j hj hk
    obtain ⟨k, rfl⟩ : ∃ m, k = m + 1 := ⟨k - 1, by omega⟩
    conv => lhs; rw [latinerref06_Among.l0]
    rw [if_neg (by omega), List.drop_eq_nil_of_le (by rw [bl_len]; omega)]
    simp
  | succ d ih =>
    intro k j hj hk
    obtain ⟨k, rfl⟩ : ∃ m, k = m + 1 := ⟨k - 1, by omega⟩
    conv => lhs; rw [latinerref06_Among.l0]
    rw [if_pos (by omega), if_pos (by omega), drop_cons s j (by omega)]
    by_cases h : bt s (j : Int) = c
    · rw [if_pos h, h]; simp
    · rw [if_neg h, w64 (by omega) (by omega)]
      refine (ih k (j + 1) (by omega) (by omega)).trans ?_
      congr 1
      rw [decide_eq_decide, List.mem_cons]
      exact ⟨.inr, fun q => q.elim (fun e => absurd e.symm h) id⟩
theorem ref_among (c : Int) (s : ByteArray) (hs : s.size ≤ 1000) (k : Nat) (hk : s.size < k) : latinerref06_Among.f k c s = some (decide (c ∈ bl s)) := by
  have := among_l0 c s hs s.size k 0 (by omega) hk
  rw [List.drop_zero] at this
  exact this
theorem am_F (b : Int) (k : Nat) (hk : 4 < k) : latinerref06_Among.f k b ⟨#[92, 42, 40, 41]⟩ = some (inF b) := (ref_among b ⟨#[92, 42, 40, 41]⟩ (by decide) k hk).trans (congrArg some (inF_mem b))
theorem am_B (b : Int) (k : Nat) (hk : 3 < k) : latinerref06_Among.f k b ⟨#[42, 40, 41]⟩ = some (inB b) := (ref_among b ⟨#[42, 40, 41]⟩ (by decide) k hk).trans (congrArg some (inB_mem b))
theorem am_S (b : Int) (k : Nat) (hk : 2 < k) : latinerref06_Among.f k b ⟨#[32, 35]⟩ = some (inS b) := (ref_among b ⟨#[32, 35]⟩ (by decide) k hk).trans (congrArg some (inS_mem b))
theorem am_N (b : Int) (k : Nat) (hk : 7 < k) : latinerref06_Among.f k b ⟨#[34, 43, 44, 59, 60, 62, 92]⟩ = some (inN b) := (ref_among b ⟨#[34, 43, 44, 59, 60, 62, 92]⟩ (by decide) k hk).trans (congrArg some (inN_mem b))
theorem am_M (b : Int) (k : Nat) (hk : 6 < k) : latinerref06_Among.f k b ⟨#[34, 43, 44, 59, 60, 62]⟩ = some (inM b) := (ref_among b ⟨#[34, 43, 44, 59, 60, 62]⟩ (by decide) k hk).trans (congrArg some (inM_mem b))
theorem inE_mem (b : Int) : decide (b ∈ [(34 : Int), 43, 44, 59, 60, 62, 92, 32, 35, 61]) = inE b := by
  unfold inE
  rw [decide_eq_decide]
  simp only [List.mem_cons, List.not_mem_nil, or_false]
  omega
theorem am_E (b : Int) (k : Nat) (hk : 10 < k) : latinerref06_Among.f k b ⟨#[34, 43, 44, 59, 60, 62, 92, 32, 35, 61]⟩ = some (inE b) := (ref_among b ⟨#[34, 43, 44, 59, 60, 62, 92, 32, 35, 61]⟩ (by decide) k hk).trans (congrArg some (inE_mem b))
theorem ref_plain (s : ByteArray) (hs : s.size ≤ 1000) (k : Nat) (hk : s.size + 7 ≤ k) : latinerref06_plain.f k s = some (okT s) := by
  unfold latinerref06_plain.f okT
  rw [ref_right s hs k hk, Option.bind_some]
  cases decide (bad s < 0) with
  | false => rfl
  | true => rw [if_pos rfl, ref_among 0 s hs k (by omega), Option.bind_some, decide_not]; rfl
theorem ext1 (s : ByteArray) (j : Nat) (h : j < s.size) : bl (s.extract j (j + 1)) = [bt s j] ∧ s.extract j (j + 1) = strOfNums [bt s j] := by
  have h1 : bl (s.extract j (j + 1)) = [bt s j] := by
    rw [bl_extract, List.take_add_one, bl_get s j h, List.drop_append_of_le_length (by rw [List.length_take, bl_len]; omega), List.drop_eq_nil_of_le (by rw [List.length_take, bl_len]; omega)]
    rfl
  exact ⟨h1, by rw [← h1, son_bl]⟩
theorem hexT (s : ByteArray) (j : Nat) (h : j < s.size) : latinerref05_Hex.f (s.extract j (j + 1)) = some (strOfNums (hexL [bt s j])) := by
  have h1 := ext1 s j h
  refine (if_pos ?_).trans ?_
  · rw [extract_size s j (j + 1) (by omega)]; omega
  · rw [h1.1]
theorem son_ap (a b : List Int) : strOfNums (a ++ b) = strOfNums a ++ strOfNums b := by apply ByteArray.ext; simp [strOfNums]
theorem app_one (X : ByteArray) (sg dg : Bool) (b : Int) : (sg || dg) = true → dg = true → X ++ (⟨#[92]⟩ : ByteArray) ++ strOfNums (hexL [b]) = X ++ strOfNums (one sg dg b) := by
  rintro h1 rfl
  unfold one
  rw [h1, if_pos rfl, if_pos rfl, son_ap, ← ByteArray.append_assoc]
  rfl
theorem app_sg (X : ByteArray) (b : Int) : X ++ (⟨#[92]⟩ : ByteArray) ++ strOfNums [b] = X ++ strOfNums (one true false b) := by
  show _ = X ++ strOfNums ([92] ++ [b])
  rw [son_ap, ← ByteArray.append_assoc]
  rfl
theorem one_ff (b : Int) : one false false b = [b] := rfl
theorem one_sz (sg dg : Bool) (b : Int) : (strOfNums (one sg dg b)).size ≤ 3 := by rw [son_size]; exact (one_len sg dg b).2
theorem lit92 : (⟨#[92]⟩ : ByteArray).size = 1 := rfl
theorem hex_sz (b : Int) : (strOfNums (hexL [b])).size = 2 := by rw [son_size]; rfl
theorem sone_sz (b : Int) : (strOfNums [b]).size = 1 := by rw [son_size]; rfl
theorem filter_l0 (s : ByteArray) (hs : s.size ≤ 1000) (d : Nat) : ∀ (k j : Nat) (X : ByteArray), s.size = j + d → d + 6 < k → X.size ≤ 3 * j →
    latinerref06_Filter.l0 k s X (j : Int) = some (X ++ strOfNums (prL ruF j ((bl s).drop j))) := by
  induction d with
  | zero =>
    intro k j X hj hk hX
    obtain ⟨k, rfl⟩ : ∃ m, k = m + 1 := ⟨k - 1, by omega⟩
    conv => lhs; rw [latinerref06_Filter.l0]
    rw [if_neg (by omega), List.drop_eq_nil_of_le (by rw [bl_len]; omega)]
    exact congrArg some (app_nil X).symm
  | succ d ih =>
    intro k j X hj hk hX
    obtain ⟨k, rfl⟩ : ∃ m, k = m + 1 := ⟨k - 1, by omega⟩
    have hlt : j < s.size := by omega
    have e1 : wrap64 ((j : Int) + 1) = ((j + 1 : Nat) : Int) := w64 (by omega) (by omega)
    have hx := ext1 s j hlt
    have z1 : (X ++ (⟨#[92]⟩ : ByteArray)).size = X.size + 1 := by rw [ByteArray.size_append, lit92]
    have z2 := hex_sz (bt s j)
    have z3 := sone_sz (bt s j)
    have go : ∀ sg dg, ruF j (bt s j) = (sg, dg) → latinerref06_Filter.l0 k s (X ++ strOfNums (one sg dg (bt s j))) ((j + 1 : Nat) : Int) = some (X ++ strOfNums (prL ruF j ((bl s).drop j))) := by
      intro sg dg h
      rw [ih k (j + 1) _ (by omega) (by omega) (by rw [ByteArray.size_append]; have := one_sz sg dg (bt s j); omega), drop_cons s j hlt]
      simp only [prL, h]
      rw [son_ap, ByteArray.append_assoc]
    have hexd : pl (bt s j) = false ∨ inF (bt s j) = true → latinerref06_Filter.l0 k s (X ++ (⟨#[92]⟩ : ByteArray) ++ strOfNums (hexL [bt s j])) ((j + 1 : Nat) : Int) = some (X ++ strOfNums (prL ruF j ((bl s).drop j))) := by
      intro h
      rw [app_one X false true _ rfl rfl]
      refine go false true ?_
      unfold ruF
      rcases h with h | h <;> rw [h] <;> simp
    conv => lhs; rw [latinerref06_Filter.l0]
    rw [if_pos (by omega), if_pos (by omega), e1, Int.toNat_natCast, Int.toNat_natCast, hexT s j hlt]
    simp only [Option.bind_some]
    have c1 : X.size + 1 ≤ 9223372036854775807 := by omega
    have c2 : ((j : Nat) : Int) ≤ ((j + 1 : Nat) : Int) := by omega
    have c3 : ((j + 1 : Nat) : Int) ≤ (s.size : Int) := by omega
    have c4 : (X ++ (⟨#[92]⟩ : ByteArray)).size + (strOfNums (hexL [bt s j])).size ≤ 9223372036854775807 := by omega
    rw [if_pos c1, if_pos c2, if_pos c3, if_pos c4]
    by_cases h1 : bt s (j : Int) < 32
    · rw [if_pos h1]
      exact hexd (.inl (by unfold pl; apply decide_eq_false; omega))
    · rw [if_neg h1]
      by_cases h2 : bt s (j : Int) > 126
      · rw [if_pos h2]
        exact hexd (.inl (by unfold pl; apply decide_eq_false; omega))
      · rw [if_neg h2, am_F _ k (by omega), Option.bind_some]
        by_cases h3 : inF (bt s j) = true
        · rw [if_pos h3]
          exact hexd (.inr h3)
        · have c6 : X.size + (strOfNums [bt s j]).size ≤ 9223372036854775807 := by omega
          rw [if_neg h3, hx.2]
          simp only [c2, c3, c6, if_true]
          refine go false false ?_
          have h4 : pl (bt s j) = true := by unfold pl; apply decide_eq_true; omega
          unfold ruF
          rw [h4]
          simp only [Bool.not_true, Bool.false_or, Bool.not_eq_true] at h3 ⊢
          rw [h3]
theorem ref_filter (s : ByteArray) (hs : s.size ≤ 1000) (k : Nat) (hk : s.size + 6 < k) : latinerref06_Filter.f k s = some (fS s) := by
  have := filter_l0 s hs s.size k 0 ⟨#[]⟩ (by omega) hk (by decide)
  refine this.trans ?_
  rw [List.drop_zero]
  exact congrArg some (nil_app _)
/-- One byte of a name. -/
theorem name_step (s : ByteArray) (hs : s.size ≤ 1000) (k j : Nat) (X : ByteArray) (hX : X.size ≤ 3000) (hlt : j < s.size) (hk : 7 < k) :
    latinerref06_Name.l0 (k + 4) s X (j : Int) = latinerref06_Name.l0 k s (X ++ strOfNums (one (ruN s.size j (bt s j)).1 (ruN s.size j (bt s j)).2 (bt s j))) ((j + 1 : Nat) : Int) := by
  have e1 : wrap64 ((j : Int) + 1) = ((j + 1 : Nat) : Int) := w64 (by omega) (by omega)
  have e2 : wrap64 ((s.size : Int) - 1) = (s.size : Int) - 1 := w64 (by omega) (by omega)
  have hx := ext1 s j hlt
  have z1 : (X ++ (⟨#[92]⟩ : ByteArray)).size = X.size + 1 := by rw [ByteArray.size_append, lit92]
  have z2 := hex_sz (bt s j)
  have z3 := sone_sz (bt s j)
  have c1 : X.size + 1 ≤ 9223372036854775807 := by omega
  have c2 : ((j : Nat) : Int) ≤ ((j + 1 : Nat) : Int) := by omega
  have c3 : ((j + 1 : Nat) : Int) ≤ (s.size : Int) := by omega
  have c4 : (X ++ (⟨#[92]⟩ : ByteArray)).size + (strOfNums (hexL [bt s j])).size ≤ 9223372036854775807 := by omega
  have c5 : (X ++ (⟨#[92]⟩ : ByteArray)).size + (strOfNums [bt s j]).size ≤ 9223372036854775807 := by omega
  have c6 : X.size + (strOfNums [bt s j]).size ≤ 9223372036854775807 := by omega
  have c7 : (0 : Int) ≤ (j : Int) := by omega
  have c8 : (j : Int) < (s.size : Int) := by omega
  have h3 : ∀ x5 x6 : Bool, latinerref06_Name.j3 (k + 1) s X j x5 x6 (!pl (bt s j)) = latinerref06_Name.l0 k s (X ++ strOfNums (one (x5 || x6 || inN (bt s j)) (!pl (bt s j)) (bt s j))) ((j + 1 : Nat) : Int) := by
    intro x5 x6
    conv => lhs; rw [latinerref06_Name.j3]
    rw [e1, Int.toNat_natCast, Int.toNat_natCast, hexT s j hlt, hx.2]
    simp only [Option.bind_some]
    simp only [c1, c2, c3, c4, c5, c6, c7, c8, if_true, am_N _ k hk]
    cases hp : pl (bt s j) with
    | false =>
      simp only [Bool.not_false, if_true]
      rw [app_one X _ true _ (by simp) rfl]
    | true =>
      simp only [Bool.not_true, Bool.false_eq_true, if_false]
      rw [app_sg]
      cases x5 with
      | true => simp
      | false =>
        cases x6 with
        | true => simp
        | false =>
          simp only [Bool.false_eq_true, if_false, Option.bind_some, Bool.false_or]
          cases inN (bt s j) with
          | true => simp
          | false => simp [one_ff]
  have h2 : ∀ x5 x6 : Bool, latinerref06_Name.j2 (k + 2) s X j x5 x6 = latinerref06_Name.j3 (k + 1) s X j x5 x6 (!pl (bt s j)) := by
    intro x5 x6
    conv => lhs; rw [latinerref06_Name.j2]
    rw [if_pos c7, if_pos c8]
    by_cases q : bt s (j : Int) < 32
    · rw [if_pos q, show pl (bt s j) = false by unfold pl; apply decide_eq_false; omega]; rfl
    · rw [if_neg q]
      congr 1
      unfold pl
      rw [← decide_not, decide_eq_decide]
      omega
  have h1 : ∀ x5 : Bool, latinerref06_Name.j1 (k + 3) s X j x5 = latinerref06_Name.j2 (k + 2) s X j x5 (decide (j + 1 = s.size ∧ bt s j = 32)) := by
    intro x5
    conv => lhs; rw [latinerref06_Name.j1]
    rw [e2]
    by_cases q : (j : Int) = (s.size : Int) - 1
    · rw [if_pos q, if_pos c7, if_pos c8]
      congr 1
      rw [Bool.eq_iff_iff, beq_iff_eq, decide_eq_true_eq]
      exact ⟨fun e => ⟨by omega, e⟩, fun e => e.2⟩
    · rw [if_neg q]
      congr 1
      symm
      apply decide_eq_false
      rintro ⟨q1, _⟩
      omega
  conv => lhs; rw [latinerref06_Name.l0]
  rw [if_pos c8, if_pos c7]
  have hru : (ruN s.size j (bt s j)).1 = (decide (j = 0 ∧ inS (bt s j) = true) || decide (j + 1 = s.size ∧ bt s j = 32) || inN (bt s j)) := rfl
  have hrd : (ruN s.size j (bt s j)).2 = !pl (bt s j) := rfl
  rw [hru, hrd, ← h3, ← h2, ← h1]
  by_cases q : (j : Int) = 0
  · rw [if_pos q, am_S _ _ (by omega), Option.bind_some]
    congr 1
    cases inS (bt s j)
    · simp
    · symm; apply decide_eq_true; exact ⟨by omega, rfl⟩
  · rw [if_neg q]
    congr 1
    symm; apply decide_eq_false; rintro ⟨q1, _⟩; omega
theorem name_l0 (s : ByteArray) (hs : s.size ≤ 900) (d : Nat) : ∀ (k j : Nat) (X : ByteArray), s.size = j + d → 4 * d + 12 < k → X.size ≤ 3 * j →
    latinerref06_Name.l0 k s X (j : Int) = some (X ++ strOfNums (prL (ruN s.size) j ((bl s).drop j))) := by
  induction d with
  | zero =>
    intro k j X hj hk hX
    obtain ⟨k, rfl⟩ : ∃ m, k = m + 1 := ⟨k - 1, by omega⟩
    conv => lhs; rw [latinerref06_Name.l0]
    rw [if_neg (by omega), List.drop_eq_nil_of_le (by rw [bl_len]; omega)]
    exact congrArg some (app_nil X).symm
  | succ d ih =>
    intro k j X hj hk hX
    obtain ⟨k, rfl⟩ : ∃ m, k = m + 4 := ⟨k - 4, by omega⟩
    rw [name_step s (by omega) k j X (by omega) (by omega) (by omega), ih k (j + 1) _ (by omega) (by omega) (by rw [ByteArray.size_append]; have := one_sz (ruN s.size j (bt s j)).1 (ruN s.size j (bt s j)).2 (bt s j); omega), drop_cons s j (by omega)]
    simp only [prL]
    rw [son_ap, ByteArray.append_assoc]
theorem ref_name (s : ByteArray) (hs : s.size ≤ 900) (k : Nat) (hk : 4 * s.size + 12 < k) : latinerref06_Name.f k s = some (nS s) := by
  have := name_l0 s hs s.size k 0 ⟨#[]⟩ (by omega) hk (by decide)
  refine this.trans ?_
  rw [List.drop_zero]
  unfold nS namL
  rw [bl_len]
  exact congrArg some (nil_app _)
end Go.Proofs.YtbpcoieemkojjaaDoor.Pure
