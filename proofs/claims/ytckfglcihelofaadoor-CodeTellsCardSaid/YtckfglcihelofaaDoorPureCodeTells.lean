import Derived.Test.YtckfglcihelofaaDoorPureCodeTells3
namespace Go.Proofs.YtckfglcihelofaaDoor.Pure
set_option linter.unusedSimpArgs false
set_option linter.unusedVariables false
open Go.RowKit Go.Proofs.YtckfglcihelofaaDoor.LCode Go.Proofs.YtckfglcihelofaaDoor.ExtCode Go.Proofs.YtckfglcihelofaaDoor.Code Go.Proofs.YtckfglcihelofaaDoorW.PrintWords Go.Proofs.YtckfglcihelofaaDoorW.PrintLast Go.Proofs.YtckfglcihelofaaDoor.PureB
theorem dec_app : ∀ (u m : List Int), u.length % 3 = 0 → Byt u → decR (baseL u ++ m) = u ++ decR m
  | [], m, _, _ => rfl
  | [_], _, h, _ => by simp at h
  | [_, _], _, h, _ => by simp at h
  | a :: b :: c :: r, m, h, hb => by
    have ha := hb a (by simp)
    have hbb := hb b (by simp)
    have hc := hb c (by simp)
    simp only [List.length_cons] at h
    simp only [baseL, List.cons_append, List.nil_append, decR, dec_app r m (by omega) (fun x hx => hb x (by simp [hx]))]
    have : dec3 (b64 (a / 4)) (b64 (a % 4 * 16 + b / 16)) (b64 (b % 16 * 4 + c / 64)) (b64 (c % 64)) = [a, b, c] := by
      unfold dec3
      rw [wv_b64 _ (by omega) (by omega), wv_b64 _ (by omega) (by omega), wv_b64 _ (by omega) (by omega), wv_b64 _ (by omega) (by omega)]
      simp
      omega
    rw [this]
    rfl
theorem dec_one (a : Int) (ha : 0 ≤ a ∧ a < 256) : decR (baseL [a]) = [a, 0, 0] := by
  show dec3 (b64 (a / 4)) (b64 (a % 4 * 16)) 61 61 ++ [] = _
  unfold dec3
  rw [wv_b64 _ (by omega) (by omega), wv_b64 _ (by omega) (by omega), wv_pad]
  simp
  omega
theorem dec_two (a b : Int) (ha : 0 ≤ a ∧ a < 256) (hb : 0 ≤ b ∧ b < 256) : decR (baseL [a, b]) = [a, b, 0] := by
  show dec3 (b64 (a / 4)) (b64 (a % 4 * 16 + b / 16)) (b64 (b % 16 * 4)) 61 ++ [] = _
  unfold dec3
  rw [wv_b64 _ (by omega) (by omega), wv_b64 _ (by omega) (by omega), wv_b64 _ (by omega) (by omega), wv_pad]
  simp
  omega
theorem base_last : ∀ (u : List Int), u.length % 3 = 0 → Byt u → u ≠ [] → ∃ m x, baseL u = m ++ [x] ∧ x ≠ 61
  | [], _, _, h => absurd rfl h
  | [_], h, _, _ => by simp at h
  | [_, _], h, _, _ => by simp at h
  | a :: b :: c :: r, h, hb, _ => by
    have hc := hb c (by simp)
    by_cases hr : r = []
    · subst hr
      refine ⟨[b64 (a / 4), b64 (a % 4 * 16 + b / 16), b64 (b % 16 * 4 + c / 64)], b64 (c % 64), by simp [baseL], (b64_byte _ (by omega) (by omega)).2.2⟩
    · obtain ⟨m, x, h1, h2⟩ := base_last r (by simp only [List.length_cons] at h; omega) (fun x hx => hb x (by simp [hx])) hr
      exact ⟨_ ++ m, x, by simp only [baseL]; rw [h1, ← List.append_assoc], h2⟩
theorem bl_sub (s : ByteArray) (L m : List Int) (h : bl s = L ++ m) (k : Nat) (hk : m.length = k) : bl (s.extract (s.size - k) s.size) = m ∧ s.size = L.length + k := by
  have hl := congrArg List.length h
  rw [bl_len, List.length_append, hk] at hl
  refine ⟨?_, hl⟩
  rw [bl_extract, List.take_of_length_le (by rw [bl_len]; omega), h, hl, show L.length + k - k = L.length by omega, List.drop_left]
theorem bt_last (s : ByteArray) (L : List Int) (x : Int) (h : bl s = L ++ [x]) : bt s (s.size - 1 : Nat) = x := by
  have hl := congrArg List.length h
  rw [bl_len, List.length_append] at hl
  simp only [List.length_cons, List.length_nil] at hl
  have := bl_get s (s.size - 1) (by omega)
  rw [h, List.getElem?_append_right (by omega), show s.size - 1 - L.length = 0 by omega] at this
  exact (Option.some.inj this).symm
theorem cut_end (X : ByteArray) (u m : List Int) (k : Nat) (h : bl X = u ++ m) (hk : m.length = k) : bl (X.extract 0 (X.size - k)) = u := by
  have hl := congrArg List.length h
  rw [bl_len, List.length_append, hk] at hl
  rw [bl_extract, List.drop_zero, h, hl, show u.length + k - k = u.length by omega, List.take_left]
/-- what was written is read -/
theorem fin_base (s : ByteArray) (t : List Int) (ht : Byt t) (h : baseL t = bl s) : fin s (strOfNums (decR (bl s))) = (strOfNums t, 0) := by
  have hX : bl (strOfNums (decR (bl s))) = decR (bl s) := bl_son _ (decR_byt _)
  obtain ⟨X, hXe⟩ : ∃ X, strOfNums (decR (bl s)) = X := ⟨_, rfl⟩
  rw [hXe] at hX ⊢
  have hs : strOfNums (baseL t) = s := by rw [h, son_bl]
  have done : ∀ Y : ByteArray, bl Y = t → (if strOfNums (baseL (bl Y)) = s then (Y, (0 : Int)) else (⟨#[]⟩, 50)) = (strOfNums t, 0) := by
    intro Y hY
    rw [hY, if_pos hs, ← hY, son_bl]
  obtain ⟨u, v, rfl, hu, hv⟩ : ∃ u v, t = u ++ v ∧ u.length % 3 = 0 ∧ v.length < 3 :=
    ⟨t.take (3 * (t.length / 3)), t.drop (3 * (t.length / 3)), (List.take_append_drop _ _).symm, by rw [List.length_take]; omega, by rw [List.length_drop]; omega⟩
  have hub : Byt u := fun x hx => ht x (by simp [hx])
  have hvb : Byt v := fun x hx => ht x (by simp [hx])
  rw [baseL_append _ _ hu] at h
  rw [← h, dec_app u _ hu hub] at hX
  unfold fin
  match v, hv, hvb, h, hX with
  | [], _, _, h, hX =>
    have hX' : bl X = u ++ [] := hX
    by_cases hu0 : u = []
    · subst hu0
      have hs0 : s.size = 0 := by rw [← bl_len, ← h]; rfl
      rw [if_neg (by omega), if_neg (by omega)]
      exact done X hX'
    · obtain ⟨m, x, h1, h2⟩ := base_last u hu hub hu0
      have hbs : bl s = m ++ [x] := by rw [← h, ← h1]; simp [baseL]
      have hl := bt_last s m x hbs
      rw [if_neg, if_neg (fun q => h2 (by rw [← hl]; exact q.2))]
      · exact done X hX'
      · rintro ⟨q1, q2⟩
        have q3 : bl s = (bl s).take (s.size - 2) ++ [61, 61] := by
          rw [bl_extract, List.take_of_length_le (by rw [bl_len]; omega)] at q2
          conv => lhs; rw [← List.take_append_drop (s.size - 2) (bl s), q2]
        have := bt_last s ((bl s).take (s.size - 2) ++ [61]) 61 (by rw [List.append_assoc]; exact q3)
        exact h2 (by rw [← hl]; exact this)
  | [a], _, hvb, h, hX =>
    have ha := hvb a (by simp)
    rw [dec_one a ha] at hX
    have hbs : bl s = (baseL u ++ [b64 (a / 4), b64 (a % 4 * 16)]) ++ [61, 61] := by rw [← h]; simp [baseL]
    obtain ⟨e1, e2⟩ := bl_sub s _ _ hbs 2 rfl
    rw [if_pos ⟨by rw [e2, List.length_append]; simp, e1⟩]
    exact done _ (cut_end X (u ++ [a]) [0, 0] 2 (by rw [hX]; simp) rfl)
  | [a, b], _, hvb, h, hX =>
    have ha := hvb a (by simp)
    have hb := hvb b (by simp)
    rw [dec_two a b ha hb] at hX
    have hbs : bl s = (baseL u ++ [b64 (a / 4), b64 (a % 4 * 16 + b / 16)]) ++ [b64 (b % 16 * 4), 61] := by rw [← h]; simp [baseL]
    obtain ⟨e1, e2⟩ := bl_sub s _ _ hbs 2 rfl
    have hl := bt_last s ((baseL u ++ [b64 (a / 4), b64 (a % 4 * 16 + b / 16)]) ++ [b64 (b % 16 * 4)]) 61 (by rw [hbs]; simp)
    rw [if_neg, if_pos ⟨by rw [e2, List.length_append]; simp, hl⟩]
    · exact done _ (cut_end X (u ++ [a, b]) [0] 1 (by rw [hX]; simp) rfl)
    · rintro ⟨_, q⟩
      rw [e1] at q
      simp at q
      exact (b64_byte (b % 16 * 4) (by omega) (by omega)).2.2 q
  | _ :: _ :: _ :: _, hv, _, _, _ => simp only [List.length_cons] at hv; omega
theorem ref_unbase (s : ByteArray) (hs : s.size ≤ 1000) (k : Nat) (hk : 1000 ≤ k) : latinerref05_Unbase.f k s = some (ubT (unbL (bl s)), ubN (unbL (bl s))) := by
  unfold latinerref05_Unbase.f
  by_cases h4 : (s.size : Int) % 4 = 0
  · rw [if_pos h4]
    have := ub_l0 s hs (by omega) (s.size / 4) k 0 ⟨#[]⟩ (by omega) (by omega) (by decide)
    refine this.trans ?_
    rw [Nat.mul_zero, List.drop_zero, nil_app]
    congr 1
    cases e : unbL (bl s) with
    | some t =>
      obtain ⟨h1, h2⟩ := unb_some _ _ e
      exact fin_base s t h2 h1
    | none =>
      have no : ∀ Y : ByteArray, ¬ strOfNums (baseL (bl Y)) = s := by
        intro Y hY
        have : bl s = baseL (bl Y) := by rw [← hY, bl_base]
        rw [this, unb_base _ (byt Y)] at e
        cases e
      unfold fin
      rw [if_neg (no _), if_neg (no _), if_neg (no _)]
      split
      · rfl
      · split <;> rfl
  · rw [if_neg h4]
    cases e : unbL (bl s) with
    | some t =>
      obtain ⟨h1, _⟩ := unb_some _ _ e
      have := congrArg List.length h1
      rw [baseL_len, bl_len] at this
      omega
    | none => rfl
theorem CodeTells : latinerlaw05_CodeTells.Pure := by
  intro a0 _
  obtain ⟨s, hs, hsz⟩ := cut_200 a0
  refine ⟨2000, ?_⟩
  have e1 := unbase_f s (by omega)
  have e2 := ref_unbase s (by omega) 2000 (by omega)
  have e3 := unhex_f s (by omega)
  have e4 := ref_unhex s (by omega) 2000 (by omega)
  have e5 := base_f s (by omega)
  have e6 := ref_base s (by omega) 2000 (by omega)
  have e7 := hex_f s (by omega)
  have e8 : latinerref05_Hex.f s = some (strOfNums (hexL (bl s))) := if_pos (by omega)
  generalize 2000 = k at *
  unfold latinerlaw05_CodeTells.f
  simp only [shown_true, hs, e1, e2, e3, e4, e5, e6, e7, e8, Option.bind_some, if_true, beq_self_eq_true]
end Go.Proofs.YtckfglcihelofaaDoor.Pure
