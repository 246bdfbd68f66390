import Derived.Test.YtckfglcihelofaaDoorPureCodeTells2
namespace Go.Proofs.YtckfglcihelofaaDoor.Pure
set_option linter.unusedSimpArgs false
set_option linter.unusedVariables false
open Go.RowKit Go.Proofs.YtckfglcihelofaaDoor.LCode Go.Proofs.YtckfglcihelofaaDoor.ExtCode Go.Proofs.YtckfglcihelofaaDoor.Code Go.Proofs.YtckfglcihelofaaDoorW.PrintWords Go.Proofs.YtckfglcihelofaaDoorW.PrintLast Go.Proofs.YtckfglcihelofaaDoor.PureB
/-- what a sign is worth, or 0 -/
def wv (c : Int) : Int := (worthL c).getD 0
theorem wv_rng (c : Int) : 0 ≤ wv c ∧ wv c < 64 := by
  unfold wv
  cases h : worthL c with
  | none => exact ⟨by decide, by decide⟩
  | some v => have := b64_worth c v h; exact ⟨this.1, this.2.1⟩
theorem wv_b64 (i : Int) (h0 : 0 ≤ i) (h1 : i < 64) : wv (b64 i) = i := by unfold wv; rw [worth_b64 i h0 h1]; rfl
theorem wv_pad : wv 61 = 0 := by decide
theorem value_l0 (c : Int) : ∀ (d k j : Nat), j + d = 64 → d < k → (∀ i : Nat, i < j → b64 i ≠ c) → latinerref05_value.l0 k c (j : Int) = some (wv c) := by
  intro d
  induction d with
  | zero =>
    intro k j hj hk hn
    obtain ⟨k, rfl⟩ : ∃ m, k = m + 1 := ⟨k - 1, by omega⟩
    conv => lhs; rw [latinerref05_value.l0]
    rw [if_neg (by omega)]
    have : worthL c = none := by
      cases e : worthL c with
      | none => rfl
      | some v =>
        obtain ⟨h0, h1, h2⟩ := b64_worth c v e
        exact absurd (by rw [show ((v.toNat : Nat) : Int) = v by omega]; exact h2) (hn v.toNat (by omega))
    unfold wv
    rw [this]
    rfl
  | succ d ih =>
    intro k j hj hk hn
    obtain ⟨k, rfl⟩ : ∃ m, k = m + 1 := ⟨k - 1, by omega⟩
    have hs : bt SG (j : Int) = b64 j := sg_bt j (by omega)
    conv => lhs; rw [latinerref05_value.l0]
    rw [if_pos (by omega), if_pos (by omega)]
    show (if bt SG (j : Int) = c then some (j : Int) else latinerref05_value.l0 k c (wrap64 ((j : Int) + 1))) = some (wv c)
    by_cases h : b64 j = c
    · rw [if_pos (show bt SG (j : Int) = c by rw [hs]; exact h), ← h, wv_b64 _ (by omega) (by omega)]
    · rw [if_neg (show ¬ bt SG (j : Int) = c by rw [hs]; exact h), show wrap64 ((j : Int) + 1) = ((j + 1 : Nat) : Int) by rw [w64 (by omega) (by omega)]; omega]
      refine ih k (j + 1) (by omega) (by omega) ?_
      intro i hi
      rcases Nat.lt_or_ge i j with h1 | h1
      · exact hn i h1
      · rw [show i = j by omega]; exact h
theorem ref_value (c : Int) (k : Nat) (hk : 65 ≤ k) : latinerref05_value.f k c = some (wv c) := by
  unfold latinerref05_value.f
  exact value_l0 c 64 k 0 rfl (by omega) (fun i hi => absurd hi (Nat.not_lt_zero _))
/-- four signs, read roughly -/
def dec3 (a b c d : Int) : List Int := [(262144 * wv a + 4096 * wv b + 64 * wv c + wv d) / 65536 % 256, (262144 * wv a + 4096 * wv b + 64 * wv c + wv d) / 256 % 256, (262144 * wv a + 4096 * wv b + 64 * wv c + wv d) % 256]
def decR : List Int → List Int
  | a :: b :: c :: d :: r => dec3 a b c d ++ decR r
  | _ => []
theorem dec3_len (a b c d : Int) : (dec3 a b c d).length = 3 := rfl
theorem dec3_byt (a b c d : Int) : Byt (dec3 a b c d) := by
  intro x hx
  simp [dec3] at hx
  rcases hx with rfl | rfl | rfl <;> omega
theorem decR_byt : ∀ l : List Int, Byt (decR l)
  | [] => by intro x hx; simp [decR] at hx
  | [_] => by intro x hx; simp [decR] at hx
  | [_, _] => by intro x hx; simp [decR] at hx
  | [_, _, _] => by intro x hx; simp [decR] at hx
  | a :: b :: c :: d :: r => by
    intro x hx
    simp only [decR] at hx
    rcases List.mem_append.1 hx with h | h
    · exact dec3_byt a b c d x h
    · exact decR_byt r x h
theorem decR_len : ∀ l : List Int, l.length % 4 = 0 → (decR l).length = 3 * (l.length / 4)
  | [], _ => rfl
  | [_], h => by simp at h
  | [_, _], h => by simp at h
  | [_, _, _], h => by simp at h
  | a :: b :: c :: d :: r, h => by
    simp only [List.length_cons] at h
    simp only [decR, List.length_append, dec3_len, decR_len r (by omega), List.length_cons]
    omega
/-- how the reference ends -/
def fin (s X : ByteArray) : ByteArray × Int :=
  if 1 < s.size ∧ bl (s.extract (s.size - 2) s.size) = [61, 61] then (if strOfNums (baseL (bl (X.extract 0 (X.size - 2)))) = s then (X.extract 0 (X.size - 2), 0) else (⟨#[]⟩, 50))
  else if 1 < s.size ∧ bt s (s.size - 1 : Nat) = 61 then (if strOfNums (baseL (bl (X.extract 0 (X.size - 1)))) = s then (X.extract 0 (X.size - 1), 0) else (⟨#[]⟩, 50))
  else (if strOfNums (baseL (bl X)) = s then (X, 0) else (⟨#[]⟩, 50))
theorem pads_iff (g : ByteArray) : g.toList = ([61, 61] : List UInt8) ↔ bl g = [61, 61] := by
  constructor
  · intro h
    rw [ByteArray.toList_eq] at h
    unfold bl
    rw [h]
    rfl
  · intro h
    rw [← son_bl g, h, ByteArray.toList_eq]
    rfl
theorem ub_j2 (s X : ByteArray) (hX : X.size ≤ 800) (h2 : 1 < s.size → 1 ≤ X.size) (k : Nat) (hk : 402 ≤ k) (b : Bool) (hb : b = decide (1 < s.size ∧ bt s (s.size - 1 : Nat) = 61)) :
    latinerref05_Unbase.j2 k s X b = some (if 1 < s.size ∧ bt s (s.size - 1 : Nat) = 61 then (if strOfNums (baseL (bl (X.extract 0 (X.size - 1)))) = s then (X.extract 0 (X.size - 1), 0) else (⟨#[]⟩, 50)) else (if strOfNums (baseL (bl X)) = s then (X, 0) else (⟨#[]⟩, 50))) := by
  obtain ⟨k, rfl⟩ : ∃ m, k = m + 1 := ⟨k - 1, by omega⟩
  conv => lhs; rw [latinerref05_Unbase.j2]
  subst hb
  have tail : ∀ Y : ByteArray, Y.size ≤ 800 → ((latinerref05_Base.f k Y).bind fun t => (if t.toList = s.toList then (some (Y, (0 : Int))) else (some ((⟨#[]⟩ : ByteArray), 50)))) = some (if strOfNums (baseL (bl Y)) = s then (Y, 0) else (⟨#[]⟩, 50)) := by
    intro Y hY
    rw [ref_base Y (by omega) k (by omega), Option.bind_some]
    by_cases h : strOfNums (baseL (bl Y)) = s
    · rw [if_pos h, if_pos (by rw [h])]
    · rw [if_neg h, if_neg (fun e => h ((tl_eq _ _).1 e))]
  by_cases h : 1 < s.size ∧ bt s (s.size - 1 : Nat) = 61
  · have h1 := h2 h.1
    have e1 : wrap64 ((X.size : Int) - 1) = ((X.size - 1 : Nat) : Int) := by rw [w64 (by omega) (by omega)]; omega
    rw [if_pos (by simpa using h), if_pos h, e1, if_pos (by omega), if_pos (by omega), Int.toNat_natCast]
    exact tail _ (by rw [ByteArray.size_extract]; omega)
  · rw [if_neg (by simpa using h), if_neg h]
    exact tail _ hX
theorem ub_j1 (s X : ByteArray) (hs : s.size ≤ 1000) (hX : X.size ≤ 800) (h2 : 1 < s.size → 2 ≤ X.size) (k : Nat) (hk : 404 ≤ k) (b : Bool) (hb : b = decide (1 < s.size ∧ bl (s.extract (s.size - 2) s.size) = [61, 61])) :
    latinerref05_Unbase.j1 k s X b = some (fin s X) := by
  obtain ⟨k, rfl⟩ : ∃ m, k = m + 1 := ⟨k - 1, by omega⟩
  conv => lhs; rw [latinerref05_Unbase.j1]
  subst hb
  unfold fin
  by_cases h : 1 < s.size ∧ bl (s.extract (s.size - 2) s.size) = [61, 61]
  · have h1 := h2 h.1
    have e1 : wrap64 ((X.size : Int) - 2) = ((X.size - 2 : Nat) : Int) := by rw [w64 (by omega) (by omega)]; omega
    rw [if_pos (by simpa using h), if_pos h, e1, if_pos (by omega), if_pos (by omega), Int.toNat_natCast]
    rw [ref_base _ (by rw [ByteArray.size_extract]; omega) k (by omega), Option.bind_some]
    by_cases h3 : strOfNums (baseL (bl (X.extract 0 (X.size - 2)))) = s
    · rw [if_pos h3, if_pos (by rw [h3])]
    · rw [if_neg h3, if_neg (fun e => h3 ((tl_eq _ _).1 e))]
  · rw [if_neg (by simpa using h), if_neg h]
    by_cases h3 : 1 < s.size
    · have e1 : wrap64 ((s.size : Int) - 1) = ((s.size - 1 : Nat) : Int) := by rw [w64 (by omega) (by omega)]; omega
      rw [if_pos (by omega), e1, if_pos (by omega), if_pos (by omega)]
      refine ub_j2 s X hX (fun q => by have := h2 q; omega) k (by omega) _ ?_
      rw [Bool.eq_iff_iff, beq_iff_eq, decide_eq_true_eq]
      exact ⟨fun q => ⟨h3, q⟩, fun q => q.2⟩
    · rw [if_neg (by omega)]
      refine ub_j2 s X hX (fun q => by have := h2 q; omega) k (by omega) _ ?_
      symm; apply decide_eq_false; exact fun q => h3 q.1
theorem ub_l0 (s : ByteArray) (hs : s.size ≤ 1000) (h4 : s.size % 4 = 0) : ∀ (d k j : Nat) (X : ByteArray), s.size = 4 * j + 4 * d → d + 450 ≤ k → X.size = 3 * j →
    latinerref05_Unbase.l0 k s X (4 * j : Nat) = some (fin s (X ++ strOfNums (decR ((bl s).drop (4 * j))))) := by
  intro d
  induction d with
  | zero =>
    intro k j X h1 h2 h3
    obtain ⟨k, rfl⟩ : ∃ m, k = m + 1 := ⟨k - 1, by omega⟩
    conv => lhs; rw [latinerref05_Unbase.l0]
    rw [if_neg (by omega), List.drop_eq_nil_of_le (by rw [bl_len]; omega), show X ++ strOfNums (decR []) = X from app_nil X]
    by_cases h : 1 < s.size
    · have e1 : wrap64 ((s.size : Int) - 2) = ((s.size - 2 : Nat) : Int) := by rw [w64 (by omega) (by omega)]; omega
      rw [if_pos (by omega), e1, if_pos (by omega), if_pos (by omega), Int.toNat_natCast]
      refine ub_j1 s X hs (by omega) (fun _ => by omega) k (by omega) _ ?_
      rw [Bool.eq_iff_iff, beq_iff_eq, decide_eq_true_eq, pads_iff]
      exact ⟨fun q => ⟨h, q⟩, fun q => q.2⟩
    · rw [if_neg (by omega)]
      refine ub_j1 s X hs (by omega) (fun q => absurd q h) k (by omega) _ ?_
      symm; apply decide_eq_false; exact fun q => h q.1
  | succ d ih =>
    intro k j X h1 h2 h3
    obtain ⟨k, rfl⟩ : ∃ m, k = m + 1 := ⟨k - 1, by omega⟩
    have cons : ∀ i : Nat, i < s.size → (bl s).drop i = bt s i :: (bl s).drop (i + 1) := by
      intro i hi
      have h' : i < (bl s).length := by rw [bl_len]; exact hi
      rw [List.drop_eq_getElem_cons h']
      congr 1
      have := bl_get s i hi
      rw [List.getElem?_eq_getElem h'] at this
      exact Option.some.inj this
    have e1 : wrap64 (((4 * j : Nat) : Int) + 1) = ((4 * j + 1 : Nat) : Int) := by rw [w64 (by omega) (by omega)]; omega
    have e2 : wrap64 (((4 * j : Nat) : Int) + 2) = ((4 * j + 2 : Nat) : Int) := by rw [w64 (by omega) (by omega)]; omega
    have e3 : wrap64 (((4 * j : Nat) : Int) + 3) = ((4 * j + 3 : Nat) : Int) := by rw [w64 (by omega) (by omega)]; omega
    have e4 : wrap64 (((4 * j : Nat) : Int) + 4) = ((4 * (j + 1) : Nat) : Int) := by rw [w64 (by omega) (by omega)]; omega
    have c0 := cons (4 * j) (by omega)
    have c1 := cons (4 * j + 1) (by omega)
    have c2 := cons (4 * j + 2) (by omega)
    have c3 := cons (4 * j + 3) (by omega)
    conv => lhs; rw [latinerref05_Unbase.l0]
    rw [if_pos (by omega), if_pos (by omega), e1, e2, e3, e4, ref_value _ k (by omega), Option.bind_some, if_pos (by omega), if_pos (by omega), ref_value _ k (by omega), Option.bind_some, if_pos (by omega), if_pos (by omega), ref_value _ k (by omega), Option.bind_some, if_pos (by omega), if_pos (by omega), ref_value _ k (by omega), Option.bind_some]
    obtain ⟨a, ha⟩ : ∃ a, bt s (4 * j : Nat) = a := ⟨_, rfl⟩
    obtain ⟨b, hb⟩ : ∃ b, bt s (4 * j + 1 : Nat) = b := ⟨_, rfl⟩
    obtain ⟨c, hc⟩ : ∃ c, bt s (4 * j + 2 : Nat) = c := ⟨_, rfl⟩
    obtain ⟨e, he⟩ : ∃ e, bt s (4 * j + 3 : Nat) = e := ⟨_, rfl⟩
    rw [ha] at c0; rw [hb] at c1; rw [hc] at c2; rw [he] at c3
    rw [ha, hb, hc, he]
    have ra := wv_rng a
    have rb := wv_rng b
    have rc := wv_rng c
    have re := wv_rng e
    have hn : wrap64 (wrap64 (wrap64 (wrap64 (262144 * wv a) + wrap64 (4096 * wv b)) + wrap64 (64 * wv c)) + wv e) = 262144 * wv a + 4096 * wv b + 64 * wv c + wv e := by
      rw [w64 (n := 262144 * wv a) (by omega) (by omega), w64 (n := 4096 * wv b) (by omega) (by omega), w64 (n := 64 * wv c) (by omega) (by omega), w64 (n := 262144 * wv a + 4096 * wv b) (by omega) (by omega), w64 (n := 262144 * wv a + 4096 * wv b + 64 * wv c) (by omega) (by omega), w64 (by omega) (by omega)]
    have hdec : decR ((bl s).drop (4 * j)) = dec3 a b c e ++ decR ((bl s).drop (4 * (j + 1))) := by
      rw [c0, c1, c2, c3]; rfl
    rw [hn]
    obtain ⟨n, hnn⟩ : ∃ n, 262144 * wv a + 4096 * wv b + 64 * wv c + wv e = n := ⟨_, rfl⟩
    rw [hnn]
    have t1 : wrap64 (Int.tdiv n 65536) % 256 = n / 65536 % 256 := by rw [Int.tdiv_eq_ediv_of_nonneg (by omega), w64 (by omega) (by omega)]
    have t2 : Int.tmod (wrap64 (Int.tdiv n 256)) 256 % 256 = n / 256 % 256 := by rw [Int.tdiv_eq_ediv_of_nonneg (by omega), w64 (by omega) (by omega), Int.tmod_eq_emod_of_nonneg (by omega)]; omega
    have t3 : Int.tmod n 256 % 256 = n % 256 := by rw [Int.tmod_eq_emod_of_nonneg (by omega)]; omega
    have hw : wrap64 n = n := w64 (by omega) (by omega)
    rw [Option.bind_some]
    have hd3 : dec3 a b c e = [n / 65536 % 256, n / 256 % 256, n % 256] := by unfold dec3; rw [hnn]
    have z : (strOfNums (dec3 a b c e)).size = 3 := son_size _
    simp only [t1, t2, t3, hw]
    rw [← hd3, if_pos (by omega), ih k (j + 1) _ (by omega) (by omega) (by rw [ByteArray.size_append]; omega), ByteArray.append_assoc, son_app, ← hdec]
end Go.Proofs.YtckfglcihelofaaDoor.Pure
