import Derived.Test.YtkjmabehphgmkaaDoorPureUtfBase2
import Derived.Test.YtkjmabehphgmkaaDoorLUtfx3
namespace Go.Proofs.YtkjmabehphgmkaaDoor.Pure
set_option linter.unusedSimpArgs false
set_option linter.unusedVariables false
open Go.RowKit Go.Proofs.YtkjmabehphgmkaaDoor.LUtf Go.Proofs.YtkjmabehphgmkaaDoor.ExtUtf Go.Proofs.YtkjmabehphgmkaaDoor.Utf Go.Proofs.YtkjmabehphgmkaaDoorW.PrintWords Go.Proofs.YtkjmabehphgmkaaDoorW.PrintLast Go.Proofs.YtkjmabehphgmkaaDoor.PureB
theorem sign1_le {s : ByteArray} {i : Nat} (h : i < s.size) : i + (sign1 s i).2 ≤ s.size := by
  by_cases hz : (sign1 s i).2 = 0
  · omega
  · obtain ⟨_, hm, hp⟩ := sign1_pre s i h hz
    have := hp.1
    omega
theorem bad_l0 (s : ByteArray) (hs : s.size ≤ 1000) (d : Nat) : ∀ (k i : Nat), s.size ≤ i + d → i ≤ s.size → d + 7 ≤ k → latinerref04_Bad.l0 k s i = some (sc s d i).2 := by
  induction d with
  | zero =>
    intro k i h hi hk
    obtain ⟨m, rfl⟩ : ∃ m, k = m + 1 := ⟨k - 1, by omega⟩
    simp only [latinerref04_Bad.l0]
    rw [if_neg (by omega)]
    rfl
  | succ d ih =>
    intro k i h hi hk
    obtain ⟨q, rfl⟩ : ∃ q, k = q + 1 := ⟨k - 1, by omega⟩
    obtain ⟨m, hm⟩ : ∃ m, q = m + 6 := ⟨q - 6, by omega⟩
    simp only [latinerref04_Bad.l0]
    by_cases hlt : i < s.size
    · have h1 := one_f s i hlt hs m
      rw [← hm] at h1
      rw [if_pos (by omega), h1]
      simp only [Option.bind_some, sc, if_pos hlt]
      have hle := sign1_le hlt
      by_cases hz : (sign1 s i).2 = 0
      · rw [if_pos (by omega), if_pos hz]
      · rw [if_neg (by omega), if_neg hz, w64 (by omega) (by omega)]
        exact ih q (i + (sign1 s i).2) (by omega) hle (by omega)
    · rw [if_neg (by omega)]
      simp only [sc, if_neg hlt]
theorem ref_bad (s : ByteArray) (hs : s.size ≤ 1000) (k : Nat) (hk : s.size + 7 ≤ k) : latinerref04_Bad.f k s = some (bad s) := bad_l0 s hs s.size k 0 (by omega) (by omega) hk
theorem ref_right (s : ByteArray) (hs : s.size ≤ 1000) (k : Nat) (hk : s.size + 7 ≤ k) : latinerref04_Right.f k s = some (decide (bad s < 0)) := by
  unfold latinerref04_Right.f
  rw [ref_bad s hs k hk]
  rfl
theorem signs_l0 (s : ByteArray) (hs : s.size ≤ 1000) (d : Nat) : ∀ (k i : Nat) (acc : List Int), s.size ≤ i + d → i ≤ s.size → d + 7 ≤ k → acc.length ≤ i → (sc s d i).2 = -1 →
    latinerref04_Signs.l0 k s acc i = some (acc ++ (sc s d i).1.map (·.2), 0) := by
  induction d with
  | zero =>
    intro k i acc h hi hk _ _
    obtain ⟨m, rfl⟩ : ∃ m, k = m + 1 := ⟨k - 1, by omega⟩
    simp only [latinerref04_Signs.l0]
    rw [if_neg (by omega)]
    simp [sc]
  | succ d ih =>
    intro k i acc h hi hk ha hb
    obtain ⟨q, rfl⟩ : ∃ q, k = q + 1 := ⟨k - 1, by omega⟩
    obtain ⟨m, hm⟩ : ∃ m, q = m + 6 := ⟨q - 6, by omega⟩
    simp only [latinerref04_Signs.l0]
    by_cases hlt : i < s.size
    · have h1 := one_f s i hlt hs m
      rw [← hm] at h1
      rw [if_pos (by omega), h1]
      simp only [Option.bind_some]
      have hle := sign1_le hlt
      by_cases hz : (sign1 s i).2 = 0
      · simp only [sc, if_pos hlt, if_pos hz] at hb
        omega
      · simp only [sc, if_pos hlt, if_neg hz] at hb ⊢
        rw [if_pos (by omega), w64 (by omega) (by omega)]
        have := ih q (i + (sign1 s i).2) (acc ++ [(sign1 s i).1]) (by omega) hle (by omega) (by simp; omega) hb
        rw [show ((i : Int) + ((sign1 s i).2 : Int)) = ((i + (sign1 s i).2 : Nat) : Int) by omega, this]
        simp
    · rw [if_neg (by omega)]
      simp [sc, if_neg hlt]
theorem ref_signs (s : ByteArray) (hs : s.size ≤ 1000) (k : Nat) (hk : s.size + 7 ≤ k) : latinerref04_Signs.f k s = some (sgV s, sgE s) := by
  unfold latinerref04_Signs.f sgV sgE
  rw [ref_right s hs k hk]
  simp only [Option.bind_some]
  by_cases hb : bad s < 0
  · rw [if_pos (by simpa using hb), if_pos hb, if_pos hb]
    have hm : bad s = -1 := by have := bad_ge s; omega
    exact signs_l0 s hs s.size k 0 [] (by omega) (by omega) hk (by simp) hm
  · rw [if_neg (by simpa using hb), if_neg hb, if_neg hb]
theorem son_append (xs ys : List Int) : strOfNums (xs ++ ys) = strOfNums xs ++ strOfNums ys := by apply ByteArray.ext; simp [strOfNums]
theorem ba_nil (s : ByteArray) : s ++ strOfNums [] = s := by apply ByteArray.ext; simp [strOfNums]
theorem ba_assoc (a b c : ByteArray) : a ++ b ++ c = a ++ (b ++ c) := by apply ByteArray.ext; simp
theorem nil_ba (s : ByteArray) : (⟨#[]⟩ : ByteArray) ++ s = s := by apply ByteArray.ext; simp
theorem text_l0 (l : List Int) (hl : l.length ≤ 1000) (d : Nat) : ∀ (k j : Nat) (acc : ByteArray), l.length = j + d → d < k → acc.size ≤ 4 * j →
    latinerref04_Text.l0 k l acc j = some (if ∀ c ∈ l.drop j, vr c = true then (acc ++ strOfNums (ebs (l.drop j)), 0) else (⟨#[]⟩, 40)) := by
  induction d with
  | zero =>
    intro k j acc h hk _
    obtain ⟨m, rfl⟩ : ∃ m, k = m + 1 := ⟨k - 1, by omega⟩
    simp only [latinerref04_Text.l0]
    rw [if_neg (by omega), List.drop_eq_nil_of_le (by omega)]
    rw [if_pos (by simp), show ebs [] = [] from rfl, ba_nil]
  | succ d ih =>
    intro k j acc h hk ha
    obtain ⟨m, rfl⟩ : ∃ m, k = m + 1 := ⟨k - 1, by omega⟩
    have hx : l.drop j = l[j]'(by omega) :: l.drop (j + 1) := List.drop_eq_getElem_cons (by omega)
    have hrd : rd l (j : Int) = l[j]'(by omega) := by
      unfold rd
      have q : (l[j]?).getD 0 = l[j]'(by omega) := by rw [List.getElem?_eq_getElem (by omega)]; rfl
      simpa [List.getD_eq_getElem?_getD] using q
    generalize l[j]'(by omega) = x at hx hrd
    simp only [latinerref04_Text.l0]
    rw [if_pos (by omega), if_pos (by omega), hrd, sign_f, hx]
    simp only [Option.bind_some]
    by_cases hv : vr x = true
    · rw [if_pos hv, bytes_f x hv]
      simp only [Option.bind_some]
      have h4 := eb_le4 x
      rw [if_pos (by rw [son_size]; omega), w64 (by omega) (by omega), show ((j : Int) + 1) = ((j + 1 : Nat) : Int) by omega,
        ih m (j + 1) _ (by omega) (by omega) (by rw [ByteArray.size_append, son_size]; omega)]
      congr 1
      by_cases ha2 : ∀ c ∈ l.drop (j + 1), vr c = true
      · rw [if_pos ha2, if_pos (by intro c hc; rcases List.mem_cons.1 hc with rfl | hc; exact hv; exact ha2 c hc), ebs_cons, son_append, ba_assoc]
      · rw [if_neg ha2, if_neg (fun q => ha2 (fun c hc => q c (List.mem_cons_of_mem _ hc)))]
    · rw [if_neg hv, if_neg (fun q => hv (q x List.mem_cons_self))]
theorem ref_text (l : List Int) (hl : l.length ≤ 1000) (k : Nat) (hk : l.length < k) : latinerref04_Text.f k l = some (txS l, txE l) := by
  have := text_l0 l hl l.length k 0 ⟨#[]⟩ (by omega) hk (by decide)
  rw [List.drop_zero] at this
  unfold latinerref04_Text.f txS txE
  rw [show (0 : Int) = ((0 : Nat) : Int) from rfl, this]
  congr 1
  by_cases hv : ∀ c ∈ l, vr c = true
  · rw [if_pos hv, if_pos hv, if_pos hv, nil_ba]; rfl
  · rw [if_neg hv, if_neg hv, if_neg hv]
/-! IsSafe -/
def okB (b : Int) : Prop := b ≠ 0 ∧ b ≤ 127 ∧ b ≠ 10 ∧ b ≠ 13
theorem idx_from (s : ByteArray) : ∀ (f pos : Nat), s.size ≤ pos + f → (0 ≤ Lib.idxFuncFrom pOther true s f pos ↔ ∃ j : Nat, pos ≤ j ∧ j < s.size ∧ ¬ okB (bt s j))
  | 0, pos, h => ⟨fun q => by simp [Lib.idxFuncFrom] at q, fun ⟨j, h1, h2, _⟩ => by omega⟩
  | f + 1, pos, h => by
    unfold Lib.idxFuncFrom
    by_cases hp : pos < s.size
    · rw [if_pos hp]
      by_cases ha : (s[pos]'hp).toNat < 128
      · rw [decode_ascii s pos hp ha]
        have hb : bt s pos = ((s[pos]'hp).toNat : Int) := bt_nat s pos hp
        simp only
        have ih := idx_from s f (pos + 1) (by omega)
        by_cases ho : okB (bt s pos)
        · rw [if_neg (by unfold okB at ho; rw [hb] at ho; simp [pOther]; omega), ih]
          constructor
          · rintro ⟨j, h1, h2⟩; exact ⟨j, by omega, h2⟩
          · rintro ⟨j, h1, h2, h3⟩
            refine ⟨j, ?_, h2, h3⟩
            rcases Nat.lt_or_ge pos j with h4 | h4
            · exact h4
            · obtain rfl : j = pos := by omega
              exact absurd ho h3
        · rw [if_pos (by unfold okB at ho; rw [hb] at ho; simp [pOther]; omega)]
          exact ⟨fun _ => ⟨pos, Nat.le_refl _, hp, ho⟩, fun _ => by omega⟩
      · have hd := decode_high s pos hp (by omega)
        have hb : bt s pos = ((s[pos]'hp).toNat : Int) := bt_nat s pos hp
        rw [if_pos (by simp [pOther]; omega)]
        exact ⟨fun _ => ⟨pos, Nat.le_refl _, hp, fun ho => by unfold okB at ho; omega⟩, fun _ => by omega⟩
    · rw [if_neg hp]
      exact ⟨fun q => by omega, fun ⟨j, h1, h2, _⟩ => by omega⟩
theorem pre_one (s : ByteArray) (b : UInt8) : Lib.hasPrefix s.data.toList [b] = true ↔ 0 < s.size ∧ bt s 0 = (b.toNat : Int) := by
  unfold Lib.hasPrefix
  rcases hs : s.data.toList with _ | ⟨x, r⟩
  · have : s.size = 0 := by have := congrArg List.length hs; rw [Array.length_toList] at this; exact this
    simp [List.isPrefixOf, this]
  · have hsz : 0 < s.size := by have := congrArg List.length hs; rw [Array.length_toList] at this; show 0 < s.data.size; rw [this, List.length_cons]; omega
    have hx : bt s ((0 : Nat) : Int) = (x.toNat : Int) := by
      rw [bt_nat s 0 hsz]
      have h0 : s.data.toList[0]? = some x := by rw [hs]; rfl
      have h1 : s.data[0]'hsz = x := by
        rw [Array.getElem?_toList, Array.getElem?_eq_getElem hsz] at h0
        exact Option.some.inj h0
      show ((s.data[0]'hsz).toNat : Int) = _
      rw [h1]
    simp only [List.isPrefixOf, Bool.and_true, beq_iff_eq]
    have hx' : bt s 0 = (x.toNat : Int) := hx
    rw [hx']
    constructor
    · rintro rfl; exact ⟨hsz, rfl⟩
    · rintro ⟨_, h⟩; exact UInt8.toNat_inj.1 (by omega)
theorem suf_one (s : ByteArray) (b : UInt8) : Lib.hasSuffix s.data.toList [b] = true ↔ 0 < s.size ∧ bt s ((s.size : Int) - 1) = (b.toNat : Int) := by
  unfold Lib.hasSuffix
  rw [List.isSuffixOf_iff_suffix]
  have hlen : s.data.toList.length = s.size := Array.length_toList
  have get : ∀ (j : Nat) (h : j < s.size), s.data.toList[j]? = some (s[j]'h) := fun j h => by rw [Array.getElem?_toList]; exact Array.getElem?_eq_getElem h
  constructor
  · rintro ⟨t, ht⟩
    have hl := congrArg List.length ht
    rw [hlen, List.length_append] at hl
    simp at hl
    have hsz : 0 < s.size := by omega
    refine ⟨hsz, ?_⟩
    rw [show (s.size : Int) - 1 = ((s.size - 1 : Nat) : Int) by omega, bt_nat s (s.size - 1) (by omega)]
    have h2 : ∀ (m : Nat) (hm : m < s.size), m = t.length → s[m]'hm = b := by
      rintro m hm rfl
      have h1 := get _ hm
      rw [← ht, List.getElem?_append_right (by omega)] at h1
      simpa using h1.symm
    rw [h2 (s.size - 1) (by omega) (by omega)]
  · rintro ⟨hsz, h⟩
    rw [show (s.size : Int) - 1 = ((s.size - 1 : Nat) : Int) by omega, bt_nat s (s.size - 1) (by omega)] at h
    have h2 : s[s.size - 1]'(by omega) = b := UInt8.toNat_inj.1 (by omega)
    refine ⟨s.data.toList.take (s.size - 1), ?_⟩
    apply List.ext_getElem?
    intro j
    by_cases hj : j < s.size - 1
    · rw [List.getElem?_append_left (by simp; omega), List.getElem?_take, if_pos hj]
    · rw [List.getElem?_append_right (by simp; omega)]
      have hll : (s.data.toList.take (s.size - 1)).length = s.size - 1 := by rw [List.length_take, hlen]; omega
      rw [hll]
      by_cases hj2 : j = s.size - 1
      · subst hj2
        rw [get _ (by omega), h2]
        simp
      · rw [List.getElem?_eq_none (by simp; omega), List.getElem?_eq_none (by rw [hlen]; omega)]
/-- What a safe text is. -/
def Safe (s : ByteArray) : Prop := (∀ j : Nat, j < s.size → okB (bt s j)) ∧ (0 < s.size → bt s 0 ≠ 32 ∧ bt s 0 ≠ 58 ∧ bt s 0 ≠ 60 ∧ bt s ((s.size : Int) - 1) ≠ 32)
theorem sfV_iff (s : ByteArray) : sfV s = true ↔ Safe s := by
  have h0 : decide (0 ≤ Lib.idxFunc pOther true s) = false ↔ ∀ j : Nat, j < s.size → okB (bt s j) := by
    rw [decide_eq_false_iff_not]
    have := idx_from s s.size 0 (by omega)
    unfold Lib.idxFunc
    rw [this]
    constructor
    · intro h j hj
      by_cases ho : okB (bt s j)
      · exact ho
      · exact absurd ⟨j, Nat.zero_le _, hj, ho⟩ h
    · rintro h ⟨j, _, hj, ho⟩; exact ho (h j hj)
  have h1 := pre_one s 32
  have h2 := pre_one s 58
  have h3 := pre_one s 60
  have h4 := suf_one s 32
  have e1 : (((32 : UInt8).toNat : Nat) : Int) = 32 := rfl
  have e2 : (((58 : UInt8).toNat : Nat) : Int) = 58 := rfl
  have e3 : (((60 : UInt8).toNat : Nat) : Int) = 60 := rfl
  rw [e1] at h1 h4
  rw [e2] at h2
  rw [e3] at h3
  unfold sfV noneB Safe
  rw [Bool.not_eq_true', Bool.or_eq_false_iff, Bool.or_eq_false_iff, Bool.or_eq_false_iff, Bool.or_eq_false_iff, h0, Bool.eq_false_iff, Bool.eq_false_iff, Bool.eq_false_iff, Bool.eq_false_iff, Ne, Ne, Ne, Ne, h1, h2, h3, h4]
  constructor
  · rintro ⟨⟨⟨⟨a, b⟩, c⟩, d⟩, e⟩
    exact ⟨a, fun hs => ⟨fun q => b ⟨hs, q⟩, fun q => c ⟨hs, q⟩, fun q => d ⟨hs, q⟩, fun q => e ⟨hs, q⟩⟩⟩
  · rintro ⟨a, b⟩
    exact ⟨⟨⟨⟨a, fun q => (b q.1).1 q.2⟩, fun q => (b q.1).2.1 q.2⟩, fun q => (b q.1).2.2.1 q.2⟩, fun q => (b q.1).2.2.2 q.2⟩
theorem safe_l0 (s : ByteArray) (hs : s.size ≤ 1000) (d : Nat) : ∀ (k j : Nat), s.size = j + d → d < k → (∀ i : Nat, i < j → okB (bt s i)) → latinerref04_IsSafe.l0 k s j = some (sfV s) := by
  have fin : ∀ b : Bool, (b = true ↔ Safe s) → b = sfV s := fun b h => by rw [Bool.eq_iff_iff, h, sfV_iff]
  induction d with
  | zero =>
    intro k j h hk hall
    obtain ⟨m, rfl⟩ : ∃ m, k = m + 1 := ⟨k - 1, by omega⟩
    simp only [latinerref04_IsSafe.l0]
    rw [if_neg (by omega)]
    have hall' : ∀ i : Nat, i < s.size → okB (bt s i) := fun i hi => hall i (by omega)
    by_cases hz : s.size = 0
    · rw [if_pos (toList_nil.2 hz), fin true ⟨fun _ => ⟨hall', fun q => by omega⟩, fun _ => rfl⟩]
    rw [if_neg (fun q => hz (toList_nil.1 q)), if_pos (by omega)]
    have no : ∀ x : Int, (x = 32 ∨ x = 58 ∨ x = 60) → bt s 0 = x → ¬ Safe s := fun x hx hb hS => by
      have := hS.2 (by omega)
      omega
    by_cases c1 : bt s 0 = 32
    · rw [if_pos c1, fin false ⟨fun q => (by cases q), fun q => absurd q (no 32 (by omega) c1)⟩]
    by_cases c2 : bt s 0 = 58
    · rw [if_neg c1, if_pos c2, fin false ⟨fun q => (by cases q), fun q => absurd q (no 58 (by omega) c2)⟩]
    by_cases c3 : bt s 0 = 60
    · rw [if_neg c1, if_neg c2, if_pos c3, fin false ⟨fun q => (by cases q), fun q => absurd q (no 60 (by omega) c3)⟩]
    rw [if_neg c1, if_neg c2, if_neg c3, w64 (by omega) (by omega), if_pos (by omega), if_pos (by omega)]
    congr 1
    refine fin _ ?_
    rw [bne_iff_ne]
    exact ⟨fun q => ⟨hall', fun _ => ⟨c1, c2, c3, q⟩⟩, fun q => (q.2 (by omega)).2.2.2⟩
  | succ d ih =>
    intro k j h hk hall
    obtain ⟨m, rfl⟩ : ∃ m, k = m + 1 := ⟨k - 1, by omega⟩
    simp only [latinerref04_IsSafe.l0]
    rw [if_pos (by omega), if_pos (by omega)]
    have no : ¬ okB (bt s j) → false = sfV s := fun q => fin false ⟨fun q => (by cases q), fun hS => absurd (hS.1 j (by omega)) q⟩
    unfold okB at no
    by_cases c1 : bt s j = 0
    · rw [if_pos c1, no (by omega)]
    by_cases c2 : bt s j > 127
    · rw [if_neg c1, if_pos c2, no (by omega)]
    by_cases c3 : bt s j = 10
    · rw [if_neg c1, if_neg c2, if_pos c3, no (by omega)]
    by_cases c4 : bt s j = 13
    · rw [if_neg c1, if_neg c2, if_neg c3, if_pos c4, no (by omega)]
    rw [if_neg c1, if_neg c2, if_neg c3, if_neg c4, w64 (by omega) (by omega), show ((j : Int) + 1) = ((j + 1 : Nat) : Int) by omega]
    refine ih m (j + 1) (by omega) (by omega) (fun i hi => ?_)
    rcases Nat.lt_or_ge i j with q | q
    · exact hall i q
    · obtain rfl : i = j := by omega
      exact ⟨c1, by omega, c3, c4⟩
theorem ref_safe (s : ByteArray) (hs : s.size ≤ 1000) (k : Nat) (hk : s.size < k) : latinerref04_IsSafe.f k s = some (sfV s) := safe_l0 s hs s.size k 0 (by omega) hk (fun i hi => by omega)
end Go.Proofs.YtkjmabehphgmkaaDoor.Pure
