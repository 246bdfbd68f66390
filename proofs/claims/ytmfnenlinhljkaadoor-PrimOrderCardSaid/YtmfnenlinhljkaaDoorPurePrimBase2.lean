import Derived.Test.YtmfnenlinhljkaaDoorPurePrimBase
namespace Go.Proofs.YtmfnenlinhljkaaDoor.Pure
set_option linter.unusedSimpArgs false
set_option linter.unusedVariables false
open Go.RowKit Go.Proofs.YtmfnenlinhljkaaDoor.LPrim Go.Proofs.YtmfnenlinhljkaaDoor.ExtPrim Go.Proofs.YtmfnenlinhljkaaDoor.Prim Go.Proofs.YtmfnenlinhljkaaDoorW.PrintWords Go.Proofs.YtmfnenlinhljkaaDoorW.PrintLast
theorem bt_at (s : ByteArray) (i : Int) (h : i.toNat < s.size) : bt s i = ((s[i.toNat]'h).toNat : Int) := dif_pos h
theorem bt1_0 (a : UInt8) : bt ⟨#[a]⟩ 0 = a.toNat := bt_at ⟨#[a]⟩ 0 (by show 0 < 1; decide)
theorem rdv1 (a : UInt8) : rdv ⟨#[a]⟩ = sx a.toNat := by
  unfold rdv; rw [show (ByteArray.mk #[a]).size - 1 = 0 from rfl]
  simp only [List.range_succ, List.range_zero, List.nil_append, List.foldl_append, List.foldl_cons, List.foldl_nil, List.cons_append]
  rw [bt1_0]
theorem bt2_0 (a b : UInt8) : bt ⟨#[a, b]⟩ 0 = a.toNat := bt_at ⟨#[a, b]⟩ 0 (by show 0 < 2; decide)
theorem bt2_1 (a b : UInt8) : bt ⟨#[a, b]⟩ 1 = b.toNat := bt_at ⟨#[a, b]⟩ 1 (by show 1 < 2; decide)
theorem rdv2 (a b : UInt8) : rdv ⟨#[a, b]⟩ = sx a.toNat * 256 + b.toNat := by
  unfold rdv; rw [show (ByteArray.mk #[a, b]).size - 1 = 1 from rfl]
  simp only [List.range_succ, List.range_zero, List.nil_append, List.foldl_append, List.foldl_cons, List.foldl_nil, List.cons_append]
  rw [bt2_0, show bt ⟨#[a, b]⟩ (((0 : Nat) : Int) + 1) = _ from bt2_1 a b]
theorem bt3_0 (a b c : UInt8) : bt ⟨#[a, b, c]⟩ 0 = a.toNat := bt_at ⟨#[a, b, c]⟩ 0 (by show 0 < 3; decide)
theorem bt3_1 (a b c : UInt8) : bt ⟨#[a, b, c]⟩ 1 = b.toNat := bt_at ⟨#[a, b, c]⟩ 1 (by show 1 < 3; decide)
theorem bt3_2 (a b c : UInt8) : bt ⟨#[a, b, c]⟩ 2 = c.toNat := bt_at ⟨#[a, b, c]⟩ 2 (by show 2 < 3; decide)
theorem rdv3 (a b c : UInt8) : rdv ⟨#[a, b, c]⟩ = (sx a.toNat * 256 + b.toNat) * 256 + c.toNat := by
  unfold rdv; rw [show (ByteArray.mk #[a, b, c]).size - 1 = 2 from rfl]
  simp only [List.range_succ, List.range_zero, List.nil_append, List.foldl_append, List.foldl_cons, List.foldl_nil, List.cons_append]
  rw [bt3_0, show bt ⟨#[a, b, c]⟩ (((0 : Nat) : Int) + 1) = _ from bt3_1 a b c, show bt ⟨#[a, b, c]⟩ (((1 : Nat) : Int) + 1) = _ from bt3_2 a b c]
theorem bt4_0 (a b c d : UInt8) : bt ⟨#[a, b, c, d]⟩ 0 = a.toNat := bt_at ⟨#[a, b, c, d]⟩ 0 (by show 0 < 4; decide)
theorem bt4_1 (a b c d : UInt8) : bt ⟨#[a, b, c, d]⟩ 1 = b.toNat := bt_at ⟨#[a, b, c, d]⟩ 1 (by show 1 < 4; decide)
theorem bt4_2 (a b c d : UInt8) : bt ⟨#[a, b, c, d]⟩ 2 = c.toNat := bt_at ⟨#[a, b, c, d]⟩ 2 (by show 2 < 4; decide)
theorem bt4_3 (a b c d : UInt8) : bt ⟨#[a, b, c, d]⟩ 3 = d.toNat := bt_at ⟨#[a, b, c, d]⟩ 3 (by show 3 < 4; decide)
theorem rdv4 (a b c d : UInt8) : rdv ⟨#[a, b, c, d]⟩ = ((sx a.toNat * 256 + b.toNat) * 256 + c.toNat) * 256 + d.toNat := by
  unfold rdv; rw [show (ByteArray.mk #[a, b, c, d]).size - 1 = 3 from rfl]
  simp only [List.range_succ, List.range_zero, List.nil_append, List.foldl_append, List.foldl_cons, List.foldl_nil, List.cons_append]
  rw [bt4_0, show bt ⟨#[a, b, c, d]⟩ (((0 : Nat) : Int) + 1) = _ from bt4_1 a b c d, show bt ⟨#[a, b, c, d]⟩ (((1 : Nat) : Int) + 1) = _ from bt4_2 a b c d, show bt ⟨#[a, b, c, d]⟩ (((2 : Nat) : Int) + 1) = _ from bt4_3 a b c d]
theorem sx_mod (a : UInt8) : sx a.toNat % 256 = a.toNat ∧ -128 ≤ sx a.toNat ∧ sx a.toNat < 128 := by
  have := a.toNat_lt
  unfold sx
  split <;> omega
theorem u8_of (x : Int) (a : UInt8) (h : x = a.toNat) : UInt8.ofNat x.toNat = a := by subst h; simp
/-- A text of one to four bytes. -/
theorem some_bytes (s : ByteArray) (h1 : 1 ≤ s.size) (h4 : s.size ≤ 4) :
    (∃ a, s = ⟨#[a]⟩) ∨ (∃ a b, s = ⟨#[a, b]⟩) ∨ (∃ a b c, s = ⟨#[a, b, c]⟩) ∨ (∃ a b c d, s = ⟨#[a, b, c, d]⟩) := by
  obtain ⟨⟨l⟩⟩ := s
  simp only [ByteArray.size, List.size_toArray] at h1 h4
  match l, h1, h4 with
  | [a], _, _ => exact .inl ⟨a, rfl⟩
  | [a, b], _, _ => exact .inr (.inl ⟨a, b, rfl⟩)
  | [a, b, c], _, _ => exact .inr (.inr (.inl ⟨a, b, c, rfl⟩))
  | [a, b, c, d], _, _ => exact .inr (.inr (.inr ⟨a, b, c, d, rfl⟩))
  | _ :: _ :: _ :: _ :: _ :: _, _, h => simp at h
/-- The bytes of what some bytes say are these. -/
theorem byts_rdv (s : ByteArray) (h1 : 1 ≤ s.size) (h4 : s.size ≤ 4) : strOfNums (byts s.size (rdv s)) = s := by
  rcases some_bytes s h1 h4 with ⟨a, rfl⟩ | ⟨a, b, rfl⟩ | ⟨a, b, c, rfl⟩ | ⟨a, b, c, d, rfl⟩
  · have ha := sx_mod a
    rw [rdv1, show (ByteArray.mk #[a]).size = 1 from rfl, byts1]
    simp only [strOfNums, List.map_cons, List.map_nil]
    rw [u8_of _ a (by omega)]
  · have ha := sx_mod a; have hb := b.toNat_lt
    rw [rdv2, show (ByteArray.mk #[a, b]).size = 2 from rfl, byts2]
    simp only [strOfNums, List.map_cons, List.map_nil]
    rw [u8_of _ a (by omega), u8_of _ b (by omega)]
  · have ha := sx_mod a; have hb := b.toNat_lt; have hc := c.toNat_lt
    rw [rdv3, show (ByteArray.mk #[a, b, c]).size = 3 from rfl, byts3]
    simp only [strOfNums, List.map_cons, List.map_nil]
    rw [u8_of _ a (by omega), u8_of _ b (by omega), u8_of _ c (by omega)]
  · have ha := sx_mod a; have hb := b.toNat_lt; have hc := c.toNat_lt; have hd := d.toNat_lt
    rw [rdv4, show (ByteArray.mk #[a, b, c, d]).size = 4 from rfl, byts4]
    simp only [strOfNums, List.map_cons, List.map_nil]
    rw [u8_of _ a (by omega), u8_of _ b (by omega), u8_of _ c (by omega), u8_of _ d (by omega)]
theorem byts_len (k : Nat) (n : Int) : (byts k n).length = k := by simp [byts]
theorem Int_size (n : Int) (k : Nat) : (strOfNums (byts k n)).size = k := by rw [son_size, byts_len]
theorem rdv_bd (s : ByteArray) (h1 : 1 ≤ s.size) (h4 : s.size ≤ 4) : -2147483648 ≤ rdv s ∧ rdv s < 2147483648 := by
  rcases some_bytes s h1 h4 with ⟨a, rfl⟩ | ⟨a, b, rfl⟩ | ⟨a, b, c, rfl⟩ | ⟨a, b, c, d, rfl⟩
  · have ha := sx_mod a; rw [rdv1]; omega
  · have ha := sx_mod a; have hb := b.toNat_lt; rw [rdv2]; omega
  · have ha := sx_mod a; have hb := b.toNat_lt; have hc := c.toNat_lt; rw [rdv3]; omega
  · have ha := sx_mod a; have hb := b.toNat_lt; have hc := c.toNat_lt; have hd := d.toNat_lt; rw [rdv4]; omega
theorem wid_ne {n : Int} (h : -2147483648 ≤ n ∧ n < 2147483648) : wid n ≠ 0 := fun e => by have := wid_zero e; omega
/-- What a number fits in. -/
theorem wid_bd (n : Int) (h : wid n ≠ 0) : (wid n = 1 ∧ -128 ≤ n ∧ n < 128) ∨ (wid n = 2 ∧ -32768 ≤ n ∧ n < 32768 ∧ ¬ (-128 ≤ n ∧ n < 128)) ∨ (wid n = 3 ∧ -8388608 ≤ n ∧ n < 8388608 ∧ ¬ (-32768 ≤ n ∧ n < 32768)) ∨ (wid n = 4 ∧ -2147483648 ≤ n ∧ n < 2147483648 ∧ ¬ (-8388608 ≤ n ∧ n < 8388608)) := by
  unfold wid at h ⊢
  by_cases c1 : -128 ≤ n ∧ n < 128
  · left; simp [c1]
  by_cases c2 : -32768 ≤ n ∧ n < 32768
  · right; left; rw [if_neg c1, if_pos c2]; exact ⟨rfl, c2.1, c2.2, c1⟩
  by_cases c3 : -8388608 ≤ n ∧ n < 8388608
  · right; right; left; rw [if_neg c1, if_neg c2, if_pos c3]; exact ⟨rfl, c3.1, c3.2, c2⟩
  by_cases c4 : -2147483648 ≤ n ∧ n < 2147483648
  · right; right; right; rw [if_neg c1, if_neg c2, if_neg c3, if_pos c4]; exact ⟨rfl, c4.1, c4.2, c3⟩
  · rw [if_neg c1, if_neg c2, if_neg c3, if_neg c4] at h; exact absurd rfl h
theorem sx_of (x : Int) (h : 0 ≤ x) (h2 : x < 256) : sx (UInt8.ofNat x.toNat).toNat = if x < 128 then x else x - 256 := by
  have : ((UInt8.ofNat x.toNat).toNat : Int) = x := by rw [UInt8.toNat_ofNat']; omega
  rw [this]; rfl
theorem of_nat (x : Int) (h : 0 ≤ x) (h2 : x < 256) : ((UInt8.ofNat x.toNat).toNat : Int) = x := by rw [UInt8.toNat_ofNat']; omega
/-- A number is read from its bytes. -/
theorem rdv_byts (n : Int) (h : wid n ≠ 0) : rdv (strOfNums (byts (wid n) n)) = n := by
  rcases wid_bd n h with ⟨e, h1, h2⟩ | ⟨e, h1, h2, _⟩ | ⟨e, h1, h2, _⟩ | ⟨e, h1, h2, _⟩
  · rw [e, byts1]
    simp only [strOfNums, List.map_cons, List.map_nil]
    rw [rdv1, sx_of _ (by omega) (by omega)]; split <;> omega
  · rw [e, byts2]
    simp only [strOfNums, List.map_cons, List.map_nil]
    rw [rdv2, sx_of _ (by omega) (by omega), of_nat _ (by omega) (by omega)]; split <;> omega
  · rw [e, byts3]
    simp only [strOfNums, List.map_cons, List.map_nil]
    rw [rdv3, sx_of _ (by omega) (by omega), of_nat _ (by omega) (by omega), of_nat _ (by omega) (by omega)]; split <;> omega
  · rw [e, byts4]
    simp only [strOfNums, List.map_cons, List.map_nil]
    rw [rdv4, sx_of _ (by omega) (by omega), of_nat _ (by omega) (by omega), of_nat _ (by omega) (by omega), of_nat _ (by omega) (by omega)]; split <;> omega
theorem okInt_byts (n : Int) (h : wid n ≠ 0) : okInt (strOfNums (byts (wid n) n)) = true := by
  unfold okInt
  rw [Int_size, rdv_byts n h]
  have := wid_le n
  exact decide_eq_true ⟨by omega, this, rfl⟩
theorem shown_true : latinerlaw03_shown.f = some true := by decide +kernel
theorem cut_10 (s : ByteArray) : ∃ t, latinerlaw03_cut.f s = some t ∧ t.size ≤ 10 := by
  unfold latinerlaw03_cut.f
  have h : 0 ≤ mn (s.size : Int) 10 ∧ mn (s.size : Int) 10 ≤ s.size ∧ mn (s.size : Int) 10 ≤ 10 := by unfold mn; split <;> omega
  rw [if_pos h.1, if_pos h.2.1]
  exact ⟨_, rfl, by simp; omega⟩
theorem ri_step {k : Nat} {s : ByteArray} {x4 x5 i : Int} (hi : i < s.size) (h0 : 0 ≤ i) (hi2 : i < 100) (b1 : 0 ≤ x4) (b2 : x4 < 1099511627776) (b3 : 0 ≤ x5) (b4 : x5 < 1099511627776) :
    latinerref03_ReadInt.l0 (k + 1) s x4 x5 i = latinerref03_ReadInt.l0 k s (256 * x4 + bt s i) (256 * x5) (i + 1) := by
  have hb : 0 ≤ bt s i ∧ bt s i ≤ 255 := by rw [bt_at s i (by omega)]; have := (s[i.toNat]'(by omega)).toNat_lt; omega
  simp only [latinerref03_ReadInt.l0]
  rw [if_pos hi, if_pos h0, w64' (n := 256 * x4) (by omega) (by omega), w64' (n := 256 * x5) (by omega) (by omega), w64' (n := i + 1) (by omega) (by omega), w64' (n := bt s i) (by omega) (by omega), w64' (by omega) (by omega)]
theorem ri_end {k : Nat} {s : ByteArray} {x4 x5 : Int} (h1 : 1 ≤ s.size) (h4 : s.size ≤ 4) (hk : 40 ≤ k) (b1 : 0 ≤ x4) (b2 : x4 < 1099511627776) (b3 : 0 ≤ x5) (b4 : x5 < 1099511627776)
    (hv : (if bt s 0 ≥ 128 then x4 - x5 else x4) = rdv s) : latinerref03_ReadInt.l0 (k + 1) s x4 x5 s.size = prim_ReadInt.f s := by
  have hw := wid_ne (rdv_bd s h1 h4)
  have fin : ((latinerref03_Int.f k (rdv s)).bind fun bt115 => (if bt115.2 = 0 then (if bt115.1.toList = s.toList then (some (rdv s, 0)) else (some (0, 30))) else (some (0, 30)))) = prim_ReadInt.f s := by
    rw [ref_Int _ k hk]
    unfold prim_Int.f prim_ReadInt.f
    rw [if_neg hw]
    simp only [Option.bind_some, if_true]
    by_cases e : wid (rdv s) = s.size
    · rw [e, byts_rdv s h1 h4, if_pos rfl, if_pos (show okInt s = true from decide_eq_true ⟨h1, h4, e⟩)]
    · rw [if_neg, if_neg]
      · intro h; exact e (of_decide_eq_true h).2.2
      · intro h
        have h2 := congrArg List.length h
        rw [son_list, List.length_map, byts_len, Lib.toList_data] at h2
        exact e (by rw [h2]; rfl)
  simp only [latinerref03_ReadInt.l0]
  rw [if_neg (Int.lt_irrefl _), if_pos (by omega)]
  split
  · rename_i hb; rw [if_pos hb] at hv; rw [w64' (by omega) (by omega), hv]; exact fin
  · rename_i hb; rw [if_neg hb] at hv; rw [hv]; exact fin
theorem sx_le (a : UInt8) : (sx a.toNat = a.toNat ∧ a.toNat < 128) ∨ (sx a.toNat = a.toNat - 256 ∧ 128 ≤ a.toNat) := by unfold sx; split <;> omega
/-- The reference's reading is the program's. -/
theorem ref_ReadInt (s : ByteArray) (k : Nat) (hk : 60 ≤ k) : latinerref03_ReadInt.f k s = prim_ReadInt.f s := by
  obtain ⟨k, rfl⟩ : ∃ q, k = q + 6 := ⟨k - 6, by omega⟩
  unfold latinerref03_ReadInt.f
  by_cases h0 : (s.size : Int) < 1
  · rw [if_pos h0]; simp only [latinerref03_ReadInt.j0, if_true]
    unfold prim_ReadInt.f; rw [if_neg]; intro h; have := (of_decide_eq_true h).1; omega
  rw [if_neg h0]
  by_cases h5 : (s.size : Int) > 4
  · simp only [h5, decide_true, latinerref03_ReadInt.j0, if_true]
    unfold prim_ReadInt.f; rw [if_neg]; intro h; have := (of_decide_eq_true h).2.1; omega
  simp only [h5, decide_false, latinerref03_ReadInt.j0, if_false, Bool.false_eq_true]
  have h1 : 1 ≤ s.size := by omega
  have h4 : s.size ≤ 4 := by omega
  rcases some_bytes s h1 h4 with ⟨a, e⟩ | ⟨a, b, e⟩ | ⟨a, b, c, e⟩ | ⟨a, b, c, d, e⟩
  · have ha := a.toNat_lt; have sa := sx_le a
    have hz : (s.size : Int) = 1 := by rw [e]; rfl
    have hr := rdv1 a; rw [← e] at hr
    have e0 := bt1_0 a; rw [← e] at e0
    rw [ri_step (by omega) (by decide) (by decide) (by decide) (by decide) (by decide) (by decide), e0]
    rw [show (0 : Int) + 1 = s.size by omega]
    refine ri_end h1 h4 (by omega) (by omega) (by omega) (by decide) (by decide) ?_
    rw [e0, hr]; split <;> omega
  · have ha := a.toNat_lt; have hb := b.toNat_lt; have sa := sx_le a
    have hz : (s.size : Int) = 2 := by rw [e]; rfl
    have hr := rdv2 a b; rw [← e] at hr
    have e0 := bt2_0 a b; rw [← e] at e0
    have e1 := bt2_1 a b; rw [← e] at e1
    rw [ri_step (by omega) (by decide) (by decide) (by decide) (by decide) (by decide) (by decide), e0]
    rw [ri_step (by omega) (by decide) (by decide) (by omega) (by omega) (by decide) (by decide), show (0 : Int) + 1 = 1 from rfl, e1]
    rw [show (1 : Int) + 1 = s.size by omega]
    refine ri_end h1 h4 (by omega) (by omega) (by omega) (by decide) (by decide) ?_
    rw [e0, hr]; split <;> omega
  · have ha := a.toNat_lt; have hb := b.toNat_lt; have hc := c.toNat_lt; have sa := sx_le a
    have hz : (s.size : Int) = 3 := by rw [e]; rfl
    have hr := rdv3 a b c; rw [← e] at hr
    have e0 := bt3_0 a b c; rw [← e] at e0
    have e1 := bt3_1 a b c; rw [← e] at e1
    have e2 := bt3_2 a b c; rw [← e] at e2
    rw [ri_step (by omega) (by decide) (by decide) (by decide) (by decide) (by decide) (by decide), e0]
    rw [ri_step (by omega) (by decide) (by decide) (by omega) (by omega) (by decide) (by decide), show (0 : Int) + 1 = 1 from rfl, e1]
    rw [ri_step (by omega) (by decide) (by decide) (by omega) (by omega) (by decide) (by decide), show (1 : Int) + 1 = 2 from rfl, e2]
    rw [show (2 : Int) + 1 = s.size by omega]
    refine ri_end h1 h4 (by omega) (by omega) (by omega) (by decide) (by decide) ?_
    rw [e0, hr]; split <;> omega
  · have ha := a.toNat_lt; have hb := b.toNat_lt; have hc := c.toNat_lt; have hd := d.toNat_lt; have sa := sx_le a
    have hz : (s.size : Int) = 4 := by rw [e]; rfl
    have hr := rdv4 a b c d; rw [← e] at hr
    have e0 := bt4_0 a b c d; rw [← e] at e0
    have e1 := bt4_1 a b c d; rw [← e] at e1
    have e2 := bt4_2 a b c d; rw [← e] at e2
    have e3 := bt4_3 a b c d; rw [← e] at e3
    rw [ri_step (by omega) (by decide) (by decide) (by decide) (by decide) (by decide) (by decide), e0]
    rw [ri_step (by omega) (by decide) (by decide) (by omega) (by omega) (by decide) (by decide), show (0 : Int) + 1 = 1 from rfl, e1]
    rw [ri_step (by omega) (by decide) (by decide) (by omega) (by omega) (by decide) (by decide), show (1 : Int) + 1 = 2 from rfl, e2]
    rw [ri_step (by omega) (by decide) (by decide) (by omega) (by omega) (by decide) (by decide), show (2 : Int) + 1 = 3 from rfl, e3]
    rw [show (3 : Int) + 1 = s.size by omega]
    refine ri_end h1 h4 (by omega) (by omega) (by omega) (by decide) (by decide) ?_
    rw [e0, hr]; split <;> omega
end Go.Proofs.YtmfnenlinhljkaaDoor.Pure
