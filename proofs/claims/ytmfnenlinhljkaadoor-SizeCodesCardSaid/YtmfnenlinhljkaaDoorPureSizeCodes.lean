import Derived.Test.YtmfnenlinhljkaaDoorLSizex2
import Derived.Test.YtmfnenlinhljkaaDoorPureSizeBase2
namespace Go.Proofs.YtmfnenlinhljkaaDoor.Pure
set_option linter.unusedSimpArgs false
set_option linter.unusedVariables false
open Go.RowKit Go.Proofs.YtmfnenlinhljkaaDoor.LSize Go.Proofs.YtmfnenlinhljkaaDoor.ExtSize Go.Proofs.YtmfnenlinhljkaaDoor.Size Go.Proofs.YtmfnenlinhljkaaDoorW.PrintWords Go.Proofs.YtmfnenlinhljkaaDoorW.PrintLast
theorem re_step {k : Nat} {n : Int} {acc : ByteArray} (h : 0 < n) (hm : n < 1099511627776) (ha : acc.size ≤ 100) :
    latinerref01_Encode.l0 (k + 1) n acc = latinerref01_Encode.l0 k (n / 256) (strOfNums [n % 256] ++ acc) := by
  simp only [latinerref01_Encode.l0]
  rw [if_pos h]
  simp only [Option.bind_some]
  rw [Int.tmod_eq_emod_of_nonneg (by omega), Int.tdiv_eq_ediv_of_nonneg (by omega), Int.emod_emod_of_dvd _ (by decide), if_pos (by rw [son_size]; simp; omega), w64' (by omega) (by omega)]
theorem re_end {k : Nat} {acc : ByteArray} (ha : acc.size ≤ 100) :
    latinerref01_Encode.l0 (k + 1) 0 acc = some (strOfNums [128 + (acc.size : Int)] ++ acc, 0) := by
  simp only [latinerref01_Encode.l0]
  rw [if_neg (by decide)]
  simp only [Option.bind_some]
  rw [if_pos (by rw [son_size]; simp; omega), w64' (by omega) (by omega), Int.emod_eq_of_lt (by omega) (by omega)]
theorem son_app1 (x : Int) (xs : List Int) : strOfNums [x] ++ strOfNums xs = strOfNums (x :: xs) := by apply ByteArray.ext; simp [strOfNums]
theorem ref_Encode (n : Int) (k : Nat) (hk : 20 ≤ k) : latinerref01_Encode.f k n = some (encS n, encE n) := by
  obtain ⟨k, rfl⟩ : ∃ q, k = q + 8 := ⟨k - 8, by omega⟩
  unfold latinerref01_Encode.f
  by_cases hb : n < 0 ∨ 16777215 < n
  · rw [(encS_bad hb).1, (encS_bad hb).2]
    by_cases h0 : n < 0
    · rw [if_pos h0]; simp [latinerref01_Encode.j0]
    · rw [if_neg h0, decide_eq_true (by omega)]; simp [latinerref01_Encode.j0]
  rw [if_neg (by omega), decide_eq_false (by omega), encE_ok hb]
  simp only [latinerref01_Encode.j0, Bool.false_eq_true, if_false]
  have e0 : ∀ m, strOfNums [m] ++ (⟨#[]⟩ : ByteArray) = strOfNums [m] := fun m => by apply ByteArray.ext; simp
  rcases enc_cases n hb with ⟨h1, e⟩ | ⟨h1, h2, e⟩ | ⟨h1, h2, e⟩ | ⟨h1, h2, e⟩
  · rw [if_pos h1, e, Int.emod_eq_of_lt (by omega) (by omega)]
  · rw [if_neg (by omega), re_step (by omega) (by omega) (by decide), e0, show n / 256 = 0 by omega, re_end (by rw [son_size]; show 1 ≤ 100; decide), son_size, son_app1, e]
    rfl
  · rw [if_neg (by omega), re_step (by omega) (by omega) (by decide), e0, re_step (by omega) (by omega) (by rw [son_size]; show 1 ≤ 100; decide), son_app1, show n / 256 / 256 = 0 by omega, re_end (by rw [son_size]; show 2 ≤ 100; decide), son_size, son_app1, e]
    rfl
  · rw [if_neg (by omega), re_step (by omega) (by omega) (by decide), e0, re_step (by omega) (by omega) (by rw [son_size]; show 1 ≤ 100; decide), son_app1, re_step (by omega) (by omega) (by rw [son_size]; show 2 ≤ 100; decide), son_app1, show n / 256 / 256 / 256 = 0 by omega, re_end (by rw [son_size]; show 3 ≤ 100; decide), son_size, son_app1, e,
      show n / 256 / 256 = n / 65536 by omega]
    rfl
theorem rd_step {k : Nat} {s : ByteArray} {i x7 x8 x9 : Int} (h9 : x9 ≤ x7 - 128) (b7 : 0 ≤ x7) (b7' : x7 ≤ 255) (b9 : 1 ≤ x9) (bi : 0 ≤ i) (hi : i + x9 < s.size) (hs : s.size ≤ 1000) (b8 : 0 ≤ x8) (b8' : x8 < 1099511627776) :
    latinerref01_Decode.l0 (k + 1) s i x7 x8 x9 = latinerref01_Decode.l0 k s i x7 (256 * x8 + bt s (i + x9)) (x9 + 1) := by
  have hb := bt_bd s (i + x9)
  simp only [latinerref01_Decode.l0]
  rw [w64' (n := x7 - 128) (by omega) (by omega), if_pos h9, w64' (n := i + x9) (by omega) (by omega), if_pos (by omega), if_pos hi, w64' (n := 256 * x8) (by omega) (by omega), w64' (n := bt s (i + x9)) (by omega) (by omega), w64' (n := x9 + 1) (by omega) (by omega), w64' (by omega) (by omega)]
theorem rd_end {k : Nat} {s : ByteArray} {i x7 x8 x9 : Int} (h9 : x7 - 128 < x9) (b7 : 0 ≤ x7) (b7' : x7 ≤ 255) (bi : 0 ≤ i) (hi : i ≤ 1000) :
    latinerref01_Decode.l0 (k + 1) s i x7 x8 x9 = some (if 16777215 < x8 then (0, 0, 12) else (x8, i + 1 + (x7 - 128), 0)) := by
  simp only [latinerref01_Decode.l0]
  rw [w64' (n := x7 - 128) (by omega) (by omega), if_neg (by omega)]
  by_cases h : 16777215 < x8
  · rw [if_pos h, if_pos h]
  · rw [if_neg h, if_neg h, w64' (n := i + 1) (by omega) (by omega), w64' (n := i + 1 + x7) (by omega) (by omega), w64' (by omega) (by omega), show i + 1 + x7 - 128 = i + 1 + (x7 - 128) by omega]
theorem rd_run (s : ByteArray) (i : Int) (hs : s.size ≤ 1000) (bi : 0 ≤ i) : ∀ (d k j : Nat) (m : Nat), j + d = m → m ≤ 4 → i + 1 + m ≤ s.size → d + 1 ≤ k →
    latinerref01_Decode.l0 k s i (128 + m) (vl s (i + 1) j) (j + 1) = some (if 16777215 < vl s (i + 1) m then (0, 0, 12) else (vl s (i + 1) m, i + 1 + (m : Int), 0)) := by
  intro d
  induction d with
  | zero =>
    intro k j m h1 h2 h3 h4
    obtain ⟨k, rfl⟩ : ∃ q, k = q + 1 := ⟨k - 1, by omega⟩
    obtain rfl : j = m := by omega
    rw [rd_end (by omega) (by omega) (by omega) bi (by omega), show (128 : Int) + j - 128 = j by omega]
  | succ d ih =>
    intro k j m h1 h2 h3 h4
    obtain ⟨k, rfl⟩ : ∃ q, k = q + 1 := ⟨k - 1, by omega⟩
    have hv := vl_bd s (i + 1) j
    have hv2 : vl s (i + 1) j < 4294967296 := by
      rcases (show j = 0 ∨ j = 1 ∨ j = 2 ∨ j = 3 by omega) with rfl | rfl | rfl | rfl
      · have : vl s (i + 1) 0 < 1 := hv.2; omega
      · have : vl s (i + 1) 1 < 256 := hv.2; omega
      · have : vl s (i + 1) 2 < 65536 := hv.2; omega
      · have : vl s (i + 1) 3 < 16777216 := hv.2; omega
    rw [rd_step (by omega) (by omega) (by omega) (by omega) bi (by omega) hs hv.1 (by omega)]
    have e : 256 * vl s (i + 1) j + bt s (i + (j + 1)) = vl s (i + 1) (j + 1) := by
      rw [vl_succ, show i + 1 + (j : Int) = i + (j + 1) by omega]; omega
    rw [e]
    exact ih k (j + 1) m (by omega) h2 h3 (by omega)
theorem ref_Decode (s : ByteArray) (i : Int) (hs : s.size ≤ 1000) (k : Nat) (hk : 20 ≤ k) : latinerref01_Decode.f k s i = some (decS s i) := by
  obtain ⟨k, rfl⟩ : ∃ q, k = q + 2 := ⟨k - 2, by omega⟩
  have hb := bt_bd s i
  have hin : 0 ≤ i → i < s.size → latinerref01_Decode.f (k + 2) s i = (if bt s i < 128 then some (bt s i, i + 1, 0) else if bt s i = 128 then latinerref01_Decode.j1 (k + 1) s i (bt s i) true else latinerref01_Decode.j1 (k + 1) s i (bt s i) (decide (bt s i > 132))) := by
    intro h0 h1
    unfold latinerref01_Decode.f
    rw [if_neg (by omega), decide_eq_false (by omega)]
    simp only [latinerref01_Decode.j0, Bool.false_eq_true, if_false]
    rw [if_pos h0, if_pos h1, w64' (n := bt s i) (by omega) (by omega), w64' (n := i + 1) (by omega) (by omega)]
  have hj1 : ∀ x, latinerref01_Decode.j1 (k + 1) s i x true = some (0, 0, 11) := fun x => by simp [latinerref01_Decode.j1]
  rcases dec_cases s i with ⟨e, h⟩ | ⟨h0, h1, h2, e⟩ | ⟨h0, h1, h2, e⟩ | ⟨h0, h1, h2, h3, h4, e⟩ | ⟨m, k1, k4, hm, h0, h1, h2, e⟩ | ⟨m, k1, k4, hm, h0, h1, h2, e⟩
  · rw [e]
    unfold latinerref01_Decode.f
    by_cases h0 : i < 0
    · rw [if_pos h0]; simp [latinerref01_Decode.j0]
    · rw [if_neg h0, decide_eq_true (by omega)]; simp [latinerref01_Decode.j0]
  · rw [e, hin h0 h1, if_pos h2]
  · rw [e, hin h0 h1, if_neg (by omega)]
    by_cases h3 : bt s i = 128
    · rw [if_pos h3, hj1]
    · rw [if_neg h3, decide_eq_true (by omega), hj1]
  · rw [e, hin h0 h1, if_neg (by omega), if_neg (by omega), decide_eq_false (by omega)]
    simp only [latinerref01_Decode.j1, Bool.false_eq_true, if_false]
    rw [w64' (n := (s.size : Int) - i) (by omega) (by omega), w64' (n := (s.size : Int) - i - 1) (by omega) (by omega), w64' (n := bt s i - 128) (by omega) (by omega), if_pos (by omega)]
  · rw [e, hin h0 (by omega), if_neg (by omega), if_neg (by omega), decide_eq_false (by omega)]
    simp only [latinerref01_Decode.j1, Bool.false_eq_true, if_false]
    rw [w64' (n := (s.size : Int) - i) (by omega) (by omega), w64' (n := (s.size : Int) - i - 1) (by omega) (by omega), w64' (n := bt s i - 128) (by omega) (by omega), if_neg (by omega), hm]
    have := rd_run s i hs h0 m k 0 m (by omega) k4 h1 (by omega)
    rw [vl0] at this
    have this : latinerref01_Decode.l0 k s i (128 + m) 0 1 = _ := this
    rw [this, if_pos h2]
  · rw [e, hin h0 (by omega), if_neg (by omega), if_neg (by omega), decide_eq_false (by omega)]
    simp only [latinerref01_Decode.j1, Bool.false_eq_true, if_false]
    rw [w64' (n := (s.size : Int) - i) (by omega) (by omega), w64' (n := (s.size : Int) - i - 1) (by omega) (by omega), w64' (n := bt s i - 128) (by omega) (by omega), if_neg (by omega), hm]
    have := rd_run s i hs h0 m k 0 m (by omega) k4 h1 (by omega)
    rw [vl0] at this
    have this : latinerref01_Decode.l0 k s i (128 + m) 0 1 = _ := this
    rw [this, if_neg (by omega)]
theorem ext_bt (a b : ByteArray) (hz : a.size = b.size) (h : ∀ j : Nat, j < a.size → bt a j = bt b j) : a = b := by
  apply ByteArray.ext
  apply Array.ext
  · exact hz
  · intro j h1 h2
    have := h j h1
    rw [bt_at a j (by rw [Int.toNat_natCast]; exact h1), bt_at b j (by rw [Int.toNat_natCast]; exact h2)] at this
    exact UInt8.toNat_inj.1 (by exact_mod_cast this)
theorem ext_at (s : ByteArray) (i n : Nat) (j : Nat) (h1 : i + j < n) (h2 : n ≤ s.size) : bt (s.extract i n) j = bt s ((i : Int) + j) := by
  have hl : ((j : Int)).toNat < (s.extract i n).size := by rw [ByteArray.size_extract]; omega
  rw [bt_at _ _ hl, bt_at s _ (by omega)]
  congr 2
  have key : ∀ (m : Nat) (hm : m < s.size), m = i + j → (s.extract i n)[((j : Int)).toNat]'hl = s[m]'hm := by
    rintro m hm rfl
    rw [ByteArray.getElem_extract]
    congr 1
  exact key _ _ (by omega)
theorem enc_of_dec (s : ByteArray) (i : Int) (h : (decS s i).2.2 = 0) (hk : (decS s i).2.1 - i = ((encS (decS s i).1).size : Int)) : s.extract i.toNat (decS s i).2.1.toNat = encS (decS s i).1 := by
  obtain ⟨hn, h0, h1, h2, h3, h4⟩ := dec_ok s i h
  have hz : (s.extract i.toNat (decS s i).2.1.toNat).size = (encS (decS s i).1).size := by rw [ByteArray.size_extract]; omega
  refine ext_bt _ _ hz fun j hj => ?_
  rw [ext_at _ _ _ _ (by omega) (by omega), show ((i.toNat : Nat) : Int) = i by omega]
  rw [hz] at hj
  clear hz
  have hb := bt_bd s i
  rcases dec_cases s i with ⟨e, _⟩ | ⟨_, _, k1, e⟩ | ⟨_, _, _, e⟩ | ⟨_, _, _, _, _, e⟩ | ⟨_, _, _, _, _, _, _, e⟩ | ⟨k, k1, k4, hm, _, g1, g2, e⟩
  · rw [e] at h; exact absurd h (by decide)
  · rw [e] at hn hk hj ⊢
    simp only at hn hk hj ⊢
    have hs := enc_size _ hn
    rw [if_pos k1] at hs
    obtain rfl : j = 0 := by omega
    rcases enc_cases _ hn with ⟨_, e2⟩ | ⟨_, _, _⟩ | ⟨_, _, _⟩ | ⟨_, _, _⟩
    · rw [e2, bt_son [bt s i] 0 (bt s i) rfl (by omega) (by omega)]; simp
    all_goals omega
  · rw [e] at h; exact absurd h (by decide)
  · rw [e] at h; exact absurd h (by decide)
  · rw [e] at h; exact absurd h (by decide)
  · rw [e] at hn hk hj ⊢
    simp only at hn hk hj ⊢
    have c1 := bt_bd s (i + 1); have c2 := bt_bd s (i + 1 + 1); have c3 := bt_bd s (i + 1 + 2)
    rcases (show k = 1 ∨ k = 2 ∨ k = 3 ∨ k = 4 by omega) with rfl | rfl | rfl | rfl
    · rw [vl1] at hn hk hj ⊢
      rcases enc_cases _ hn with ⟨_, e2⟩ | ⟨_, _, e2⟩ | ⟨_, _, e2⟩ | ⟨_, _, e2⟩ <;> rw [e2, son_size] at hk hj <;> simp only [List.length_cons, List.length_nil] at hk hj <;> first | (exfalso; omega) | skip
      rw [e2]
      rcases (show j = 0 ∨ j = 1 by omega) with rfl | rfl
      · rw [bt_son _ 0 _ rfl (by omega) (by omega)]; simp only [Int.natCast_zero, Int.add_zero]; omega
      · rw [bt_son _ 1 _ rfl (by omega) (by omega), show i + ((1 : Nat) : Int) = i + 1 from rfl]; omega
    · rw [vl2] at hn hk hj ⊢
      rcases enc_cases _ hn with ⟨_, e2⟩ | ⟨_, _, e2⟩ | ⟨_, _, e2⟩ | ⟨_, _, e2⟩ <;> rw [e2, son_size] at hk hj <;> simp only [List.length_cons, List.length_nil] at hk hj <;> first | (exfalso; omega) | skip
      rw [e2]
      rcases (show j = 0 ∨ j = 1 ∨ j = 2 by omega) with rfl | rfl | rfl
      · rw [bt_son _ 0 _ rfl (by omega) (by omega)]; simp only [Int.natCast_zero, Int.add_zero]; omega
      · rw [bt_son _ 1 _ rfl (by omega) (by omega), show i + ((1 : Nat) : Int) = i + 1 from rfl]; omega
      · rw [bt_son _ 2 _ rfl (by omega) (by omega), show i + ((2 : Nat) : Int) = i + 1 + 1 by omega]; omega
    · rw [vl3] at hn hk hj ⊢
      rcases enc_cases _ hn with ⟨_, e2⟩ | ⟨_, _, e2⟩ | ⟨_, _, e2⟩ | ⟨_, _, e2⟩ <;> rw [e2, son_size] at hk hj <;> simp only [List.length_cons, List.length_nil] at hk hj <;> first | (exfalso; omega) | skip
      rw [e2]
      rcases (show j = 0 ∨ j = 1 ∨ j = 2 ∨ j = 3 by omega) with rfl | rfl | rfl | rfl
      · rw [bt_son _ 0 _ rfl (by omega) (by omega)]; simp only [Int.natCast_zero, Int.add_zero]; omega
      · rw [bt_son _ 1 _ rfl (by omega) (by omega), show i + ((1 : Nat) : Int) = i + 1 from rfl]; omega
      · rw [bt_son _ 2 _ rfl (by omega) (by omega), show i + ((2 : Nat) : Int) = i + 1 + 1 by omega]; omega
      · rw [bt_son _ 3 _ rfl (by omega) (by omega), show i + ((3 : Nat) : Int) = i + 1 + 2 by omega]; omega
    · have hs := enc_size _ hn
      have : (encS (vl s (i + 1) 4)).size ≤ 4 := by rw [hs]; split <;> (try split) <;> (try split) <;> omega
      omega
theorem ref_IsLeast (s : ByteArray) (i : Int) (hs : s.size ≤ 1000) (k : Nat) (hk : 20 ≤ k) : latinerref01_IsLeast.f k s i = size_IsLeast.f s i := by
  rw [least_f s i hs]
  unfold latinerref01_IsLeast.f
  rw [ref_Decode s i hs k hk]
  simp only [Option.bind_some]
  by_cases h : (decS s i).2.2 = 0
  · obtain ⟨hn, h0, h1, h2, h3, h4⟩ := dec_ok s i h
    rw [if_pos h, if_pos h, ref_Encode _ k hk]
    simp only [Option.bind_some]
    rw [if_pos h0, if_pos (by omega), if_pos h2]
    by_cases hk : (decS s i).2.1 - i = ((encS (decS s i).1).size : Int)
    · rw [enc_of_dec s i h hk, beq_iff_eq.2 hk]; simp
    · rw [beq_eq_false_iff_ne.2 hk]
      congr 1
      apply beq_eq_false_iff_ne.2
      intro e
      have e2 := congrArg List.length e
      rw [Lib.toList_data, Lib.toList_data] at e2
      have e3 : (s.extract i.toNat (decS s i).2.1.toNat).size = (encS (decS s i).1).size := e2
      rw [ByteArray.size_extract] at e3
      omega
  · rw [if_neg h, if_neg h]
theorem SizeCodes : latinerlaw01_SizeCodes.Pure := by
  intro n s i hn hs hi
  obtain ⟨p, hp, hpz⟩ := cut_100 s
  refine ⟨20, ?_⟩
  unfold latinerlaw01_SizeCodes.f latinerref01_Size.f
  rw [shown_true, hp]
  simp only [Option.bind_some]
  rw [show size_Encode.f n = some (encS n, encE n) from rfl, show size_Size.f n = some (((encS n).size : Int), encE n) from rfl, ref_Encode n 20 (by decide), dec_f p i (by omega), ref_Decode p i (by omega) 20 (by decide), ref_IsLeast p i (by omega) 20 (by decide), least_f p i (by omega)]
  simp
end Go.Proofs.YtmfnenlinhljkaaDoor.Pure
