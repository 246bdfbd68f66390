/- Which trees are right, which are the same, their bytes, trees of bytes are as the reference says. The card of the statement, out of the walk and the plain law. Conditions: none beyond the card's own (the listed package variables as the program's text lays them).
-/
import Derived.Test.YthnddhgkjkpmfaaDoorTTlvCodes7
/- The reference's trees of bytes, plainly: as the program's. -/
namespace Go.Proofs.YthnddhgkjkpmfaaDoor
set_option linter.unusedSimpArgs false
set_option linter.unusedVariables false
namespace Tlv
open Go.RowKit Go.Proofs.YthnddhgkjkpmfaaDoorW.PrintWords Go.Proofs.YthnddhgkjkpmfaaDoorW.PrintMore Go.Proofs.YthnddhgkjkpmfaaDoor.PureB Go.Proofs.YthnddhgkjkpmfaaDoor.KTlv Go.Proofs.YthnddhgkjkpmfaaDoor.ExtTlvC Go.Proofs.YthnddhgkjkpmfaaDoor.LTlvC
def RefAns (s : ByteArray) (r : Except Int Nd × Int × Int) (o : Option (Int × ByteArray × List Nd × Int × Int × ByteArray × Int)) : Prop :=
  match r with
  | (.ok y, a', n') => o = some (y.f0, y.f1, y.f2, a', 0, s, n')
  | (.error x, _, n') => o = some (0, ⟨#[]⟩, [], 0, x, s, n')
theorem read_f (s : ByteArray) (hs : s.size ≤ 100000) : ∀ (f : Nat) (a n e d : Int) (k : Nat), 0 ≤ a → a ≤ 1000000 → 0 ≤ n → n ≤ 200 → 0 ≤ e → e ≤ s.size → 1 ≤ d → d ≤ 1000 → 13 ≤ f + d → 204 * f + 30 ≤ k →
    RefAns s (rd s f a n e d) (latinerref02_reader_read.f k s n a e d) := by
  intro f
  induction f with
  | zero =>
    intro a n e d k ha ha2 hn hn2 he he2 hd1 hd2 hf hk
    obtain ⟨k, rfl⟩ : ∃ j, k = j + 1 + 1 := ⟨k - 2, by omega⟩
    have jt : latinerref02_reader_read.j0 (k + 1) a e d true s (n + 1) = some (0, ⟨#[]⟩, [], 0, 21, s, n + 1) := by simp only [latinerref02_reader_read.j0, if_true]
    rw [rd, latinerref02_reader_read.f, w64 (n := n + 1) (by omega) (by omega), decide_eq_true (show d > 12 by omega), jt, ite_self]
    exact rfl
  | succ f ih =>
    intro a n e d k ha ha2 hn hn2 he he2 hd1 hd2 hf hk
    obtain ⟨k, rfl⟩ : ∃ j, k = j + 1 + 1 := ⟨k - 2, by omega⟩
    have jt : latinerref02_reader_read.j0 (k + 1) a e d true s (n + 1) = some (0, ⟨#[]⟩, [], 0, 21, s, n + 1) := by simp only [latinerref02_reader_read.j0, if_true]
    rw [rd, latinerref02_reader_read.f, w64 (n := n + 1) (by omega) (by omega)]
    have hok := fun t te a' (h : hd s a n e d = (.ok (t, te), a')) => hd_ok h ha he2
    unfold hd at hok ⊢
    by_cases c1 : 200 < n + 1 ∨ 12 < d
    · rw [if_pos c1]
      have : (if n + 1 > 200 then latinerref02_reader_read.j0 (k + 1) a e d true s (n + 1) else latinerref02_reader_read.j0 (k + 1) a e d (decide (d > 12)) s (n + 1)) = some (0, ⟨#[]⟩, [], 0, 21, s, n + 1) := by
        by_cases h : n + 1 > 200
        · rw [if_pos h, jt]
        · rw [if_neg h, decide_eq_true (show d > 12 by omega), jt]
      rw [this]
      exact rfl
    rw [if_neg c1] at hok
    rw [if_neg c1, if_neg (show ¬ n + 1 > 200 by omega), decide_eq_false (show ¬ d > 12 by omega), latinerref02_reader_read.j0]
    simp only [Bool.false_eq_true, if_false]
    by_cases c2 : e - a < 1
    · rw [if_pos c2, if_pos (show a ≥ e by omega)]
      exact rfl
    have hb := bt_bd s a
    rw [if_neg c2] at hok
    rw [if_neg c2, if_neg (show ¬ a ≥ e by omega), if_pos ha, if_pos (show a < (s.size : Int) by omega), w64 (n := bt s a) (by omega) (by omega), Int.tmod_eq_emod_of_nonneg (by omega)]
    by_cases c3 : bt s a % 32 = 31
    · rw [if_pos c3, if_pos c3]
      exact rfl
    rw [if_neg c3] at hok
    have hez : (s.extract 0 e.toNat).size = e.toNat - 0 := extract_size s 0 e.toNat (by omega)
    rw [if_neg c3, if_neg c3, if_pos he, if_pos he2, w64 (n := a + 1) (by omega) (by omega), SizeQ.ref_Decode _ _ (by omega) k (by omega)]
    simp only [Option.bind_some]
    have hdo := SizeQ.dec_ok (s.extract 0 e.toNat) (a + 1)
    obtain ⟨D, hD⟩ : ∃ D, Size.decS (s.extract 0 e.toNat) (a + 1) = D := ⟨_, rfl⟩
    rw [hD] at hok hdo ⊢
    obtain ⟨d1, d2, d3⟩ := D
    simp only at hok hdo ⊢
    by_cases c4 : d3 ≠ 0
    · rw [if_pos c4, if_neg c4]
      exact rfl
    obtain ⟨g1, g2, g3, g4, g5, g6⟩ := hdo (by omega)
    rw [if_neg c4] at hok
    rw [if_neg c4, if_pos (show d3 = 0 by omega), w64 (n := e - d2) (by omega) (by omega)]
    by_cases c5 : e - d2 < d1
    · rw [if_pos c5, if_pos (show d1 > e - d2 by omega)]
      exact rfl
    rw [if_neg c5] at hok
    obtain ⟨e1, e2, e3, e4, e5, e6, e7, e8, e9⟩ := hok _ _ _ rfl
    rw [if_neg c5, if_neg (show ¬ d1 > e - d2 by omega), Int.tdiv_eq_ediv_of_nonneg (by omega), w64 (n := bt s a / 32) (by omega) (by omega), Int.tmod_eq_emod_of_nonneg (by omega), w64 (n := d2 + d1) (by omega) (by omega)]
    simp only
    clear hok jt
    generalize bt s a = t at *
    by_cases hi : inner t = true
    · have hi2 : t / 32 % 2 = 1 := by unfold inner at hi; simpa using hi
      rw [if_pos hi, if_neg (by omega)]
      have loop : ∀ (j : Nat) (acc : List Nd) (a n : Int) (k : Nat), acc.length + j = 201 → 0 ≤ a → a ≤ d2 + d1 → 0 ≤ n → n ≤ 200 → acc.length + 1 ≤ n → 204 * f + 30 + j + 1 ≤ k →
          RefAns s (rdK (fun a n => rd s f a n (d2 + d1) (d + 1)) t (d2 + d1) j acc a n) (latinerref02_reader_read.l0 k d d1 d2 a s n t ⟨#[]⟩ acc) := by
        intro j
        induction j with
        | zero => intro acc a n k hac _ _ _ hn2 hacn _; omega
        | succ j ihj =>
          intro acc a n k hac ha hate hn hn2 hacn hk
          obtain ⟨k, rfl⟩ : ∃ i, k = i + 1 := ⟨k - 1, by omega⟩
          rw [rdK, latinerref02_reader_read.l0, w64 (n := d2 + d1) (by omega) (by omega)]
          by_cases hlt : a < d2 + d1
          · rw [if_pos hlt, if_pos hlt, w64 (n := d + 1) (by omega) (by omega)]
            have hk1 := ih a n (d2 + d1) (d + 1) k ha (by omega) hn hn2 (by omega) (by omega) (by omega) (by omega) (by omega) (by omega)
            cases hq : rd s f a n (d2 + d1) (d + 1) with
            | mk r p =>
              obtain ⟨a2, n2⟩ := p
              rw [hq] at hk1
              cases r with
              | error x =>
                simp only [RefAns] at hk1
                have hx := rd_err _ _ _ _ _ _ _ _ hq
                simp only [hk1, Option.bind_some]
                rw [if_neg hx]
                exact rfl
              | ok y =>
                simp only [RefAns] at hk1
                obtain ⟨q1, q2, q3, q4, q5, q6⟩ := rd_ok f a n (d2 + d1) (d + 1) y a2 n2 ha hn (by omega) hq
                have hp := pre_pos (d + 1) y
                simp only [hk1, Option.bind_some, if_true]
                rw [if_pos (by omega), eta y]
                exact ihj (acc ++ [y]) a2 n2 k (by rw [List.length_append, List.length_singleton]; omega) (by omega) q3 (by omega) q5 (by rw [List.length_append, List.length_singleton]; omega) (by omega)
          · rw [if_neg hlt, if_neg hlt, show a = d2 + d1 by omega]
            exact rfl
      exact loop 201 [] d2 (n + 1) k rfl (by omega) e6 (by omega) e1 (by simp; omega) (by omega)
    · have hi2 : ¬ t / 32 % 2 = 1 := by unfold inner at hi; simpa using hi
      rw [if_neg hi, if_pos (by omega), if_pos (by omega), if_pos e6, if_pos (by omega)]
      exact rfl
theorem refdec_f (s : ByteArray) (a : Int) (hs : s.size ≤ 100000) (k : Nat) (hk : 4000 ≤ k) : latinerref02_Decode.f k s a = some ((dec s a).1.f0, (dec s a).1.f1, (dec s a).1.f2, (dec s a).2.1, (dec s a).2.2) := by
  obtain ⟨k, rfl⟩ : ∃ j, k = j + 1 := ⟨k - 1, by omega⟩
  have jt : latinerref02_Decode.j0 (k + 1) s a true = some (0, ⟨#[]⟩, [], 0, 10) := by simp only [latinerref02_Decode.j0, if_true]
  unfold latinerref02_Decode.f dec
  by_cases h0 : a < 0 ∨ (s.size : Int) < a
  · rw [if_pos h0]
    by_cases h1 : a < 0
    · rw [if_pos h1, jt]
      rfl
    · rw [if_neg h1, decide_eq_true (show a > (s.size : Int) by omega), jt]
      rfl
  · rw [if_neg h0, if_neg (by omega), decide_eq_false (show ¬ a > (s.size : Int) by omega), latinerref02_Decode.j0]
    simp only [Bool.false_eq_true, if_false]
    have ht := read_f s hs 13 a 0 s.size 1 k (by omega) (by omega) (by omega) (by omega) (by omega) (Int.le_refl _) (by omega) (by omega) (by omega) (by omega)
    cases hr : rd s 13 a 0 s.size 1 with
    | mk r q =>
      obtain ⟨a', n'⟩ := q
      rw [hr] at ht
      cases r with
      | error x =>
        simp only [RefAns] at ht
        have hx := rd_err _ _ _ _ _ _ _ _ hr
        simp only [ht, Option.bind_some]
        rw [if_neg hx]
        rfl
      | ok y =>
        simp only [RefAns] at ht
        obtain ⟨q1, q2, q3, q4, q5, q6⟩ := rd_ok 13 a 0 s.size 1 y a' n' (by omega) (Int.le_refl _) (Int.le_refl _) hr
        have hlen : (pre 1 y).length ≤ 200 := by omega
        have hri := right_iff q6 hlen
        obtain ⟨v, v1, v2, v3, v4, v5⟩ := long_f _ y (Nat.lt_succ_self _) ((few_iff y).1 (few_of_len (by omega))) (fun p hp => by have := data_le _ y (Nat.lt_succ_self _) 1 p hp; omega) k (by omega)
        simp only [ht, Option.bind_some, if_true]
        rw [v1]
        simp only [Option.bind_some]
        by_cases hy : right y = true
        · have h4 := hri.1 hy
          have := v4 (by omega)
          rw [if_pos hy, if_neg (by omega)]
        · have h4 : ¬ (laid y).size ≤ 4000 := fun h => hy (hri.2 h)
          have h5 : v > 4000 := by
            by_cases h6 : (laid y).size ≤ 4900
            · have := v4 h6; omega
            · have := v5 (by omega); omega
          rw [if_neg hy, if_pos h5]
          rfl
theorem refwhole_f (s : ByteArray) (hs : s.size ≤ 100000) (k : Nat) (hk : 4000 ≤ k) : latinerref02_Whole.f k s = some ((whole s).1.f0, (whole s).1.f1, (whole s).1.f2, (whole s).2) := by
  unfold latinerref02_Whole.f whole
  rw [refdec_f s 0 hs k hk]
  simp only [Option.bind_some]
  by_cases hz : (dec s 0).2.2 = 0
  · rw [if_pos hz]
    by_cases ha : (dec s 0).2.1 = (s.size : Int)
    · rw [if_pos ha, if_neg (by simp [ha])]
    · rw [if_neg ha, if_pos ⟨hz, ha⟩]
      rfl
  · rw [if_neg hz, if_neg (fun h => hz h.1)]
end Tlv
end Go.Proofs.YthnddhgkjkpmfaaDoor
-- Written by this repo's own program over the kit's printer: YthnddhgkjkpmfaaDoor.LTlvC
namespace Go.Proofs.YthnddhgkjkpmfaaDoor.LTlvC
open Go.Proofs.YthnddhgkjkpmfaaDoor.ExtTlvC
open Go.Proofs.YthnddhgkjkpmfaaDoor.KTlv
open Go.RowKit Go.Proofs.YthnddhgkjkpmfaaDoorW.PrintWords Go.Proofs.YthnddhgkjkpmfaaDoorW.PrintLast Go.Proofs.YthnddhgkjkpmfaaDoorW.PrintMore
attribute [local go_sem] max2_int min2_int max_two min_two max_three min_three max_four min_four   -- for this text's walks alone
attribute [local go_sem] some_set
set_option linter.unusedVariables false
set_option linter.unusedSimpArgs false
variable {G : Gl}
def latinerlaw02_TlvCodes.f (k : Nat) (a0_0 : Int) (a0_1 : ByteArray) (l0_2 : List (S24)) (a1_0 : Int) (a1_1 : ByteArray) (l1_2 : List (S24)) (a2 : ByteArray) (a3 : Int) : Option (Bool) := (latinerlaw02_shown.f k).bind fun t410 => ((latinerlaw02_Cut.f k a0_0 a0_1 l0_2).bind fun bt411 => ((latinerlaw02_Cut.f k a1_0 a1_1 l1_2).bind fun bt416 => ((latinerlaw02_cut.f a2).bind fun t421 => ((tlv_Encode.f bt411.1 bt411.2.1 bt411.2.2).bind fun bt422 => ((latinerref02_Encode.f k bt411.1 bt411.2.1 bt411.2.2).bind fun bt424 => ((tlv_Decode.f k t421 a3).bind fun bt426 => ((latinerref02_Decode.f k t421 a3).bind fun bt434 => ((tlv_Whole.f k t421).bind fun bt442 => ((latinerref02_Whole.f k t421).bind fun bt449 => (if t410 = true then ((tlv_Right.f bt411.1 bt411.2.1 bt411.2.2).bind fun t456 => ((latinerref02_Right.f k bt411.1 bt411.2.1 bt411.2.2).bind fun t457 => (if (t456 == t457) = true then ((tlv_Same.f bt411.1 bt411.2.1 bt411.2.2 bt416.1 bt416.2.1 bt416.2.2).bind fun t458 => ((latinerref02_Same.f k bt411.1 bt411.2.1 bt411.2.2 bt416.1 bt416.2.1 bt416.2.2).bind fun t459 => (if (t458 == t459) = true then ((tlv_Same.f bt411.1 bt411.2.1 bt411.2.2 bt411.1 bt411.2.1 bt411.2.2).bind fun t460 => (if t460 = true then (if bt422.1.toList = bt424.1.toList then (if bt422.2 = bt424.2 then ((latinerref02_Same.f k bt426.1 bt426.2.1 bt426.2.2.1 bt434.1 bt434.2.1 bt434.2.2.1).bind fun t461 => (if t461 = true then (if bt426.2.2.2.1 = bt434.2.2.2.1 then (if bt426.2.2.2.2 = bt434.2.2.2.2 then ((latinerref02_Same.f k bt442.1 bt442.2.1 bt442.2.2.1 bt449.1 bt449.2.1 bt449.2.2.1).bind fun t462 => (if t462 = true then (some (bt442.2.2.2 == bt449.2.2.2)) else (none))) else (none)) else (none)) else (none))) else (none)) else (none)) else (none))) else (none)))) else (none)))) else (none)))))))))))
def latinerlaw02_TlvCodes.T11 : Bool × List (List Nat × List Nat) := (true, [([], []), ([0], [0]), ([1], [1]), ([2, 1, 1], [1, 2]), ([1], [1]), ([4, 3, 1], [1, 4]), ([3, 5, 1], [1, 3, 5]), ([1, 6], [1, 6]), ([7, 5], [7]), ([8], [8]), ([8], [8]), ([9, 10, 8, 8], [8, 9, 10]), ([8], [8]), ([8], [8]), ([12, 13, 11, 8], [8, 12, 13]), ([11, 14, 8], [8, 11, 14]), ([8, 15], [8, 15]), ([16, 14], [16]), ([17], [17]), ([17], [17]), ([18, 19, 17, 17], [17, 18, 19]), ([17, 20], [17, 20]), ([21, 20], [21]), ([22], [22]), ([22], [22]), ([23, 24, 22], [22, 23, 24]), ([22, 25], [22, 25]), ([26, 22], [26]), ([27], [27]), ([27], [27]), ([28, 29, 27], [27, 28, 29]), ([27, 30], [27, 30]), ([31, 27], [31]), ([32], [32]), ([32], [32]), ([33, 34, 32, 32], [32, 33, 34]), ([32, 35], [32, 35]), ([36, 35], [36]), ([37], [37]), ([37], [37]), ([38, 39, 37], [37, 38, 39]), ([37, 40], [37, 40]), ([41, 37], [41]), ([42], [42]), ([42], [42]), ([43, 44, 42], [42, 43, 44]), ([42, 45], [42, 45]), ([46, 42], [46]), ([47], [47]), ([47], [47]), ([48, 49, 47, 47], [47, 48, 49]), ([47, 50], [47, 50]), ([51, 50], [51]), ([52], [52]), ([52], [52]), ([53, 54, 52], [52, 53, 54]), ([52, 55], [52, 55]), ([56, 52, 0, 1, 2, 3, 4, 5, 6, 7, 8, 9, 10, 11, 12, 13, 14, 15, 16, 17, 18, 19, 20, 21, 22, 23, 24, 25, 26, 27, 28, 29, 30, 31, 32, 33, 34, 35, 36, 37, 38, 39, 40, 41, 42, 43, 44, 45, 46, 47, 48, 49, 50, 51, 52, 53, 54, 55, 56], [56])])
def latinerlaw02_TlvCodes.B11 : List Nat := [0, 1, 3, 7, 3, 31, 63, 127, 255, 511, 511, 2047, 511, 511, 16383, 32767, 65535, 131071, 262143, 262143, 1048575, 2097151, 4194303, 8388607, 8388607, 33554431, 67108863, 134217727, 268435455, 268435455, 1073741823, 2147483647, 4294967295, 8589934591, 8589934591, 34359738367, 68719476735, 137438953471, 274877906943, 274877906943, 1099511627775, 2199023255551, 4398046511103, 8796093022207, 8796093022207, 35184372088831, 70368744177663, 140737488355327, 281474976710655, 281474976710655, 1125899906842623, 2251799813685247, 4503599627370495, 9007199254740991, 9007199254740991, 36028797018963967, 72057594037927935, 144115188075855871]
theorem latinerlaw02_TlvCodes.tab11 : rtab .any (opsOf Tryd.f3 11) = latinerlaw02_TlvCodes.T11 := by kernel_rfl
theorem latinerlaw02_TlvCodes.bits11 : waitsOk latinerlaw02_TlvCodes.T11.2 latinerlaw02_TlvCodes.B11 = true := by kernel_rfl
set_option maxHeartbeats 8000000 in
set_option maxRecDepth 100000 in
theorem latinerlaw02_TlvCodes.calls (k : Nat) (a0_0 : Int) (a0_1 : ByteArray) (A0_2 : Option Addr) (c0_2 : Nat) (l0_2 : List (S24)) (a1_0 : Int) (a1_1 : ByteArray) (A1_2 : Option Addr) (c1_2 : Nat) (l1_2 : List (S24)) (a2 : ByteArray) (a3 : Int) (r : Bool) (w : World) (hr0_2 : Kd.C k24 w A0_2 l0_2.length l0_2) (hc0_2 : l0_2.length ≤ c0_2) (hr1_2 : Kd.C k24 w A1_2 l1_2.length l1_2) (hc1_2 : l1_2.length ≤ c1_2) (hG : GW G w) (h : latinerlaw02_TlvCodes.f k a0_0 a0_1 l0_2 a1_0 a1_1 l1_2 a2 a3 = some r) :
  Calls Tryd.prog 3 #[.agg #[.int .i64 a0_0, .string a0_1, .slice A0_2 l0_2.length c0_2], .agg #[.int .i64 a1_0, .string a1_1, .slice A1_2 l1_2.length c1_2], .string a2, .int .i64 a3] w fun e w' => e = .returned (.bool r) ∧ Below w.heap.size w w' := by
 have hu24 := Tryd.underlying24
 have HR0_2 := Aside0.mk hr0_2
 have HC0_2 := Aside0.mk hc0_2
 clear hr0_2 hc0_2
 have HR1_2 := Aside0.mk hr1_2
 have HC1_2 := Aside0.mk hc1_2
 clear hr1_2 hc1_2
 have HB := Aside0.mk (Below.refl w.heap.size w)
 have H : ((latinerlaw02_shown.f k).bind fun t410 => ((latinerlaw02_Cut.f k a0_0 a0_1 l0_2).bind fun bt411 => ((latinerlaw02_Cut.f k a1_0 a1_1 l1_2).bind fun bt416 => ((latinerlaw02_cut.f a2).bind fun t421 => ((tlv_Encode.f bt411.1 bt411.2.1 bt411.2.2).bind fun bt422 => ((latinerref02_Encode.f k bt411.1 bt411.2.1 bt411.2.2).bind fun bt424 => ((tlv_Decode.f k t421 a3).bind fun bt426 => ((latinerref02_Decode.f k t421 a3).bind fun bt434 => ((tlv_Whole.f k t421).bind fun bt442 => ((latinerref02_Whole.f k t421).bind fun bt449 => (if t410 = true then ((tlv_Right.f bt411.1 bt411.2.1 bt411.2.2).bind fun t456 => ((latinerref02_Right.f k bt411.1 bt411.2.1 bt411.2.2).bind fun t457 => (if (t456 == t457) = true then ((tlv_Same.f bt411.1 bt411.2.1 bt411.2.2 bt416.1 bt416.2.1 bt416.2.2).bind fun t458 => ((latinerref02_Same.f k bt411.1 bt411.2.1 bt411.2.2 bt416.1 bt416.2.1 bt416.2.2).bind fun t459 => (if (t458 == t459) = true then ((tlv_Same.f bt411.1 bt411.2.1 bt411.2.2 bt411.1 bt411.2.1 bt411.2.2).bind fun t460 => (if t460 = true then (if bt422.1.toList = bt424.1.toList then (if bt422.2 = bt424.2 then ((latinerref02_Same.f k bt426.1 bt426.2.1 bt426.2.2.1 bt434.1 bt434.2.1 bt434.2.2.1).bind fun t461 => (if t461 = true then (if bt426.2.2.2.1 = bt434.2.2.2.1 then (if bt426.2.2.2.2 = bt434.2.2.2.2 then ((latinerref02_Same.f k bt442.1 bt442.2.1 bt442.2.2.1 bt449.1 bt449.2.1 bt449.2.2.1).bind fun t462 => (if t462 = true then (some (bt442.2.2.2 == bt449.2.2.2)) else (none))) else (none)) else (none)) else (none))) else (none)) else (none)) else (none))) else (none)))) else (none)))) else (none)))))))))))) = some r := h
 clear h
 replace H := Option.bind_eq_some_iff.mp H
 obtain ⟨t410, A50, H⟩ := H
 replace H : ((latinerlaw02_Cut.f k a0_0 a0_1 l0_2).bind fun bt411 => ((latinerlaw02_Cut.f k a1_0 a1_1 l1_2).bind fun bt416 => ((latinerlaw02_cut.f a2).bind fun t421 => ((tlv_Encode.f bt411.1 bt411.2.1 bt411.2.2).bind fun bt422 => ((latinerref02_Encode.f k bt411.1 bt411.2.1 bt411.2.2).bind fun bt424 => ((tlv_Decode.f k t421 a3).bind fun bt426 => ((latinerref02_Decode.f k t421 a3).bind fun bt434 => ((tlv_Whole.f k t421).bind fun bt442 => ((latinerref02_Whole.f k t421).bind fun bt449 => (if t410 = true then ((tlv_Right.f bt411.1 bt411.2.1 bt411.2.2).bind fun t456 => ((latinerref02_Right.f k bt411.1 bt411.2.1 bt411.2.2).bind fun t457 => (if (t456 == t457) = true then ((tlv_Same.f bt411.1 bt411.2.1 bt411.2.2 bt416.1 bt416.2.1 bt416.2.2).bind fun t458 => ((latinerref02_Same.f k bt411.1 bt411.2.1 bt411.2.2 bt416.1 bt416.2.1 bt416.2.2).bind fun t459 => (if (t458 == t459) = true then ((tlv_Same.f bt411.1 bt411.2.1 bt411.2.2 bt411.1 bt411.2.1 bt411.2.2).bind fun t460 => (if t460 = true then (if bt422.1.toList = bt424.1.toList then (if bt422.2 = bt424.2 then ((latinerref02_Same.f k bt426.1 bt426.2.1 bt426.2.2.1 bt434.1 bt434.2.1 bt434.2.2.1).bind fun t461 => (if t461 = true then (if bt426.2.2.2.1 = bt434.2.2.2.1 then (if bt426.2.2.2.2 = bt434.2.2.2.2 then ((latinerref02_Same.f k bt442.1 bt442.2.1 bt442.2.2.1 bt449.1 bt449.2.1 bt449.2.2.1).bind fun t462 => (if t462 = true then (some (bt442.2.2.2 == bt449.2.2.2)) else (none))) else (none)) else (none)) else (none))) else (none)) else (none)) else (none))) else (none)))) else (none)))) else (none))))))))))) = some r := H
 have A5 := Aside0.mk A50
 clear A50
 replace H := Option.bind_eq_some_iff.mp H
 obtain ⟨⟨t411, t412, t413⟩, A60, H⟩ := H
 replace H : ((latinerlaw02_Cut.f k a1_0 a1_1 l1_2).bind fun bt416 => ((latinerlaw02_cut.f a2).bind fun t421 => ((tlv_Encode.f t411 t412 t413).bind fun bt422 => ((latinerref02_Encode.f k t411 t412 t413).bind fun bt424 => ((tlv_Decode.f k t421 a3).bind fun bt426 => ((latinerref02_Decode.f k t421 a3).bind fun bt434 => ((tlv_Whole.f k t421).bind fun bt442 => ((latinerref02_Whole.f k t421).bind fun bt449 => (if t410 = true then ((tlv_Right.f t411 t412 t413).bind fun t456 => ((latinerref02_Right.f k t411 t412 t413).bind fun t457 => (if (t456 == t457) = true then ((tlv_Same.f t411 t412 t413 bt416.1 bt416.2.1 bt416.2.2).bind fun t458 => ((latinerref02_Same.f k t411 t412 t413 bt416.1 bt416.2.1 bt416.2.2).bind fun t459 => (if (t458 == t459) = true then ((tlv_Same.f t411 t412 t413 t411 t412 t413).bind fun t460 => (if t460 = true then (if bt422.1.toList = bt424.1.toList then (if bt422.2 = bt424.2 then ((latinerref02_Same.f k bt426.1 bt426.2.1 bt426.2.2.1 bt434.1 bt434.2.1 bt434.2.2.1).bind fun t461 => (if t461 = true then (if bt426.2.2.2.1 = bt434.2.2.2.1 then (if bt426.2.2.2.2 = bt434.2.2.2.2 then ((latinerref02_Same.f k bt442.1 bt442.2.1 bt442.2.2.1 bt449.1 bt449.2.1 bt449.2.2.1).bind fun t462 => (if t462 = true then (some (bt442.2.2.2 == bt449.2.2.2)) else (none))) else (none)) else (none)) else (none))) else (none)) else (none)) else (none))) else (none)))) else (none)))) else (none)))))))))) = some r := H
 have A6 := Aside0.mk A60
 clear A60
 replace H := Option.bind_eq_some_iff.mp H
 obtain ⟨⟨t416, t417, t418⟩, A70, H⟩ := H
 replace H : ((latinerlaw02_cut.f a2).bind fun t421 => ((tlv_Encode.f t411 t412 t413).bind fun bt422 => ((latinerref02_Encode.f k t411 t412 t413).bind fun bt424 => ((tlv_Decode.f k t421 a3).bind fun bt426 => ((latinerref02_Decode.f k t421 a3).bind fun bt434 => ((tlv_Whole.f k t421).bind fun bt442 => ((latinerref02_Whole.f k t421).bind fun bt449 => (if t410 = true then ((tlv_Right.f t411 t412 t413).bind fun t456 => ((latinerref02_Right.f k t411 t412 t413).bind fun t457 => (if (t456 == t457) = true then ((tlv_Same.f t411 t412 t413 t416 t417 t418).bind fun t458 => ((latinerref02_Same.f k t411 t412 t413 t416 t417 t418).bind fun t459 => (if (t458 == t459) = true then ((tlv_Same.f t411 t412 t413 t411 t412 t413).bind fun t460 => (if t460 = true then (if bt422.1.toList = bt424.1.toList then (if bt422.2 = bt424.2 then ((latinerref02_Same.f k bt426.1 bt426.2.1 bt426.2.2.1 bt434.1 bt434.2.1 bt434.2.2.1).bind fun t461 => (if t461 = true then (if bt426.2.2.2.1 = bt434.2.2.2.1 then (if bt426.2.2.2.2 = bt434.2.2.2.2 then ((latinerref02_Same.f k bt442.1 bt442.2.1 bt442.2.2.1 bt449.1 bt449.2.1 bt449.2.2.1).bind fun t462 => (if t462 = true then (some (bt442.2.2.2 == bt449.2.2.2)) else (none))) else (none)) else (none)) else (none))) else (none)) else (none)) else (none))) else (none)))) else (none)))) else (none))))))))) = some r := H
 have A7 := Aside0.mk A70
 clear A70
 replace H := Option.bind_eq_some_iff.mp H
 obtain ⟨t421, A80, H⟩ := H
 replace H : ((tlv_Encode.f t411 t412 t413).bind fun bt422 => ((latinerref02_Encode.f k t411 t412 t413).bind fun bt424 => ((tlv_Decode.f k t421 a3).bind fun bt426 => ((latinerref02_Decode.f k t421 a3).bind fun bt434 => ((tlv_Whole.f k t421).bind fun bt442 => ((latinerref02_Whole.f k t421).bind fun bt449 => (if t410 = true then ((tlv_Right.f t411 t412 t413).bind fun t456 => ((latinerref02_Right.f k t411 t412 t413).bind fun t457 => (if (t456 == t457) = true then ((tlv_Same.f t411 t412 t413 t416 t417 t418).bind fun t458 => ((latinerref02_Same.f k t411 t412 t413 t416 t417 t418).bind fun t459 => (if (t458 == t459) = true then ((tlv_Same.f t411 t412 t413 t411 t412 t413).bind fun t460 => (if t460 = true then (if bt422.1.toList = bt424.1.toList then (if bt422.2 = bt424.2 then ((latinerref02_Same.f k bt426.1 bt426.2.1 bt426.2.2.1 bt434.1 bt434.2.1 bt434.2.2.1).bind fun t461 => (if t461 = true then (if bt426.2.2.2.1 = bt434.2.2.2.1 then (if bt426.2.2.2.2 = bt434.2.2.2.2 then ((latinerref02_Same.f k bt442.1 bt442.2.1 bt442.2.2.1 bt449.1 bt449.2.1 bt449.2.2.1).bind fun t462 => (if t462 = true then (some (bt442.2.2.2 == bt449.2.2.2)) else (none))) else (none)) else (none)) else (none))) else (none)) else (none)) else (none))) else (none)))) else (none)))) else (none)))))))) = some r := H
 have A8 := Aside0.mk A80
 clear A80
 replace H := Option.bind_eq_some_iff.mp H
 obtain ⟨⟨t422, t423⟩, A90, H⟩ := H
 replace H : ((latinerref02_Encode.f k t411 t412 t413).bind fun bt424 => ((tlv_Decode.f k t421 a3).bind fun bt426 => ((latinerref02_Decode.f k t421 a3).bind fun bt434 => ((tlv_Whole.f k t421).bind fun bt442 => ((latinerref02_Whole.f k t421).bind fun bt449 => (if t410 = true then ((tlv_Right.f t411 t412 t413).bind fun t456 => ((latinerref02_Right.f k t411 t412 t413).bind fun t457 => (if (t456 == t457) = true then ((tlv_Same.f t411 t412 t413 t416 t417 t418).bind fun t458 => ((latinerref02_Same.f k t411 t412 t413 t416 t417 t418).bind fun t459 => (if (t458 == t459) = true then ((tlv_Same.f t411 t412 t413 t411 t412 t413).bind fun t460 => (if t460 = true then (if t422.toList = bt424.1.toList then (if t423 = bt424.2 then ((latinerref02_Same.f k bt426.1 bt426.2.1 bt426.2.2.1 bt434.1 bt434.2.1 bt434.2.2.1).bind fun t461 => (if t461 = true then (if bt426.2.2.2.1 = bt434.2.2.2.1 then (if bt426.2.2.2.2 = bt434.2.2.2.2 then ((latinerref02_Same.f k bt442.1 bt442.2.1 bt442.2.2.1 bt449.1 bt449.2.1 bt449.2.2.1).bind fun t462 => (if t462 = true then (some (bt442.2.2.2 == bt449.2.2.2)) else (none))) else (none)) else (none)) else (none))) else (none)) else (none)) else (none))) else (none)))) else (none)))) else (none))))))) = some r := H
 have A9 := Aside0.mk A90
 clear A90
 replace H := Option.bind_eq_some_iff.mp H
 obtain ⟨⟨t424, t425⟩, A100, H⟩ := H
 replace H : ((tlv_Decode.f k t421 a3).bind fun bt426 => ((latinerref02_Decode.f k t421 a3).bind fun bt434 => ((tlv_Whole.f k t421).bind fun bt442 => ((latinerref02_Whole.f k t421).bind fun bt449 => (if t410 = true then ((tlv_Right.f t411 t412 t413).bind fun t456 => ((latinerref02_Right.f k t411 t412 t413).bind fun t457 => (if (t456 == t457) = true then ((tlv_Same.f t411 t412 t413 t416 t417 t418).bind fun t458 => ((latinerref02_Same.f k t411 t412 t413 t416 t417 t418).bind fun t459 => (if (t458 == t459) = true then ((tlv_Same.f t411 t412 t413 t411 t412 t413).bind fun t460 => (if t460 = true then (if t422.toList = t424.toList then (if t423 = t425 then ((latinerref02_Same.f k bt426.1 bt426.2.1 bt426.2.2.1 bt434.1 bt434.2.1 bt434.2.2.1).bind fun t461 => (if t461 = true then (if bt426.2.2.2.1 = bt434.2.2.2.1 then (if bt426.2.2.2.2 = bt434.2.2.2.2 then ((latinerref02_Same.f k bt442.1 bt442.2.1 bt442.2.2.1 bt449.1 bt449.2.1 bt449.2.2.1).bind fun t462 => (if t462 = true then (some (bt442.2.2.2 == bt449.2.2.2)) else (none))) else (none)) else (none)) else (none))) else (none)) else (none)) else (none))) else (none)))) else (none)))) else (none)))))) = some r := H
 have A10 := Aside0.mk A100
 clear A100
 replace H := Option.bind_eq_some_iff.mp H
 obtain ⟨⟨t426, t427, t428, t431, t432⟩, A110, H⟩ := H
 replace H : ((latinerref02_Decode.f k t421 a3).bind fun bt434 => ((tlv_Whole.f k t421).bind fun bt442 => ((latinerref02_Whole.f k t421).bind fun bt449 => (if t410 = true then ((tlv_Right.f t411 t412 t413).bind fun t456 => ((latinerref02_Right.f k t411 t412 t413).bind fun t457 => (if (t456 == t457) = true then ((tlv_Same.f t411 t412 t413 t416 t417 t418).bind fun t458 => ((latinerref02_Same.f k t411 t412 t413 t416 t417 t418).bind fun t459 => (if (t458 == t459) = true then ((tlv_Same.f t411 t412 t413 t411 t412 t413).bind fun t460 => (if t460 = true then (if t422.toList = t424.toList then (if t423 = t425 then ((latinerref02_Same.f k t426 t427 t428 bt434.1 bt434.2.1 bt434.2.2.1).bind fun t461 => (if t461 = true then (if t431 = bt434.2.2.2.1 then (if t432 = bt434.2.2.2.2 then ((latinerref02_Same.f k bt442.1 bt442.2.1 bt442.2.2.1 bt449.1 bt449.2.1 bt449.2.2.1).bind fun t462 => (if t462 = true then (some (bt442.2.2.2 == bt449.2.2.2)) else (none))) else (none)) else (none)) else (none))) else (none)) else (none)) else (none))) else (none)))) else (none)))) else (none))))) = some r := H
 have A11 := Aside0.mk A110
 clear A110
 replace H := Option.bind_eq_some_iff.mp H
 obtain ⟨⟨t434, t435, t436, t439, t440⟩, A120, H⟩ := H
 replace H : ((tlv_Whole.f k t421).bind fun bt442 => ((latinerref02_Whole.f k t421).bind fun bt449 => (if t410 = true then ((tlv_Right.f t411 t412 t413).bind fun t456 => ((latinerref02_Right.f k t411 t412 t413).bind fun t457 => (if (t456 == t457) = true then ((tlv_Same.f t411 t412 t413 t416 t417 t418).bind fun t458 => ((latinerref02_Same.f k t411 t412 t413 t416 t417 t418).bind fun t459 => (if (t458 == t459) = true then ((tlv_Same.f t411 t412 t413 t411 t412 t413).bind fun t460 => (if t460 = true then (if t422.toList = t424.toList then (if t423 = t425 then ((latinerref02_Same.f k t426 t427 t428 t434 t435 t436).bind fun t461 => (if t461 = true then (if t431 = t439 then (if t432 = t440 then ((latinerref02_Same.f k bt442.1 bt442.2.1 bt442.2.2.1 bt449.1 bt449.2.1 bt449.2.2.1).bind fun t462 => (if t462 = true then (some (bt442.2.2.2 == bt449.2.2.2)) else (none))) else (none)) else (none)) else (none))) else (none)) else (none)) else (none))) else (none)))) else (none)))) else (none)))) = some r := H
 have A12 := Aside0.mk A120
 clear A120
 replace H := Option.bind_eq_some_iff.mp H
 obtain ⟨⟨t442, t443, t444, t447⟩, A130, H⟩ := H
 replace H : ((latinerref02_Whole.f k t421).bind fun bt449 => (if t410 = true then ((tlv_Right.f t411 t412 t413).bind fun t456 => ((latinerref02_Right.f k t411 t412 t413).bind fun t457 => (if (t456 == t457) = true then ((tlv_Same.f t411 t412 t413 t416 t417 t418).bind fun t458 => ((latinerref02_Same.f k t411 t412 t413 t416 t417 t418).bind fun t459 => (if (t458 == t459) = true then ((tlv_Same.f t411 t412 t413 t411 t412 t413).bind fun t460 => (if t460 = true then (if t422.toList = t424.toList then (if t423 = t425 then ((latinerref02_Same.f k t426 t427 t428 t434 t435 t436).bind fun t461 => (if t461 = true then (if t431 = t439 then (if t432 = t440 then ((latinerref02_Same.f k t442 t443 t444 bt449.1 bt449.2.1 bt449.2.2.1).bind fun t462 => (if t462 = true then (some (t447 == bt449.2.2.2)) else (none))) else (none)) else (none)) else (none))) else (none)) else (none)) else (none))) else (none)))) else (none)))) else (none))) = some r := H
 have A13 := Aside0.mk A130
 clear A130
 replace H := Option.bind_eq_some_iff.mp H
 obtain ⟨⟨t449, t450, t451, t454⟩, A140, H⟩ := H
 replace H : (if t410 = true then ((tlv_Right.f t411 t412 t413).bind fun t456 => ((latinerref02_Right.f k t411 t412 t413).bind fun t457 => (if (t456 == t457) = true then ((tlv_Same.f t411 t412 t413 t416 t417 t418).bind fun t458 => ((latinerref02_Same.f k t411 t412 t413 t416 t417 t418).bind fun t459 => (if (t458 == t459) = true then ((tlv_Same.f t411 t412 t413 t411 t412 t413).bind fun t460 => (if t460 = true then (if t422.toList = t424.toList then (if t423 = t425 then ((latinerref02_Same.f k t426 t427 t428 t434 t435 t436).bind fun t461 => (if t461 = true then (if t431 = t439 then (if t432 = t440 then ((latinerref02_Same.f k t442 t443 t444 t449 t450 t451).bind fun t462 => (if t462 = true then (some (t447 == t454)) else (none))) else (none)) else (none)) else (none))) else (none)) else (none)) else (none))) else (none)))) else (none)))) else (none)) = some r := H
 have A14 := Aside0.mk A140
 clear A140
 by_cases c15 : t410 = true
 ·subst c15
  have H1 : ((tlv_Right.f t411 t412 t413).bind fun t456 => ((latinerref02_Right.f k t411 t412 t413).bind fun t457 => (if (t456 == t457) = true then ((tlv_Same.f t411 t412 t413 t416 t417 t418).bind fun t458 => ((latinerref02_Same.f k t411 t412 t413 t416 t417 t418).bind fun t459 => (if (t458 == t459) = true then ((tlv_Same.f t411 t412 t413 t411 t412 t413).bind fun t460 => (if t460 = true then (if t422.toList = t424.toList then (if t423 = t425 then ((latinerref02_Same.f k t426 t427 t428 t434 t435 t436).bind fun t461 => (if t461 = true then (if t431 = t439 then (if t432 = t440 then ((latinerref02_Same.f k t442 t443 t444 t449 t450 t451).bind fun t462 => (if t462 = true then (some (t447 == t454)) else (none))) else (none)) else (none)) else (none))) else (none)) else (none)) else (none))) else (none)))) else (none)))) = some r := by rw [if_pos rfl] at H; exact H
  clear H
  have H := H1
  clear H1
  replace H := Option.bind_eq_some_iff.mp H
  obtain ⟨t456, A160, H⟩ := H
  replace H : ((latinerref02_Right.f k t411 t412 t413).bind fun t457 => (if (t456 == t457) = true then ((tlv_Same.f t411 t412 t413 t416 t417 t418).bind fun t458 => ((latinerref02_Same.f k t411 t412 t413 t416 t417 t418).bind fun t459 => (if (t458 == t459) = true then ((tlv_Same.f t411 t412 t413 t411 t412 t413).bind fun t460 => (if t460 = true then (if t422.toList = t424.toList then (if t423 = t425 then ((latinerref02_Same.f k t426 t427 t428 t434 t435 t436).bind fun t461 => (if t461 = true then (if t431 = t439 then (if t432 = t440 then ((latinerref02_Same.f k t442 t443 t444 t449 t450 t451).bind fun t462 => (if t462 = true then (some (t447 == t454)) else (none))) else (none)) else (none)) else (none))) else (none)) else (none)) else (none))) else (none)))) else (none))) = some r := H
  have A16 := Aside0.mk A160
  clear A160
  replace H := Option.bind_eq_some_iff.mp H
  obtain ⟨t457, A170, H⟩ := H
  replace H : (if (t456 == t457) = true then ((tlv_Same.f t411 t412 t413 t416 t417 t418).bind fun t458 => ((latinerref02_Same.f k t411 t412 t413 t416 t417 t418).bind fun t459 => (if (t458 == t459) = true then ((tlv_Same.f t411 t412 t413 t411 t412 t413).bind fun t460 => (if t460 = true then (if t422.toList = t424.toList then (if t423 = t425 then ((latinerref02_Same.f k t426 t427 t428 t434 t435 t436).bind fun t461 => (if t461 = true then (if t431 = t439 then (if t432 = t440 then ((latinerref02_Same.f k t442 t443 t444 t449 t450 t451).bind fun t462 => (if t462 = true then (some (t447 == t454)) else (none))) else (none)) else (none)) else (none))) else (none)) else (none)) else (none))) else (none)))) else (none)) = some r := H
  have A17 := Aside0.mk A170
  clear A170
  by_cases c18 : (t456 == t457) = true
  ·rw [if_pos c18] at H
   have c18b0 : (t456 == t457) = true := c18
   (try (have c18b1 : decide (t456 = t457) = true := by simpa using c18))
   (try (have c18b2 : (t456 == t457) = true := by simpa using c18))
   clear c18
   replace H := Option.bind_eq_some_iff.mp H
   obtain ⟨t458, A190, H⟩ := H
   replace H : ((latinerref02_Same.f k t411 t412 t413 t416 t417 t418).bind fun t459 => (if (t458 == t459) = true then ((tlv_Same.f t411 t412 t413 t411 t412 t413).bind fun t460 => (if t460 = true then (if t422.toList = t424.toList then (if t423 = t425 then ((latinerref02_Same.f k t426 t427 t428 t434 t435 t436).bind fun t461 => (if t461 = true then (if t431 = t439 then (if t432 = t440 then ((latinerref02_Same.f k t442 t443 t444 t449 t450 t451).bind fun t462 => (if t462 = true then (some (t447 == t454)) else (none))) else (none)) else (none)) else (none))) else (none)) else (none)) else (none))) else (none))) = some r := H
   have A19 := Aside0.mk A190
   clear A190
   replace H := Option.bind_eq_some_iff.mp H
   obtain ⟨t459, A200, H⟩ := H
   replace H : (if (t458 == t459) = true then ((tlv_Same.f t411 t412 t413 t411 t412 t413).bind fun t460 => (if t460 = true then (if t422.toList = t424.toList then (if t423 = t425 then ((latinerref02_Same.f k t426 t427 t428 t434 t435 t436).bind fun t461 => (if t461 = true then (if t431 = t439 then (if t432 = t440 then ((latinerref02_Same.f k t442 t443 t444 t449 t450 t451).bind fun t462 => (if t462 = true then (some (t447 == t454)) else (none))) else (none)) else (none)) else (none))) else (none)) else (none)) else (none))) else (none)) = some r := H
   have A20 := Aside0.mk A200
   clear A200
   by_cases c21 : (t458 == t459) = true
   ·rw [if_pos c21] at H
    have c21b0 : (t458 == t459) = true := c21
    (try (have c21b1 : decide (t458 = t459) = true := by simpa using c21))
    (try (have c21b2 : (t458 == t459) = true := by simpa using c21))
    clear c21
    replace H := Option.bind_eq_some_iff.mp H
    obtain ⟨t460, A220, H⟩ := H
    replace H : (if t460 = true then (if t422.toList = t424.toList then (if t423 = t425 then ((latinerref02_Same.f k t426 t427 t428 t434 t435 t436).bind fun t461 => (if t461 = true then (if t431 = t439 then (if t432 = t440 then ((latinerref02_Same.f k t442 t443 t444 t449 t450 t451).bind fun t462 => (if t462 = true then (some (t447 == t454)) else (none))) else (none)) else (none)) else (none))) else (none)) else (none)) else (none)) = some r := H
    have A22 := Aside0.mk A220
    clear A220
    by_cases c23 : t460 = true
    ·subst c23
     have H1 : (if t422.toList = t424.toList then (if t423 = t425 then ((latinerref02_Same.f k t426 t427 t428 t434 t435 t436).bind fun t461 => (if t461 = true then (if t431 = t439 then (if t432 = t440 then ((latinerref02_Same.f k t442 t443 t444 t449 t450 t451).bind fun t462 => (if t462 = true then (some (t447 == t454)) else (none))) else (none)) else (none)) else (none))) else (none)) else (none)) = some r := by rw [if_pos rfl] at H; exact H
     clear H
     have H := H1
     clear H1
     by_cases c24 : t422.toList = t424.toList
     ·rw [if_pos c24] at H
      have c24b0 : (t422.toList == t424.toList) = true := beq_iff_eq.mpr c24
      have c24b1 : (t422.toList != t424.toList) = false := bne_eq_false_iff_eq.mpr c24
      clear c24
      by_cases c25 : t423 = t425
      ·rw [if_pos c25] at H
       have c25b0 : (t423 == t425) = true := beq_iff_eq.mpr c25
       have c25b1 : (t423 != t425) = false := bne_eq_false_iff_eq.mpr c25
       clear c25
       replace H := Option.bind_eq_some_iff.mp H
       obtain ⟨t461, A260, H⟩ := H
       replace H : (if t461 = true then (if t431 = t439 then (if t432 = t440 then ((latinerref02_Same.f k t442 t443 t444 t449 t450 t451).bind fun t462 => (if t462 = true then (some (t447 == t454)) else (none))) else (none)) else (none)) else (none)) = some r := H
       have A26 := Aside0.mk A260
       clear A260
       by_cases c27 : t461 = true
       ·subst c27
        have H1 : (if t431 = t439 then (if t432 = t440 then ((latinerref02_Same.f k t442 t443 t444 t449 t450 t451).bind fun t462 => (if t462 = true then (some (t447 == t454)) else (none))) else (none)) else (none)) = some r := by rw [if_pos rfl] at H; exact H
        clear H
        have H := H1
        clear H1
        by_cases c28 : t431 = t439
        ·rw [if_pos c28] at H
         have c28b0 : (t431 == t439) = true := beq_iff_eq.mpr c28
         have c28b1 : (t431 != t439) = false := bne_eq_false_iff_eq.mpr c28
         clear c28
         by_cases c29 : t432 = t440
         ·rw [if_pos c29] at H
          have c29b0 : (t432 == t440) = true := beq_iff_eq.mpr c29
          have c29b1 : (t432 != t440) = false := bne_eq_false_iff_eq.mpr c29
          clear c29
          replace H := Option.bind_eq_some_iff.mp H
          obtain ⟨t462, A300, H⟩ := H
          replace H : (if t462 = true then (some (t447 == t454)) else (none)) = some r := H
          have A30 := Aside0.mk A300
          clear A300
          by_cases c31 : t462 = true
          ·subst c31
           have H1 : (some (t447 == t454)) = some r := by rw [if_pos rfl] at H; exact H
           clear H
           have H := H1
           clear H1
           obtain rfl := Option.some.inj H
           go_enter Tryd.func3, Tryd.ntmps3
           try go_wp2_with (first | ((with_reducible refine gate_dst (N := 4) rfl ?_); refine box_event ?hg (N := 4) ?hd (cs := #[.int .i64 a0_0, .string a0_1, .slice A0_2 l0_2.length c0_2]) (t := 24) ?hr ?_; (case hd => rfl); (case hg => rfl); (case hr => first | (go_simp; done) | (go_simp; rfl)); intro gb408 hg w32 hbox hb; have n0_ := Aside0.mk (below_step q0_ hb); have n1_ := Aside0.mk (hbox); have n2_ := Aside0.mk ((by rw [hg]; exact (below_size q0_) : w.heap.size ≤ gb408)); have n3_ := Aside0.mk ((by rw [hg]; exact (below_size q0_) : w.heap.size ≤ gb408)); clear HB; have HB := n0_; have BK408 := n1_; have GW408 := n2_; have GE408 := n3_; clear n0_ n1_ n2_ n3_; clear hb hbox hg) | ((with_reducible refine gate_dst (N := 5) rfl ?_); refine box_event ?hg (N := 5) ?hd (cs := #[.int .i64 a1_0, .string a1_1, .slice A1_2 l1_2.length c1_2]) (t := 24) ?hr ?_; (case hd => rfl); (case hg => rfl); (case hr => first | (go_simp; done) | (go_simp; rfl)); intro gb409 hg w33 hbox hb; have n0_ := Aside0.mk (blk_below (g := gb408) (o := .cells #[.int .i64 a0_0, .string a0_1, .slice A0_2 l0_2.length c0_2] 24 (0, 0)) (bkq BK408.out) hb); have n1_ := Aside0.mk (below_step q0_ hb); have n2_ := Aside0.mk (hbox); have n3_ := Aside0.mk ((by rw [hg]; exact (below_size q0_) : w.heap.size ≤ gb409)); have n4_ := Aside0.mk ((by rw [hg]; exact (below_size q0_) : w.heap.size ≤ gb409)); have n5_ := Aside0.mk ((by rw [hg]; exact Nat.ne_of_lt (blk_lt (g := gb408) (o := .cells #[.int .i64 a0_0, .string a0_1, .slice A0_2 l0_2.length c0_2] 24 (0, 0)) (bkq BK408.out)) : gb408 ≠ gb409)); have n6_ := Aside0.mk ((by rw [hg]; exact Nat.ne_of_gt (blk_lt (g := gb408) (o := .cells #[.int .i64 a0_0, .string a0_1, .slice A0_2 l0_2.length c0_2] 24 (0, 0)) (bkq BK408.out)) : gb409 ≠ gb408)); clear BK408; clear HB; have BK408 := n0_; have HB := n1_; have BK409 := n2_; have GW409 := n3_; have GE409 := n4_; have NB408_409 := n5_; have NB409_408 := n6_; clear n0_ n1_ n2_ n3_ n4_ n5_ n6_; clear hb hbox hg) | ((with_reducible refine gate_callee (f := 12) rfl ?_); refine goesL_ (some 24) rfl rfl Tryd.func12 (by kernel_rfl) rfl #[] rfl argq ?_; (with_reducible refine (latinerlaw02_shown.calls (G := G) k  true _ ?side1 A5.out).mono ?_); (case side1 => first | exact hG | exact GW.below hG q0_); rintro e w34 ⟨rfl, hb⟩; refine ⟨_, rfl, ?_⟩; have n0_ := Aside0.mk (blk_below (g := gb408) (o := .cells #[.int .i64 a0_0, .string a0_1, .slice A0_2 l0_2.length c0_2] 24 (0, 0)) (bkq BK408.out) hb); have n1_ := Aside0.mk (blk_below (g := gb409) (o := .cells #[.int .i64 a1_0, .string a1_1, .slice A1_2 l1_2.length c1_2] 24 (0, 0)) (bkq BK409.out) hb); have n2_ := Aside0.mk (below_step q0_ hb); clear BK408; clear BK409; clear HB; have BK408 := n0_; have BK409 := n1_; have HB := n2_; clear n0_ n1_ n2_; (try clear hb); (try clear hb2); (try clear hk); (try clear hi); have hnb35 := NB408_409.out; have hnc35 := NB409_408.out; have hcz36_0 : w34.cell? ⟨gb408, 0, none⟩ = some (.int .i64 a0_0) := (blk_cell BK408.out 0).trans rfl; have hcz36_1 : w34.cell? ⟨gb408, 1, none⟩ = some (.string a0_1) := (blk_cell BK408.out 1).trans rfl; have hcz36_2 : w34.cell? ⟨gb408, 2, none⟩ = some (.slice A0_2 l0_2.length c0_2) := (blk_cell BK408.out 2).trans rfl; have hfz36_0 := blk_frozen BK408.out 0; have hfz36_1 := blk_frozen BK408.out 1; have hfz36_2 := blk_frozen BK408.out 2) | ((with_reducible refine gate_callee (f := 13) rfl ?_); refine goesL_ (some 26) rfl rfl Tryd.func13 (by kernel_rfl) rfl #[.agg #[.int .i64 a0_0, .string a0_1, .slice A0_2 l0_2.length c0_2]] rfl argq ?_; (with_reducible refine (latinerlaw02_Cut.calls k a0_0 a0_1 _ _ l0_2 t411 t412 t413 _ ?side1 ?side2 A6.out).mono ?_); (case side1 => repeat (first | exact (Kd.C_below HR0_2.out HB.out) | (with_reducible refine Kd.C_alloc ?_ _) | (with_reducible refine Kd.C_drewN ?_ _) | (with_reducible refine Kd.C_drew ?_))); (case side2 => exact HC0_2.out); rintro e w37 ⟨v414, rfl, ho0, hb⟩; refine ⟨_, rfl, ?_⟩; have n0_ := Aside0.mk (Kd.R_lower (Kd.R_newB (Kd.R_newB ho0 (g := gb408) (o := .cells #[.int .i64 a0_0, .string a0_1, .slice A0_2 l0_2.length c0_2] 24 (0, 0)) (bkq BK408.out)) (g := gb409) (o := .cells #[.int .i64 a1_0, .string a1_1, .slice A1_2 l1_2.length c1_2] 24 (0, 0)) (bkq BK409.out)) (below_size q0_)); have n1_ := Aside0.mk (blk_below (g := gb408) (o := .cells #[.int .i64 a0_0, .string a0_1, .slice A0_2 l0_2.length c0_2] 24 (0, 0)) (bkq BK408.out) hb); have n2_ := Aside0.mk (blk_below (g := gb409) (o := .cells #[.int .i64 a1_0, .string a1_1, .slice A1_2 l1_2.length c1_2] 24 (0, 0)) (bkq BK409.out) hb); have n3_ := Aside0.mk (below_step q0_ hb); clear BK408; clear BK409; clear HB; have HO415 := n0_; have BK408 := n1_; have BK409 := n2_; have HB := n3_; clear n0_ n1_ n2_ n3_; (try clear hb); (try clear hb2); (try clear hk); (try clear hi); (try clear ho0); have hcz38_0 : w37.cell? ⟨gb408, 0, none⟩ = some (.int .i64 a0_0) := (blk_cell BK408.out 0).trans rfl; have hcz38_1 : w37.cell? ⟨gb408, 1, none⟩ = some (.string a0_1) := (blk_cell BK408.out 1).trans rfl; have hcz38_2 : w37.cell? ⟨gb408, 2, none⟩ = some (.slice A0_2 l0_2.length c0_2) := (blk_cell BK408.out 2).trans rfl; have hfz38_0 := blk_frozen BK408.out 0; have hfz38_1 := blk_frozen BK408.out 1; have hfz38_2 := blk_frozen BK408.out 2; obtain ⟨Ao39, co39, eo39⟩ := Kd.R_slice HO415.out; subst eo39; have hcz40_0 : w37.cell? ⟨gb409, 0, none⟩ = some (.int .i64 a1_0) := (blk_cell BK409.out 0).trans rfl; have hcz40_1 : w37.cell? ⟨gb409, 1, none⟩ = some (.string a1_1) := (blk_cell BK409.out 1).trans rfl; have hcz40_2 : w37.cell? ⟨gb409, 2, none⟩ = some (.slice A1_2 l1_2.length c1_2) := (blk_cell BK409.out 2).trans rfl; have hfz40_0 := blk_frozen BK409.out 0; have hfz40_1 := blk_frozen BK409.out 1; have hfz40_2 := blk_frozen BK409.out 2) | ((with_reducible refine gate_callee (f := 13) rfl ?_); refine goesL_ (some 28) rfl rfl Tryd.func13 (by kernel_rfl) rfl #[.agg #[.int .i64 a1_0, .string a1_1, .slice A1_2 l1_2.length c1_2]] rfl argq ?_; (with_reducible refine (latinerlaw02_Cut.calls k a1_0 a1_1 _ _ l1_2 t416 t417 t418 _ ?side1 ?side2 A7.out).mono ?_); (case side1 => exact Kd.C_below HR1_2.out q0_); (case side2 => exact HC1_2.out); rintro e w41 ⟨v419, rfl, ho0, hb⟩; refine ⟨_, rfl, ?_⟩; have n0_ := Aside0.mk (Kd.R_elder' (by refine rkq ?_; exact (Kd.R_mono (Kd.R_far (p := ⟨gb408, 2, none⟩) (Kd.R_far (p := ⟨gb408, 1, none⟩) (Kd.R_far (p := ⟨gb408, 0, none⟩) (Kd.R_mono HO415.out (fun k_ hk => (⟨hk, hk.1.2⟩ : _ ∧ k_ ≠ gb408))) (fun _ hk => hk.2) (.int .i64 t411)) (fun _ hk => hk.2) (.string t412)) (fun _ hk => hk.2) (.slice Ao39 t413.length co39)) (fun _ h_ => h_.1))) (Kd.R_base ho0) hb); have n1_ := Aside0.mk (Kd.R_lower (Kd.R_newB (Kd.R_newB (Kd.R_new' ho0 (Kd.R_lt (by refine rkq ?_; exact (Kd.R_mono (Kd.R_far (p := ⟨gb408, 2, none⟩) (Kd.R_far (p := ⟨gb408, 1, none⟩) (Kd.R_far (p := ⟨gb408, 0, none⟩) (Kd.R_mono HO415.out (fun k_ hk => (⟨hk, hk.1.2⟩ : _ ∧ k_ ≠ gb408))) (fun _ hk => hk.2) (.int .i64 t411)) (fun _ hk => hk.2) (.string t412)) (fun _ hk => hk.2) (.slice Ao39 t413.length co39)) (fun _ h_ => h_.1))))) (g := gb408) (o := .cells #[.int .i64 t411, .string t412, .slice Ao39 t413.length co39] 24 (0, 0)) (by refine bkq ?_; refine blk_put (cs := #[.int .i64 t411, .string t412, .slice A0_2 l0_2.length c0_2]) ?_ 2 _ rfl; refine bkq ?_; refine blk_put (cs := #[.int .i64 t411, .string a0_1, .slice A0_2 l0_2.length c0_2]) ?_ 1 _ rfl; refine bkq ?_; refine blk_put (cs := #[.int .i64 a0_0, .string a0_1, .slice A0_2 l0_2.length c0_2]) ?_ 0 _ rfl; refine bkq ?_; exact BK408.out)) (g := gb409) (o := .cells #[.int .i64 a1_0, .string a1_1, .slice A1_2 l1_2.length c1_2] 24 (0, 0)) (by refine bkq ?_; refine blk_far ?_ NB409_408.out _; refine bkq ?_; refine blk_far ?_ NB409_408.out _; refine bkq ?_; refine blk_far ?_ NB409_408.out _; refine bkq ?_; exact BK409.out)) (below_size q0_)); have n2_ := Aside0.mk (blk_below (g := gb408) (o := .cells #[.int .i64 t411, .string t412, .slice Ao39 t413.length co39] 24 (0, 0)) (by refine bkq ?_; refine blk_put (cs := #[.int .i64 t411, .string t412, .slice A0_2 l0_2.length c0_2]) ?_ 2 _ rfl; refine bkq ?_; refine blk_put (cs := #[.int .i64 t411, .string a0_1, .slice A0_2 l0_2.length c0_2]) ?_ 1 _ rfl; refine bkq ?_; refine blk_put (cs := #[.int .i64 a0_0, .string a0_1, .slice A0_2 l0_2.length c0_2]) ?_ 0 _ rfl; refine bkq ?_; exact BK408.out) hb); have n3_ := Aside0.mk (blk_below (g := gb409) (o := .cells #[.int .i64 a1_0, .string a1_1, .slice A1_2 l1_2.length c1_2] 24 (0, 0)) (by refine bkq ?_; refine blk_far ?_ NB409_408.out _; refine bkq ?_; refine blk_far ?_ NB409_408.out _; refine bkq ?_; refine blk_far ?_ NB409_408.out _; refine bkq ?_; exact BK409.out) hb); have n4_ := Aside0.mk (below_step q0_ hb); clear HO415; clear BK408; clear BK409; clear HB; have HO415 := n0_; have HO420 := n1_; have BK408 := n2_; have BK409 := n3_; have HB := n4_; clear n0_ n1_ n2_ n3_ n4_; (try clear hb); (try clear hb2); (try clear hk); (try clear hi); (try clear ho0); have hcz42_0 : w41.cell? ⟨gb409, 0, none⟩ = some (.int .i64 a1_0) := (blk_cell BK409.out 0).trans rfl; have hcz42_1 : w41.cell? ⟨gb409, 1, none⟩ = some (.string a1_1) := (blk_cell BK409.out 1).trans rfl; have hcz42_2 : w41.cell? ⟨gb409, 2, none⟩ = some (.slice A1_2 l1_2.length c1_2) := (blk_cell BK409.out 2).trans rfl; have hfz42_0 := blk_frozen BK409.out 0; have hfz42_1 := blk_frozen BK409.out 1; have hfz42_2 := blk_frozen BK409.out 2; obtain ⟨Ao43, co43, eo43⟩ := Kd.R_slice HO420.out; subst eo43) | ((with_reducible refine gate_callee (f := 14) rfl ?_); refine goesL_ (some 30) rfl rfl Tryd.func14 (by kernel_rfl) rfl #[.string a2] rfl argq ?_; (with_reducible refine (latinerlaw02_cut.calls a2 t421 _ A8.out).mono ?_); rintro e w44 ⟨rfl, hb⟩; refine ⟨_, rfl, ?_⟩; have n0_ := Aside0.mk (Kd.R_below (by refine rkq ?_; exact (Kd.R_mono (Kd.R_far (p := ⟨gb409, 2, none⟩) (Kd.R_far (p := ⟨gb409, 1, none⟩) (Kd.R_far (p := ⟨gb409, 0, none⟩) (Kd.R_mono HO415.out (fun k_ hk => (⟨hk, hk.1.2⟩ : _ ∧ k_ ≠ gb409))) (fun _ hk => hk.2) (.int .i64 t416)) (fun _ hk => hk.2) (.string t417)) (fun _ hk => hk.2) (.slice Ao43 t418.length co43)) (fun _ h_ => h_.1))) hb); have n1_ := Aside0.mk (Kd.R_below (by refine rkq ?_; exact (Kd.R_mono (Kd.R_far (p := ⟨gb409, 2, none⟩) (Kd.R_far (p := ⟨gb409, 1, none⟩) (Kd.R_far (p := ⟨gb409, 0, none⟩) (Kd.R_mono HO420.out (fun k_ hk => (⟨hk, hk.2⟩ : _ ∧ k_ ≠ gb409))) (fun _ hk => hk.2) (.int .i64 t416)) (fun _ hk => hk.2) (.string t417)) (fun _ hk => hk.2) (.slice Ao43 t418.length co43)) (fun _ h_ => h_.1))) hb); have n2_ := Aside0.mk (blk_below (g := gb408) (o := .cells #[.int .i64 t411, .string t412, .slice Ao39 t413.length co39] 24 (0, 0)) (by refine bkq ?_; refine blk_far ?_ NB408_409.out _; refine bkq ?_; refine blk_far ?_ NB408_409.out _; refine bkq ?_; refine blk_far ?_ NB408_409.out _; refine bkq ?_; exact BK408.out) hb); have n3_ := Aside0.mk (blk_below (g := gb409) (o := .cells #[.int .i64 t416, .string t417, .slice Ao43 t418.length co43] 24 (0, 0)) (by refine bkq ?_; refine blk_put (cs := #[.int .i64 t416, .string t417, .slice A1_2 l1_2.length c1_2]) ?_ 2 _ rfl; refine bkq ?_; refine blk_put (cs := #[.int .i64 t416, .string a1_1, .slice A1_2 l1_2.length c1_2]) ?_ 1 _ rfl; refine bkq ?_; refine blk_put (cs := #[.int .i64 a1_0, .string a1_1, .slice A1_2 l1_2.length c1_2]) ?_ 0 _ rfl; refine bkq ?_; exact BK409.out) hb); have n4_ := Aside0.mk (below_step q0_ hb); clear HO415; clear HO420; clear BK408; clear BK409; clear HB; have HO415 := n0_; have HO420 := n1_; have BK408 := n2_; have BK409 := n3_; have HB := n4_; clear n0_ n1_ n2_ n3_ n4_; (try clear hb); (try clear hb2); (try clear hk); (try clear hi); have hcz45_0 : w44.cell? ⟨gb408, 0, none⟩ = some (.int .i64 t411) := (blk_cell BK408.out 0).trans rfl; have hcz45_1 : w44.cell? ⟨gb408, 1, none⟩ = some (.string t412) := (blk_cell BK408.out 1).trans rfl; have hcz45_2 : w44.cell? ⟨gb408, 2, none⟩ = some (.slice Ao39 t413.length co39) := (blk_cell BK408.out 2).trans rfl; have hfz45_0 := blk_frozen BK408.out 0; have hfz45_1 := blk_frozen BK408.out 1; have hfz45_2 := blk_frozen BK408.out 2) | ((with_reducible refine gate_callee (f := 15) rfl ?_); refine goesL_ (some 33) rfl rfl Tryd.func15 (by kernel_rfl) rfl #[.agg #[.int .i64 t411, .string t412, .slice Ao39 t413.length co39]] rfl argq ?_; (with_reducible refine (tlv_Encode.calls (G := G) t411 t412 _ _ t413 t422 t423 _ ?side1 ?side2 ?side3 A9.out).mono ?_); (case side1 => repeat (first | exact (Kd.R_reads' HO415.out).2.2 | (with_reducible refine Kd.C_alloc ?_ _) | (with_reducible refine Kd.C_drewN ?_ _) | (with_reducible refine Kd.C_drew ?_))); (case side2 => exact (Kd.R_reads' HO415.out).2.1); (case side3 => first | exact hG | exact GW.below hG q0_); rintro e w46 ⟨rfl, hb⟩; refine ⟨_, rfl, ?_⟩; have n0_ := Aside0.mk (Kd.R_below (rkq HO415.out) hb); have n1_ := Aside0.mk (Kd.R_below (rkq HO420.out) hb); have n2_ := Aside0.mk (blk_below (g := gb408) (o := .cells #[.int .i64 t411, .string t412, .slice Ao39 t413.length co39] 24 (0, 0)) (bkq BK408.out) hb); have n3_ := Aside0.mk (blk_below (g := gb409) (o := .cells #[.int .i64 t416, .string t417, .slice Ao43 t418.length co43] 24 (0, 0)) (bkq BK409.out) hb); have n4_ := Aside0.mk (below_step q0_ hb); clear HO415; clear HO420; clear BK408; clear BK409; clear HB; have HO415 := n0_; have HO420 := n1_; have BK408 := n2_; have BK409 := n3_; have HB := n4_; clear n0_ n1_ n2_ n3_ n4_; (try clear hb); (try clear hb2); (try clear hk); (try clear hi); have hcz47_0 : w46.cell? ⟨gb408, 0, none⟩ = some (.int .i64 t411) := (blk_cell BK408.out 0).trans rfl; have hcz47_1 : w46.cell? ⟨gb408, 1, none⟩ = some (.string t412) := (blk_cell BK408.out 1).trans rfl; have hcz47_2 : w46.cell? ⟨gb408, 2, none⟩ = some (.slice Ao39 t413.length co39) := (blk_cell BK408.out 2).trans rfl; have hfz47_0 := blk_frozen BK408.out 0; have hfz47_1 := blk_frozen BK408.out 1; have hfz47_2 := blk_frozen BK408.out 2) | ((with_reducible refine gate_callee (f := 16) rfl ?_); refine goesL_ (some 38) rfl rfl Tryd.func16 (by kernel_rfl) rfl #[.agg #[.int .i64 t411, .string t412, .slice Ao39 t413.length co39]] rfl argq ?_; (with_reducible refine (latinerref02_Encode.calls k t411 t412 _ _ t413 t424 t425 _ ?side1 ?side2 A10.out).mono ?_); (case side1 => repeat (first | exact (Kd.R_reads' HO415.out).2.2 | (with_reducible refine Kd.C_alloc ?_ _) | (with_reducible refine Kd.C_drewN ?_ _) | (with_reducible refine Kd.C_drew ?_))); (case side2 => exact (Kd.R_reads' HO415.out).2.1); rintro e w48 ⟨rfl, hb⟩; refine ⟨_, rfl, ?_⟩; have n0_ := Aside0.mk (Kd.R_below (rkq HO415.out) hb); have n1_ := Aside0.mk (Kd.R_below (rkq HO420.out) hb); have n2_ := Aside0.mk (blk_below (g := gb408) (o := .cells #[.int .i64 t411, .string t412, .slice Ao39 t413.length co39] 24 (0, 0)) (bkq BK408.out) hb); have n3_ := Aside0.mk (blk_below (g := gb409) (o := .cells #[.int .i64 t416, .string t417, .slice Ao43 t418.length co43] 24 (0, 0)) (bkq BK409.out) hb); have n4_ := Aside0.mk (below_step q0_ hb); clear HO415; clear HO420; clear BK408; clear BK409; clear HB; have HO415 := n0_; have HO420 := n1_; have BK408 := n2_; have BK409 := n3_; have HB := n4_; clear n0_ n1_ n2_ n3_ n4_; (try clear hb); (try clear hb2); (try clear hk); (try clear hi)) | ((with_reducible refine gate_callee (f := 17) rfl ?_); refine goesL_ (some 44) rfl rfl Tryd.func17 (by kernel_rfl) rfl #[.string t421, .int .i64 a3] rfl argq ?_; (with_reducible refine (tlv_Decode.calls (G := G) k t421 a3 t426 t427 t428 t431 t432 _ ?side1 A11.out).mono ?_); (case side1 => first | exact hG | exact GW.below hG q0_); rintro e w49 ⟨v429, rfl, ho0, hb⟩; refine ⟨_, rfl, ?_⟩; have n0_ := Aside0.mk (Kd.R_elder' (rkq HO415.out) (Kd.R_base ho0) hb); have n1_ := Aside0.mk (Kd.R_elder' (rkq HO420.out) (Kd.R_base ho0) hb); have n2_ := Aside0.mk (Kd.R_lower (Kd.R_newB (Kd.R_newB (Kd.R_new' (Kd.R_new' ho0 (Kd.R_lt (rkq HO415.out))) (Kd.R_lt (rkq HO420.out))) (g := gb408) (o := .cells #[.int .i64 t411, .string t412, .slice Ao39 t413.length co39] 24 (0, 0)) (bkq BK408.out)) (g := gb409) (o := .cells #[.int .i64 t416, .string t417, .slice Ao43 t418.length co43] 24 (0, 0)) (bkq BK409.out)) (below_size q0_)); have n3_ := Aside0.mk (blk_below (g := gb408) (o := .cells #[.int .i64 t411, .string t412, .slice Ao39 t413.length co39] 24 (0, 0)) (bkq BK408.out) hb); have n4_ := Aside0.mk (blk_below (g := gb409) (o := .cells #[.int .i64 t416, .string t417, .slice Ao43 t418.length co43] 24 (0, 0)) (bkq BK409.out) hb); have n5_ := Aside0.mk (below_step q0_ hb); clear HO415; clear HO420; clear BK408; clear BK409; clear HB; have HO415 := n0_; have HO420 := n1_; have HO430 := n2_; have BK408 := n3_; have BK409 := n4_; have HB := n5_; clear n0_ n1_ n2_ n3_ n4_ n5_; (try clear hb); (try clear hb2); (try clear hk); (try clear hi); (try clear ho0)) | ((with_reducible refine gate_dst (N := 14) rfl ?_); refine box_event ?hg (N := 14) ?hd (cs := #[.int .i64 0, .string (⟨#[]⟩ : ByteArray), .slice none 0 0]) (t := 24) ?hr ?_; (case hd => rfl); (case hg => rfl); (case hr => first | (go_simp; done) | (go_simp; rfl)); intro gb433 hg w50 hbox hb; have n0_ := Aside0.mk (Kd.R_below (Kd.R_elderB (rkq HO415.out) gb433 (Nat.le_of_eq hg.symm)) hb); have n1_ := Aside0.mk (Kd.R_below (Kd.R_elderB (rkq HO420.out) gb433 (Nat.le_of_eq hg.symm)) hb); have n2_ := Aside0.mk (Kd.R_below (Kd.R_elderB (rkq HO430.out) gb433 (Nat.le_of_eq hg.symm)) hb); have n3_ := Aside0.mk (blk_below (g := gb408) (o := .cells #[.int .i64 t411, .string t412, .slice Ao39 t413.length co39] 24 (0, 0)) (bkq BK408.out) hb); have n4_ := Aside0.mk (blk_below (g := gb409) (o := .cells #[.int .i64 t416, .string t417, .slice Ao43 t418.length co43] 24 (0, 0)) (bkq BK409.out) hb); have n5_ := Aside0.mk (below_step q0_ hb); have n6_ := Aside0.mk (hbox); have n7_ := Aside0.mk ((by rw [hg]; exact (below_size q0_) : w.heap.size ≤ gb433)); have n8_ := Aside0.mk ((by rw [hg]; exact (below_size q0_) : w.heap.size ≤ gb433)); have n9_ := Aside0.mk ((by rw [hg]; exact Nat.ne_of_lt (blk_lt (g := gb408) (o := .cells #[.int .i64 t411, .string t412, .slice Ao39 t413.length co39] 24 (0, 0)) (bkq BK408.out)) : gb408 ≠ gb433)); have n10_ := Aside0.mk ((by rw [hg]; exact Nat.ne_of_gt (blk_lt (g := gb408) (o := .cells #[.int .i64 t411, .string t412, .slice Ao39 t413.length co39] 24 (0, 0)) (bkq BK408.out)) : gb433 ≠ gb408)); have n11_ := Aside0.mk ((by rw [hg]; exact Nat.ne_of_lt (blk_lt (g := gb409) (o := .cells #[.int .i64 t416, .string t417, .slice Ao43 t418.length co43] 24 (0, 0)) (bkq BK409.out)) : gb409 ≠ gb433)); have n12_ := Aside0.mk ((by rw [hg]; exact Nat.ne_of_gt (blk_lt (g := gb409) (o := .cells #[.int .i64 t416, .string t417, .slice Ao43 t418.length co43] 24 (0, 0)) (bkq BK409.out)) : gb433 ≠ gb409)); clear HO415; clear HO420; clear HO430; clear BK408; clear BK409; clear HB; have HO415 := n0_; have HO420 := n1_; have HO430 := n2_; have BK408 := n3_; have BK409 := n4_; have HB := n5_; have BK433 := n6_; have GW433 := n7_; have GE433 := n8_; have NB408_433 := n9_; have NB433_408 := n10_; have NB409_433 := n11_; have NB433_409 := n12_; clear n0_ n1_ n2_ n3_ n4_ n5_ n6_ n7_ n8_ n9_ n10_ n11_ n12_; clear hb hbox hg; have hnb51 := NB433_408.out; have hnc51 := NB408_433.out; have hnb52 := NB433_409.out; have hnc52 := NB409_433.out; have hcz53_0 : w50.cell? ⟨gb433, 0, none⟩ = some (.int .i64 0) := (blk_cell BK433.out 0).trans rfl; have hcz53_1 : w50.cell? ⟨gb433, 1, none⟩ = some (.string (⟨#[]⟩ : ByteArray)) := (blk_cell BK433.out 1).trans rfl; have hcz53_2 : w50.cell? ⟨gb433, 2, none⟩ = some (.slice none 0 0) := (blk_cell BK433.out 2).trans rfl; have hfz53_0 := blk_frozen BK433.out 0; have hfz53_1 := blk_frozen BK433.out 1; have hfz53_2 := blk_frozen BK433.out 2; obtain ⟨Ao54, co54, eo54⟩ := Kd.R_slice HO430.out; subst eo54) | ((with_reducible refine gate_callee (f := 18) rfl ?_); refine goesL_ (some 51) rfl rfl Tryd.func18 (by kernel_rfl) rfl #[.string t421, .int .i64 a3] rfl argq ?_; (with_reducible refine (latinerref02_Decode.calls k t421 a3 t434 t435 t436 t439 t440 _ A12.out).mono ?_); rintro e w55 ⟨v437, rfl, ho0, hb⟩; refine ⟨_, rfl, ?_⟩; have n0_ := Aside0.mk (Kd.R_elder' (by refine rkq ?_; exact (Kd.R_mono (Kd.R_far (p := ⟨gb433, 2, none⟩) (Kd.R_far (p := ⟨gb433, 1, none⟩) (Kd.R_far (p := ⟨gb433, 0, none⟩) (Kd.R_mono HO415.out (fun k_ hk => (⟨hk, hk.2⟩ : _ ∧ k_ ≠ gb433))) (fun _ hk => hk.2) (.int .i64 t426)) (fun _ hk => hk.2) (.string t427)) (fun _ hk => hk.2) (.slice Ao54 t428.length co54)) (fun _ h_ => h_.1))) (Kd.R_base ho0) hb); have n1_ := Aside0.mk (Kd.R_elder' (by refine rkq ?_; exact (Kd.R_mono (Kd.R_far (p := ⟨gb433, 2, none⟩) (Kd.R_far (p := ⟨gb433, 1, none⟩) (Kd.R_far (p := ⟨gb433, 0, none⟩) (Kd.R_mono HO420.out (fun k_ hk => (⟨hk, hk.2⟩ : _ ∧ k_ ≠ gb433))) (fun _ hk => hk.2) (.int .i64 t426)) (fun _ hk => hk.2) (.string t427)) (fun _ hk => hk.2) (.slice Ao54 t428.length co54)) (fun _ h_ => h_.1))) (Kd.R_base ho0) hb); have n2_ := Aside0.mk (Kd.R_elder' (by refine rkq ?_; exact (Kd.R_mono (Kd.R_far (p := ⟨gb433, 2, none⟩) (Kd.R_far (p := ⟨gb433, 1, none⟩) (Kd.R_far (p := ⟨gb433, 0, none⟩) (Kd.R_mono HO430.out (fun k_ hk => (⟨hk, hk.2⟩ : _ ∧ k_ ≠ gb433))) (fun _ hk => hk.2) (.int .i64 t426)) (fun _ hk => hk.2) (.string t427)) (fun _ hk => hk.2) (.slice Ao54 t428.length co54)) (fun _ h_ => h_.1))) (Kd.R_base ho0) hb); have n3_ := Aside0.mk (Kd.R_lower (Kd.R_newB (Kd.R_newB (Kd.R_newB (Kd.R_new' (Kd.R_new' (Kd.R_new' ho0 (Kd.R_lt (by refine rkq ?_; exact (Kd.R_mono (Kd.R_far (p := ⟨gb433, 2, none⟩) (Kd.R_far (p := ⟨gb433, 1, none⟩) (Kd.R_far (p := ⟨gb433, 0, none⟩) (Kd.R_mono HO415.out (fun k_ hk => (⟨hk, hk.2⟩ : _ ∧ k_ ≠ gb433))) (fun _ hk => hk.2) (.int .i64 t426)) (fun _ hk => hk.2) (.string t427)) (fun _ hk => hk.2) (.slice Ao54 t428.length co54)) (fun _ h_ => h_.1))))) (Kd.R_lt (by refine rkq ?_; exact (Kd.R_mono (Kd.R_far (p := ⟨gb433, 2, none⟩) (Kd.R_far (p := ⟨gb433, 1, none⟩) (Kd.R_far (p := ⟨gb433, 0, none⟩) (Kd.R_mono HO420.out (fun k_ hk => (⟨hk, hk.2⟩ : _ ∧ k_ ≠ gb433))) (fun _ hk => hk.2) (.int .i64 t426)) (fun _ hk => hk.2) (.string t427)) (fun _ hk => hk.2) (.slice Ao54 t428.length co54)) (fun _ h_ => h_.1))))) (Kd.R_lt (by refine rkq ?_; exact (Kd.R_mono (Kd.R_far (p := ⟨gb433, 2, none⟩) (Kd.R_far (p := ⟨gb433, 1, none⟩) (Kd.R_far (p := ⟨gb433, 0, none⟩) (Kd.R_mono HO430.out (fun k_ hk => (⟨hk, hk.2⟩ : _ ∧ k_ ≠ gb433))) (fun _ hk => hk.2) (.int .i64 t426)) (fun _ hk => hk.2) (.string t427)) (fun _ hk => hk.2) (.slice Ao54 t428.length co54)) (fun _ h_ => h_.1))))) (g := gb408) (o := .cells #[.int .i64 t411, .string t412, .slice Ao39 t413.length co39] 24 (0, 0)) (by refine bkq ?_; refine blk_far ?_ NB408_433.out _; refine bkq ?_; refine blk_far ?_ NB408_433.out _; refine bkq ?_; refine blk_far ?_ NB408_433.out _; refine bkq ?_; exact BK408.out)) (g := gb409) (o := .cells #[.int .i64 t416, .string t417, .slice Ao43 t418.length co43] 24 (0, 0)) (by refine bkq ?_; refine blk_far ?_ NB409_433.out _; refine bkq ?_; refine blk_far ?_ NB409_433.out _; refine bkq ?_; refine blk_far ?_ NB409_433.out _; refine bkq ?_; exact BK409.out)) (g := gb433) (o := .cells #[.int .i64 t426, .string t427, .slice Ao54 t428.length co54] 24 (0, 0)) (by refine bkq ?_; refine blk_put (cs := #[.int .i64 t426, .string t427, .slice none 0 0]) ?_ 2 _ rfl; refine bkq ?_; refine blk_put (cs := #[.int .i64 t426, .string (⟨#[]⟩ : ByteArray), .slice none 0 0]) ?_ 1 _ rfl; refine bkq ?_; refine blk_put (cs := #[.int .i64 0, .string (⟨#[]⟩ : ByteArray), .slice none 0 0]) ?_ 0 _ rfl; refine bkq ?_; exact BK433.out)) (below_size q0_)); have n4_ := Aside0.mk (blk_below (g := gb408) (o := .cells #[.int .i64 t411, .string t412, .slice Ao39 t413.length co39] 24 (0, 0)) (by refine bkq ?_; refine blk_far ?_ NB408_433.out _; refine bkq ?_; refine blk_far ?_ NB408_433.out _; refine bkq ?_; refine blk_far ?_ NB408_433.out _; refine bkq ?_; exact BK408.out) hb); have n5_ := Aside0.mk (blk_below (g := gb409) (o := .cells #[.int .i64 t416, .string t417, .slice Ao43 t418.length co43] 24 (0, 0)) (by refine bkq ?_; refine blk_far ?_ NB409_433.out _; refine bkq ?_; refine blk_far ?_ NB409_433.out _; refine bkq ?_; refine blk_far ?_ NB409_433.out _; refine bkq ?_; exact BK409.out) hb); have n6_ := Aside0.mk (blk_below (g := gb433) (o := .cells #[.int .i64 t426, .string t427, .slice Ao54 t428.length co54] 24 (0, 0)) (by refine bkq ?_; refine blk_put (cs := #[.int .i64 t426, .string t427, .slice none 0 0]) ?_ 2 _ rfl; refine bkq ?_; refine blk_put (cs := #[.int .i64 t426, .string (⟨#[]⟩ : ByteArray), .slice none 0 0]) ?_ 1 _ rfl; refine bkq ?_; refine blk_put (cs := #[.int .i64 0, .string (⟨#[]⟩ : ByteArray), .slice none 0 0]) ?_ 0 _ rfl; refine bkq ?_; exact BK433.out) hb); have n7_ := Aside0.mk (below_step q0_ hb); clear HO415; clear HO420; clear HO430; clear BK408; clear BK409; clear BK433; clear HB; have HO415 := n0_; have HO420 := n1_; have HO430 := n2_; have HO438 := n3_; have BK408 := n4_; have BK409 := n5_; have BK433 := n6_; have HB := n7_; clear n0_ n1_ n2_ n3_ n4_ n5_ n6_ n7_; (try clear hb); (try clear hb2); (try clear hk); (try clear hi); (try clear ho0)) | ((with_reducible refine gate_dst (N := 17) rfl ?_); refine box_event ?hg (N := 17) ?hd (cs := #[.int .i64 0, .string (⟨#[]⟩ : ByteArray), .slice none 0 0]) (t := 24) ?hr ?_; (case hd => rfl); (case hg => rfl); (case hr => first | (go_simp; done) | (go_simp; rfl)); intro gb441 hg w56 hbox hb; have n0_ := Aside0.mk (Kd.R_below (Kd.R_elderB (rkq HO415.out) gb441 (Nat.le_of_eq hg.symm)) hb); have n1_ := Aside0.mk (Kd.R_below (Kd.R_elderB (rkq HO420.out) gb441 (Nat.le_of_eq hg.symm)) hb); have n2_ := Aside0.mk (Kd.R_below (Kd.R_elderB (rkq HO430.out) gb441 (Nat.le_of_eq hg.symm)) hb); have n3_ := Aside0.mk (Kd.R_below (Kd.R_elderB (rkq HO438.out) gb441 (Nat.le_of_eq hg.symm)) hb); have n4_ := Aside0.mk (blk_below (g := gb408) (o := .cells #[.int .i64 t411, .string t412, .slice Ao39 t413.length co39] 24 (0, 0)) (bkq BK408.out) hb); have n5_ := Aside0.mk (blk_below (g := gb409) (o := .cells #[.int .i64 t416, .string t417, .slice Ao43 t418.length co43] 24 (0, 0)) (bkq BK409.out) hb); have n6_ := Aside0.mk (blk_below (g := gb433) (o := .cells #[.int .i64 t426, .string t427, .slice Ao54 t428.length co54] 24 (0, 0)) (bkq BK433.out) hb); have n7_ := Aside0.mk (below_step q0_ hb); have n8_ := Aside0.mk (hbox); have n9_ := Aside0.mk ((by rw [hg]; exact (below_size q0_) : w.heap.size ≤ gb441)); have n10_ := Aside0.mk ((by rw [hg]; exact (below_size q0_) : w.heap.size ≤ gb441)); have n11_ := Aside0.mk ((by rw [hg]; exact Nat.ne_of_lt (blk_lt (g := gb408) (o := .cells #[.int .i64 t411, .string t412, .slice Ao39 t413.length co39] 24 (0, 0)) (bkq BK408.out)) : gb408 ≠ gb441)); have n12_ := Aside0.mk ((by rw [hg]; exact Nat.ne_of_gt (blk_lt (g := gb408) (o := .cells #[.int .i64 t411, .string t412, .slice Ao39 t413.length co39] 24 (0, 0)) (bkq BK408.out)) : gb441 ≠ gb408)); have n13_ := Aside0.mk ((by rw [hg]; exact Nat.ne_of_lt (blk_lt (g := gb409) (o := .cells #[.int .i64 t416, .string t417, .slice Ao43 t418.length co43] 24 (0, 0)) (bkq BK409.out)) : gb409 ≠ gb441)); have n14_ := Aside0.mk ((by rw [hg]; exact Nat.ne_of_gt (blk_lt (g := gb409) (o := .cells #[.int .i64 t416, .string t417, .slice Ao43 t418.length co43] 24 (0, 0)) (bkq BK409.out)) : gb441 ≠ gb409)); have n15_ := Aside0.mk ((by rw [hg]; exact Nat.ne_of_lt (blk_lt (g := gb433) (o := .cells #[.int .i64 t426, .string t427, .slice Ao54 t428.length co54] 24 (0, 0)) (bkq BK433.out)) : gb433 ≠ gb441)); have n16_ := Aside0.mk ((by rw [hg]; exact Nat.ne_of_gt (blk_lt (g := gb433) (o := .cells #[.int .i64 t426, .string t427, .slice Ao54 t428.length co54] 24 (0, 0)) (bkq BK433.out)) : gb441 ≠ gb433)); clear HO415; clear HO420; clear HO430; clear HO438; clear BK408; clear BK409; clear BK433; clear HB; have HO415 := n0_; have HO420 := n1_; have HO430 := n2_; have HO438 := n3_; have BK408 := n4_; have BK409 := n5_; have BK433 := n6_; have HB := n7_; have BK441 := n8_; have GW441 := n9_; have GE441 := n10_; have NB408_441 := n11_; have NB441_408 := n12_; have NB409_441 := n13_; have NB441_409 := n14_; have NB433_441 := n15_; have NB441_433 := n16_; clear n0_ n1_ n2_ n3_ n4_ n5_ n6_ n7_ n8_ n9_ n10_ n11_ n12_ n13_ n14_ n15_ n16_; clear hb hbox hg; have hnb57 := NB441_408.out; have hnc57 := NB408_441.out; have hnb58 := NB441_409.out; have hnc58 := NB409_441.out; have hnb59 := NB441_433.out; have hnc59 := NB433_441.out; have hcz60_0 : w56.cell? ⟨gb441, 0, none⟩ = some (.int .i64 0) := (blk_cell BK441.out 0).trans rfl; have hcz60_1 : w56.cell? ⟨gb441, 1, none⟩ = some (.string (⟨#[]⟩ : ByteArray)) := (blk_cell BK441.out 1).trans rfl; have hcz60_2 : w56.cell? ⟨gb441, 2, none⟩ = some (.slice none 0 0) := (blk_cell BK441.out 2).trans rfl; have hfz60_0 := blk_frozen BK441.out 0; have hfz60_1 := blk_frozen BK441.out 1; have hfz60_2 := blk_frozen BK441.out 2; obtain ⟨Ao61, co61, eo61⟩ := Kd.R_slice HO438.out; subst eo61) | ((with_reducible refine gate_callee (f := 19) rfl ?_); refine goesL_ (some 57) rfl rfl Tryd.func19 (by kernel_rfl) rfl #[.string t421] rfl argq ?_; (with_reducible refine (tlv_Whole.calls (G := G) k t421 t442 t443 t444 t447 _ ?side1 A13.out).mono ?_); (case side1 => first | exact hG | exact GW.below hG q0_); rintro e w62 ⟨v445, rfl, ho0, hb⟩; refine ⟨_, rfl, ?_⟩; have n0_ := Aside0.mk (Kd.R_elder' (by refine rkq ?_; exact (Kd.R_mono (Kd.R_far (p := ⟨gb441, 2, none⟩) (Kd.R_far (p := ⟨gb441, 1, none⟩) (Kd.R_far (p := ⟨gb441, 0, none⟩) (Kd.R_mono HO415.out (fun k_ hk => (⟨hk, hk.2⟩ : _ ∧ k_ ≠ gb441))) (fun _ hk => hk.2) (.int .i64 t434)) (fun _ hk => hk.2) (.string t435)) (fun _ hk => hk.2) (.slice Ao61 t436.length co61)) (fun _ h_ => h_.1))) (Kd.R_base ho0) hb); have n1_ := Aside0.mk (Kd.R_elder' (by refine rkq ?_; exact (Kd.R_mono (Kd.R_far (p := ⟨gb441, 2, none⟩) (Kd.R_far (p := ⟨gb441, 1, none⟩) (Kd.R_far (p := ⟨gb441, 0, none⟩) (Kd.R_mono HO420.out (fun k_ hk => (⟨hk, hk.2⟩ : _ ∧ k_ ≠ gb441))) (fun _ hk => hk.2) (.int .i64 t434)) (fun _ hk => hk.2) (.string t435)) (fun _ hk => hk.2) (.slice Ao61 t436.length co61)) (fun _ h_ => h_.1))) (Kd.R_base ho0) hb); have n2_ := Aside0.mk (Kd.R_elder' (by refine rkq ?_; exact (Kd.R_mono (Kd.R_far (p := ⟨gb441, 2, none⟩) (Kd.R_far (p := ⟨gb441, 1, none⟩) (Kd.R_far (p := ⟨gb441, 0, none⟩) (Kd.R_mono HO430.out (fun k_ hk => (⟨hk, hk.2⟩ : _ ∧ k_ ≠ gb441))) (fun _ hk => hk.2) (.int .i64 t434)) (fun _ hk => hk.2) (.string t435)) (fun _ hk => hk.2) (.slice Ao61 t436.length co61)) (fun _ h_ => h_.1))) (Kd.R_base ho0) hb); have n3_ := Aside0.mk (Kd.R_elder' (by refine rkq ?_; exact (Kd.R_mono (Kd.R_far (p := ⟨gb441, 2, none⟩) (Kd.R_far (p := ⟨gb441, 1, none⟩) (Kd.R_far (p := ⟨gb441, 0, none⟩) (Kd.R_mono HO438.out (fun k_ hk => (⟨hk, hk.2⟩ : _ ∧ k_ ≠ gb441))) (fun _ hk => hk.2) (.int .i64 t434)) (fun _ hk => hk.2) (.string t435)) (fun _ hk => hk.2) (.slice Ao61 t436.length co61)) (fun _ h_ => h_.1))) (Kd.R_base ho0) hb); have n4_ := Aside0.mk (Kd.R_lower (Kd.R_newB (Kd.R_newB (Kd.R_newB (Kd.R_newB (Kd.R_new' (Kd.R_new' (Kd.R_new' (Kd.R_new' ho0 (Kd.R_lt (by refine rkq ?_; exact (Kd.R_mono (Kd.R_far (p := ⟨gb441, 2, none⟩) (Kd.R_far (p := ⟨gb441, 1, none⟩) (Kd.R_far (p := ⟨gb441, 0, none⟩) (Kd.R_mono HO415.out (fun k_ hk => (⟨hk, hk.2⟩ : _ ∧ k_ ≠ gb441))) (fun _ hk => hk.2) (.int .i64 t434)) (fun _ hk => hk.2) (.string t435)) (fun _ hk => hk.2) (.slice Ao61 t436.length co61)) (fun _ h_ => h_.1))))) (Kd.R_lt (by refine rkq ?_; exact (Kd.R_mono (Kd.R_far (p := ⟨gb441, 2, none⟩) (Kd.R_far (p := ⟨gb441, 1, none⟩) (Kd.R_far (p := ⟨gb441, 0, none⟩) (Kd.R_mono HO420.out (fun k_ hk => (⟨hk, hk.2⟩ : _ ∧ k_ ≠ gb441))) (fun _ hk => hk.2) (.int .i64 t434)) (fun _ hk => hk.2) (.string t435)) (fun _ hk => hk.2) (.slice Ao61 t436.length co61)) (fun _ h_ => h_.1))))) (Kd.R_lt (by refine rkq ?_; exact (Kd.R_mono (Kd.R_far (p := ⟨gb441, 2, none⟩) (Kd.R_far (p := ⟨gb441, 1, none⟩) (Kd.R_far (p := ⟨gb441, 0, none⟩) (Kd.R_mono HO430.out (fun k_ hk => (⟨hk, hk.2⟩ : _ ∧ k_ ≠ gb441))) (fun _ hk => hk.2) (.int .i64 t434)) (fun _ hk => hk.2) (.string t435)) (fun _ hk => hk.2) (.slice Ao61 t436.length co61)) (fun _ h_ => h_.1))))) (Kd.R_lt (by refine rkq ?_; exact (Kd.R_mono (Kd.R_far (p := ⟨gb441, 2, none⟩) (Kd.R_far (p := ⟨gb441, 1, none⟩) (Kd.R_far (p := ⟨gb441, 0, none⟩) (Kd.R_mono HO438.out (fun k_ hk => (⟨hk, hk.2⟩ : _ ∧ k_ ≠ gb441))) (fun _ hk => hk.2) (.int .i64 t434)) (fun _ hk => hk.2) (.string t435)) (fun _ hk => hk.2) (.slice Ao61 t436.length co61)) (fun _ h_ => h_.1))))) (g := gb408) (o := .cells #[.int .i64 t411, .string t412, .slice Ao39 t413.length co39] 24 (0, 0)) (by refine bkq ?_; refine blk_far ?_ NB408_441.out _; refine bkq ?_; refine blk_far ?_ NB408_441.out _; refine bkq ?_; refine blk_far ?_ NB408_441.out _; refine bkq ?_; exact BK408.out)) (g := gb409) (o := .cells #[.int .i64 t416, .string t417, .slice Ao43 t418.length co43] 24 (0, 0)) (by refine bkq ?_; refine blk_far ?_ NB409_441.out _; refine bkq ?_; refine blk_far ?_ NB409_441.out _; refine bkq ?_; refine blk_far ?_ NB409_441.out _; refine bkq ?_; exact BK409.out)) (g := gb433) (o := .cells #[.int .i64 t426, .string t427, .slice Ao54 t428.length co54] 24 (0, 0)) (by refine bkq ?_; refine blk_far ?_ NB433_441.out _; refine bkq ?_; refine blk_far ?_ NB433_441.out _; refine bkq ?_; refine blk_far ?_ NB433_441.out _; refine bkq ?_; exact BK433.out)) (g := gb441) (o := .cells #[.int .i64 t434, .string t435, .slice Ao61 t436.length co61] 24 (0, 0)) (by refine bkq ?_; refine blk_put (cs := #[.int .i64 t434, .string t435, .slice none 0 0]) ?_ 2 _ rfl; refine bkq ?_; refine blk_put (cs := #[.int .i64 t434, .string (⟨#[]⟩ : ByteArray), .slice none 0 0]) ?_ 1 _ rfl; refine bkq ?_; refine blk_put (cs := #[.int .i64 0, .string (⟨#[]⟩ : ByteArray), .slice none 0 0]) ?_ 0 _ rfl; refine bkq ?_; exact BK441.out)) (below_size q0_)); have n5_ := Aside0.mk (blk_below (g := gb408) (o := .cells #[.int .i64 t411, .string t412, .slice Ao39 t413.length co39] 24 (0, 0)) (by refine bkq ?_; refine blk_far ?_ NB408_441.out _; refine bkq ?_; refine blk_far ?_ NB408_441.out _; refine bkq ?_; refine blk_far ?_ NB408_441.out _; refine bkq ?_; exact BK408.out) hb); have n6_ := Aside0.mk (blk_below (g := gb409) (o := .cells #[.int .i64 t416, .string t417, .slice Ao43 t418.length co43] 24 (0, 0)) (by refine bkq ?_; refine blk_far ?_ NB409_441.out _; refine bkq ?_; refine blk_far ?_ NB409_441.out _; refine bkq ?_; refine blk_far ?_ NB409_441.out _; refine bkq ?_; exact BK409.out) hb); have n7_ := Aside0.mk (blk_below (g := gb433) (o := .cells #[.int .i64 t426, .string t427, .slice Ao54 t428.length co54] 24 (0, 0)) (by refine bkq ?_; refine blk_far ?_ NB433_441.out _; refine bkq ?_; refine blk_far ?_ NB433_441.out _; refine bkq ?_; refine blk_far ?_ NB433_441.out _; refine bkq ?_; exact BK433.out) hb); have n8_ := Aside0.mk (blk_below (g := gb441) (o := .cells #[.int .i64 t434, .string t435, .slice Ao61 t436.length co61] 24 (0, 0)) (by refine bkq ?_; refine blk_put (cs := #[.int .i64 t434, .string t435, .slice none 0 0]) ?_ 2 _ rfl; refine bkq ?_; refine blk_put (cs := #[.int .i64 t434, .string (⟨#[]⟩ : ByteArray), .slice none 0 0]) ?_ 1 _ rfl; refine bkq ?_; refine blk_put (cs := #[.int .i64 0, .string (⟨#[]⟩ : ByteArray), .slice none 0 0]) ?_ 0 _ rfl; refine bkq ?_; exact BK441.out) hb); have n9_ := Aside0.mk (below_step q0_ hb); clear HO415; clear HO420; clear HO430; clear HO438; clear BK408; clear BK409; clear BK433; clear BK441; clear HB; have HO415 := n0_; have HO420 := n1_; have HO430 := n2_; have HO438 := n3_; have HO446 := n4_; have BK408 := n5_; have BK409 := n6_; have BK433 := n7_; have BK441 := n8_; have HB := n9_; clear n0_ n1_ n2_ n3_ n4_ n5_ n6_ n7_ n8_ n9_; (try clear hb); (try clear hb2); (try clear hk); (try clear hi); (try clear ho0)) | ((with_reducible refine gate_dst (N := 20) rfl ?_); refine box_event ?hg (N := 20) ?hd (cs := #[.int .i64 0, .string (⟨#[]⟩ : ByteArray), .slice none 0 0]) (t := 24) ?hr ?_; (case hd => rfl); (case hg => rfl); (case hr => first | (go_simp; done) | (go_simp; rfl)); intro gb448 hg w63 hbox hb; have n0_ := Aside0.mk (Kd.R_below (Kd.R_elderB (rkq HO415.out) gb448 (Nat.le_of_eq hg.symm)) hb); have n1_ := Aside0.mk (Kd.R_below (Kd.R_elderB (rkq HO420.out) gb448 (Nat.le_of_eq hg.symm)) hb); have n2_ := Aside0.mk (Kd.R_below (Kd.R_elderB (rkq HO430.out) gb448 (Nat.le_of_eq hg.symm)) hb); have n3_ := Aside0.mk (Kd.R_below (Kd.R_elderB (rkq HO438.out) gb448 (Nat.le_of_eq hg.symm)) hb); have n4_ := Aside0.mk (Kd.R_below (Kd.R_elderB (rkq HO446.out) gb448 (Nat.le_of_eq hg.symm)) hb); have n5_ := Aside0.mk (blk_below (g := gb408) (o := .cells #[.int .i64 t411, .string t412, .slice Ao39 t413.length co39] 24 (0, 0)) (bkq BK408.out) hb); have n6_ := Aside0.mk (blk_below (g := gb409) (o := .cells #[.int .i64 t416, .string t417, .slice Ao43 t418.length co43] 24 (0, 0)) (bkq BK409.out) hb); have n7_ := Aside0.mk (blk_below (g := gb433) (o := .cells #[.int .i64 t426, .string t427, .slice Ao54 t428.length co54] 24 (0, 0)) (bkq BK433.out) hb); have n8_ := Aside0.mk (blk_below (g := gb441) (o := .cells #[.int .i64 t434, .string t435, .slice Ao61 t436.length co61] 24 (0, 0)) (bkq BK441.out) hb); have n9_ := Aside0.mk (below_step q0_ hb); have n10_ := Aside0.mk (hbox); have n11_ := Aside0.mk ((by rw [hg]; exact (below_size q0_) : w.heap.size ≤ gb448)); have n12_ := Aside0.mk ((by rw [hg]; exact (below_size q0_) : w.heap.size ≤ gb448)); have n13_ := Aside0.mk ((by rw [hg]; exact Nat.ne_of_lt (blk_lt (g := gb408) (o := .cells #[.int .i64 t411, .string t412, .slice Ao39 t413.length co39] 24 (0, 0)) (bkq BK408.out)) : gb408 ≠ gb448)); have n14_ := Aside0.mk ((by rw [hg]; exact Nat.ne_of_gt (blk_lt (g := gb408) (o := .cells #[.int .i64 t411, .string t412, .slice Ao39 t413.length co39] 24 (0, 0)) (bkq BK408.out)) : gb448 ≠ gb408)); have n15_ := Aside0.mk ((by rw [hg]; exact Nat.ne_of_lt (blk_lt (g := gb409) (o := .cells #[.int .i64 t416, .string t417, .slice Ao43 t418.length co43] 24 (0, 0)) (bkq BK409.out)) : gb409 ≠ gb448)); have n16_ := Aside0.mk ((by rw [hg]; exact Nat.ne_of_gt (blk_lt (g := gb409) (o := .cells #[.int .i64 t416, .string t417, .slice Ao43 t418.length co43] 24 (0, 0)) (bkq BK409.out)) : gb448 ≠ gb409)); have n17_ := Aside0.mk ((by rw [hg]; exact Nat.ne_of_lt (blk_lt (g := gb433) (o := .cells #[.int .i64 t426, .string t427, .slice Ao54 t428.length co54] 24 (0, 0)) (bkq BK433.out)) : gb433 ≠ gb448)); have n18_ := Aside0.mk ((by rw [hg]; exact Nat.ne_of_gt (blk_lt (g := gb433) (o := .cells #[.int .i64 t426, .string t427, .slice Ao54 t428.length co54] 24 (0, 0)) (bkq BK433.out)) : gb448 ≠ gb433)); have n19_ := Aside0.mk ((by rw [hg]; exact Nat.ne_of_lt (blk_lt (g := gb441) (o := .cells #[.int .i64 t434, .string t435, .slice Ao61 t436.length co61] 24 (0, 0)) (bkq BK441.out)) : gb441 ≠ gb448)); have n20_ := Aside0.mk ((by rw [hg]; exact Nat.ne_of_gt (blk_lt (g := gb441) (o := .cells #[.int .i64 t434, .string t435, .slice Ao61 t436.length co61] 24 (0, 0)) (bkq BK441.out)) : gb448 ≠ gb441)); clear HO415; clear HO420; clear HO430; clear HO438; clear HO446; clear BK408; clear BK409; clear BK433; clear BK441; clear HB; have HO415 := n0_; have HO420 := n1_; have HO430 := n2_; have HO438 := n3_; have HO446 := n4_; have BK408 := n5_; have BK409 := n6_; have BK433 := n7_; have BK441 := n8_; have HB := n9_; have BK448 := n10_; have GW448 := n11_; have GE448 := n12_; have NB408_448 := n13_; have NB448_408 := n14_; have NB409_448 := n15_; have NB448_409 := n16_; have NB433_448 := n17_; have NB448_433 := n18_; have NB441_448 := n19_; have NB448_441 := n20_; clear n0_ n1_ n2_ n3_ n4_ n5_ n6_ n7_ n8_ n9_ n10_ n11_ n12_ n13_ n14_ n15_ n16_ n17_ n18_ n19_ n20_; clear hb hbox hg; have hnb64 := NB448_408.out; have hnc64 := NB408_448.out; have hnb65 := NB448_409.out; have hnc65 := NB409_448.out; have hnb66 := NB448_433.out; have hnc66 := NB433_448.out; have hnb67 := NB448_441.out; have hnc67 := NB441_448.out; have hcz68_0 : w63.cell? ⟨gb448, 0, none⟩ = some (.int .i64 0) := (blk_cell BK448.out 0).trans rfl; have hcz68_1 : w63.cell? ⟨gb448, 1, none⟩ = some (.string (⟨#[]⟩ : ByteArray)) := (blk_cell BK448.out 1).trans rfl; have hcz68_2 : w63.cell? ⟨gb448, 2, none⟩ = some (.slice none 0 0) := (blk_cell BK448.out 2).trans rfl; have hfz68_0 := blk_frozen BK448.out 0; have hfz68_1 := blk_frozen BK448.out 1; have hfz68_2 := blk_frozen BK448.out 2; obtain ⟨Ao69, co69, eo69⟩ := Kd.R_slice HO446.out; subst eo69) | ((with_reducible refine gate_callee (f := 20) rfl ?_); refine goesL_ (some 62) rfl rfl Tryd.func20 (by kernel_rfl) rfl #[.string t421] rfl argq ?_; (with_reducible refine (latinerref02_Whole.calls k t421 t449 t450 t451 t454 _ A14.out).mono ?_); rintro e w70 ⟨v452, rfl, ho0, hb⟩; refine ⟨_, rfl, ?_⟩; have n0_ := Aside0.mk (Kd.R_elder' (by refine rkq ?_; exact (Kd.R_mono (Kd.R_far (p := ⟨gb448, 2, none⟩) (Kd.R_far (p := ⟨gb448, 1, none⟩) (Kd.R_far (p := ⟨gb448, 0, none⟩) (Kd.R_mono HO415.out (fun k_ hk => (⟨hk, hk.2⟩ : _ ∧ k_ ≠ gb448))) (fun _ hk => hk.2) (.int .i64 t442)) (fun _ hk => hk.2) (.string t443)) (fun _ hk => hk.2) (.slice Ao69 t444.length co69)) (fun _ h_ => h_.1))) (Kd.R_base ho0) hb); have n1_ := Aside0.mk (Kd.R_elder' (by refine rkq ?_; exact (Kd.R_mono (Kd.R_far (p := ⟨gb448, 2, none⟩) (Kd.R_far (p := ⟨gb448, 1, none⟩) (Kd.R_far (p := ⟨gb448, 0, none⟩) (Kd.R_mono HO420.out (fun k_ hk => (⟨hk, hk.2⟩ : _ ∧ k_ ≠ gb448))) (fun _ hk => hk.2) (.int .i64 t442)) (fun _ hk => hk.2) (.string t443)) (fun _ hk => hk.2) (.slice Ao69 t444.length co69)) (fun _ h_ => h_.1))) (Kd.R_base ho0) hb); have n2_ := Aside0.mk (Kd.R_elder' (by refine rkq ?_; exact (Kd.R_mono (Kd.R_far (p := ⟨gb448, 2, none⟩) (Kd.R_far (p := ⟨gb448, 1, none⟩) (Kd.R_far (p := ⟨gb448, 0, none⟩) (Kd.R_mono HO430.out (fun k_ hk => (⟨hk, hk.2⟩ : _ ∧ k_ ≠ gb448))) (fun _ hk => hk.2) (.int .i64 t442)) (fun _ hk => hk.2) (.string t443)) (fun _ hk => hk.2) (.slice Ao69 t444.length co69)) (fun _ h_ => h_.1))) (Kd.R_base ho0) hb); have n3_ := Aside0.mk (Kd.R_elder' (by refine rkq ?_; exact (Kd.R_mono (Kd.R_far (p := ⟨gb448, 2, none⟩) (Kd.R_far (p := ⟨gb448, 1, none⟩) (Kd.R_far (p := ⟨gb448, 0, none⟩) (Kd.R_mono HO438.out (fun k_ hk => (⟨hk, hk.2⟩ : _ ∧ k_ ≠ gb448))) (fun _ hk => hk.2) (.int .i64 t442)) (fun _ hk => hk.2) (.string t443)) (fun _ hk => hk.2) (.slice Ao69 t444.length co69)) (fun _ h_ => h_.1))) (Kd.R_base ho0) hb); have n4_ := Aside0.mk (Kd.R_elder' (by refine rkq ?_; exact (Kd.R_mono (Kd.R_far (p := ⟨gb448, 2, none⟩) (Kd.R_far (p := ⟨gb448, 1, none⟩) (Kd.R_far (p := ⟨gb448, 0, none⟩) (Kd.R_mono HO446.out (fun k_ hk => (⟨hk, hk.2⟩ : _ ∧ k_ ≠ gb448))) (fun _ hk => hk.2) (.int .i64 t442)) (fun _ hk => hk.2) (.string t443)) (fun _ hk => hk.2) (.slice Ao69 t444.length co69)) (fun _ h_ => h_.1))) (Kd.R_base ho0) hb); have n5_ := Aside0.mk (Kd.R_lower (Kd.R_newB (Kd.R_newB (Kd.R_newB (Kd.R_newB (Kd.R_newB (Kd.R_new' (Kd.R_new' (Kd.R_new' (Kd.R_new' (Kd.R_new' ho0 (Kd.R_lt (by refine rkq ?_; exact (Kd.R_mono (Kd.R_far (p := ⟨gb448, 2, none⟩) (Kd.R_far (p := ⟨gb448, 1, none⟩) (Kd.R_far (p := ⟨gb448, 0, none⟩) (Kd.R_mono HO415.out (fun k_ hk => (⟨hk, hk.2⟩ : _ ∧ k_ ≠ gb448))) (fun _ hk => hk.2) (.int .i64 t442)) (fun _ hk => hk.2) (.string t443)) (fun _ hk => hk.2) (.slice Ao69 t444.length co69)) (fun _ h_ => h_.1))))) (Kd.R_lt (by refine rkq ?_; exact (Kd.R_mono (Kd.R_far (p := ⟨gb448, 2, none⟩) (Kd.R_far (p := ⟨gb448, 1, none⟩) (Kd.R_far (p := ⟨gb448, 0, none⟩) (Kd.R_mono HO420.out (fun k_ hk => (⟨hk, hk.2⟩ : _ ∧ k_ ≠ gb448))) (fun _ hk => hk.2) (.int .i64 t442)) (fun _ hk => hk.2) (.string t443)) (fun _ hk => hk.2) (.slice Ao69 t444.length co69)) (fun _ h_ => h_.1))))) (Kd.R_lt (by refine rkq ?_; exact (Kd.R_mono (Kd.R_far (p := ⟨gb448, 2, none⟩) (Kd.R_far (p := ⟨gb448, 1, none⟩) (Kd.R_far (p := ⟨gb448, 0, none⟩) (Kd.R_mono HO430.out (fun k_ hk => (⟨hk, hk.2⟩ : _ ∧ k_ ≠ gb448))) (fun _ hk => hk.2) (.int .i64 t442)) (fun _ hk => hk.2) (.string t443)) (fun _ hk => hk.2) (.slice Ao69 t444.length co69)) (fun _ h_ => h_.1))))) (Kd.R_lt (by refine rkq ?_; exact (Kd.R_mono (Kd.R_far (p := ⟨gb448, 2, none⟩) (Kd.R_far (p := ⟨gb448, 1, none⟩) (Kd.R_far (p := ⟨gb448, 0, none⟩) (Kd.R_mono HO438.out (fun k_ hk => (⟨hk, hk.2⟩ : _ ∧ k_ ≠ gb448))) (fun _ hk => hk.2) (.int .i64 t442)) (fun _ hk => hk.2) (.string t443)) (fun _ hk => hk.2) (.slice Ao69 t444.length co69)) (fun _ h_ => h_.1))))) (Kd.R_lt (by refine rkq ?_; exact (Kd.R_mono (Kd.R_far (p := ⟨gb448, 2, none⟩) (Kd.R_far (p := ⟨gb448, 1, none⟩) (Kd.R_far (p := ⟨gb448, 0, none⟩) (Kd.R_mono HO446.out (fun k_ hk => (⟨hk, hk.2⟩ : _ ∧ k_ ≠ gb448))) (fun _ hk => hk.2) (.int .i64 t442)) (fun _ hk => hk.2) (.string t443)) (fun _ hk => hk.2) (.slice Ao69 t444.length co69)) (fun _ h_ => h_.1))))) (g := gb408) (o := .cells #[.int .i64 t411, .string t412, .slice Ao39 t413.length co39] 24 (0, 0)) (by refine bkq ?_; refine blk_far ?_ NB408_448.out _; refine bkq ?_; refine blk_far ?_ NB408_448.out _; refine bkq ?_; refine blk_far ?_ NB408_448.out _; refine bkq ?_; exact BK408.out)) (g := gb409) (o := .cells #[.int .i64 t416, .string t417, .slice Ao43 t418.length co43] 24 (0, 0)) (by refine bkq ?_; refine blk_far ?_ NB409_448.out _; refine bkq ?_; refine blk_far ?_ NB409_448.out _; refine bkq ?_; refine blk_far ?_ NB409_448.out _; refine bkq ?_; exact BK409.out)) (g := gb433) (o := .cells #[.int .i64 t426, .string t427, .slice Ao54 t428.length co54] 24 (0, 0)) (by refine bkq ?_; refine blk_far ?_ NB433_448.out _; refine bkq ?_; refine blk_far ?_ NB433_448.out _; refine bkq ?_; refine blk_far ?_ NB433_448.out _; refine bkq ?_; exact BK433.out)) (g := gb441) (o := .cells #[.int .i64 t434, .string t435, .slice Ao61 t436.length co61] 24 (0, 0)) (by refine bkq ?_; refine blk_far ?_ NB441_448.out _; refine bkq ?_; refine blk_far ?_ NB441_448.out _; refine bkq ?_; refine blk_far ?_ NB441_448.out _; refine bkq ?_; exact BK441.out)) (g := gb448) (o := .cells #[.int .i64 t442, .string t443, .slice Ao69 t444.length co69] 24 (0, 0)) (by refine bkq ?_; refine blk_put (cs := #[.int .i64 t442, .string t443, .slice none 0 0]) ?_ 2 _ rfl; refine bkq ?_; refine blk_put (cs := #[.int .i64 t442, .string (⟨#[]⟩ : ByteArray), .slice none 0 0]) ?_ 1 _ rfl; refine bkq ?_; refine blk_put (cs := #[.int .i64 0, .string (⟨#[]⟩ : ByteArray), .slice none 0 0]) ?_ 0 _ rfl; refine bkq ?_; exact BK448.out)) (below_size q0_)); have n6_ := Aside0.mk (blk_below (g := gb408) (o := .cells #[.int .i64 t411, .string t412, .slice Ao39 t413.length co39] 24 (0, 0)) (by refine bkq ?_; refine blk_far ?_ NB408_448.out _; refine bkq ?_; refine blk_far ?_ NB408_448.out _; refine bkq ?_; refine blk_far ?_ NB408_448.out _; refine bkq ?_; exact BK408.out) hb); have n7_ := Aside0.mk (blk_below (g := gb409) (o := .cells #[.int .i64 t416, .string t417, .slice Ao43 t418.length co43] 24 (0, 0)) (by refine bkq ?_; refine blk_far ?_ NB409_448.out _; refine bkq ?_; refine blk_far ?_ NB409_448.out _; refine bkq ?_; refine blk_far ?_ NB409_448.out _; refine bkq ?_; exact BK409.out) hb); have n8_ := Aside0.mk (blk_below (g := gb433) (o := .cells #[.int .i64 t426, .string t427, .slice Ao54 t428.length co54] 24 (0, 0)) (by refine bkq ?_; refine blk_far ?_ NB433_448.out _; refine bkq ?_; refine blk_far ?_ NB433_448.out _; refine bkq ?_; refine blk_far ?_ NB433_448.out _; refine bkq ?_; exact BK433.out) hb); have n9_ := Aside0.mk (blk_below (g := gb441) (o := .cells #[.int .i64 t434, .string t435, .slice Ao61 t436.length co61] 24 (0, 0)) (by refine bkq ?_; refine blk_far ?_ NB441_448.out _; refine bkq ?_; refine blk_far ?_ NB441_448.out _; refine bkq ?_; refine blk_far ?_ NB441_448.out _; refine bkq ?_; exact BK441.out) hb); have n10_ := Aside0.mk (blk_below (g := gb448) (o := .cells #[.int .i64 t442, .string t443, .slice Ao69 t444.length co69] 24 (0, 0)) (by refine bkq ?_; refine blk_put (cs := #[.int .i64 t442, .string t443, .slice none 0 0]) ?_ 2 _ rfl; refine bkq ?_; refine blk_put (cs := #[.int .i64 t442, .string (⟨#[]⟩ : ByteArray), .slice none 0 0]) ?_ 1 _ rfl; refine bkq ?_; refine blk_put (cs := #[.int .i64 0, .string (⟨#[]⟩ : ByteArray), .slice none 0 0]) ?_ 0 _ rfl; refine bkq ?_; exact BK448.out) hb); have n11_ := Aside0.mk (below_step q0_ hb); clear HO415; clear HO420; clear HO430; clear HO438; clear HO446; clear BK408; clear BK409; clear BK433; clear BK441; clear BK448; clear HB; have HO415 := n0_; have HO420 := n1_; have HO430 := n2_; have HO438 := n3_; have HO446 := n4_; have HO453 := n5_; have BK408 := n6_; have BK409 := n7_; have BK433 := n8_; have BK441 := n9_; have BK448 := n10_; have HB := n11_; clear n0_ n1_ n2_ n3_ n4_ n5_ n6_ n7_ n8_ n9_ n10_ n11_; (try clear hb); (try clear hb2); (try clear hk); (try clear hi); (try clear ho0)) | ((with_reducible refine gate_dst (N := 22) rfl ?_); refine box_event ?hg (N := 22) ?hd (cs := #[.int .i64 0, .string (⟨#[]⟩ : ByteArray), .slice none 0 0]) (t := 24) ?hr ?_; (case hd => rfl); (case hg => rfl); (case hr => first | (go_simp; done) | (go_simp; rfl)); intro gb455 hg w71 hbox hb; have n0_ := Aside0.mk (Kd.R_below (Kd.R_elderB (rkq HO415.out) gb455 (Nat.le_of_eq hg.symm)) hb); have n1_ := Aside0.mk (Kd.R_below (Kd.R_elderB (rkq HO420.out) gb455 (Nat.le_of_eq hg.symm)) hb); have n2_ := Aside0.mk (Kd.R_below (Kd.R_elderB (rkq HO430.out) gb455 (Nat.le_of_eq hg.symm)) hb); have n3_ := Aside0.mk (Kd.R_below (Kd.R_elderB (rkq HO438.out) gb455 (Nat.le_of_eq hg.symm)) hb); have n4_ := Aside0.mk (Kd.R_below (Kd.R_elderB (rkq HO446.out) gb455 (Nat.le_of_eq hg.symm)) hb); have n5_ := Aside0.mk (Kd.R_below (Kd.R_elderB (rkq HO453.out) gb455 (Nat.le_of_eq hg.symm)) hb); have n6_ := Aside0.mk (blk_below (g := gb408) (o := .cells #[.int .i64 t411, .string t412, .slice Ao39 t413.length co39] 24 (0, 0)) (bkq BK408.out) hb); have n7_ := Aside0.mk (blk_below (g := gb409) (o := .cells #[.int .i64 t416, .string t417, .slice Ao43 t418.length co43] 24 (0, 0)) (bkq BK409.out) hb); have n8_ := Aside0.mk (blk_below (g := gb433) (o := .cells #[.int .i64 t426, .string t427, .slice Ao54 t428.length co54] 24 (0, 0)) (bkq BK433.out) hb); have n9_ := Aside0.mk (blk_below (g := gb441) (o := .cells #[.int .i64 t434, .string t435, .slice Ao61 t436.length co61] 24 (0, 0)) (bkq BK441.out) hb); have n10_ := Aside0.mk (blk_below (g := gb448) (o := .cells #[.int .i64 t442, .string t443, .slice Ao69 t444.length co69] 24 (0, 0)) (bkq BK448.out) hb); have n11_ := Aside0.mk (below_step q0_ hb); have n12_ := Aside0.mk (hbox); have n13_ := Aside0.mk ((by rw [hg]; exact (below_size q0_) : w.heap.size ≤ gb455)); have n14_ := Aside0.mk ((by rw [hg]; exact (below_size q0_) : w.heap.size ≤ gb455)); have n15_ := Aside0.mk ((by rw [hg]; exact Nat.ne_of_lt (blk_lt (g := gb408) (o := .cells #[.int .i64 t411, .string t412, .slice Ao39 t413.length co39] 24 (0, 0)) (bkq BK408.out)) : gb408 ≠ gb455)); have n16_ := Aside0.mk ((by rw [hg]; exact Nat.ne_of_gt (blk_lt (g := gb408) (o := .cells #[.int .i64 t411, .string t412, .slice Ao39 t413.length co39] 24 (0, 0)) (bkq BK408.out)) : gb455 ≠ gb408)); have n17_ := Aside0.mk ((by rw [hg]; exact Nat.ne_of_lt (blk_lt (g := gb409) (o := .cells #[.int .i64 t416, .string t417, .slice Ao43 t418.length co43] 24 (0, 0)) (bkq BK409.out)) : gb409 ≠ gb455)); have n18_ := Aside0.mk ((by rw [hg]; exact Nat.ne_of_gt (blk_lt (g := gb409) (o := .cells #[.int .i64 t416, .string t417, .slice Ao43 t418.length co43] 24 (0, 0)) (bkq BK409.out)) : gb455 ≠ gb409)); have n19_ := Aside0.mk ((by rw [hg]; exact Nat.ne_of_lt (blk_lt (g := gb433) (o := .cells #[.int .i64 t426, .string t427, .slice Ao54 t428.length co54] 24 (0, 0)) (bkq BK433.out)) : gb433 ≠ gb455)); have n20_ := Aside0.mk ((by rw [hg]; exact Nat.ne_of_gt (blk_lt (g := gb433) (o := .cells #[.int .i64 t426, .string t427, .slice Ao54 t428.length co54] 24 (0, 0)) (bkq BK433.out)) : gb455 ≠ gb433)); have n21_ := Aside0.mk ((by rw [hg]; exact Nat.ne_of_lt (blk_lt (g := gb441) (o := .cells #[.int .i64 t434, .string t435, .slice Ao61 t436.length co61] 24 (0, 0)) (bkq BK441.out)) : gb441 ≠ gb455)); have n22_ := Aside0.mk ((by rw [hg]; exact Nat.ne_of_gt (blk_lt (g := gb441) (o := .cells #[.int .i64 t434, .string t435, .slice Ao61 t436.length co61] 24 (0, 0)) (bkq BK441.out)) : gb455 ≠ gb441)); have n23_ := Aside0.mk ((by rw [hg]; exact Nat.ne_of_lt (blk_lt (g := gb448) (o := .cells #[.int .i64 t442, .string t443, .slice Ao69 t444.length co69] 24 (0, 0)) (bkq BK448.out)) : gb448 ≠ gb455)); have n24_ := Aside0.mk ((by rw [hg]; exact Nat.ne_of_gt (blk_lt (g := gb448) (o := .cells #[.int .i64 t442, .string t443, .slice Ao69 t444.length co69] 24 (0, 0)) (bkq BK448.out)) : gb455 ≠ gb448)); clear HO415; clear HO420; clear HO430; clear HO438; clear HO446; clear HO453; clear BK408; clear BK409; clear BK433; clear BK441; clear BK448; clear HB; have HO415 := n0_; have HO420 := n1_; have HO430 := n2_; have HO438 := n3_; have HO446 := n4_; have HO453 := n5_; have BK408 := n6_; have BK409 := n7_; have BK433 := n8_; have BK441 := n9_; have BK448 := n10_; have HB := n11_; have BK455 := n12_; have GW455 := n13_; have GE455 := n14_; have NB408_455 := n15_; have NB455_408 := n16_; have NB409_455 := n17_; have NB455_409 := n18_; have NB433_455 := n19_; have NB455_433 := n20_; have NB441_455 := n21_; have NB455_441 := n22_; have NB448_455 := n23_; have NB455_448 := n24_; clear n0_ n1_ n2_ n3_ n4_ n5_ n6_ n7_ n8_ n9_ n10_ n11_ n12_ n13_ n14_ n15_ n16_ n17_ n18_ n19_ n20_ n21_ n22_ n23_ n24_; clear hb hbox hg; have hnb72 := NB455_408.out; have hnc72 := NB408_455.out; have hnb73 := NB455_409.out; have hnc73 := NB409_455.out; have hnb74 := NB455_433.out; have hnc74 := NB433_455.out; have hnb75 := NB455_441.out; have hnc75 := NB441_455.out; have hnb76 := NB455_448.out; have hnc76 := NB448_455.out; have hcz77_0 : w71.cell? ⟨gb455, 0, none⟩ = some (.int .i64 0) := (blk_cell BK455.out 0).trans rfl; have hcz77_1 : w71.cell? ⟨gb455, 1, none⟩ = some (.string (⟨#[]⟩ : ByteArray)) := (blk_cell BK455.out 1).trans rfl; have hcz77_2 : w71.cell? ⟨gb455, 2, none⟩ = some (.slice none 0 0) := (blk_cell BK455.out 2).trans rfl; have hfz77_0 := blk_frozen BK455.out 0; have hfz77_1 := blk_frozen BK455.out 1; have hfz77_2 := blk_frozen BK455.out 2; obtain ⟨Ao78, co78, eo78⟩ := Kd.R_slice HO453.out; subst eo78))
           have n0_ : Aside0 (Kd.R k24 24 (((w71.setCell ⟨gb455, 0, none⟩ (.int .i64 t449)).setCell ⟨gb455, 1, none⟩ (.string t450)).setCell ⟨gb455, 2, none⟩ (.slice Ao78 t451.length co78)) w.heap.size (fun k_ => some k_ ≠ (.slice Ao43 t418.length co43 : Value).ownBlock ∧ some k_ ≠ (.slice Ao54 t428.length co54 : Value).ownBlock ∧ some k_ ≠ (.slice Ao61 t436.length co61 : Value).ownBlock ∧ some k_ ≠ (.slice Ao69 t444.length co69 : Value).ownBlock ∧ some k_ ≠ (.slice Ao78 t451.length co78 : Value).ownBlock ∧ k_ ≠ gb408 ∧ k_ ≠ gb409 ∧ k_ ≠ gb433 ∧ k_ ≠ gb441 ∧ k_ ≠ gb448 ∧ k_ ≠ gb455) (.slice Ao39 t413.length co39) t413) := ⟨by refine rkq ?_; exact Kd.R_mono (Kd.R_far (p := ⟨gb455, 2, none⟩) (Kd.R_far (p := ⟨gb455, 1, none⟩) (Kd.R_far (p := ⟨gb455, 0, none⟩) (Kd.R_mono HO415.out (fun k_ hk => (⟨hk, hk.2⟩ : _ ∧ k_ ≠ gb455))) (fun _ hk => hk.2) (.int .i64 t449)) (fun _ hk => hk.2) (.string t450)) (fun _ hk => hk.2) (.slice Ao78 t451.length co78)) (fun _ hk => ⟨hk.1.1.1.1.1.1.1.1.1.2, ⟨hk.1.1.1.1.1.1.1.1.2, ⟨hk.1.1.1.1.1.1.2, ⟨hk.1.1.1.1.2, ⟨hk.1.1.2, ⟨hk.1.1.1.1.1.1.1.1.1.1.1.2, ⟨hk.1.1.1.1.1.1.1.1.1.1.2, ⟨hk.1.1.1.1.1.1.1.2, ⟨hk.1.1.1.1.1.2, ⟨hk.1.1.1.2, hk.1.2⟩⟩⟩⟩⟩⟩⟩⟩⟩⟩)⟩
           have n1_ : Aside0 (Kd.R k24 24 (((w71.setCell ⟨gb455, 0, none⟩ (.int .i64 t449)).setCell ⟨gb455, 1, none⟩ (.string t450)).setCell ⟨gb455, 2, none⟩ (.slice Ao78 t451.length co78)) w.heap.size (fun k_ => some k_ ≠ (.slice Ao39 t413.length co39 : Value).ownBlock ∧ some k_ ≠ (.slice Ao54 t428.length co54 : Value).ownBlock ∧ some k_ ≠ (.slice Ao61 t436.length co61 : Value).ownBlock ∧ some k_ ≠ (.slice Ao69 t444.length co69 : Value).ownBlock ∧ some k_ ≠ (.slice Ao78 t451.length co78 : Value).ownBlock ∧ k_ ≠ gb408 ∧ k_ ≠ gb409 ∧ k_ ≠ gb433 ∧ k_ ≠ gb441 ∧ k_ ≠ gb448 ∧ k_ ≠ gb455) (.slice Ao43 t418.length co43) t418) := ⟨by refine rkq ?_; exact Kd.R_mono (Kd.R_far (p := ⟨gb455, 2, none⟩) (Kd.R_far (p := ⟨gb455, 1, none⟩) (Kd.R_far (p := ⟨gb455, 0, none⟩) (Kd.R_mono HO420.out (fun k_ hk => (⟨hk, hk.2⟩ : _ ∧ k_ ≠ gb455))) (fun _ hk => hk.2) (.int .i64 t449)) (fun _ hk => hk.2) (.string t450)) (fun _ hk => hk.2) (.slice Ao78 t451.length co78)) (fun _ hk => ⟨hk.1.1.1.1.1.1.1.1.1.1.1.2, ⟨hk.1.1.1.1.1.1.1.1.2, ⟨hk.1.1.1.1.1.1.2, ⟨hk.1.1.1.1.2, ⟨hk.1.1.2, ⟨hk.1.1.1.1.1.1.1.1.1.1.2, ⟨hk.1.1.1.1.1.1.1.1.1.2, ⟨hk.1.1.1.1.1.1.1.2, ⟨hk.1.1.1.1.1.2, ⟨hk.1.1.1.2, hk.1.2⟩⟩⟩⟩⟩⟩⟩⟩⟩⟩)⟩
           have n2_ : Aside0 (Kd.R k24 24 (((w71.setCell ⟨gb455, 0, none⟩ (.int .i64 t449)).setCell ⟨gb455, 1, none⟩ (.string t450)).setCell ⟨gb455, 2, none⟩ (.slice Ao78 t451.length co78)) w.heap.size (fun k_ => some k_ ≠ (.slice Ao39 t413.length co39 : Value).ownBlock ∧ some k_ ≠ (.slice Ao43 t418.length co43 : Value).ownBlock ∧ some k_ ≠ (.slice Ao61 t436.length co61 : Value).ownBlock ∧ some k_ ≠ (.slice Ao69 t444.length co69 : Value).ownBlock ∧ some k_ ≠ (.slice Ao78 t451.length co78 : Value).ownBlock ∧ k_ ≠ gb408 ∧ k_ ≠ gb409 ∧ k_ ≠ gb433 ∧ k_ ≠ gb441 ∧ k_ ≠ gb448 ∧ k_ ≠ gb455) (.slice Ao54 t428.length co54) t428) := ⟨by refine rkq ?_; exact Kd.R_mono (Kd.R_far (p := ⟨gb455, 2, none⟩) (Kd.R_far (p := ⟨gb455, 1, none⟩) (Kd.R_far (p := ⟨gb455, 0, none⟩) (Kd.R_mono HO430.out (fun k_ hk => (⟨hk, hk.2⟩ : _ ∧ k_ ≠ gb455))) (fun _ hk => hk.2) (.int .i64 t449)) (fun _ hk => hk.2) (.string t450)) (fun _ hk => hk.2) (.slice Ao78 t451.length co78)) (fun _ hk => ⟨hk.1.1.1.1.1.1.1.1.1.1.1.2, ⟨hk.1.1.1.1.1.1.1.1.1.1.2, ⟨hk.1.1.1.1.1.1.2, ⟨hk.1.1.1.1.2, ⟨hk.1.1.2, ⟨hk.1.1.1.1.1.1.1.1.1.2, ⟨hk.1.1.1.1.1.1.1.1.2, ⟨hk.1.1.1.1.1.1.1.2, ⟨hk.1.1.1.1.1.2, ⟨hk.1.1.1.2, hk.1.2⟩⟩⟩⟩⟩⟩⟩⟩⟩⟩)⟩
           have n3_ : Aside0 (Kd.R k24 24 (((w71.setCell ⟨gb455, 0, none⟩ (.int .i64 t449)).setCell ⟨gb455, 1, none⟩ (.string t450)).setCell ⟨gb455, 2, none⟩ (.slice Ao78 t451.length co78)) w.heap.size (fun k_ => some k_ ≠ (.slice Ao39 t413.length co39 : Value).ownBlock ∧ some k_ ≠ (.slice Ao43 t418.length co43 : Value).ownBlock ∧ some k_ ≠ (.slice Ao54 t428.length co54 : Value).ownBlock ∧ some k_ ≠ (.slice Ao69 t444.length co69 : Value).ownBlock ∧ some k_ ≠ (.slice Ao78 t451.length co78 : Value).ownBlock ∧ k_ ≠ gb408 ∧ k_ ≠ gb409 ∧ k_ ≠ gb433 ∧ k_ ≠ gb441 ∧ k_ ≠ gb448 ∧ k_ ≠ gb455) (.slice Ao61 t436.length co61) t436) := ⟨by refine rkq ?_; exact Kd.R_mono (Kd.R_far (p := ⟨gb455, 2, none⟩) (Kd.R_far (p := ⟨gb455, 1, none⟩) (Kd.R_far (p := ⟨gb455, 0, none⟩) (Kd.R_mono HO438.out (fun k_ hk => (⟨hk, hk.2⟩ : _ ∧ k_ ≠ gb455))) (fun _ hk => hk.2) (.int .i64 t449)) (fun _ hk => hk.2) (.string t450)) (fun _ hk => hk.2) (.slice Ao78 t451.length co78)) (fun _ hk => ⟨hk.1.1.1.1.1.1.1.1.1.1.1.2, ⟨hk.1.1.1.1.1.1.1.1.1.1.2, ⟨hk.1.1.1.1.1.1.1.1.1.2, ⟨hk.1.1.1.1.2, ⟨hk.1.1.2, ⟨hk.1.1.1.1.1.1.1.1.2, ⟨hk.1.1.1.1.1.1.1.2, ⟨hk.1.1.1.1.1.1.2, ⟨hk.1.1.1.1.1.2, ⟨hk.1.1.1.2, hk.1.2⟩⟩⟩⟩⟩⟩⟩⟩⟩⟩)⟩
           have n4_ : Aside0 (Kd.R k24 24 (((w71.setCell ⟨gb455, 0, none⟩ (.int .i64 t449)).setCell ⟨gb455, 1, none⟩ (.string t450)).setCell ⟨gb455, 2, none⟩ (.slice Ao78 t451.length co78)) w.heap.size (fun k_ => some k_ ≠ (.slice Ao39 t413.length co39 : Value).ownBlock ∧ some k_ ≠ (.slice Ao43 t418.length co43 : Value).ownBlock ∧ some k_ ≠ (.slice Ao54 t428.length co54 : Value).ownBlock ∧ some k_ ≠ (.slice Ao61 t436.length co61 : Value).ownBlock ∧ some k_ ≠ (.slice Ao78 t451.length co78 : Value).ownBlock ∧ k_ ≠ gb408 ∧ k_ ≠ gb409 ∧ k_ ≠ gb433 ∧ k_ ≠ gb441 ∧ k_ ≠ gb448 ∧ k_ ≠ gb455) (.slice Ao69 t444.length co69) t444) := ⟨by refine rkq ?_; exact Kd.R_mono (Kd.R_far (p := ⟨gb455, 2, none⟩) (Kd.R_far (p := ⟨gb455, 1, none⟩) (Kd.R_far (p := ⟨gb455, 0, none⟩) (Kd.R_mono HO446.out (fun k_ hk => (⟨hk, hk.2⟩ : _ ∧ k_ ≠ gb455))) (fun _ hk => hk.2) (.int .i64 t449)) (fun _ hk => hk.2) (.string t450)) (fun _ hk => hk.2) (.slice Ao78 t451.length co78)) (fun _ hk => ⟨hk.1.1.1.1.1.1.1.1.1.1.1.2, ⟨hk.1.1.1.1.1.1.1.1.1.1.2, ⟨hk.1.1.1.1.1.1.1.1.1.2, ⟨hk.1.1.1.1.1.1.1.1.2, ⟨hk.1.1.2, ⟨hk.1.1.1.1.1.1.1.2, ⟨hk.1.1.1.1.1.1.2, ⟨hk.1.1.1.1.1.2, ⟨hk.1.1.1.1.2, ⟨hk.1.1.1.2, hk.1.2⟩⟩⟩⟩⟩⟩⟩⟩⟩⟩)⟩
           have n5_ : Aside0 (Kd.R k24 24 (((w71.setCell ⟨gb455, 0, none⟩ (.int .i64 t449)).setCell ⟨gb455, 1, none⟩ (.string t450)).setCell ⟨gb455, 2, none⟩ (.slice Ao78 t451.length co78)) w.heap.size (fun k_ => some k_ ≠ (.slice Ao39 t413.length co39 : Value).ownBlock ∧ some k_ ≠ (.slice Ao43 t418.length co43 : Value).ownBlock ∧ some k_ ≠ (.slice Ao54 t428.length co54 : Value).ownBlock ∧ some k_ ≠ (.slice Ao61 t436.length co61 : Value).ownBlock ∧ some k_ ≠ (.slice Ao69 t444.length co69 : Value).ownBlock ∧ k_ ≠ gb408 ∧ k_ ≠ gb409 ∧ k_ ≠ gb433 ∧ k_ ≠ gb441 ∧ k_ ≠ gb448 ∧ k_ ≠ gb455) (.slice Ao78 t451.length co78) t451) := ⟨by refine rkq ?_; exact Kd.R_mono (Kd.R_far (p := ⟨gb455, 2, none⟩) (Kd.R_far (p := ⟨gb455, 1, none⟩) (Kd.R_far (p := ⟨gb455, 0, none⟩) (Kd.R_mono HO453.out (fun k_ hk => (⟨hk, hk.2⟩ : _ ∧ k_ ≠ gb455))) (fun _ hk => hk.2) (.int .i64 t449)) (fun _ hk => hk.2) (.string t450)) (fun _ hk => hk.2) (.slice Ao78 t451.length co78)) (fun _ hk => ⟨hk.1.1.1.1.1.1.1.1.1.1.1.2, ⟨hk.1.1.1.1.1.1.1.1.1.1.2, ⟨hk.1.1.1.1.1.1.1.1.1.2, ⟨hk.1.1.1.1.1.1.1.1.2, ⟨hk.1.1.1.1.1.1.1.2, ⟨hk.1.1.1.1.1.1.2, ⟨hk.1.1.1.1.1.2, ⟨hk.1.1.1.1.2, ⟨hk.1.1.1.2, ⟨hk.1.1.2, hk.1.2⟩⟩⟩⟩⟩⟩⟩⟩⟩⟩)⟩
           have n6_ : Aside0 ((((w71.setCell ⟨gb455, 0, none⟩ (.int .i64 t449)).setCell ⟨gb455, 1, none⟩ (.string t450)).setCell ⟨gb455, 2, none⟩ (.slice Ao78 t451.length co78)).heap[gb408]? = some (.cells #[.int .i64 t411, .string t412, .slice Ao39 t413.length co39] 24 (0, 0))) := ⟨by refine bkq ?_; refine blk_far ?_ NB408_455.out _; refine bkq ?_; refine blk_far ?_ NB408_455.out _; refine bkq ?_; refine blk_far ?_ NB408_455.out _; refine bkq ?_; exact BK408.out⟩
           have n7_ : Aside0 ((((w71.setCell ⟨gb455, 0, none⟩ (.int .i64 t449)).setCell ⟨gb455, 1, none⟩ (.string t450)).setCell ⟨gb455, 2, none⟩ (.slice Ao78 t451.length co78)).heap[gb409]? = some (.cells #[.int .i64 t416, .string t417, .slice Ao43 t418.length co43] 24 (0, 0))) := ⟨by refine bkq ?_; refine blk_far ?_ NB409_455.out _; refine bkq ?_; refine blk_far ?_ NB409_455.out _; refine bkq ?_; refine blk_far ?_ NB409_455.out _; refine bkq ?_; exact BK409.out⟩
           have n8_ : Aside0 ((((w71.setCell ⟨gb455, 0, none⟩ (.int .i64 t449)).setCell ⟨gb455, 1, none⟩ (.string t450)).setCell ⟨gb455, 2, none⟩ (.slice Ao78 t451.length co78)).heap[gb433]? = some (.cells #[.int .i64 t426, .string t427, .slice Ao54 t428.length co54] 24 (0, 0))) := ⟨by refine bkq ?_; refine blk_far ?_ NB433_455.out _; refine bkq ?_; refine blk_far ?_ NB433_455.out _; refine bkq ?_; refine blk_far ?_ NB433_455.out _; refine bkq ?_; exact BK433.out⟩
           have n9_ : Aside0 ((((w71.setCell ⟨gb455, 0, none⟩ (.int .i64 t449)).setCell ⟨gb455, 1, none⟩ (.string t450)).setCell ⟨gb455, 2, none⟩ (.slice Ao78 t451.length co78)).heap[gb441]? = some (.cells #[.int .i64 t434, .string t435, .slice Ao61 t436.length co61] 24 (0, 0))) := ⟨by refine bkq ?_; refine blk_far ?_ NB441_455.out _; refine bkq ?_; refine blk_far ?_ NB441_455.out _; refine bkq ?_; refine blk_far ?_ NB441_455.out _; refine bkq ?_; exact BK441.out⟩
           have n10_ : Aside0 ((((w71.setCell ⟨gb455, 0, none⟩ (.int .i64 t449)).setCell ⟨gb455, 1, none⟩ (.string t450)).setCell ⟨gb455, 2, none⟩ (.slice Ao78 t451.length co78)).heap[gb448]? = some (.cells #[.int .i64 t442, .string t443, .slice Ao69 t444.length co69] 24 (0, 0))) := ⟨by refine bkq ?_; refine blk_far ?_ NB448_455.out _; refine bkq ?_; refine blk_far ?_ NB448_455.out _; refine bkq ?_; refine blk_far ?_ NB448_455.out _; refine bkq ?_; exact BK448.out⟩
           have n11_ : Aside0 ((((w71.setCell ⟨gb455, 0, none⟩ (.int .i64 t449)).setCell ⟨gb455, 1, none⟩ (.string t450)).setCell ⟨gb455, 2, none⟩ (.slice Ao78 t451.length co78)).heap[gb455]? = some (.cells #[.int .i64 t449, .string t450, .slice Ao78 t451.length co78] 24 (0, 0))) := ⟨by refine bkq ?_; refine blk_put (cs := #[.int .i64 t449, .string t450, .slice none 0 0]) ?_ 2 _ rfl; refine bkq ?_; refine blk_put (cs := #[.int .i64 t449, .string (⟨#[]⟩ : ByteArray), .slice none 0 0]) ?_ 1 _ rfl; refine bkq ?_; refine blk_put (cs := #[.int .i64 0, .string (⟨#[]⟩ : ByteArray), .slice none 0 0]) ?_ 0 _ rfl; refine bkq ?_; exact BK455.out⟩
           have n12_ : Aside0 (Below w.heap.size w (((w71.setCell ⟨gb455, 0, none⟩ (.int .i64 t449)).setCell ⟨gb455, 1, none⟩ (.string t450)).setCell ⟨gb455, 2, none⟩ (.slice Ao78 t451.length co78))) := ⟨q0_⟩
           (try clear HO415)
           (try clear HO420)
           (try clear HO430)
           (try clear HO438)
           (try clear HO446)
           (try clear HO453)
           (try clear BK408)
           (try clear BK409)
           (try clear BK433)
           (try clear BK441)
           (try clear BK448)
           (try clear BK455)
           (try clear HB)
           generalize (((w71.setCell ⟨gb455, 0, none⟩ (.int .i64 t449)).setCell ⟨gb455, 1, none⟩ (.string t450)).setCell ⟨gb455, 2, none⟩ (.slice Ao78 t451.length co78)) = w79 at n0_ n1_ n2_ n3_ n4_ n5_ n6_ n7_ n8_ n9_ n10_ n11_ n12_ ⊢
           have HO415 := n0_
           have HO420 := n1_
           have HO430 := n2_
           have HO438 := n3_
           have HO446 := n4_
           have HO453 := n5_
           have BK408 := n6_
           have BK409 := n7_
           have BK433 := n8_
           have BK441 := n9_
           have BK448 := n10_
           have BK455 := n11_
           have HB := n12_
           clear n0_ n1_ n2_ n3_ n4_ n5_ n6_ n7_ n8_ n9_ n10_ n11_ n12_
           have n0_ := Aside0.mk (Kd.R_drew HO415.out)
           have n1_ := Aside0.mk (Kd.R_drew HO420.out)
           have n2_ := Aside0.mk (Kd.R_drew HO430.out)
           have n3_ := Aside0.mk (Kd.R_drew HO438.out)
           have n4_ := Aside0.mk (Kd.R_drew HO446.out)
           have n5_ := Aside0.mk (Kd.R_drew HO453.out)
           have n6_ := Aside0.mk (blk_drew BK408.out)
           have n7_ := Aside0.mk (blk_drew BK409.out)
           have n8_ := Aside0.mk (blk_drew BK433.out)
           have n9_ := Aside0.mk (blk_drew BK441.out)
           have n10_ := Aside0.mk (blk_drew BK448.out)
           have n11_ := Aside0.mk (blk_drew BK455.out)
           have n12_ := Aside0.mk (below_drew1 HB.out)
           clear HO415
           clear HO420
           clear HO430
           clear HO438
           clear HO446
           clear HO453
           clear BK408
           clear BK409
           clear BK433
           clear BK441
           clear BK448
           clear BK455
           clear HB
           have HO415 := n0_
           have HO420 := n1_
           have HO430 := n2_
           have HO438 := n3_
           have HO446 := n4_
           have HO453 := n5_
           have BK408 := n6_
           have BK409 := n7_
           have BK433 := n8_
           have BK441 := n9_
           have BK448 := n10_
           have BK455 := n11_
           have HB := n12_
           clear n0_ n1_ n2_ n3_ n4_ n5_ n6_ n7_ n8_ n9_ n10_ n11_ n12_
           refine start_ (n := 58) (S := fun w' => w'.cell? ⟨gb408, 0, none⟩ = some (.int .i64 t411) ∧ w'.cell? ⟨gb408, 1, none⟩ = some (.string t412) ∧ w'.cell? ⟨gb408, 2, none⟩ = some (.slice Ao39 t413.length co39) ∧ w'.cell? ⟨gb409, 0, none⟩ = some (.int .i64 t416) ∧ w'.cell? ⟨gb409, 1, none⟩ = some (.string t417) ∧ w'.cell? ⟨gb409, 2, none⟩ = some (.slice Ao43 t418.length co43) ∧ w'.cell? ⟨gb433, 0, none⟩ = some (.int .i64 t426) ∧ w'.cell? ⟨gb433, 1, none⟩ = some (.string t427) ∧ w'.cell? ⟨gb433, 2, none⟩ = some (.slice Ao54 t428.length co54) ∧ w'.cell? ⟨gb441, 0, none⟩ = some (.int .i64 t434) ∧ w'.cell? ⟨gb441, 1, none⟩ = some (.string t435) ∧ w'.cell? ⟨gb441, 2, none⟩ = some (.slice Ao61 t436.length co61) ∧ w'.cell? ⟨gb448, 0, none⟩ = some (.int .i64 t442) ∧ w'.cell? ⟨gb448, 1, none⟩ = some (.string t443) ∧ w'.cell? ⟨gb448, 2, none⟩ = some (.slice Ao69 t444.length co69) ∧ w'.cell? ⟨gb455, 0, none⟩ = some (.int .i64 t449) ∧ w'.cell? ⟨gb455, 1, none⟩ = some (.string t450) ∧ w'.cell? ⟨gb455, 2, none⟩ = some (.slice Ao78 t451.length co78)) (ds := []) #[false, false, false, false, false, false, false, false, false, false, false, false, false, false, false, false, false, false, false, false, false, false, false, false, false, false, false, false, false, false, false, false, false, false, false, false, false, false, false, false, false, false, false, false, false, false, false, false, false, false, false, false, false, false, false, false, false, false] (by kernel_rfl) rfl rfl ⟨(blk_cell BK408.out 0).trans rfl, (blk_cell BK408.out 1).trans rfl, (blk_cell BK408.out 2).trans rfl, (blk_cell BK409.out 0).trans rfl, (blk_cell BK409.out 1).trans rfl, (blk_cell BK409.out 2).trans rfl, (blk_cell BK433.out 0).trans rfl, (blk_cell BK433.out 1).trans rfl, (blk_cell BK433.out 2).trans rfl, (blk_cell BK441.out 0).trans rfl, (blk_cell BK441.out 1).trans rfl, (blk_cell BK441.out 2).trans rfl, (blk_cell BK448.out 0).trans rfl, (blk_cell BK448.out 1).trans rfl, (blk_cell BK448.out 2).trans rfl, (blk_cell BK455.out 0).trans rfl, (blk_cell BK455.out 1).trans rfl, (blk_cell BK455.out 2).trans rfl⟩ (fun hHeld => ?_); refine with_tabW latinerlaw02_TlvCodes.tab11 latinerlaw02_TlvCodes.bits11 (fun HT_ HW_ => ?_)
           generalize w79.drew = w80 at HO415 HO420 HO430 HO438 HO446 HO453 BK408 BK409 BK433 BK441 BK448 BK455 HB hHeld ⊢
           refine p_ 0 (some 65) ?_
           refine p_ 1 (some 66) ?_
           refine t5_ 2 (some 67) ?_
           refine t5_ 4 (some 69) ?_
           refine one_ (i := 3) (N := some 68) #[true, true, true, true, true, false, false, false, false, false, false, false, false, false, false, false, false, false, false, false, false, false, false, false, false, false, false, false, false, false, false, false, false, false, false, false, false, false, false, false, false, false, false, false, false, false, false, false, false, false, false, false, false, false, false, false, false, false] rfl rfl (one_of HT_.out (by kernel_rfl)) (by decide) (fun K hK => ?_)
           refine goes_ Tryd.func21 (by kernel_rfl) rfl #[.agg #[.int .i64 t411, .string t412, .slice Ao39 t413.length co39]] (by rfl) rfl rfl argq ?_
           with_reducible refine (tlv_Right.calls (G := G) t411 t412 _ _ t413 t456 _ ?side1 ?side2 ?side3 A16.out).mono ?_
           (case side1 => repeat (first | exact (Kd.R_reads' HO415.out).2.2 | (with_reducible refine Kd.C_alloc ?_ _) | (with_reducible refine Kd.C_drewN ?_ _) | (with_reducible refine Kd.C_drew ?_)))
           (case side2 => exact (Kd.R_reads' HO415.out).2.1)
           (case side3 => first | exact hG | exact GW.below hG q0_)
           rintro e w81 ⟨rfl, hb⟩
           refine ⟨_, rfl, ?_⟩
           have n0_ := Aside0.mk (Kd.R_below (rkq HO415.out) hb)
           have n1_ := Aside0.mk (Kd.R_below (rkq HO420.out) hb)
           have n2_ := Aside0.mk (Kd.R_below (rkq HO430.out) hb)
           have n3_ := Aside0.mk (Kd.R_below (rkq HO438.out) hb)
           have n4_ := Aside0.mk (Kd.R_below (rkq HO446.out) hb)
           have n5_ := Aside0.mk (Kd.R_below (rkq HO453.out) hb)
           have n6_ := Aside0.mk (blk_below (g := gb408) (o := .cells #[.int .i64 t411, .string t412, .slice Ao39 t413.length co39] 24 (0, 0)) (bkq BK408.out) hb)
           have n7_ := Aside0.mk (blk_below (g := gb409) (o := .cells #[.int .i64 t416, .string t417, .slice Ao43 t418.length co43] 24 (0, 0)) (bkq BK409.out) hb)
           have n8_ := Aside0.mk (blk_below (g := gb433) (o := .cells #[.int .i64 t426, .string t427, .slice Ao54 t428.length co54] 24 (0, 0)) (bkq BK433.out) hb)
           have n9_ := Aside0.mk (blk_below (g := gb441) (o := .cells #[.int .i64 t434, .string t435, .slice Ao61 t436.length co61] 24 (0, 0)) (bkq BK441.out) hb)
           have n10_ := Aside0.mk (blk_below (g := gb448) (o := .cells #[.int .i64 t442, .string t443, .slice Ao69 t444.length co69] 24 (0, 0)) (bkq BK448.out) hb)
           have n11_ := Aside0.mk (blk_below (g := gb455) (o := .cells #[.int .i64 t449, .string t450, .slice Ao78 t451.length co78] 24 (0, 0)) (bkq BK455.out) hb)
           have n12_ := Aside0.mk (below_step q0_ hb)
           clear HO415
           clear HO420
           clear HO430
           clear HO438
           clear HO446
           clear HO453
           clear BK408
           clear BK409
           clear BK433
           clear BK441
           clear BK448
           clear BK455
           clear HB
           have HO415 := n0_
           have HO420 := n1_
           have HO430 := n2_
           have HO438 := n3_
           have HO446 := n4_
           have HO453 := n5_
           have BK408 := n6_
           have BK409 := n7_
           have BK433 := n8_
           have BK441 := n9_
           have BK448 := n10_
           have BK455 := n11_
           have HB := n12_
           clear n0_ n1_ n2_ n3_ n4_ n5_ n6_ n7_ n8_ n9_ n10_ n11_ n12_
           (try clear hb)
           (try clear hb2)
           (try clear hk)
           (try clear hi)
           refine hK.out _ _ ⟨(blk_cell BK408.out 0).trans rfl, (blk_cell BK408.out 1).trans rfl, (blk_cell BK408.out 2).trans rfl, (blk_cell BK409.out 0).trans rfl, (blk_cell BK409.out 1).trans rfl, (blk_cell BK409.out 2).trans rfl, (blk_cell BK433.out 0).trans rfl, (blk_cell BK433.out 1).trans rfl, (blk_cell BK433.out 2).trans rfl, (blk_cell BK441.out 0).trans rfl, (blk_cell BK441.out 1).trans rfl, (blk_cell BK441.out 2).trans rfl, (blk_cell BK448.out 0).trans rfl, (blk_cell BK448.out 1).trans rfl, (blk_cell BK448.out 2).trans rfl, (blk_cell BK455.out 0).trans rfl, (blk_cell BK455.out 1).trans rfl, (blk_cell BK455.out 2).trans rfl⟩ (fun hHeld => ?_)
           clear hK K
           refine norm_ (a' := ?_) ?_ ?_
           rotate_left
           ·show Act.put _ (some 68) _ = _
            exact putq
           refine one_ (i := 5) (N := some 70) #[true, true, true, true, true, true, false, false, false, false, false, false, false, false, false, false, false, false, false, false, false, false, false, false, false, false, false, false, false, false, false, false, false, false, false, false, false, false, false, false, false, false, false, false, false, false, false, false, false, false, false, false, false, false, false, false, false, false] rfl rfl (one_of HT_.out (by kernel_rfl)) (by decide) (fun K hK => ?_)
           refine goes_ Tryd.func22 (by kernel_rfl) rfl #[.agg #[.int .i64 t411, .string t412, .slice Ao39 t413.length co39]] (by rfl) rfl rfl argq ?_
           with_reducible refine (latinerref02_Right.calls k t411 t412 _ _ t413 t457 _ ?side1 ?side2 A17.out).mono ?_
           (case side1 => repeat (first | exact (Kd.R_reads' HO415.out).2.2 | (with_reducible refine Kd.C_alloc ?_ _) | (with_reducible refine Kd.C_drewN ?_ _) | (with_reducible refine Kd.C_drew ?_)))
           (case side2 => exact (Kd.R_reads' HO415.out).2.1)
           rintro e w82 ⟨rfl, hb⟩
           refine ⟨_, rfl, ?_⟩
           have n0_ := Aside0.mk (Kd.R_below (rkq HO415.out) hb)
           have n1_ := Aside0.mk (Kd.R_below (rkq HO420.out) hb)
           have n2_ := Aside0.mk (Kd.R_below (rkq HO430.out) hb)
           have n3_ := Aside0.mk (Kd.R_below (rkq HO438.out) hb)
           have n4_ := Aside0.mk (Kd.R_below (rkq HO446.out) hb)
           have n5_ := Aside0.mk (Kd.R_below (rkq HO453.out) hb)
           have n6_ := Aside0.mk (blk_below (g := gb408) (o := .cells #[.int .i64 t411, .string t412, .slice Ao39 t413.length co39] 24 (0, 0)) (bkq BK408.out) hb)
           have n7_ := Aside0.mk (blk_below (g := gb409) (o := .cells #[.int .i64 t416, .string t417, .slice Ao43 t418.length co43] 24 (0, 0)) (bkq BK409.out) hb)
           have n8_ := Aside0.mk (blk_below (g := gb433) (o := .cells #[.int .i64 t426, .string t427, .slice Ao54 t428.length co54] 24 (0, 0)) (bkq BK433.out) hb)
           have n9_ := Aside0.mk (blk_below (g := gb441) (o := .cells #[.int .i64 t434, .string t435, .slice Ao61 t436.length co61] 24 (0, 0)) (bkq BK441.out) hb)
           have n10_ := Aside0.mk (blk_below (g := gb448) (o := .cells #[.int .i64 t442, .string t443, .slice Ao69 t444.length co69] 24 (0, 0)) (bkq BK448.out) hb)
           have n11_ := Aside0.mk (blk_below (g := gb455) (o := .cells #[.int .i64 t449, .string t450, .slice Ao78 t451.length co78] 24 (0, 0)) (bkq BK455.out) hb)
           have n12_ := Aside0.mk (below_step q0_ hb)
           clear HO415
           clear HO420
           clear HO430
           clear HO438
           clear HO446
           clear HO453
           clear BK408
           clear BK409
           clear BK433
           clear BK441
           clear BK448
           clear BK455
           clear HB
           have HO415 := n0_
           have HO420 := n1_
           have HO430 := n2_
           have HO438 := n3_
           have HO446 := n4_
           have HO453 := n5_
           have BK408 := n6_
           have BK409 := n7_
           have BK433 := n8_
           have BK441 := n9_
           have BK448 := n10_
           have BK455 := n11_
           have HB := n12_
           clear n0_ n1_ n2_ n3_ n4_ n5_ n6_ n7_ n8_ n9_ n10_ n11_ n12_
           (try clear hb)
           (try clear hb2)
           (try clear hk)
           (try clear hi)
           refine hK.out _ _ ⟨(blk_cell BK408.out 0).trans rfl, (blk_cell BK408.out 1).trans rfl, (blk_cell BK408.out 2).trans rfl, (blk_cell BK409.out 0).trans rfl, (blk_cell BK409.out 1).trans rfl, (blk_cell BK409.out 2).trans rfl, (blk_cell BK433.out 0).trans rfl, (blk_cell BK433.out 1).trans rfl, (blk_cell BK433.out 2).trans rfl, (blk_cell BK441.out 0).trans rfl, (blk_cell BK441.out 1).trans rfl, (blk_cell BK441.out 2).trans rfl, (blk_cell BK448.out 0).trans rfl, (blk_cell BK448.out 1).trans rfl, (blk_cell BK448.out 2).trans rfl, (blk_cell BK455.out 0).trans rfl, (blk_cell BK455.out 1).trans rfl, (blk_cell BK455.out 2).trans rfl⟩ (fun hHeld => ?_)
           clear hK K
           refine norm_ (a' := ?_) ?_ ?_
           rotate_left
           ·show Act.put _ (some 70) _ = _
            exact putq
           refine p_ 6 (some 71) ?_
           refine p_ 7 (some 72) ?_
           refine p_ 8 (some 73) ?_
           refine t5_ 9 (some 74) ?_
           refine t5_ 10 (some 75) ?_
           refine t5_ 12 (some 77) ?_
           refine t5_ 13 (some 78) ?_
           refine one_ (i := 11) (N := some 76) #[true, true, true, true, true, true, true, true, true, true, true, true, true, true, false, false, false, false, false, false, false, false, false, false, false, false, false, false, false, false, false, false, false, false, false, false, false, false, false, false, false, false, false, false, false, false, false, false, false, false, false, false, false, false, false, false, false, false] rfl rfl (one_of HT_.out (by kernel_rfl)) (by decide) (fun K hK => ?_)
           refine goes_ Tryd.func23 (by kernel_rfl) rfl #[.agg #[.int .i64 t411, .string t412, .slice Ao39 t413.length co39], .agg #[.int .i64 t416, .string t417, .slice Ao43 t418.length co43]] (by rfl) rfl rfl argq ?_
           with_reducible refine (tlv_Same.calls t411 t412 _ _ t413 t416 t417 _ _ t418 t458 _ ?side1 ?side2 ?side3 ?side4 A19.out).mono ?_
           (case side1 => repeat (first | exact (Kd.R_reads' HO415.out).2.2 | (with_reducible refine Kd.C_alloc ?_ _) | (with_reducible refine Kd.C_drewN ?_ _) | (with_reducible refine Kd.C_drew ?_)))
           (case side2 => exact (Kd.R_reads' HO415.out).2.1)
           (case side3 => repeat (first | exact (Kd.R_reads' HO420.out).2.2 | (with_reducible refine Kd.C_alloc ?_ _) | (with_reducible refine Kd.C_drewN ?_ _) | (with_reducible refine Kd.C_drew ?_)))
           (case side4 => exact (Kd.R_reads' HO420.out).2.1)
           rintro e w83 ⟨rfl, hb⟩
           refine ⟨_, rfl, ?_⟩
           have n0_ := Aside0.mk (Kd.R_below (rkq HO415.out) hb)
           have n1_ := Aside0.mk (Kd.R_below (rkq HO420.out) hb)
           have n2_ := Aside0.mk (Kd.R_below (rkq HO430.out) hb)
           have n3_ := Aside0.mk (Kd.R_below (rkq HO438.out) hb)
           have n4_ := Aside0.mk (Kd.R_below (rkq HO446.out) hb)
           have n5_ := Aside0.mk (Kd.R_below (rkq HO453.out) hb)
           have n6_ := Aside0.mk (blk_below (g := gb408) (o := .cells #[.int .i64 t411, .string t412, .slice Ao39 t413.length co39] 24 (0, 0)) (bkq BK408.out) hb)
           have n7_ := Aside0.mk (blk_below (g := gb409) (o := .cells #[.int .i64 t416, .string t417, .slice Ao43 t418.length co43] 24 (0, 0)) (bkq BK409.out) hb)
           have n8_ := Aside0.mk (blk_below (g := gb433) (o := .cells #[.int .i64 t426, .string t427, .slice Ao54 t428.length co54] 24 (0, 0)) (bkq BK433.out) hb)
           have n9_ := Aside0.mk (blk_below (g := gb441) (o := .cells #[.int .i64 t434, .string t435, .slice Ao61 t436.length co61] 24 (0, 0)) (bkq BK441.out) hb)
           have n10_ := Aside0.mk (blk_below (g := gb448) (o := .cells #[.int .i64 t442, .string t443, .slice Ao69 t444.length co69] 24 (0, 0)) (bkq BK448.out) hb)
           have n11_ := Aside0.mk (blk_below (g := gb455) (o := .cells #[.int .i64 t449, .string t450, .slice Ao78 t451.length co78] 24 (0, 0)) (bkq BK455.out) hb)
           have n12_ := Aside0.mk (below_step q0_ hb)
           clear HO415
           clear HO420
           clear HO430
           clear HO438
           clear HO446
           clear HO453
           clear BK408
           clear BK409
           clear BK433
           clear BK441
           clear BK448
           clear BK455
           clear HB
           have HO415 := n0_
           have HO420 := n1_
           have HO430 := n2_
           have HO438 := n3_
           have HO446 := n4_
           have HO453 := n5_
           have BK408 := n6_
           have BK409 := n7_
           have BK433 := n8_
           have BK441 := n9_
           have BK448 := n10_
           have BK455 := n11_
           have HB := n12_
           clear n0_ n1_ n2_ n3_ n4_ n5_ n6_ n7_ n8_ n9_ n10_ n11_ n12_
           (try clear hb)
           (try clear hb2)
           (try clear hk)
           (try clear hi)
           refine hK.out _ _ ⟨(blk_cell BK408.out 0).trans rfl, (blk_cell BK408.out 1).trans rfl, (blk_cell BK408.out 2).trans rfl, (blk_cell BK409.out 0).trans rfl, (blk_cell BK409.out 1).trans rfl, (blk_cell BK409.out 2).trans rfl, (blk_cell BK433.out 0).trans rfl, (blk_cell BK433.out 1).trans rfl, (blk_cell BK433.out 2).trans rfl, (blk_cell BK441.out 0).trans rfl, (blk_cell BK441.out 1).trans rfl, (blk_cell BK441.out 2).trans rfl, (blk_cell BK448.out 0).trans rfl, (blk_cell BK448.out 1).trans rfl, (blk_cell BK448.out 2).trans rfl, (blk_cell BK455.out 0).trans rfl, (blk_cell BK455.out 1).trans rfl, (blk_cell BK455.out 2).trans rfl⟩ (fun hHeld => ?_)
           clear hK K
           refine norm_ (a' := ?_) ?_ ?_
           rotate_left
           ·show Act.put _ (some 76) _ = _
            exact putq
           refine one_ (i := 14) (N := some 79) #[true, true, true, true, true, true, true, true, true, true, true, true, true, true, true, false, false, false, false, false, false, false, false, false, false, false, false, false, false, false, false, false, false, false, false, false, false, false, false, false, false, false, false, false, false, false, false, false, false, false, false, false, false, false, false, false, false, false] rfl rfl (one_of HT_.out (by kernel_rfl)) (by decide) (fun K hK => ?_)
           refine goes_ Tryd.func24 (by kernel_rfl) rfl #[.agg #[.int .i64 t411, .string t412, .slice Ao39 t413.length co39], .agg #[.int .i64 t416, .string t417, .slice Ao43 t418.length co43]] (by rfl) rfl rfl argq ?_
           with_reducible refine (latinerref02_Same.calls k t411 t412 _ _ t413 t416 t417 _ _ t418 t459 _ ?side1 ?side2 ?side3 ?side4 A20.out).mono ?_
           (case side1 => repeat (first | exact (Kd.R_reads' HO415.out).2.2 | (with_reducible refine Kd.C_alloc ?_ _) | (with_reducible refine Kd.C_drewN ?_ _) | (with_reducible refine Kd.C_drew ?_)))
           (case side2 => exact (Kd.R_reads' HO415.out).2.1)
           (case side3 => repeat (first | exact (Kd.R_reads' HO420.out).2.2 | (with_reducible refine Kd.C_alloc ?_ _) | (with_reducible refine Kd.C_drewN ?_ _) | (with_reducible refine Kd.C_drew ?_)))
           (case side4 => exact (Kd.R_reads' HO420.out).2.1)
           rintro e w84 ⟨rfl, hb⟩
           refine ⟨_, rfl, ?_⟩
           have n0_ := Aside0.mk (Kd.R_below (rkq HO415.out) hb)
           have n1_ := Aside0.mk (Kd.R_below (rkq HO420.out) hb)
           have n2_ := Aside0.mk (Kd.R_below (rkq HO430.out) hb)
           have n3_ := Aside0.mk (Kd.R_below (rkq HO438.out) hb)
           have n4_ := Aside0.mk (Kd.R_below (rkq HO446.out) hb)
           have n5_ := Aside0.mk (Kd.R_below (rkq HO453.out) hb)
           have n6_ := Aside0.mk (blk_below (g := gb408) (o := .cells #[.int .i64 t411, .string t412, .slice Ao39 t413.length co39] 24 (0, 0)) (bkq BK408.out) hb)
           have n7_ := Aside0.mk (blk_below (g := gb409) (o := .cells #[.int .i64 t416, .string t417, .slice Ao43 t418.length co43] 24 (0, 0)) (bkq BK409.out) hb)
           have n8_ := Aside0.mk (blk_below (g := gb433) (o := .cells #[.int .i64 t426, .string t427, .slice Ao54 t428.length co54] 24 (0, 0)) (bkq BK433.out) hb)
           have n9_ := Aside0.mk (blk_below (g := gb441) (o := .cells #[.int .i64 t434, .string t435, .slice Ao61 t436.length co61] 24 (0, 0)) (bkq BK441.out) hb)
           have n10_ := Aside0.mk (blk_below (g := gb448) (o := .cells #[.int .i64 t442, .string t443, .slice Ao69 t444.length co69] 24 (0, 0)) (bkq BK448.out) hb)
           have n11_ := Aside0.mk (blk_below (g := gb455) (o := .cells #[.int .i64 t449, .string t450, .slice Ao78 t451.length co78] 24 (0, 0)) (bkq BK455.out) hb)
           have n12_ := Aside0.mk (below_step q0_ hb)
           clear HO415
           clear HO420
           clear HO430
           clear HO438
           clear HO446
           clear HO453
           clear BK408
           clear BK409
           clear BK433
           clear BK441
           clear BK448
           clear BK455
           clear HB
           have HO415 := n0_
           have HO420 := n1_
           have HO430 := n2_
           have HO438 := n3_
           have HO446 := n4_
           have HO453 := n5_
           have BK408 := n6_
           have BK409 := n7_
           have BK433 := n8_
           have BK441 := n9_
           have BK448 := n10_
           have BK455 := n11_
           have HB := n12_
           clear n0_ n1_ n2_ n3_ n4_ n5_ n6_ n7_ n8_ n9_ n10_ n11_ n12_
           (try clear hb)
           (try clear hb2)
           (try clear hk)
           (try clear hi)
           refine hK.out _ _ ⟨(blk_cell BK408.out 0).trans rfl, (blk_cell BK408.out 1).trans rfl, (blk_cell BK408.out 2).trans rfl, (blk_cell BK409.out 0).trans rfl, (blk_cell BK409.out 1).trans rfl, (blk_cell BK409.out 2).trans rfl, (blk_cell BK433.out 0).trans rfl, (blk_cell BK433.out 1).trans rfl, (blk_cell BK433.out 2).trans rfl, (blk_cell BK441.out 0).trans rfl, (blk_cell BK441.out 1).trans rfl, (blk_cell BK441.out 2).trans rfl, (blk_cell BK448.out 0).trans rfl, (blk_cell BK448.out 1).trans rfl, (blk_cell BK448.out 2).trans rfl, (blk_cell BK455.out 0).trans rfl, (blk_cell BK455.out 1).trans rfl, (blk_cell BK455.out 2).trans rfl⟩ (fun hHeld => ?_)
           clear hK K
           refine norm_ (a' := ?_) ?_ ?_
           rotate_left
           ·show Act.put _ (some 79) _ = _
            exact putq
           refine p_ 15 (some 80) ?_
           refine p_ 16 (some 81) ?_
           refine p_ 17 (some 82) ?_
           refine t5_ 18 (some 83) ?_
           refine t5_ 19 (some 84) ?_
           refine one_ (i := 20) (N := some 85) #[true, true, true, true, true, true, true, true, true, true, true, true, true, true, true, true, true, true, true, true, true, false, false, false, false, false, false, false, false, false, false, false, false, false, false, false, false, false, false, false, false, false, false, false, false, false, false, false, false, false, false, false, false, false, false, false, false, false] rfl rfl (one_of HT_.out (by kernel_rfl)) (by decide) (fun K hK => ?_)
           refine goes_ Tryd.func23 (by kernel_rfl) rfl #[.agg #[.int .i64 t411, .string t412, .slice Ao39 t413.length co39], .agg #[.int .i64 t411, .string t412, .slice Ao39 t413.length co39]] (by rfl) rfl rfl argq ?_
           with_reducible refine (tlv_Same.calls t411 t412 _ _ t413 t411 t412 _ _ t413 true _ ?side1 ?side2 ?side3 ?side4 A22.out).mono ?_
           (case side1 => repeat (first | exact (Kd.R_reads' HO415.out).2.2 | (with_reducible refine Kd.C_alloc ?_ _) | (with_reducible refine Kd.C_drewN ?_ _) | (with_reducible refine Kd.C_drew ?_)))
           (case side2 => exact (Kd.R_reads' HO415.out).2.1)
           (case side3 => repeat (first | exact (Kd.R_reads' HO415.out).2.2 | (with_reducible refine Kd.C_alloc ?_ _) | (with_reducible refine Kd.C_drewN ?_ _) | (with_reducible refine Kd.C_drew ?_)))
           (case side4 => exact (Kd.R_reads' HO415.out).2.1)
           rintro e w85 ⟨rfl, hb⟩
           refine ⟨_, rfl, ?_⟩
           have n0_ := Aside0.mk (Kd.R_below (rkq HO415.out) hb)
           have n1_ := Aside0.mk (Kd.R_below (rkq HO420.out) hb)
           have n2_ := Aside0.mk (Kd.R_below (rkq HO430.out) hb)
           have n3_ := Aside0.mk (Kd.R_below (rkq HO438.out) hb)
           have n4_ := Aside0.mk (Kd.R_below (rkq HO446.out) hb)
           have n5_ := Aside0.mk (Kd.R_below (rkq HO453.out) hb)
           have n6_ := Aside0.mk (blk_below (g := gb408) (o := .cells #[.int .i64 t411, .string t412, .slice Ao39 t413.length co39] 24 (0, 0)) (bkq BK408.out) hb)
           have n7_ := Aside0.mk (blk_below (g := gb409) (o := .cells #[.int .i64 t416, .string t417, .slice Ao43 t418.length co43] 24 (0, 0)) (bkq BK409.out) hb)
           have n8_ := Aside0.mk (blk_below (g := gb433) (o := .cells #[.int .i64 t426, .string t427, .slice Ao54 t428.length co54] 24 (0, 0)) (bkq BK433.out) hb)
           have n9_ := Aside0.mk (blk_below (g := gb441) (o := .cells #[.int .i64 t434, .string t435, .slice Ao61 t436.length co61] 24 (0, 0)) (bkq BK441.out) hb)
           have n10_ := Aside0.mk (blk_below (g := gb448) (o := .cells #[.int .i64 t442, .string t443, .slice Ao69 t444.length co69] 24 (0, 0)) (bkq BK448.out) hb)
           have n11_ := Aside0.mk (blk_below (g := gb455) (o := .cells #[.int .i64 t449, .string t450, .slice Ao78 t451.length co78] 24 (0, 0)) (bkq BK455.out) hb)
           have n12_ := Aside0.mk (below_step q0_ hb)
           clear HO415
           clear HO420
           clear HO430
           clear HO438
           clear HO446
           clear HO453
           clear BK408
           clear BK409
           clear BK433
           clear BK441
           clear BK448
           clear BK455
           clear HB
           have HO415 := n0_
           have HO420 := n1_
           have HO430 := n2_
           have HO438 := n3_
           have HO446 := n4_
           have HO453 := n5_
           have BK408 := n6_
           have BK409 := n7_
           have BK433 := n8_
           have BK441 := n9_
           have BK448 := n10_
           have BK455 := n11_
           have HB := n12_
           clear n0_ n1_ n2_ n3_ n4_ n5_ n6_ n7_ n8_ n9_ n10_ n11_ n12_
           (try clear hb)
           (try clear hb2)
           (try clear hk)
           (try clear hi)
           refine hK.out _ _ ⟨(blk_cell BK408.out 0).trans rfl, (blk_cell BK408.out 1).trans rfl, (blk_cell BK408.out 2).trans rfl, (blk_cell BK409.out 0).trans rfl, (blk_cell BK409.out 1).trans rfl, (blk_cell BK409.out 2).trans rfl, (blk_cell BK433.out 0).trans rfl, (blk_cell BK433.out 1).trans rfl, (blk_cell BK433.out 2).trans rfl, (blk_cell BK441.out 0).trans rfl, (blk_cell BK441.out 1).trans rfl, (blk_cell BK441.out 2).trans rfl, (blk_cell BK448.out 0).trans rfl, (blk_cell BK448.out 1).trans rfl, (blk_cell BK448.out 2).trans rfl, (blk_cell BK455.out 0).trans rfl, (blk_cell BK455.out 1).trans rfl, (blk_cell BK455.out 2).trans rfl⟩ (fun hHeld => ?_)
           clear hK K
           refine norm_ (a' := ?_) ?_ ?_
           rotate_left
           ·show Act.put _ (some 85) _ = _
            exact putq
           refine p_ 21 (some 86) ?_
           refine p_ 22 (some 87) ?_
           refine p_ 23 (some 88) ?_
           refine p_ 24 (some 89) ?_
           refine p_ 25 (some 90) ?_
           refine p_ 26 (some 91) ?_
           refine p_ 27 (some 92) ?_
           refine p_ 28 (some 93) ?_
           refine p_ 29 (some 94) ?_
           refine p_ 30 (some 95) ?_
           refine p_ 31 (some 96) ?_
           refine p_ 32 (some 97) ?_
           refine t5_ 33 (some 98) ?_
           refine t5_ 34 (some 99) ?_
           refine one_ (i := 35) (N := some 100) #[true, true, true, true, true, true, true, true, true, true, true, true, true, true, true, true, true, true, true, true, true, true, true, true, true, true, true, true, true, true, true, true, true, true, true, true, false, false, false, false, false, false, false, false, false, false, false, false, false, false, false, false, false, false, false, false, false, false] rfl rfl (one_of HT_.out (by kernel_rfl)) (by decide) (fun K hK => ?_)
           refine goes_ Tryd.func24 (by kernel_rfl) rfl #[.agg #[.int .i64 t426, .string t427, .slice Ao54 t428.length co54], .agg #[.int .i64 t434, .string t435, .slice Ao61 t436.length co61]] (by rfl) rfl rfl argq ?_
           with_reducible refine (latinerref02_Same.calls k t426 t427 _ _ t428 t434 t435 _ _ t436 true _ ?side1 ?side2 ?side3 ?side4 A26.out).mono ?_
           (case side1 => repeat (first | exact (Kd.R_reads' HO430.out).2.2 | (with_reducible refine Kd.C_alloc ?_ _) | (with_reducible refine Kd.C_drewN ?_ _) | (with_reducible refine Kd.C_drew ?_)))
           (case side2 => exact (Kd.R_reads' HO430.out).2.1)
           (case side3 => repeat (first | exact (Kd.R_reads' HO438.out).2.2 | (with_reducible refine Kd.C_alloc ?_ _) | (with_reducible refine Kd.C_drewN ?_ _) | (with_reducible refine Kd.C_drew ?_)))
           (case side4 => exact (Kd.R_reads' HO438.out).2.1)
           rintro e w86 ⟨rfl, hb⟩
           refine ⟨_, rfl, ?_⟩
           have n0_ := Aside0.mk (Kd.R_below (rkq HO415.out) hb)
           have n1_ := Aside0.mk (Kd.R_below (rkq HO420.out) hb)
           have n2_ := Aside0.mk (Kd.R_below (rkq HO430.out) hb)
           have n3_ := Aside0.mk (Kd.R_below (rkq HO438.out) hb)
           have n4_ := Aside0.mk (Kd.R_below (rkq HO446.out) hb)
           have n5_ := Aside0.mk (Kd.R_below (rkq HO453.out) hb)
           have n6_ := Aside0.mk (blk_below (g := gb408) (o := .cells #[.int .i64 t411, .string t412, .slice Ao39 t413.length co39] 24 (0, 0)) (bkq BK408.out) hb)
           have n7_ := Aside0.mk (blk_below (g := gb409) (o := .cells #[.int .i64 t416, .string t417, .slice Ao43 t418.length co43] 24 (0, 0)) (bkq BK409.out) hb)
           have n8_ := Aside0.mk (blk_below (g := gb433) (o := .cells #[.int .i64 t426, .string t427, .slice Ao54 t428.length co54] 24 (0, 0)) (bkq BK433.out) hb)
           have n9_ := Aside0.mk (blk_below (g := gb441) (o := .cells #[.int .i64 t434, .string t435, .slice Ao61 t436.length co61] 24 (0, 0)) (bkq BK441.out) hb)
           have n10_ := Aside0.mk (blk_below (g := gb448) (o := .cells #[.int .i64 t442, .string t443, .slice Ao69 t444.length co69] 24 (0, 0)) (bkq BK448.out) hb)
           have n11_ := Aside0.mk (blk_below (g := gb455) (o := .cells #[.int .i64 t449, .string t450, .slice Ao78 t451.length co78] 24 (0, 0)) (bkq BK455.out) hb)
           have n12_ := Aside0.mk (below_step q0_ hb)
           clear HO415
           clear HO420
           clear HO430
           clear HO438
           clear HO446
           clear HO453
           clear BK408
           clear BK409
           clear BK433
           clear BK441
           clear BK448
           clear BK455
           clear HB
           have HO415 := n0_
           have HO420 := n1_
           have HO430 := n2_
           have HO438 := n3_
           have HO446 := n4_
           have HO453 := n5_
           have BK408 := n6_
           have BK409 := n7_
           have BK433 := n8_
           have BK441 := n9_
           have BK448 := n10_
           have BK455 := n11_
           have HB := n12_
           clear n0_ n1_ n2_ n3_ n4_ n5_ n6_ n7_ n8_ n9_ n10_ n11_ n12_
           (try clear hb)
           (try clear hb2)
           (try clear hk)
           (try clear hi)
           refine hK.out _ _ ⟨(blk_cell BK408.out 0).trans rfl, (blk_cell BK408.out 1).trans rfl, (blk_cell BK408.out 2).trans rfl, (blk_cell BK409.out 0).trans rfl, (blk_cell BK409.out 1).trans rfl, (blk_cell BK409.out 2).trans rfl, (blk_cell BK433.out 0).trans rfl, (blk_cell BK433.out 1).trans rfl, (blk_cell BK433.out 2).trans rfl, (blk_cell BK441.out 0).trans rfl, (blk_cell BK441.out 1).trans rfl, (blk_cell BK441.out 2).trans rfl, (blk_cell BK448.out 0).trans rfl, (blk_cell BK448.out 1).trans rfl, (blk_cell BK448.out 2).trans rfl, (blk_cell BK455.out 0).trans rfl, (blk_cell BK455.out 1).trans rfl, (blk_cell BK455.out 2).trans rfl⟩ (fun hHeld => ?_)
           clear hK K
           refine norm_ (a' := ?_) ?_ ?_
           rotate_left
           ·show Act.put _ (some 100) _ = _
            exact putq
           refine p_ 36 (some 101) ?_
           refine p_ 37 (some 102) ?_
           refine p_ 38 (some 103) ?_
           refine p_ 39 (some 104) ?_
           refine p_ 40 (some 105) ?_
           refine p_ 41 (some 106) ?_
           refine p_ 42 (some 107) ?_
           refine p_ 43 (some 108) ?_
           refine p_ 44 (some 109) ?_
           refine p_ 45 (some 110) ?_
           refine p_ 46 (some 111) ?_
           refine p_ 47 (some 112) ?_
           refine t5_ 48 (some 113) ?_
           refine t5_ 49 (some 114) ?_
           refine one_ (i := 50) (N := some 115) #[true, true, true, true, true, true, true, true, true, true, true, true, true, true, true, true, true, true, true, true, true, true, true, true, true, true, true, true, true, true, true, true, true, true, true, true, true, true, true, true, true, true, true, true, true, true, true, true, true, true, true, false, false, false, false, false, false, false] rfl rfl (one_of HT_.out (by kernel_rfl)) (by decide) (fun K hK => ?_)
           refine goes_ Tryd.func24 (by kernel_rfl) rfl #[.agg #[.int .i64 t442, .string t443, .slice Ao69 t444.length co69], .agg #[.int .i64 t449, .string t450, .slice Ao78 t451.length co78]] (by rfl) rfl rfl argq ?_
           with_reducible refine (latinerref02_Same.calls k t442 t443 _ _ t444 t449 t450 _ _ t451 true _ ?side1 ?side2 ?side3 ?side4 A30.out).mono ?_
           (case side1 => repeat (first | exact (Kd.R_reads' HO446.out).2.2 | (with_reducible refine Kd.C_alloc ?_ _) | (with_reducible refine Kd.C_drewN ?_ _) | (with_reducible refine Kd.C_drew ?_)))
           (case side2 => exact (Kd.R_reads' HO446.out).2.1)
           (case side3 => repeat (first | exact (Kd.R_reads' HO453.out).2.2 | (with_reducible refine Kd.C_alloc ?_ _) | (with_reducible refine Kd.C_drewN ?_ _) | (with_reducible refine Kd.C_drew ?_)))
           (case side4 => exact (Kd.R_reads' HO453.out).2.1)
           rintro e w87 ⟨rfl, hb⟩
           refine ⟨_, rfl, ?_⟩
           have n0_ := Aside0.mk (Kd.R_below (rkq HO415.out) hb)
           have n1_ := Aside0.mk (Kd.R_below (rkq HO420.out) hb)
           have n2_ := Aside0.mk (Kd.R_below (rkq HO430.out) hb)
           have n3_ := Aside0.mk (Kd.R_below (rkq HO438.out) hb)
           have n4_ := Aside0.mk (Kd.R_below (rkq HO446.out) hb)
           have n5_ := Aside0.mk (Kd.R_below (rkq HO453.out) hb)
           have n6_ := Aside0.mk (blk_below (g := gb408) (o := .cells #[.int .i64 t411, .string t412, .slice Ao39 t413.length co39] 24 (0, 0)) (bkq BK408.out) hb)
           have n7_ := Aside0.mk (blk_below (g := gb409) (o := .cells #[.int .i64 t416, .string t417, .slice Ao43 t418.length co43] 24 (0, 0)) (bkq BK409.out) hb)
           have n8_ := Aside0.mk (blk_below (g := gb433) (o := .cells #[.int .i64 t426, .string t427, .slice Ao54 t428.length co54] 24 (0, 0)) (bkq BK433.out) hb)
           have n9_ := Aside0.mk (blk_below (g := gb441) (o := .cells #[.int .i64 t434, .string t435, .slice Ao61 t436.length co61] 24 (0, 0)) (bkq BK441.out) hb)
           have n10_ := Aside0.mk (blk_below (g := gb448) (o := .cells #[.int .i64 t442, .string t443, .slice Ao69 t444.length co69] 24 (0, 0)) (bkq BK448.out) hb)
           have n11_ := Aside0.mk (blk_below (g := gb455) (o := .cells #[.int .i64 t449, .string t450, .slice Ao78 t451.length co78] 24 (0, 0)) (bkq BK455.out) hb)
           have n12_ := Aside0.mk (below_step q0_ hb)
           clear HO415
           clear HO420
           clear HO430
           clear HO438
           clear HO446
           clear HO453
           clear BK408
           clear BK409
           clear BK433
           clear BK441
           clear BK448
           clear BK455
           clear HB
           have HO415 := n0_
           have HO420 := n1_
           have HO430 := n2_
           have HO438 := n3_
           have HO446 := n4_
           have HO453 := n5_
           have BK408 := n6_
           have BK409 := n7_
           have BK433 := n8_
           have BK441 := n9_
           have BK448 := n10_
           have BK455 := n11_
           have HB := n12_
           clear n0_ n1_ n2_ n3_ n4_ n5_ n6_ n7_ n8_ n9_ n10_ n11_ n12_
           (try clear hb)
           (try clear hb2)
           (try clear hk)
           (try clear hi)
           refine hK.out _ _ ⟨(blk_cell BK408.out 0).trans rfl, (blk_cell BK408.out 1).trans rfl, (blk_cell BK408.out 2).trans rfl, (blk_cell BK409.out 0).trans rfl, (blk_cell BK409.out 1).trans rfl, (blk_cell BK409.out 2).trans rfl, (blk_cell BK433.out 0).trans rfl, (blk_cell BK433.out 1).trans rfl, (blk_cell BK433.out 2).trans rfl, (blk_cell BK441.out 0).trans rfl, (blk_cell BK441.out 1).trans rfl, (blk_cell BK441.out 2).trans rfl, (blk_cell BK448.out 0).trans rfl, (blk_cell BK448.out 1).trans rfl, (blk_cell BK448.out 2).trans rfl, (blk_cell BK455.out 0).trans rfl, (blk_cell BK455.out 1).trans rfl, (blk_cell BK455.out 2).trans rfl⟩ (fun hHeld => ?_)
           clear hK K
           refine norm_ (a' := ?_) ?_ ?_
           rotate_left
           ·show Act.put _ (some 115) _ = _
            exact putq
           refine p_ 51 (some 116) ?_
           refine p_ 52 (some 117) ?_
           refine p_ 53 (some 118) ?_
           refine p_ 54 (some 119) ?_
           refine p_ 55 (some 120) ?_
           refine p_ 56 (some 121) ?_
           refine p_ 57 (some 8) ?_
           refine done_ (done_of HT_.out (by kernel_rfl)) ?_
           try go_wp2
           go_ret
           exact ⟨q2_, q0_⟩
          ·replace c31 := Bool.eq_false_iff.mpr c31
           subst c31
           have H1 : (none) = some r := by rw [if_neg (show ¬ (false = true) by decide)] at H; exact H
           clear H
           have H := H1
           clear H1
           exact absurd H (by simp)
         ·rw [if_neg c29] at H
          have c29b0 : (t432 == t440) = false := beq_eq_false_iff_ne.mpr c29
          have c29b1 : (t432 != t440) = true := bne_iff_ne.mpr c29
          exact absurd H (by simp)
        ·rw [if_neg c28] at H
         have c28b0 : (t431 == t439) = false := beq_eq_false_iff_ne.mpr c28
         have c28b1 : (t431 != t439) = true := bne_iff_ne.mpr c28
         exact absurd H (by simp)
       ·replace c27 := Bool.eq_false_iff.mpr c27
        subst c27
        have H1 : (none) = some r := by rw [if_neg (show ¬ (false = true) by decide)] at H; exact H
        clear H
        have H := H1
        clear H1
        exact absurd H (by simp)
      ·rw [if_neg c25] at H
       have c25b0 : (t423 == t425) = false := beq_eq_false_iff_ne.mpr c25
       have c25b1 : (t423 != t425) = true := bne_iff_ne.mpr c25
       exact absurd H (by simp)
     ·rw [if_neg c24] at H
      have c24b0 : (t422.toList == t424.toList) = false := beq_eq_false_iff_ne.mpr c24
      have c24b1 : (t422.toList != t424.toList) = true := bne_iff_ne.mpr c24
      exact absurd H (by simp)
    ·replace c23 := Bool.eq_false_iff.mpr c23
     subst c23
     have H1 : (none) = some r := by rw [if_neg (show ¬ (false = true) by decide)] at H; exact H
     clear H
     have H := H1
     clear H1
     exact absurd H (by simp)
   ·rw [if_neg c21] at H
    have c21b0 : (t458 == t459) = false := by simpa using c21
    (try (have c21b1 : decide (t458 = t459) = false := by simpa using c21))
    (try (have c21b2 : (t458 == t459) = false := by simpa using c21))
    (try (have c21b3 : ¬ (t458 = t459) := by simpa using c21))
    clear c21
    exact absurd H (by simp)
  ·rw [if_neg c18] at H
   have c18b0 : (t456 == t457) = false := by simpa using c18
   (try (have c18b1 : decide (t456 = t457) = false := by simpa using c18))
   (try (have c18b2 : (t456 == t457) = false := by simpa using c18))
   (try (have c18b3 : ¬ (t456 = t457) := by simpa using c18))
   clear c18
   exact absurd H (by simp)
 ·replace c15 := Bool.eq_false_iff.mpr c15
  subst c15
  have H1 : (none) = some r := by rw [if_neg (show ¬ (false = true) by decide)] at H; exact H
  clear H
  have H := H1
  clear H1
  exact absurd H (by simp)
end Go.Proofs.YthnddhgkjkpmfaaDoor.LTlvC
/- TlvCodes, plainly. -/
namespace Go.Proofs.YthnddhgkjkpmfaaDoor
set_option linter.unusedSimpArgs false
set_option linter.unusedVariables false
namespace Tlv
open Go.RowKit Go.Proofs.YthnddhgkjkpmfaaDoorW.PrintWords Go.Proofs.YthnddhgkjkpmfaaDoorW.PrintMore Go.Proofs.YthnddhgkjkpmfaaDoor.PureB Go.Proofs.YthnddhgkjkpmfaaDoor.KTlv Go.Proofs.YthnddhgkjkpmfaaDoor.ExtTlvC Go.Proofs.YthnddhgkjkpmfaaDoor.LTlvC
theorem cut_data (x : Nd) : ∀ p ∈ pre 1 (cutT 13 x), p.2.f1.size ≤ 4000 := by
  have hz : ∀ b : ByteArray, (b.extract 0 (min b.size 4000)).size ≤ 4000 := fun b => by rw [extract_size b 0 _ (by omega)]; omega
  have key : ∀ (n : Nat) (x : Nd) (e : Int), ∀ p ∈ pre e (cutT n x), p.2.f1.size ≤ 4000 := by
    intro n
    induction n with
    | zero =>
      intro x e p hp
      rw [cut_eq, if_pos (by omega), pre, preL] at hp
      rw [List.mem_singleton.1 hp]
      exact hz _
    | succ n ih =>
      intro x e p hp
      rw [cut_eq, pre, preL_flat'] at hp
      rcases List.mem_cons.1 hp with rfl | hp
      · exact hz _
      · obtain ⟨y, hy, hpy⟩ := List.mem_flatMap.1 hp
        split at hy
        · cases hy
        · obtain ⟨z, _, rfl⟩ := List.mem_map.1 hy
          exact ih z _ p hpy
  exact key 13 x 1
theorem dec_small (s : ByteArray) (a : Int) : (pre 1 (dec s a).1).length ≤ 200 := by
  by_cases h : (dec s a).2.2 = 0
  · exact (right_parts (dec_ok h).1).1
  · rw [(dec_no h).1]
    decide
theorem whole_small (s : ByteArray) : (pre 1 (whole s).1).length ≤ 200 := by
  unfold whole
  split
  · decide
  · exact dec_small s 0
theorem same_small {x : Nd} (h : (pre 1 x).length ≤ 200) (k : Nat) (hk : 5000 ≤ k) : latinerref02_Same.f k x.f0 x.f1 x.f2 x.f0 x.f1 x.f2 = some true := by
  rw [same_ref _ x (Nat.lt_succ_self _) ((few_iff x).1 (few_of_len (by omega))) x k (by omega), same_self]
theorem TlvCodes (x y : Nd) (s : ByteArray) (a : Int) : ∃ k, latinerlaw02_TlvCodes.f k x.f0 x.f1 x.f2 y.f0 y.f1 y.f2 s a = some true := by
  have hf := cut_few x
  have hdt := cut_data x
  obtain ⟨x', hx'⟩ : ∃ x', cutT 13 x = x' := ⟨_, rfl⟩
  rw [hx'] at hf hdt
  obtain ⟨k, hk⟩ : ∃ k, k = 4 * (pre 1 x').length + 5000 := ⟨_, rfl⟩
  refine ⟨k, ?_⟩
  unfold latinerlaw02_TlvCodes.f
  obtain ⟨h1, h2⟩ := cuts_f s
  rw [shown_f k (by omega), cut_f x k (by omega), cut_f y k (by omega), h1, hx']
  simp only [Option.bind_some]
  generalize cutT 13 y = y'
  generalize s.extract 0 (min s.size 4100) = t at h2 ⊢
  rw [enc_f x' hf, ref_Encode x' hf hdt k (by omega), (dec_f t a (by omega) k (by omega)).1, refdec_f t a (by omega) k (by omega), whole_f t (by omega) k (by omega), refwhole_f t (by omega) k (by omega)]
  simp only [Option.bind_some, if_true]
  rw [right_f x' hf, ref_Right x' hf hdt k (by omega)]
  simp only [Option.bind_some]
  rw [beq_self_eq_true, if_pos rfl, same_f, same_ref _ x' (Nat.lt_succ_self _) ((few_iff x').1 hf) y' k (by omega)]
  simp only [Option.bind_some]
  rw [beq_self_eq_true, if_pos rfl, same_f, same_self]
  simp only [Option.bind_some, if_true]
  rw [same_small (dec_small t a) k (by omega)]
  simp only [Option.bind_some, if_true]
  rw [same_small (whole_small t) k (by omega)]
  simp only [Option.bind_some, if_true]
  rw [beq_self_eq_true]
end Tlv
end Go.Proofs.YthnddhgkjkpmfaaDoor
/- A tree that is read of the memory has a value's own type's cells. -/
namespace Go.Proofs.YthnddhgkjkpmfaaDoor.TreeRow
set_option linter.unusedSimpArgs false
set_option linter.unusedVariables false
open Go.RowKit Go.Proofs.YthnddhgkjkpmfaaDoorW.PrintWords Go.Proofs.YthnddhgkjkpmfaaDoor.KTlv Go.WideShapes Go.Deep
theorem choose_list {α : Type} {P : Nat → α → Prop} : ∀ n : Nat, (∀ i, i < n → ∃ p, P i p) → ∃ xs : List α, xs.length = n ∧ ∀ i p, xs[i]? = some p → P i p
  | 0, _ => ⟨[], rfl, fun i p h => by simp at h⟩
  | n + 1, h => by
    obtain ⟨xs, h1, h2⟩ := choose_list n (fun i hi => h i (by omega))
    obtain ⟨p, hp⟩ := h n (by omega)
    refine ⟨xs ++ [p], by rw [List.length_append, h1]; rfl, fun i q hq => ?_⟩
    rw [List.getElem?_append] at hq
    by_cases hi : i < xs.length
    · rw [if_pos hi] at hq; exact h2 i q hq
    · rw [if_neg hi] at hq
      have hz : i - xs.length = 0 := by
        rcases Nat.eq_zero_or_pos (i - xs.length) with e | e
        · exact e
        · rw [List.getElem?_eq_none (by simp; omega)] at hq; cases hq
      rw [hz] at hq
      simp at hq
      subst hq
      rw [show i = n by omega]
      exact hp
theorem c3 : Tryd.prog.cellsOf 3 = 1 := by kernel_rfl
theorem c9 : Tryd.prog.cellsOf 9 = 1 := by kernel_rfl
theorem c22 : Tryd.prog.cellsOf 22 = 1 := by kernel_rfl
theorem c24 : Tryd.prog.cellsOf 24 = 3 := by kernel_rfl
set_option maxRecDepth 10000 in
theorem tree_of {H : Type} {enc : TypeId × Value → H} {W : World} {sp : Nat → Bool} : ∀ (m fuel : Nat), fuel < m → ∀ (cs : List Value) (x : DataW H × List MemPlace), DataW.trod enc Tryd.prog W 0 sp true fuel 24 cs = some x → ∃ n : S24, k24.K W n cs := by
  intro m
  induction m with
  | zero => intro fuel h; exact absurd h (Nat.not_lt_zero _)
  | succ m ih =>
    intro fuel hfuel cs x h
    obtain ⟨xs, n, hn, rfl, hl, hlen, hf⟩ := DataW.trod_struct Tryd.underlying24 h
    subst hn
    rw [c24] at hl
    match cs, hl with
    | [v0, v1, v2], _ =>
    have g0 := hf 0 _ rfl
    have g1 := hf 1 _ rfl
    have g2 := hf 2 _ rfl
    change DataW.trod enc Tryd.prog W 0 sp true n 3 (([v0, v1, v2].drop 0).take (Tryd.prog.cellsOf 3)) = xs[0]? at g0
    change DataW.trod enc Tryd.prog W 0 sp true n 9 (([v0, v1, v2].drop 1).take (Tryd.prog.cellsOf 9)) = xs[1]? at g1
    change DataW.trod enc Tryd.prog W 0 sp true n 22 (([v0, v1, v2].drop 2).take (Tryd.prog.cellsOf 22)) = xs[2]? at g2
    simp only [c3, c9, c22, List.drop_zero, List.take_succ_cons, List.take_zero, List.drop_succ_cons] at g0 g1 g2
    have hx3 : xs.length = 3 := hlen
    match xs, hx3 with
    | [y0, y1, y2], _ =>
    obtain ⟨i, h0, _, _⟩ := DataW.trod_int Tryd.underlying3 (x := y0) (by simpa using g0)
    obtain ⟨s, h1, _, _⟩ := DataW.trod_string Tryd.underlying9 (x := y1) (by simpa using g1)
    simp only [List.cons.injEq, and_true] at h0 h1
    subst h0 h1
    rcases DataW.trod_slice Tryd.underlying22 (x := y2) (by simpa using g2) with ⟨h2, _⟩ | ⟨a, len, cap, elems, rest, n2, hn2, h2, _, hb, hle, hmax, hel, hget, _, _⟩
    · simp only [List.cons.injEq, and_true] at h2
      subst h2
      exact ⟨⟨i, s, []⟩, k24_mk W ⟨i, s, []⟩ (Nat.le_refl 0) (Kd.C_nil _ _)⟩
    · simp only [List.cons.injEq, and_true] at h2
      subst h2
      have each : ∀ j, j < len → ∃ p : S24, ∃ c : List Value, c.length = 3 ∧ k24.K W p c ∧ ∀ q u, c[q]? = some u → W.cell? (a.add (j * 3 + q)) = some u := by
        intro j hj
        have hg := hget j hj
        rw [List.getElem?_eq_getElem (by omega), Option.bind_eq_some_iff, c24] at hg
        obtain ⟨cs', hc1, hc2⟩ := hg
        obtain ⟨p, hp⟩ := ih n2 (by omega) cs' _ hc2
        obtain ⟨_, hcl, hcc⟩ := World.cells?_some hc1
        refine ⟨p, cs', hcl, hp, fun q u hq => ?_⟩
        have := hcc q (by have := (List.getElem?_eq_some_iff.1 hq).1; omega)
        rw [Addr.add_add, hq] at this
        exact this
      obtain ⟨ps, hps, hP⟩ := choose_list len each
      have hC : k24.C W (some a) ps.length ps := ⟨rfl, by rw [hps]; unfold maxLen at hmax; omega, fun _ => ⟨a, rfl, hP⟩⟩
      exact ⟨⟨i, s, ps⟩, by rw [← hps]; exact k24_mk W ⟨i, s, ps⟩ (A2 := some a) (c2 := cap) (by show ps.length ≤ cap; omega) hC⟩
end Go.Proofs.YthnddhgkjkpmfaaDoor.TreeRow
namespace Go.Proofs.YthnddhgkjkpmfaaDoor.tlvCodes
set_option linter.unusedSimpArgs false
open Go.ChangeShapes Go.WideShapes Go.ChangeAt Go.RowKit
open Go.ChangeMaps (open_string shut_string)
open Go.Proofs.YthnddhgkjkpmfaaDoor.KTlv
open Go.Proofs.YthnddhgkjkpmfaaDoor.TlvL (laid ga_of_laid door_met own rowStart rowStart_os rowStart_shaped)
set_option linter.unusedVariables false
theorem laidOut : laidOutB Tryd.prog = true := by kernel_rfl
set_option maxRecDepth 100000 in
theorem lifted (os : Os) (started : os.Started) (H : Type) (enc : TypeId × Value → H) :
    ReturnsInHanded {} Tryd.checked os 3 .any (fun w args => (Rows.tlvCodesSpec.pre enc Tryd.prog Tryd.f3 [] false w args ∧ laidMetH Tryd.prog laid w) ∧ sizedMet enc Tryd.prog Tryd.f3 (OpenSpec.ofChange Rows.tlvCodesSpec) false w args)
      (Rows.tlvCodesSpec.post enc Tryd.prog Tryd.f3 false true false false) := by
  refine returnsInHanded_of_change_and (C := Tryd.checked) (X := fun w _ => laidMetH Tryd.prog laid w) (fun _ _ _ hh h => h.of_heap hh) own started (by kernel_rfl) Tryd.func3
    (ChangeSpec.witness_shaped (enc := enc) (C := Tryd.checked) (os := os) (X := fun w _ => laidMetH Tryd.prog laid w) false (rowStart os) #[.agg #[.int .i64 0, .string ByteArray.empty, .slice none 0 0], .agg #[.int .i64 0, .string ByteArray.empty, .slice none 0 0], .string ByteArray.empty, .int .i64 0] 8 (rowStart_os os) (rowStart_shaped os _) (by kernel_rfl) (by kernel_rfl) (by kernel_rfl) (door_met os _)) ?_
  intro W base args ds gs before hval0 hW _ hsz0 hL _
  have hsz : (DataW.weightsEach Tryd.prog (Tryd.f3.params.toList ++ Rows.tlvCodesSpec.plain.varTypes Tryd.prog) (ds ++ gs)).all (· ≤ reachBytes) = true := hsz0
  have hval : ∀ (j : Nat) t v, Tryd.f3.params[j]? = some t → args[j]? = some v → Value.okWide Tryd.prog W .any base t v := hval0
  have hW' := hW
  obtain ⟨p, q, hA0, hV, rfl, hfz, hnd⟩ := hW
  have hA : DataW.TrodAll enc Tryd.prog W 0 (fun _ => true) true Tryd.f3.params.toList args.toList ds p := hA0
  rw [Tryd.params3] at hA hval hsz
  obtain ⟨v0, vs0, d0, ds0, p0, q0, hargs, rfl, rfl, h0, r0⟩ := trodAll_cons hA
  obtain ⟨v1, vs1, d1, ds1, p1, q1, rfl, rfl, rfl, h1, r1⟩ := trodAll_cons r0
  obtain ⟨v2, vs2, d2, ds2, p2, q2, rfl, rfl, rfl, h2, r2⟩ := trodAll_cons r1
  obtain ⟨v3, vs3, d3, ds3, p3, q3, rfl, rfl, rfl, h3, r3⟩ := trodAll_cons r2
  obtain ⟨rfl, rfl, rfl⟩ := trodAll_nil r3
  obtain rfl : args = #[v0, v1, v2, v3] := by cases args; simp_all
  obtain ⟨rfl, rfl⟩ := trodVars_none hV
  obtain ⟨cs0, rfl, sz0⟩ := okWide_struct Tryd.underlying24 (hval 0 24 v0 rfl rfl)
  have k0 := h0
  have lt0 : ∀ x ∈ p0, x.block < W.heap.size := by obtain ⟨m, hm⟩ := k0; exact DataW.trod_lt m _ _ _ hm
  obtain ⟨a0, K0⟩ : ∃ x, k24.K W x cs0.toList := by obtain ⟨fuel, hf⟩ := h0; exact TreeRow.tree_of (fuel + 1) fuel (Nat.lt_succ_self _) _ _ hf
  obtain ⟨A0, c0, e0, HC0, HR0⟩ := k24_open K0
  obtain rfl : cs0 = #[.int .i64 a0.f0, .string a0.f1, .slice A0 a0.f2.length c0] := Array.toList_inj.1 e0
  obtain ⟨cs1, rfl, sz1⟩ := okWide_struct Tryd.underlying24 (hval 1 24 v1 rfl rfl)
  have k1 := h1
  have lt1 : ∀ x ∈ p1, x.block < W.heap.size := by obtain ⟨m, hm⟩ := k1; exact DataW.trod_lt m _ _ _ hm
  obtain ⟨a1, K1⟩ : ∃ x, k24.K W x cs1.toList := by obtain ⟨fuel, hf⟩ := h1; exact TreeRow.tree_of (fuel + 1) fuel (Nat.lt_succ_self _) _ _ hf
  obtain ⟨A1, c1, e1, HC1, HR1⟩ := k24_open K1
  obtain rfl : cs1 = #[.int .i64 a1.f0, .string a1.f1, .slice A1 a1.f2.length c1] := Array.toList_inj.1 e1
  obtain ⟨a2, rfl, rfl, rfl, y2⟩ := open_string Tryd.underlying9 (hval 2 9 v2 rfl rfl) h2
  have w2 : a2.size ≤ 140737488351232 := by
    have z := sized_string hsz (j := 2) (t := 9) rfl rfl
    rw [Array.length_toList] at z
    exact z
  obtain ⟨a3, rfl, rfl, rfl, w3⟩ := open_int Tryd.underlying3 (hval 3 3 v3 rfl rfl) h3
  clear hA0 hval0 hsz0 hsz
  obtain ⟨G, hG⟩ := ga_of_laid hL
  obtain ⟨k, hk⟩ := Tlv.TlvCodes a0 a1 a2 a3
  refine (LTlvC.latinerlaw02_TlvCodes.calls (G := G) k a0.f0 a0.f1 A0 c0 a0.f2 a1.f0 a1.f1 A1 c1 a1.f2 a2 a3 true W HR0 HC0 HR1 HC1 hG hk).mono fun e W' ⟨he, bel⟩ => ?_
  subst he
  exact ⟨_, rfl, _, _, _, [], _, [], hW', trodAll_mk1 (shut_bool Tryd.underlying4 _), (trodAll_cons_mk (Below.trod laidOut (by kernel_rfl) (of_decide_eq_true (by kernel_rfl)) k0 bel lt0) (trodAll_cons_mk (Below.trod laidOut (by kernel_rfl) (of_decide_eq_true (by kernel_rfl)) k1 bel lt1) (trodAll_cons_mk (shut_string Tryd.underlying9 y2) (trodAll_cons_mk (shut_int Tryd.underlying3 w3) trodAll_mk0)))), rfl, bel.frame _, fun h => by cases h⟩
theorem said : Rows.TlvCodesSaid :=
  OpenClaim.holds_of_wide 3 Tryd.f3 rfl rfl rfl rfl rfl rfl rfl ⟨rfl, rfl, rfl, rfl, rfl⟩ rfl rfl rfl rfl rfl (by kernel_rfl) Tryd.func3 (by kernel_rfl)
    (of_decide_eq_true (by kernel_rfl)) (by unfold Func.isWrapper; first | (rw [if_pos (by decide +kernel)]; kernel_rfl) | (rw [if_neg (by decide +kernel)]; exact ⟨rfl, rfl⟩))
    (fun os started H enc _ => lifted os started H enc)
theorem plain (f : FuncId) (fn : Func) (hf : Tryd.pinned.checked.prog.funcNamed "latiner/latinerlaw02.TlvCodes" = some f) (hfn : Tryd.pinned.checked.prog.funcs[f]? = some fn) :
    true = Tryd.pinned.checked.prog.looks [] ∧ ∀ (j : Nat) t, fn.params[j]? = some t → Tryd.pinned.checked.prog.wantsStandIn t = false := by
  obtain rfl : f = 3 := Option.some.inj ((show Tryd.prog.funcNamed "latiner/latinerlaw02.TlvCodes" = some 3 by kernel_rfl).symm.trans hf) |>.symm
  obtain rfl : fn = Tryd.f3 := (Option.some.inj (Tryd.func3.symm.trans hfn)).symm
  refine ⟨by kernel_rfl, fun j t ht => ?_⟩
  rw [Tryd.params3] at ht
  have s_int : Tryd.prog.wantsStandIn 3 = false := by kernel_rfl
  have s_str : Tryd.prog.wantsStandIn 9 = false := by kernel_rfl
  have s_tree : Tryd.prog.wantsStandIn 24 = false := by kernel_rfl
  have hm := Array.mem_of_getElem? ht
  simp at hm
  have hm2 : t = 24 ∨ t = 9 ∨ t = 3 := by omega
  clear hm
  rcases hm2 with rfl | rfl | rfl
  · exact s_tree
  · exact s_str
  · exact s_int
theorem card : Rows.TlvCodesCardSaid :=
  Claim7.holds_tied_plain_at .later [] _ _ _ _ said (fun _ h => by cases h) (by kernel_rfl) (fun _ h => by cases h) tlvCodes_row_tie rfl ⟨rfl, rfl⟩ (by kernel_rfl) rfl plain (by kernel_rfl)
end Go.Proofs.YthnddhgkjkpmfaaDoor.tlvCodes
namespace Go.Proofs.YthnddhgkjkpmfaaDoor
theorem tlvCodes_holds : Rows.TlvCodesCardSaid := tlvCodes.card
end Go.Proofs.YthnddhgkjkpmfaaDoor
