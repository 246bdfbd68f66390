/- The reference of layer 6: reading; the law. -/
import Derived.Test.YtbpcoieemkojjaaDoorPureEscTells1
namespace Go.Proofs.YtbpcoieemkojjaaDoor.Pure
set_option linter.unusedSimpArgs false
set_option linter.unusedVariables false
open Go.RowKit Go.Proofs.YtbpcoieemkojjaaDoor.LEsc Go.Proofs.YtbpcoieemkojjaaDoor.ExtEsc Go.Proofs.YtbpcoieemkojjaaDoor.Esc Go.Proofs.YtbpcoieemkojjaaDoorW.PrintWords Go.Proofs.YtbpcoieemkojjaaDoorW.PrintLast Go.Proofs.YtbpcoieemkojjaaDoor.PureB
open Go.Proofs.YtbpcoieemkojjaaDoor.Code (bl bl_len bl_get bl_byte Byt bl_son son_bl hexL hex_byte bl_append bl_extract unhexL ubT ubN unhex_len dv)
def rfV (X : ByteArray) (o : Option (List Int)) : ByteArray × Int := match o with | none => (⟨#[]⟩, 60) | some l => (X ++ strOfNums l, 0)
theorem bl_ext2 (s : ByteArray) (j : Nat) : bl (s.extract j (j + 2)) = ((bl s).drop j).take 2 := by
  rw [bl_extract, List.drop_take]
  congr 1
  omega
theorem two_nil2 (l : List Int) (h : 2 ≤ l.length) (h2 : two l = none) : unhexL (l.take 2) = none := by
  match l with
  | [] => simp at h
  | [_] => simp at h
  | a :: b :: r =>
    rcases (two_unhex (a :: b :: r)).2 h2 with q | q
    · exact q
    · have := unhex_len _ _ q
      simp at this
theorem pair_some (s : ByteArray) (hs : s.size ≤ 1000) (j : Nat) (v : Int) (h : two ((bl s).drop j) = some v) (k : Nat) (hk : 1100 ≤ k) : latinerref06_pair.f k s (j : Int) = some (strOfNums [v], true) := by
  have hl := two_len h
  rw [List.length_drop, bl_len] at hl
  have e1 : wrap64 ((j : Int) + 2) = ((j + 2 : Nat) : Int) := w64 (by omega) (by omega)
  unfold latinerref06_pair.f
  have c1 : ((j : Nat) : Int) ≤ ((j + 2 : Nat) : Int) := by omega
  have c2 : ((j + 2 : Nat) : Int) ≤ (s.size : Int) := by omega
  rw [e1, if_neg (by omega), if_pos (by omega), if_pos c1, if_pos c2, Int.toNat_natCast, Int.toNat_natCast, ref_unhex _ (by rw [extract_size s j (j + 2) (by omega)]; omega) k hk, Option.bind_some, bl_ext2, (two_unhex _).1 v h]
  rfl
theorem pair_none (s : ByteArray) (hs : s.size ≤ 1000) (j : Nat) (hj : j ≤ s.size) (h : two ((bl s).drop j) = none) (k : Nat) (hk : 1100 ≤ k) : ∃ t, latinerref06_pair.f k s (j : Int) = some (t, false) := by
  have e1 : wrap64 ((j : Int) + 2) = ((j + 2 : Nat) : Int) := w64 (by omega) (by omega)
  unfold latinerref06_pair.f
  by_cases hl : j + 2 ≤ s.size
  · have c1 : ((j : Nat) : Int) ≤ ((j + 2 : Nat) : Int) := by omega
    have c2 : ((j + 2 : Nat) : Int) ≤ (s.size : Int) := by omega
    rw [e1, if_neg (by omega), if_pos (by omega), if_pos c1, if_pos c2, Int.toNat_natCast, Int.toNat_natCast, ref_unhex _ (by rw [extract_size s j (j + 2) (by omega)]; omega) k hk, Option.bind_some, bl_ext2, two_nil2 _ (by rw [List.length_drop, bl_len]; omega) h]
    exact ⟨_, rfl⟩
  · rw [e1, if_pos (by omega)]
    exact ⟨_, rfl⟩
theorem rdL_step {nm : Bool} {n f j : Nat} {s : ByteArray} (hlt : j < s.size) (X : ByteArray) :
    (∀ x c, stp nm n j ((bl s).drop j) = some (x, c) → rfV X (rdL nm n (f + 1) j ((bl s).drop j)) = rfV (X ++ strOfNums [x]) (rdL nm n f (j + c) ((bl s).drop (j + c)))) ∧
    (stp nm n j ((bl s).drop j) = none → rfV X (rdL nm n (f + 1) j ((bl s).drop j)) = (⟨#[]⟩, 60)) := by
  have hne : (bl s).drop j ≠ [] := by rw [drop_cons s j hlt]; simp
  refine ⟨fun x c h => ?_, fun h => ?_⟩
  · rw [rd_cons hne h, List.drop_drop]
    cases rdL nm n f (j + c) ((bl s).drop (j + c)) with
    | none => rfl
    | some l =>
      simp only [rfV, Option.map_some]
      rw [show x :: l = [x] ++ l from rfl, son_ap, ByteArray.append_assoc]
  · rw [rd_none hne h]
    rfl
theorem stpF' (n j : Nat) (s : ByteArray) (hlt : j < s.size) (h : bt s j = 92) : stp false n j ((bl s).drop j) = (two ((bl s).drop (j + 1))).map fun x => (x, 3) := by
  rw [drop_cons s j hlt, h, stpF]
theorem rf_l0 (s : ByteArray) (hs : s.size ≤ 1000) (d : Nat) : ∀ (k j : Nat) (X : ByteArray), s.size ≤ j + d → j ≤ s.size → d + 1200 < k → X.size ≤ j →
    latinerref06_ReadFilter.l0 k s X (j : Int) = some (rfV X (rdL false s.size d j ((bl s).drop j))) := by
  induction d with
  | zero =>
    intro k j X hj hj2 hk hX
    obtain ⟨k, rfl⟩ : ∃ m, k = m + 1 := ⟨k - 1, by omega⟩
    conv => lhs; rw [latinerref06_ReadFilter.l0]
    rw [if_neg (by omega), List.drop_eq_nil_of_le (by rw [bl_len]; omega), rd_nil]
    exact congrArg some (congrArg (·, (0 : Int)) (app_nil X).symm)
  | succ d ih =>
    intro k j X hj hj2 hk hX
    obtain ⟨k, rfl⟩ : ∃ m, k = m + 1 := ⟨k - 1, by omega⟩
    have e1 : wrap64 ((j : Int) + 1) = ((j + 1 : Nat) : Int) := w64 (by omega) (by omega)
    have e2 : wrap64 (wrap64 ((j : Int) + 2) + 1) = ((j + 3 : Nat) : Int) := by rw [w64 (n := (j : Int) + 2) (by omega) (by omega), w64 (by omega) (by omega)]; omega
    conv => lhs; rw [latinerref06_ReadFilter.l0]
    by_cases hlt : j < s.size
    · obtain ⟨g1, g2⟩ := rdL_step (nm := false) (n := s.size) (f := d) hlt X
      rw [if_pos (by omega), if_pos (by omega), e1, e2]
      by_cases h92 : bt s (j : Int) = 92
      · have hst := stpF' s.size j s hlt h92
        rw [if_pos h92]
        cases h2 : two ((bl s).drop (j + 1)) with
        | some v =>
          rw [h2] at hst
          have hl := two_len h2
          rw [List.length_drop, bl_len] at hl
          rw [pair_some s hs (j + 1) v h2 k (by omega), Option.bind_some]
          simp only [if_true]
          rw [if_pos (by rw [sone_sz]; omega), g1 v 3 hst]
          exact ih k (j + 3) _ (by omega) (by omega) (by omega) (by rw [ByteArray.size_append, sone_sz]; omega)
        | none =>
          rw [h2] at hst
          obtain ⟨t, ht⟩ := pair_none s hs (j + 1) (by omega) h2 k (by omega)
          rw [ht, Option.bind_some, if_neg (by simp), g2 hst]
      · have hst := stp_other false s.size j (bt s j) ((bl s).drop (j + 1)) h92
        rw [← drop_cons s j hlt] at hst
        have hb : bar false s.size j (bt s j) = inB (bt s j) := rfl
        rw [hb] at hst
        rw [if_neg h92, am_B _ k (by omega), Option.bind_some]
        cases hB : inB (bt s j) with
        | true =>
          rw [hB, if_pos rfl] at hst
          rw [if_pos rfl, g2 hst]
        | false =>
          rw [hB, if_neg (by decide)] at hst
          have c2 : ((j : Nat) : Int) ≤ ((j + 1 : Nat) : Int) := by omega
          have c3 : ((j + 1 : Nat) : Int) ≤ (s.size : Int) := by omega
          rw [if_neg (by decide), if_pos c2, if_pos c3, Int.toNat_natCast, Int.toNat_natCast, (ext1 s j hlt).2, if_pos (by rw [sone_sz]; omega), g1 _ 1 hst]
          exact ih k (j + 1) _ (by omega) (by omega) (by omega) (by rw [ByteArray.size_append, sone_sz]; omega)
    · rw [if_neg (by omega), List.drop_eq_nil_of_le (by rw [bl_len]; omega), rd_nil]
      exact congrArg some (congrArg (·, (0 : Int)) (app_nil X).symm)
theorem rfV_eq (o : Option (List Int)) : rfV ⟨#[]⟩ o = (rdS o, rdN o) := by
  cases o with
  | none => rfl
  | some l => exact congrArg (·, (0 : Int)) (nil_app l)
theorem ref_rf (s : ByteArray) (hs : s.size ≤ 1000) (k : Nat) (hk : s.size + 1200 < k) : latinerref06_ReadFilter.f k s = some (rdS (readT false s), rdN (readT false s)) := by
  unfold latinerref06_ReadFilter.f readT
  rw [ref_plain s hs k (by omega), Option.bind_some]
  cases okT s with
  | false => rfl
  | true =>
    rw [if_pos rfl, if_pos rfl]
    have := rf_l0 s hs s.size k 0 ⟨#[]⟩ (by omega) (by omega) (by omega) (by decide)
    rw [List.drop_zero, rfV_eq] at this
    exact this
theorem bl_ext11 (s : ByteArray) (j : Nat) (h : j + 1 < s.size) : s.extract (j + 1) (j + 2) = strOfNums [bt s (j + 1 : Nat)] := (ext1 s (j + 1) h).2
theorem rn_l0 (s : ByteArray) (hs : s.size ≤ 1000) (d : Nat) : ∀ (k j : Nat) (X : ByteArray), s.size ≤ j + d → j ≤ s.size → 2 * d + 1200 < k → X.size ≤ j →
    latinerref06_ReadName.l0 k s X (j : Int) = some (rfV X (rdL true s.size d j ((bl s).drop j))) := by
  induction d with
  | zero =>
    intro k j X hj hj2 hk hX
    obtain ⟨k, rfl⟩ : ∃ m, k = m + 1 := ⟨k - 1, by omega⟩
    conv => lhs; rw [latinerref06_ReadName.l0]
    rw [if_neg (by omega), List.drop_eq_nil_of_le (by rw [bl_len]; omega), rd_nil]
    exact congrArg some (congrArg (·, (0 : Int)) (app_nil X).symm)
  | succ d ih =>
    intro k j X hj hj2 hk hX
    obtain ⟨k, rfl⟩ : ∃ m, k = m + 2 := ⟨k - 2, by omega⟩
    have e1 : wrap64 ((j : Int) + 1) = ((j + 1 : Nat) : Int) := w64 (by omega) (by omega)
    have e2 : wrap64 ((j : Int) + 2) = ((j + 2 : Nat) : Int) := w64 (by omega) (by omega)
    have e3 : wrap64 (((j + 1 : Nat) : Int) + 1) = ((j + 2 : Nat) : Int) := w64 (by omega) (by omega)
    have e4 : wrap64 (((j + 2 : Nat) : Int) + 1) = ((j + 3 : Nat) : Int) := w64 (by omega) (by omega)
    have e5 : wrap64 ((s.size : Int) - 1) = (s.size : Int) - 1 := w64 (by omega) (by omega)
    conv => lhs; rw [latinerref06_ReadName.l0]
    by_cases hlt : j < s.size
    · obtain ⟨g1, g2⟩ := rdL_step (nm := true) (n := s.size) (f := d) hlt X
      have q1 : (j : Int) < (s.size : Int) := by omega
      have q2 : (0 : Int) ≤ (j : Int) := by omega
      rw [if_pos q1, if_pos q2, e1, e5]
      by_cases h92 : bt s (j : Int) = 92
      · rw [if_pos h92]
        -- what follows when the sign stands before digits
        have dig : (stp true s.size j ((bl s).drop j) = (two ((bl s).drop (j + 1))).map fun x => (x, 3)) →
            latinerref06_ReadName.j1 (k + 1) s X (j : Int) false = some (rfV X (rdL true s.size (d + 1) j ((bl s).drop j))) := by
          intro hst
          conv => lhs; rw [latinerref06_ReadName.j1]
          rw [if_neg (by decide), e1, e2, e4]
          cases h2 : two ((bl s).drop (j + 1)) with
          | some v =>
            rw [h2] at hst
            have hl := two_len h2
            rw [List.length_drop, bl_len] at hl
            rw [pair_some s hs (j + 1) v h2 k (by omega), Option.bind_some]
            simp only [if_true]
            rw [if_pos (by rw [sone_sz]; omega), g1 v 3 hst]
            exact ih k (j + 3) _ (by omega) (by omega) (by omega) (by rw [ByteArray.size_append, sone_sz]; omega)
          | none =>
            rw [h2] at hst
            obtain ⟨t, ht⟩ := pair_none s hs (j + 1) (by omega) h2 k (by omega)
            rw [ht, Option.bind_some, if_neg (by simp), g2 hst]
        by_cases hl : j + 1 < s.size
        · have hst : stp true s.size j ((bl s).drop j) = if inE (bt s (j + 1 : Nat)) = true then some (bt s (j + 1 : Nat), 2) else (two ((bl s).drop (j + 1))).map fun x => (x, 3) := by
            rw [drop_cons s j hlt, h92, drop_cons s (j + 1) hl, stpN]
          rw [if_pos (by omega), if_pos (by omega), am_E _ (k + 1) (by omega), Option.bind_some]
          cases hE : inE (bt s ((j + 1 : Nat) : Int)) with
          | true =>
            rw [hE, if_pos rfl] at hst
            have c1 : (0 : Int) ≤ ((j + 1 : Nat) : Int) := by omega
            have c2 : ((j + 1 : Nat) : Int) ≤ ((j + 2 : Nat) : Int) := by omega
            have c3 : ((j + 2 : Nat) : Int) ≤ (s.size : Int) := by omega
            conv => lhs; rw [latinerref06_ReadName.j1]
            rw [if_pos rfl, e1, e2, if_pos c1, if_pos c2, if_pos c3, Int.toNat_natCast, Int.toNat_natCast, bl_ext11 s j hl, if_pos (by rw [sone_sz]; omega), e3, g1 _ 2 hst]
            exact ih k (j + 2) _ (by omega) (by omega) (by omega) (by rw [ByteArray.size_append, sone_sz]; omega)
          | false =>
            rw [hE, if_neg (by decide)] at hst
            exact dig hst
        · rw [if_neg (by omega)]
          refine dig ?_
          rw [drop_cons s j hlt, h92, List.drop_eq_nil_of_le (by rw [bl_len]; omega), stpN_nil]
          rfl
      · have hst := stp_other true s.size j (bt s j) ((bl s).drop (j + 1)) h92
        rw [← drop_cons s j hlt] at hst
        have hb : bar true s.size j (bt s j) = (decide (j = 0 ∧ inS (bt s j) = true) || decide (j + 1 = s.size ∧ bt s j = 32) || inM (bt s j)) := rfl
        rw [hb] at hst
        have c2 : ((j : Nat) : Int) ≤ ((j + 1 : Nat) : Int) := by omega
        have c3 : ((j + 1 : Nat) : Int) ≤ (s.size : Int) := by omega
        have c4 : X.size + (strOfNums [bt s j]).size ≤ 9223372036854775807 := by rw [sone_sz]; omega
        have bad : (decide (j = 0 ∧ inS (bt s j) = true) || decide (j + 1 = s.size ∧ bt s j = 32) || inM (bt s j)) = true → rfV X (rdL true s.size (d + 1) j ((bl s).drop j)) = (⟨#[]⟩, 60) := by
          intro h
          rw [h, if_pos rfl] at hst
          exact g2 hst
        have good : (decide (j = 0 ∧ inS (bt s j) = true) || decide (j + 1 = s.size ∧ bt s j = 32) || inM (bt s j)) = false →
            latinerref06_ReadName.l0 (k + 1) s (X ++ strOfNums [bt s j]) ((j + 1 : Nat) : Int) = some (rfV X (rdL true s.size (d + 1) j ((bl s).drop j))) := by
          intro h
          rw [h, if_neg (by decide)] at hst
          rw [g1 _ 1 hst]
          exact ih (k + 1) (j + 1) _ (by omega) (by omega) (by omega) (by rw [ByteArray.size_append, sone_sz]; omega)
        rw [if_neg h92, am_M _ (k + 1) (by omega), Option.bind_some, Int.toNat_natCast, Int.toNat_natCast, (ext1 s j hlt).2]
        simp only [c2, c3, c4, if_true]
        cases hM : inM (bt s j) with
        | true => rw [if_pos rfl, bad (by rw [hM]; simp)]
        | false =>
          rw [if_neg (by decide)]
          rw [hM, Bool.or_false] at bad good
          have lastp : ∀ b0 : Bool, decide (j = 0 ∧ inS (bt s j) = true) = b0 → b0 = false →
              (if (j : Int) = (s.size : Int) - 1 then (if bt s (j : Int) = 32 then some ((⟨#[]⟩ : ByteArray), (60 : Int)) else latinerref06_ReadName.l0 (k + 1) s (X ++ strOfNums [bt s j]) ((j + 1 : Nat) : Int)) else latinerref06_ReadName.l0 (k + 1) s (X ++ strOfNums [bt s j]) ((j + 1 : Nat) : Int)) = some (rfV X (rdL true s.size (d + 1) j ((bl s).drop j))) := by
            rintro b0 hb0 rfl
            rw [hb0, Bool.false_or] at bad good
            by_cases l1 : (j : Int) = (s.size : Int) - 1
            · rw [if_pos l1]
              by_cases l2 : bt s (j : Int) = 32
              · rw [if_pos l2, bad (decide_eq_true ⟨by omega, l2⟩)]
              · rw [if_neg l2]
                exact good (decide_eq_false (fun q => l2 q.2))
            · rw [if_neg l1]
              exact good (decide_eq_false (fun q => l1 (by omega)))
          by_cases z : (j : Int) = 0
          · rw [if_pos z, am_S _ (k + 1) (by omega), Option.bind_some]
            cases hS : inS (bt s j) with
            | true =>
              rw [if_pos rfl, bad (by rw [decide_eq_true ⟨by omega, hS⟩]; simp)]
            | false =>
              rw [if_neg (by decide)]
              exact lastp _ (decide_eq_false (fun q => by rw [hS] at q; exact Bool.noConfusion q.2)) rfl
          · rw [if_neg z]
            exact lastp _ (decide_eq_false (fun q => z (by omega))) rfl
    · rw [if_neg (by omega), List.drop_eq_nil_of_le (by rw [bl_len]; omega), rd_nil]
      exact congrArg some (congrArg (·, (0 : Int)) (app_nil X).symm)
theorem ref_rn (s : ByteArray) (hs : s.size ≤ 1000) (k : Nat) (hk : 2 * s.size + 1200 < k) : latinerref06_ReadName.f k s = some (rdS (readT true s), rdN (readT true s)) := by
  unfold latinerref06_ReadName.f readT
  rw [ref_plain s hs k (by omega), Option.bind_some]
  cases okT s with
  | false => rfl
  | true =>
    rw [if_pos rfl, if_pos rfl]
    have := rn_l0 s hs s.size k 0 ⟨#[]⟩ (by omega) (by omega) (by omega) (by decide)
    rw [List.drop_zero, rfV_eq] at this
    exact this
theorem EscTells : latinerlaw06_EscTells.Pure := by
  intro a0 _
  obtain ⟨s, hc, hsz⟩ := cut_100 a0
  refine ⟨2000, ?_⟩
  unfold latinerlaw06_EscTells.f
  rw [shown_true, Option.bind_some, hc, Option.bind_some, rf_f s (by omega), Option.bind_some, ref_rf s (by omega) 2000 (by omega), Option.bind_some, rn_f s (by omega), Option.bind_some, ref_rn s (by omega) 2000 (by omega), Option.bind_some, if_pos rfl, filter_f s (by omega), Option.bind_some, ref_filter s (by omega) 2000 (by omega), Option.bind_some, if_pos rfl, name_f s (by omega), Option.bind_some, ref_name s (by omega) 2000 (by omega), Option.bind_some]
  simp
end Go.Proofs.YtbpcoieemkojjaaDoor.Pure
