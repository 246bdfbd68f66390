import Derived.Test.YtkjmabehphgmkaaDoorPureUtfTells
namespace Go.Proofs.YtkjmabehphgmkaaDoor.Pure
set_option linter.unusedSimpArgs false
set_option linter.unusedVariables false
open Go.RowKit Go.Proofs.YtkjmabehphgmkaaDoor.LUtf Go.Proofs.YtkjmabehphgmkaaDoor.ExtUtf Go.Proofs.YtkjmabehphgmkaaDoor.Utf Go.Proofs.YtkjmabehphgmkaaDoorW.PrintWords Go.Proofs.YtkjmabehphgmkaaDoorW.PrintLast Go.Proofs.YtkjmabehphgmkaaDoor.PureB
theorem pre_son (l : List Int) (h : ∀ c ∈ l, vr c = true) : Pre (strOfNums (ebs l)) 0 (ebs l) := by
  refine ⟨by rw [son_size]; omega, fun j hj => ?_⟩
  have hb := ebs_byte l h
  have hj2 : (ebs l)[j]? = some ((ebs l)[j]) := List.getElem?_eq_getElem hj
  have hbj := hb _ (List.getElem_mem hj)
  have := bt_son _ _ _ hj2 hbj.1 hbj.2
  rw [show ((0 : Nat) : Int) + (j : Int) = j by omega, this]
  simp [List.getD_eq_getElem?_getD, hj2]
/-- Signs' bytes are right, and have these signs. -/
theorem text_right (l : List Int) (h : ∀ c ∈ l, vr c = true) : sgn (strOfNums (ebs l)) = l ∧ bad (strOfNums (ebs l)) = -1 := by
  have hr := runs_of_bytes l 0 h (pre_son l h)
  rw [Nat.zero_add] at hr
  exact bad_of_runs (by rw [son_size]; exact hr)
/-- A right text is its signs' bytes. -/
theorem right_text {s : ByteArray} (h : bad s < 0) : strOfNums (ebs (sgn s)) = s ∧ ∀ c ∈ sgn s, vr c = true := by
  obtain ⟨hr, _⟩ := right_runs h
  have hv := hr.vrs
  obtain ⟨hp, hl⟩ := hr.bytes (Nat.zero_le _)
  refine ⟨ba_ext (by rw [son_size]; omega) (fun j hj => ?_), hv⟩
  rw [son_size] at hj
  have h1 := (pre_son _ hv).2 j hj
  have h2 := hp.2 j hj
  rw [show ((0 : Nat) : Int) + (j : Int) = j by omega] at h1 h2
  rw [h1, h2]
theorem sub_left (s t : ByteArray) : Sub s (s ++ t) 0 := ⟨by rw [ByteArray.size_append]; omega, fun j hj => by
  rw [show ((0 : Nat) : Int) + (j : Int) = j by omega, bt_app_l s t j hj]⟩
theorem sub_right (s t : ByteArray) : Sub t (s ++ t) s.size := ⟨by rw [ByteArray.size_append]; omega, fun j _ => (bt_app_r s t j).symm⟩
theorem sub_pre (s : ByteArray) (n : Nat) (h : n ≤ s.size) : Sub (s.extract 0 n) s 0 := ⟨by rw [extract_size _ _ _ h]; omega, fun j hj => by
  rw [extract_size _ _ _ h] at hj
  rw [bt_extract s 0 n j (by omega) h]⟩
/-- A right text ahead of another one. -/
theorem bad_append {s t : ByteArray} (h : bad s < 0) : sgn (s ++ t) = sgn s ++ sgn t ∧ bad (s ++ t) = if bad t < 0 then -1 else (s.size : Int) + bad t := by
  obtain ⟨hr, _⟩ := right_runs h
  obtain ⟨j, hr2, he⟩ := bad_runs t
  have h1 := hr.sub (sub_left s t)
  have h2 := hr2.sub (sub_right s t)
  rw [Nat.zero_add, Nat.zero_add] at h1
  rw [Nat.add_zero] at h2
  refine bad_det (s ++ t) (h1.trans h2) ?_
  rcases he with ⟨h3, h4⟩ | ⟨h3, h4, h5⟩
  · rw [if_pos (by omega)]
    exact .inl ⟨by rw [ByteArray.size_append]; omega, rfl⟩
  · rw [if_neg (by omega)]
    refine .inr ⟨by rw [ByteArray.size_append]; omega, zero_sub_end h4 (sub_right s t) (by rw [ByteArray.size_append]) h3, by omega⟩
/-- Ahead of the bad place, and with its byte. -/
theorem bad_cut {s : ByteArray} {n : Nat} (h : bad s = n) : n < s.size ∧ bad (s.extract 0 n) = -1 ∧ 0 ≤ bad (s.extract 0 (n + 1)) := by
  obtain ⟨j, hr, he⟩ := bad_runs s
  rcases he with ⟨h3, h4⟩ | ⟨h3, h4, h5⟩
  · omega
  obtain rfl : n = j := by omega
  have z1 := extract_size s 0 n (by omega)
  have z2 := extract_size s 0 (n + 1) (by omega)
  refine ⟨h3, ?_, ?_⟩
  · obtain ⟨j', e, hr'⟩ := hr.of_sub (sub_pre s n (by omega)) 0 rfl (by omega)
    obtain rfl : n = j' := by omega
    exact (bad_det _ hr' (.inl ⟨by omega, rfl⟩)).2
  · obtain ⟨j', e, hr'⟩ := hr.of_sub (sub_pre s (n + 1) (by omega)) 0 rfl (by omega)
    obtain rfl : n = j' := by omega
    have hz : (sign1 (s.extract 0 (n + 1)) n).2 = 0 := by
      by_cases hz : (sign1 (s.extract 0 (n + 1)) n).2 = 0
      · exact hz
      obtain ⟨hv, hm, hp⟩ := sign1_pre _ n (by omega) hz
      have := hp.sub (sub_pre s (n + 1) (by omega))
      rw [Nat.zero_add] at this
      exact absurd this (sign1_zero s n h4 h3 _ hv)
    have := (bad_det _ hr' (.inr ⟨by omega, hz, rfl⟩)).2
    omega
end Go.Proofs.YtkjmabehphgmkaaDoor.Pure
