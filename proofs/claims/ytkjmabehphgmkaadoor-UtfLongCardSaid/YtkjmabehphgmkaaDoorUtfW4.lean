/- utf's Text. -/
import Derived.Test.YtkjmabehphgmkaaDoorUtfW3
import Derived.Test.YtkjmabehphgmkaaDoorBld
namespace Go.Proofs.YtkjmabehphgmkaaDoor
set_option linter.unusedSimpArgs false
set_option linter.unusedVariables false
namespace Utf
open Go.RowKit Go.Shelf Go.Proofs.YtkjmabehphgmkaaDoorW.PrintWords
attribute [local go_sem] Oper.semAt_some
theorem isSign_c (n : Int) (w : World) : Calls Tryd.prog 27 #[.int .i64 n] w fun e w' => e = .returned (.bool (vr n)) ∧ w' = w := by
  go_enter Tryd.func27, Tryd.ntmps27
  go_wp2
  all_goals go_ret
  all_goals refine ⟨?_, rfl⟩
  all_goals (simp [vr]; try omega)
/-- What Text writes. -/
def txS (l : List Int) : ByteArray := if (∀ c ∈ l, vr c = true) then strOfNums (ebs l) else ⟨#[]⟩
def txE (l : List Int) : Int := if (∀ c ∈ l, vr c = true) then 0 else 40
theorem runeCells_eb (c : Int) (h : vr c = true) : Lib.runeCells c = nums .u8 (eb c) := by
  simp only [vr, decide_eq_true_eq] at h
  unfold Lib.runeCells nums eb
  by_cases h1 : c < 128
  · rw [if_pos h1, Lib.encodeRuneZ_one (by omega) (by omega)]
  · by_cases h2 : c < 2048
    · rw [if_neg h1, if_pos h2, Lib.encodeRuneZ_two (by omega) (by omega)]
    · by_cases h3 : c < 65536
      · rw [if_neg h1, if_neg h2, if_pos h3, Lib.encodeRuneZ_three (by omega)]
      · rw [if_neg h1, if_neg h2, if_neg h3, Lib.encodeRuneZ_four (by omega) (by omega)]
theorem eb_byte (c : Int) (h : vr c = true) : ∀ x ∈ eb c, 0 ≤ x ∧ x < 256 := by
  simp only [vr, decide_eq_true_eq] at h
  intro x hx
  unfold eb at hx
  repeat' split at hx
  all_goals simp at hx
  all_goals omega
theorem eb_le4 (c : Int) : (eb c).length ≤ 4 := by
  rw [eb_len]
  repeat' split
  all_goals omega
theorem ebs_byte (l : List Int) (h : ∀ c ∈ l, vr c = true) : ∀ x ∈ ebs l, 0 ≤ x ∧ x < 256 := by
  intro x hx
  simp only [ebs, List.mem_flatMap] at hx
  obtain ⟨c, hc, hx⟩ := hx
  exact eb_byte c (h c hc) x hx
theorem ebs_append (l m : List Int) : ebs (l ++ m) = ebs l ++ ebs m := by simp [ebs]
theorem ebs_le (l : List Int) : (ebs l).length ≤ 4 * l.length := by
  induction l with
  | nil => simp [ebs]
  | cons c l ih => rw [ebs_cons, List.length_append, List.length_cons]; have := eb_le4 c; omega
/-- Numbers as bytes. -/
theorem byteCells_nums (xs : List Int) (h : ∀ x ∈ xs, 0 ≤ x ∧ x < 256) : Lib.byteCells (xs.map fun x => x.toNat.toUInt8) = nums .u8 xs := by
  unfold Lib.byteCells nums
  rw [List.map_map]
  apply List.map_congr_left
  intro x hx
  have := h x hx
  simp only [Function.comp, Value.int.injEq, true_and]
  have : x.toNat.toUInt8.toNat = x.toNat := by
    simp [Nat.toUInt8]; omega
  omega
theorem take_succ_vr {l : List Int} {j : Nat} {x : Int} (hx : l[j]? = some x) (h : ∀ c ∈ l.take j, vr c = true) (hv : vr x = true) : ∀ c ∈ l.take (j + 1), vr c = true := by
  intro c hc
  rw [List.take_add_one, hx] at hc
  rcases List.mem_append.1 hc with h1 | h1
  · exact h c h1
  · simp at h1; subst h1; exact hv
set_option maxHeartbeats 4000000 in
set_option maxRecDepth 1000000 in
theorem Text_c (A0 : Option Addr) (c0 : Nat) (l : List Int) (a0 : Addr) (w : World) (hl : l.length ≤ 1000000) (hr : Kd.C (Kd.int .i64) w A0 l.length l) (h : GU a0 w) :
    Calls Tryd.prog 15 #[.slice A0 l.length c0] w fun e w' => e = .returned (.tuple #[.string (txS l), .int .i64 (txE l)]) ∧ Below w.heap.size w w' := by
  have HG := Lib.hid h
  have HR := Lib.hid hr
  obtain ⟨n, hn⟩ : ∃ n, l.length = n := ⟨_, rfl⟩
  rw [hn] at HR hl ⊢
  clear h hr
  go_enter Tryd.func15, Tryd.ntmps15
  go_wp2
  go_loopw [9] (fun i wr => ∃ j : Nat, i = .int .i64 j ∧ j ≤ n ∧ (∀ c ∈ l.take j, vr c = true) ∧ Lib.IsBuilderF 51 5 w.heap.size w.heap.size (nums .u8 (ebs (l.take j))) wr ∧ Below w.heap.size w wr)
    (fun i _ => n - (intOf i).toNat)
  case atStart =>
    exact ⟨0, rfl, Nat.zero_le _, by simp, Lib.IsBuilderF.of (Lib.fresh_isBuilder 51 5 w), (Below.refl _ w).alloc (Nat.le_refl _) _⟩
  case round =>
    obtain ⟨j, rfl, hj, hv, hI, hb⟩ := hrel
    have hsz := hb.size
    by_cases hlt : j < n
    · obtain ⟨x, hx⟩ : ∃ x, l[j]? = some x := ⟨l[j]'(by omega), List.getElem?_eq_getElem (by omega)⟩
      obtain ⟨ad, hA, hcell⟩ := Kd.at_int HR.out (j : Int) (by omega) (by omega)
      subst hA
      have hrd : rd l (j : Int) = x := by
        unfold rd
        simp [List.getD_eq_getElem?_getD, hx]
      rw [hrd] at hcell
      have hcell2 := (hb.cell (lt_of_cell hcell)).trans hcell
      simp at hcell2
      have HI := Lib.hid hI
      have HV := Lib.hid hv
      have HS := Lib.hid (isSign_c x)
      have HBL := Lib.hid (show (nums .u8 (ebs (l.take j))).length + 4 ≤ 140737488355328 by
        have := ebs_le (l.take j)
        simp [nums]
        simp at this
        omega)
      clear hI hv hcell hrd
      by_cases hvx : vr x = true
      · have hx1 : x.toNat < 2147483648 ∧ 0 ≤ x ∧ x ≤ 1114111 := by simp only [vr, decide_eq_true_eq] at hvx; omega
        have hwx : IntKind.i32.wrap x = x := by rw [IntKind.wrap_i32]; omega
        rw [hvx] at HS
        have HR2 := Lib.hid (Bld.WriteRune_k w.heap.size w.heap.size _ x (by omega) (by omega) wr HI.out HBL.out hsz)
        go_wp2_with (first
          | (go_at_call 27; refine (HS.out _).mono ?_; rintro e w' ⟨rfl, rfl⟩)
          | (go_at_call 28; refine HR2.out.mono ?_; rintro e w2 ⟨rfl, h2, hb2, _⟩))
        go_roundw
        case rel =>
          refine ⟨j + 1, by simp, by omega, take_succ_vr hx HV.out hvx, ?_, hb.trans hb2⟩
          have e : nums .u8 (ebs (l.take (j + 1))) = nums .u8 (ebs (l.take j)) ++ Lib.runeCells x := by
            rw [List.take_add_one, hx, ebs_append, nums_append, runeCells_eb x hvx]
            simp [ebs]
          rw [e]
          exact .inr h2
        case measure => simp [intOf]; omega
      · have hvx' : vr x = false := by simpa using hvx
        rw [hvx'] at HS
        have HT := Lib.hid (told_bad j a0 wr (HG.out.ga.below hb))
        have hno : ¬ ∀ c ∈ l, vr c = true := fun q => hvx (q x (List.mem_of_getElem? hx))
        have H1 := Lib.hid (show txS l = ⟨#[]⟩ from if_neg hno)
        have H2 := Lib.hid (show txE l = 40 from if_neg hno)
        clear hno hvx hx
        go_wp2_with (first
          | (go_at_call 27; refine (HS.out _).mono ?_; rintro e w' ⟨rfl, rfl⟩)
          | (go_at_call 25; refine HT.out.mono ?_; rintro e w2 ⟨rfl, hb2⟩))
        refine bodyPost_ret (v := .tuple #[.string ⟨#[]⟩, .int .i64 40]) (by simp [results, Tryd.results15, go_sem]) rfl ⟨by rw [H1.out, H2.out], bl_trans hb hb2⟩
    · obtain rfl : j = n := by omega
      rw [List.take_of_length_le (by omega)] at hv hI
      have hby := ebs_byte l hv
      rw [← byteCells_nums _ hby] at hI
      have HSt := Lib.hid (Tryd.Builder_String_any_k w.heap.size w.heap.size _ wr hI hsz)
      have H1 := Lib.hid (show txS l = strOfNums (ebs l) from if_pos hv)
      have H2 := Lib.hid (show txE l = 0 from if_pos hv)
      clear hI hv hby
      go_wp2_with (go_at_call 29; refine HSt.out.mono ?_; rintro e w2 ⟨rfl, _, hb2, _⟩)
      refine bodyPost_ret (v := .tuple #[.string ⟨((ebs l).map fun x => x.toNat.toUInt8).toArray⟩, .int .i64 0]) (by simp [results, Tryd.results15, go_sem]) rfl ⟨by rw [H1.out, H2.out]; rfl, hb.trans hb2⟩
end Utf
end Go.Proofs.YtkjmabehphgmkaaDoor
