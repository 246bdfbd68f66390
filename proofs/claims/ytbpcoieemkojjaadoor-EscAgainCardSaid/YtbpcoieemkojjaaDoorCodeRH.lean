/- latinerref05's Hex, whose region draws its order. -/
import Derived.Test.YtbpcoieemkojjaaDoorKB
namespace Go.Proofs.YtbpcoieemkojjaaDoor
set_option linter.unusedSimpArgs false
set_option linter.unusedVariables false
namespace Code
open Go.RowKit Go.Shelf Go.Proofs.YtbpcoieemkojjaaDoorW.PrintWords Go.Proofs.YtbpcoieemkojjaaDoor.PureB
attribute [local go_sem] Oper.semAt_some
theorem dg_slice (i : Int) (h0 : 0 ≤ i) (h1 : i < 16) (W : World) : (Instr.slice 9 (.string ⟨#[48, 49, 50, 51, 52, 53, 54, 55, 56, 57, 97, 98, 99, 100, 101, 102]⟩) (some (.int .i64 i)) (some (.int .i64 (i + 1))) none).run Tryd.prog W = .ok (.string (strOfNums [dg i])) W := by
  rw [run_slice_string_if (P := Tryd.prog) (w := W) 9 _ .i64 .i64 i (i + 1) Tryd.underlying9, if_pos ⟨by omega, by show i + 1 ≤ 16; omega⟩, if_pos ⟨h0, by omega⟩]
  congr 2
  obtain ⟨k, rfl⟩ : ∃ k : Nat, i = k := ⟨i.toNat, by omega⟩
  have : k < 16 := by omega
  clear h0 h1
  revert k
  decide
theorem dgs_size (i : Int) : (strOfNums [dg i]).size = 1 := by rw [son_size]; rfl
theorem son_app (a b : List Int) : strOfNums a ++ strOfNums b = strOfNums (a ++ b) := by
  apply ByteArray.ext
  simp [strOfNums, ByteArray.data_append]
set_option maxHeartbeats 4000000 in
set_option maxRecDepth 1000000 in
theorem rHex_c (s : ByteArray) (hs : s.size ≤ 1000000) (w : World) :
    Calls Tryd.prog 28 #[.string s] w fun e w' => e = .returned (.string (strOfNums (hexL (bl s)))) ∧ Below w.heap.size w w' := by
  go_enter Tryd.func28, Tryd.ntmps28
  go_wp2_with fail
  go_loopw [4, 5] (fun x i wr => ∃ j : Nat, i = .int .i64 j ∧ j ≤ s.size ∧ x = .string (strOfNums (hexL ((bl s).take j))) ∧ Below w.heap.size w wr)
    (fun _ i _ => s.size - (intOf i).toNat)
  case atStart => exact ⟨0, rfl, Nat.zero_le _, rfl, Below.refl _ _⟩
  case round =>
    obtain ⟨j, rfl, hj, rfl, hb⟩ := hrel
    by_cases hlt : j < s.size
    · have hst := hex_succ s j hlt
      have hbr := bt_range s j
      have hbn := (bt_nat s j hlt).symm
      obtain ⟨x, hx⟩ : ∃ x, bt s j = x := ⟨_, rfl⟩
      rw [hx] at hbr hst hbn
      obtain ⟨X, hX⟩ : ∃ X, strOfNums (hexL ((bl s).take j)) = X := ⟨_, rfl⟩
      have hXs : X.size = 2 * j := by rw [← hX, son_size, hexL_len, List.length_take, bl_len]; omega
      have hres : strOfNums (hexL ((bl s).take (j + 1))) = X ++ strOfNums [dg (x / 16)] ++ strOfNums [dg (x % 16)] := by
        rw [hst, ← hX, son_app, son_app, List.append_assoc]; rfl
      have HRS := Lib.hid hres
      have hsl1 := dg_slice (x / 16) (by omega) (by omega)
      have hsl2 := dg_slice (x % 16) (by omega) (by omega)
      have z1 := dgs_size (x / 16)
      have z2 := dgs_size (x % 16)
      generalize strOfNums [dg (x / 16)] = S1 at hsl1 z1 HRS
      generalize strOfNums [dg (x % 16)] = S2 at hsl2 z2 HRS
      have y1 : X.size + S1.size ≤ 9223372036854775807 := by omega
      have y2 : (X ++ S1).size + S2.size ≤ 9223372036854775807 := by rw [ByteArray.size_append]; omega
      have y3 : X.size + S1.size + S2.size ≤ 9223372036854775807 := by omega
      obtain ⟨a, ha⟩ : ∃ a, x / 16 = a := ⟨_, rfl⟩
      obtain ⟨b, hb2⟩ : ∃ b, x % 16 = b := ⟨_, rfl⟩
      have q1 : x.tdiv 16 = a := by rw [Int.tdiv_eq_ediv_of_nonneg (by omega)]; exact ha
      have q2 : x.tmod 16 = b := by rw [Int.tmod_eq_emod_of_nonneg (by omega)]; exact hb2
      have a0 : 0 ≤ a := by omega
      have a1 : a < 16 := by omega
      have b0 : 0 ≤ b := by omega
      have b1 : b < 16 := by omega
      have w1 : wrap64 (a + 1) = a + 1 := by unfold wrap64; omega
      have w2 : wrap64 (b + 1) = b + 1 := by unfold wrap64; omega
      have w3 : IntKind.i64.wrap (a + 1) = a + 1 := by rw [IntKind.wrap_i64]; omega
      have w4 : IntKind.i64.wrap (b + 1) = b + 1 := by rw [IntKind.wrap_i64]; omega
      have w5 : wrap64 x = x := by unfold wrap64; omega
      have w6 : wrap64 a = a := by unfold wrap64; omega
      have w7 : IntKind.i64.wrap a = a := by rw [IntKind.wrap_i64]; omega
      rw [ha] at hsl1
      rw [hb2] at hsl2
      rw [hX]
      clear hst hX hx hres
      go_wp2_with fail
      go_region
      all_goals go_wp2_with fail
      all_goals refine ⟨⟨j + 1, by simp, by omega, by rw [HRS.out], by repeat (first | exact hb | refine Below.drew ?_)⟩, by simp [intOf]; omega⟩
    · obtain rfl : j = s.size := by omega
      rw [List.take_of_length_le (by rw [bl_len]; omega)]
      go_wp2_with fail
      refine bodyPost_ret (v := .string (strOfNums (hexL (bl s)))) (by simp [results, Tryd.results28, go_sem]) rfl ⟨rfl, hb⟩
end Code
end Go.Proofs.YtbpcoieemkojjaaDoor
