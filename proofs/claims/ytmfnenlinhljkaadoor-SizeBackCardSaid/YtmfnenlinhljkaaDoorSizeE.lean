/- size's Encode and Size. -/
import Derived.Test.YtmfnenlinhljkaaDoorSizeW5
namespace Go.Proofs.YtmfnenlinhljkaaDoor
set_option linter.unusedSimpArgs false
set_option linter.unusedVariables false
namespace Size
open Go.RowKit Go.Shelf Go.Proofs.YtmfnenlinhljkaaDoorW.PrintWords
/-- how many bytes a length has behind the first one -/
def esz (n : Int) : Nat := if n < 128 then 0 else if n < 256 then 1 else if n < 65536 then 2 else 3
/-- a length's least bytes -/
def encS (n : Int) : ByteArray := if n < 0 ∨ 16777215 < n then ⟨#[]⟩ else if n < 128 then strOfNums [n] else strOfNums ((128 + esz n) :: (lo n (esz n)).reverse)
/-- the error's number -/
def encE (n : Int) : Int := if n < 0 ∨ 16777215 < n then 12 else 0
theorem encoded_ok (n : Int) (a0 a1 a2 : Addr) (w : World) (h : GA a0 a1 a2 w) (hn : ¬ (n < 0 ∨ 16777215 < n)) :
    Calls Tryd.prog 39 #[.int .i64 n] w fun e w' => e = .returned (.tuple #[.string (encS n), .nilIface]) ∧ Below w.heap.size w w' := by
  unfold encS
  rw [if_neg hn]
  by_cases h1 : n < 128
  · rw [if_pos h1]; exact encoded_1 n a0 a1 a2 w h (by omega) h1
  rw [if_neg h1]
  have p0 : n / 256 ^ 0 = n := by simp
  have p1 : n / 256 ^ 1 = n / 256 := by simp
  have p2 : n / 256 ^ 2 = n / 65536 := rfl
  have p3 : n / 256 ^ 3 = n / 16777216 := rfl
  by_cases h2 : n < 256
  · rw [show esz n = 1 by unfold esz; rw [if_neg h1, if_pos h2]]
    have hp : ∀ j, j < 1 → 0 < n / 256 ^ j := by
      intro j hj
      obtain rfl : j = 0 := by omega
      rw [p0]; omega
    exact encoded_k n 1 a0 a1 a2 w h (by omega) (by omega) (by decide) hp (by rw [p1]; omega)
  by_cases h3 : n < 65536
  · rw [show esz n = 2 by unfold esz; rw [if_neg h1, if_neg h2, if_pos h3]]
    have hp : ∀ j, j < 2 → 0 < n / 256 ^ j := by
      intro j hj
      rcases (show j = 0 ∨ j = 1 by omega) with rfl | rfl
      · rw [p0]; omega
      · rw [p1]; omega
    exact encoded_k n 2 a0 a1 a2 w h (by omega) (by omega) (by decide) hp (by rw [p2]; omega)
  · rw [show esz n = 3 by unfold esz; rw [if_neg h1, if_neg h2, if_neg h3]]
    have hp : ∀ j, j < 3 → 0 < n / 256 ^ j := by
      intro j hj
      rcases (show j = 0 ∨ j = 1 ∨ j = 2 by omega) with rfl | rfl | rfl
      · rw [p0]; omega
      · rw [p1]; omega
      · rw [p2]; omega
    exact encoded_k n 3 a0 a1 a2 w h (by omega) (by omega) (by decide) hp (by rw [p3]; omega)
theorem Encode_c (n : Int) (a0 a1 a2 : Addr) (w : World) (h : GA a0 a1 a2 w) :
    Calls Tryd.prog 27 #[.int .i64 n] w fun e w' => e = .returned (.tuple #[.string (encS n), .int .i64 (encE n)]) ∧ Below w.heap.size w w' := by
  go_enter Tryd.func27, Tryd.ntmps27
  by_cases hn : n < 0 ∨ 16777215 < n
  · have HE := Lib.hid (encoded_no n a0 a1 a2 w h hn)
    unfold encS encE
    rw [if_pos hn, if_pos hn]
    clear hn
    go_wp2_with fail
    refine HE.out.mono ?_
    rintro e w1 ⟨rfl, hb1⟩
    have HT := Lib.hid (told_size n a0 a1 a2 w1 (h.below hb1))
    go_wp2_with fail
    refine HT.out.mono ?_
    rintro e w2 ⟨rfl, hb2⟩
    go_wp2_with fail
    refine bodyPost_ret (v := .tuple #[.string ⟨#[]⟩, .int .i64 12]) (by simp [results, Tryd.results27, go_sem]) rfl ⟨rfl, bl_trans hb1 hb2⟩
  · have HE := Lib.hid (encoded_ok n a0 a1 a2 w h hn)
    unfold encE
    rw [if_neg hn]
    clear hn
    generalize encS n = s at HE ⊢
    go_wp2_with fail
    refine HE.out.mono ?_
    rintro e w1 ⟨rfl, hb1⟩
    have HT := Lib.hid (told_nil w1)
    go_wp2_with fail
    refine HT.out.mono ?_
    rintro e w2 ⟨rfl, hb2⟩
    go_wp2_with fail
    refine bodyPost_ret (v := .tuple #[.string s, .int .i64 0]) (by simp [results, Tryd.results27, go_sem]) rfl ⟨rfl, bl_trans hb1 hb2⟩
theorem Size_c (n : Int) (a0 a1 a2 : Addr) (w : World) (h : GA a0 a1 a2 w) :
    Calls Tryd.prog 31 #[.int .i64 n] w fun e w' => e = .returned (.tuple #[.int .i64 (encS n).size, .int .i64 (encE n)]) ∧ Below w.heap.size w w' := by
  go_enter Tryd.func31, Tryd.ntmps31
  by_cases hn : n < 0 ∨ 16777215 < n
  · have HE := Lib.hid (encoded_no n a0 a1 a2 w h hn)
    unfold encS encE
    rw [if_pos hn, if_pos hn]
    clear hn
    go_wp2_with fail
    refine HE.out.mono ?_
    rintro e w1 ⟨rfl, hb1⟩
    have HT := Lib.hid (told_size n a0 a1 a2 w1 (h.below hb1))
    go_wp2_with fail
    refine HT.out.mono ?_
    rintro e w2 ⟨rfl, hb2⟩
    go_wp2_with fail
    refine bodyPost_ret (v := .tuple #[.int .i64 0, .int .i64 12]) (by simp [results, Tryd.results31, go_sem]) rfl ⟨rfl, bl_trans hb1 hb2⟩
  · have HE := Lib.hid (encoded_ok n a0 a1 a2 w h hn)
    unfold encE
    rw [if_neg hn]
    clear hn
    generalize encS n = s at HE ⊢
    go_wp2_with fail
    refine HE.out.mono ?_
    rintro e w1 ⟨rfl, hb1⟩
    have HT := Lib.hid (told_nil w1)
    go_wp2_with fail
    refine HT.out.mono ?_
    rintro e w2 ⟨rfl, hb2⟩
    go_wp2_with fail
    refine bodyPost_ret (v := .tuple #[.int .i64 s.size, .int .i64 0]) (by simp [results, Tryd.results31, go_sem]) rfl ⟨rfl, bl_trans hb1 hb2⟩
end Size
end Go.Proofs.YtmfnenlinhljkaaDoor
