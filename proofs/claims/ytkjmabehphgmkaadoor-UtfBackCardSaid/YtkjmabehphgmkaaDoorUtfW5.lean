/- utf's IsSafe. -/
import Derived.Test.YtkjmabehphgmkaaDoorUtfW4
import Derived.Deep.RegionHeld3
namespace Go.Proofs.YtkjmabehphgmkaaDoor
set_option linter.unusedSimpArgs false
set_option linter.unusedVariables false
namespace Utf
open Go.RowKit Go.Shelf Go.Proofs.YtkjmabehphgmkaaDoorW.PrintWords
attribute [local go_sem] Oper.semAt_some
def pOther (r : Nat) : Bool := decide (r = 0 ∨ r = 10 ∨ r = 13 ∨ 128 ≤ r)
theorem other_c (x : Nat) (W : World) : FnGives Tryd.prog 34 #[] #[encR x] (.bool (pOther x)) W := by
  show Calls Tryd.prog 34 #[.int .i32 x] W _
  by_cases h0 : x = 0
  · subst h0
    go_enter Tryd.func34, Tryd.ntmps34
    go_wp2
    all_goals (go_ret; exact ⟨by simp [pOther], 0, rfl⟩)
  by_cases h1 : x = 10
  · subst h1
    go_enter Tryd.func34, Tryd.ntmps34
    go_wp2
    all_goals (go_ret; exact ⟨by simp [pOther], 0, rfl⟩)
  by_cases h2 : x = 13
  · subst h2
    go_enter Tryd.func34, Tryd.ntmps34
    go_wp2
    all_goals (go_ret; exact ⟨by simp [pOther], 0, rfl⟩)
  have k0 : ¬ ((x : Int) = 0) := by omega
  have k1 : ¬ ((x : Int) = 10) := by omega
  have k2 : ¬ ((x : Int) = 13) := by omega
  go_enter Tryd.func34, Tryd.ntmps34
  go_wp2
  all_goals go_ret
  all_goals refine ⟨?_, 0, rfl⟩
  all_goals (simp [pOther, h0, h1, h2]; rw [Bool.eq_iff_iff]; simp; omega)
theorem begins_c (s t : ByteArray) (B : Nat) (w : World) (h : w.cell? ⟨B, 0, none⟩ = some (.string s)) :
    Calls Tryd.prog 35 #[.string t, .pointer (some ⟨B, 0, none⟩)] w fun e w' => e = .returned (.bool (Lib.hasPrefix s.data.toList t.data.toList)) ∧ w' = w := by
  go_enter Tryd.func35, Tryd.ntmps35
  go_wp2_with (go_at_call 36; refine (Tryd.strings_HasPrefix _ _ _).mono ?_; rintro e w' ⟨rfl, rfl⟩)
  go_ret
  exact ⟨rfl, rfl⟩
def noneB (b0 b1 b2 b3 b4 : Bool) : Bool := !(b0 || b1 || b2 || b3 || b4)
set_option maxHeartbeats 4000000 in
theorem isNone_c (b0 b1 b2 b3 b4 : Bool) (g : Nat) (w : World) (hr : w.heap[g]? = some (.cells #[.bool b0, .bool b1, .bool b2, .bool b3, .bool b4] 4 (0, 0))) :
    Calls Tryd.prog 37 #[.slice (some ⟨g, 0, none⟩) 5 5] w fun e w' => e = .returned (.bool (noneB b0 b1 b2 b3 b4)) ∧ w' = w := by
  have c0 := cell_of_row w g 0 _ _ _ hr
  have c1 := cell_of_row w g 1 _ _ _ hr
  have c2 := cell_of_row w g 2 _ _ _ hr
  have c3 := cell_of_row w g 3 _ _ _ hr
  have c4 := cell_of_row w g 4 _ _ _ hr
  simp at c0 c1 c2 c3 c4
  go_enter Tryd.func37, Tryd.ntmps37
  go_wp2
  refine wp_loop_rounds 6 ?_
  rw [rounds_succ]
  cases b0
  case true => go_wp2; go_ret; exact ⟨rfl, rfl⟩
  go_wp2; rw [rounds_succ]
  cases b1
  case true => go_wp2; go_ret; exact ⟨rfl, rfl⟩
  go_wp2; rw [rounds_succ]
  cases b2
  case true => go_wp2; go_ret; exact ⟨rfl, rfl⟩
  go_wp2; rw [rounds_succ]
  cases b3
  case true => go_wp2; go_ret; exact ⟨rfl, rfl⟩
  go_wp2; rw [rounds_succ]
  cases b4
  case true => go_wp2; go_ret; exact ⟨rfl, rfl⟩
  go_wp2; rw [rounds_succ]
  go_wp2
  go_ret
  exact ⟨rfl, rfl⟩
/-- What IsSafe answers. -/
def sfV (s : ByteArray) : Bool := noneB (decide (0 ≤ Lib.idxFunc pOther true s)) (Lib.hasPrefix s.data.toList [32]) (Lib.hasPrefix s.data.toList [58]) (Lib.hasPrefix s.data.toList [60]) (Lib.hasSuffix s.data.toList [32])
theorem contains_c (s : ByteArray) (B : Nat) (w : World) (h : w.cell? ⟨B, 0, none⟩ = some (.string s)) :
    Calls Tryd.prog 38 #[.string s, .func (.func 34) #[] #[]] w fun e w' => e = .returned (.bool (decide (0 ≤ Lib.idxFunc pOther true s))) ∧ Below w.heap.size w w' ∧ w'.cell? ⟨B, 0, none⟩ = some (.string s) := by
  refine (Tryd.strings_ContainsFunc_runes 34 #[] (enters_of Tryd.func34 (by kernel_rfl) rfl) pOther s w (fun W x _ _ => other_c x W)).mono ?_
  rintro e w' ⟨rfl, hb⟩
  exact ⟨rfl, hb, (hb.cell (lt_of_cell h)).trans h⟩
set_option maxHeartbeats 4000000 in
set_option maxRecDepth 100000 in
theorem IsSafe_c (s : ByteArray) (hs : s.size ≤ 4611686018427387904) (w : World) :
    Calls Tryd.prog 22 #[.string s] w fun e w' => e = .returned (.bool (sfV s)) ∧ Below w.heap.size w w' := by
  go_enter Tryd.func22, Tryd.ntmps22
  go_wp2_with fail
  have hb0 : Below w.heap.size w (w.alloc (.cells #[.string s] 9)) := (Below.refl _ _).alloc (Nat.le_refl _) _
  have hc0 : (w.alloc (.cells #[.string s] 9)).cell? ⟨w.heap.size, 0, none⟩ = some (.string s) := by simp
  obtain ⟨w1, hw1⟩ : ∃ w1, w.alloc (.cells #[.string s] 9) = w1 := ⟨_, rfl⟩
  rw [hw1] at hb0 hc0
  have hs1 : w1.heap.size = w.heap.size + 1 := by rw [← hw1]; simp
  simp only [hw1]
  clear hw1
  go_region_held3 (fun w' => w'.cell? ⟨w.heap.size, 0, none⟩ = some (.string s)) (go_keep)
    (first
      | (go_at_call 38; refine (contains_c s w.heap.size _ (by first | assumption | (simp [*]; done))).mono ?_; rintro e w' ⟨rfl, hb1, hc1⟩)
      | (go_at_call 35; refine (begins_c s _ w.heap.size _ (by first | assumption | (simp [*]; done))).mono ?_; rintro e w' ⟨rfl, rfl⟩)
      | (go_at_call 39; refine (Tryd.strings_HasSuffix _ _ _ (by omega)).mono ?_; rintro e w' ⟨rfl, rfl⟩)
      | (go_at_call 37; refine (isNone_c _ _ _ _ _ _ _ (World.alloc_heap_new _ _)).mono ?_; rintro e w' ⟨rfl, rfl⟩))
  go_wp2
  go_ret
  exact ⟨rfl, (hb0.trans ((below_drew (Below.refl w1.heap.size w1)).mono (by omega))).trans ((bl_alloc hb1 _).mono (by show _ ≤ w1.heap.size; omega))⟩
end Utf
end Go.Proofs.YtkjmabehphgmkaaDoor
