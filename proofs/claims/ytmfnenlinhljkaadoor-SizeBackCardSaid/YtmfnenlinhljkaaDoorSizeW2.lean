import Derived.Test.YtmfnenlinhljkaaDoorSizeW
namespace Go.Proofs.YtmfnenlinhljkaaDoor
set_option linter.unusedSimpArgs false
set_option linter.unusedVariables false
namespace Size
open Go.RowKit Go.Shelf
attribute [local go_sem] Oper.semAt_some
theorem has_c (s : ByteArray) (at' n : Int) (w : World) :
    Calls Tryd.prog 49 #[.agg #[.string s, .int .i64 at'], .int .i64 n] w fun e w' => e = .returned (.bool (decide (0 ≤ at' ∧ at' ≤ s.size ∧ n ≤ wrap64 (s.size - at')))) ∧ w' = w.alloc (.cells #[.string s, .int .i64 at'] 63) := by
  go_enter Tryd.func49, Tryd.ntmps49
  go_wp2_with fail
  · go_ret
    refine ⟨?_, rfl⟩
    simp_all
  · go_ret
    refine ⟨?_, rfl⟩
    simp; omega
  · go_ret
    refine ⟨?_, rfl⟩
    simp; omega
abbrev ese (a : Addr) : Value := .iface 111 (.pointer (some a))
theorem first_yes (n : Int) (a : Addr) (g : Nat) (w : World) (hr : w.heap[g]? = some (.cells #[.bool true, ese a] 75 (0, 0))) :
    Calls Tryd.prog 46 #[.int .i64 n, .slice (some ⟨g, 0, none⟩) 1 1] w fun e' w' => e' = .returned (.iface 79 (.agg #[.int .i64 n, ese a])) ∧ w' = w.alloc (.cells #[.bool true, ese a] 75) := by
  go_enter Tryd.func46, Tryd.ntmps46
  have c0 := cell_of_row w g 0 _ _ _ hr
  have c1 := cell_of_row w g 1 _ _ _ hr
  simp at c0 c1
  have hlt := lt_of_cell c0
  go_wp2
  refine wp_loop_rounds 1 ?_; rw [rounds_succ]; go_wp2_with fail
  go_ret
  exact ⟨rfl, rfl⟩
theorem first_no (n : Int) (a : Addr) (g : Nat) (w : World) (hr : w.heap[g]? = some (.cells #[.bool false, ese a] 75 (0, 0))) :
    Calls Tryd.prog 46 #[.int .i64 n, .slice (some ⟨g, 0, none⟩) 1 1] w fun e' w' => e' = .returned .nilIface ∧ w' = w.alloc (.cells #[.bool false, ese a] 75) := by
  go_enter Tryd.func46, Tryd.ntmps46
  have c0 := cell_of_row w g 0 _ _ _ hr
  have c1 := cell_of_row w g 1 _ _ _ hr
  simp at c0 c1
  have hlt := lt_of_cell c0
  go_wp2
  refine wp_loop_rounds 2 ?_; rw [rounds_succ]; go_wp2; rw [rounds_succ]; go_wp2_with fail
  go_ret
  exact ⟨rfl, rfl⟩
theorem first_c (n : Int) (b : Bool) (a : Addr) (g : Nat) (w : World) (hr : w.heap[g]? = some (.cells #[.bool b, ese a] 75 (0, 0))) :
    Calls Tryd.prog 46 #[.int .i64 n, .slice (some ⟨g, 0, none⟩) 1 1] w fun e' w' => e' = .returned (if b = true then werr n a else .nilIface) ∧ w' = w.alloc (.cells #[.bool b, ese a] 75) := by
  cases b
  · exact first_no n a g w hr
  · exact first_yes n a g w hr
end Size
end Go.Proofs.YtmfnenlinhljkaaDoor
