/- size's reader. -/
import Derived.Test.YtmfnenlinhljkaaDoorSizeW5
import Derived.Deep.RegionWith
import Derived.BigRegion
namespace Go.Proofs.YtmfnenlinhljkaaDoor
set_option linter.unusedSimpArgs false
set_option linter.unusedVariables false
namespace Size
open Go.RowKit Go.Shelf Go.Proofs.YtmfnenlinhljkaaDoorW.PrintWords
attribute [local go_sem] Oper.semAt_some
theorem has_b (s : ByteArray) (at' n : Int) (b : Bool) (hb : decide (0 ≤ at' ∧ at' ≤ s.size ∧ n ≤ wrap64 (s.size - at')) = b) (w : World) :
    Calls Tryd.prog 49 #[.agg #[.string s, .int .i64 at'], .int .i64 n] w fun e w' => e = .returned (.bool b) ∧ w' = w.alloc (.cells #[.string s, .int .i64 at'] 63) := by
  rw [← hb]; exact has_c s at' n w
theorem row_two (w : World) (o1 o2 : Obj) : ((w.alloc o1).alloc o2).drew.heap[w.heap.size + 1]? = some o2 := by
  have := World.alloc_heap_new (w.alloc o1) o2
  rw [World.size_alloc] at this
  exact this
set_option maxRecDepth 100000 in
set_option maxHeartbeats 4000000 in
theorem read_short1 (s : ByteArray) (at' : Int) (R : Nat) (a0 a1 a2 : Addr) (w : World) (h : GA a0 a1 a2 w) (hR : w.heap[R]? = some (.cells #[.string s, .int .i64 at', .int .i64 0] 65 (0, 0)))
    (hs : s.size ≤ 1000) (hh : ¬ (0 ≤ at' ∧ at' < s.size)) :
    Calls Tryd.prog 41 #[.pointer (some ⟨R, 0, none⟩)] w fun e w' => e = .returned (werr 0 a0) ∧ Below w.heap.size w w' := by
  go_enter Tryd.func41, Tryd.ntmps41
  have hg := h.g0
  have c0 := cell_of_row w R 0 _ _ _ hR
  have c1 := cell_of_row w R 1 _ _ _ hR
  have c2 := cell_of_row w R 2 _ _ _ hR
  simp at c0 c1 c2
  have hlt := lt_of_cell c0
  have hdec : decide (0 ≤ at' ∧ at' ≤ s.size ∧ 1 ≤ wrap64 (s.size - at')) = false := by
    apply decide_eq_false; unfold wrap64; omega
  go_wp2_with fail
  have hgl := lt_of_cell hg
  simp only at hgl
  have HDEC := Lib.hid hdec
  clear hdec
  have HROW := Lib.hid (row_two w (.cells #[.string s, .int .i64 at'] 63) (.cells #[.bool true, ese a0] 75))
  go_region_with (first
    | (go_at_call 49; refine (has_b s at' 1 _ HDEC.out _).mono ?_; rintro e w' ⟨rfl, rfl⟩)
    | (go_at_call 46; refine (first_yes 0 a0 (w.heap.size + 1) _ HROW.out).mono ?_; rintro e w' ⟨rfl, rfl⟩))
  all_goals (go_wp2_with fail; go_ret; exact ⟨rfl, by repeat (first | exact Below.refl _ _ | refine bl_alloc ?_ _ | refine Below.drew ?_)⟩)
def Cells3 (s : ByteArray) (i n : Int) (R : Nat) (w : World) : Prop := w.heap[R]? = some (.cells #[.string s, .int .i64 i, .int .i64 n] 65 (0, 0))
end Size
end Go.Proofs.YtmfnenlinhljkaaDoor
