/- size's functions, walked, first part: told, has, first. -/
import Derived.Test.YtmfnenlinhljkaaDoorErrSize
import Derived.Test.YtmfnenlinhljkaaDoorGASize
import Derived.RangeFuncNested
import Derived.RangeFuncBound
import Derived.RangeFuncCalls
import Derived.RangeFuncLeaves
import Derived.Shelf.Abstract
import Derived.Shelf.RegionOpen
import Derived.OwnWalkIn
import Derived.TacticsInMore
import Derived.LoopNIn
import Derived.LoopIn
import Derived.Maps.AppendAt
import Derived.RegionTactic
import Derived.LoopTactic
import Derived.Outline
namespace Go.Proofs.YtmfnenlinhljkaaDoor
set_option linter.unusedSimpArgs false
set_option linter.unusedVariables false
namespace Size
open Go.RowKit Go.Shelf
attribute [local go_sem] Oper.semAt_some

theorem told_nil (w : World) : Calls Tryd.prog 40 #[.nilIface] w fun e w' => e = .returned (.int .i64 0) ∧ Below w.heap.size w w' := by
  go_enter Tryd.func40, Tryd.ntmps40
  go_wp2_with (go_at_call 43; refine (as_nil _ _).mono ?_; rintro e w' ⟨rfl, rfl⟩)
  go_ret
  exact ⟨rfl, (Below.refl _ _).alloc (Nat.le_refl _) _⟩
theorem told_short (n : Int) (a0 a1 a2 : Addr) (w : World) (h : GA a0 a1 a2 w) :
    Calls Tryd.prog 40 #[werr n a0] w fun e w' => e = .returned (.int .i64 10) ∧ Below w.heap.size w w' := by
  go_enter Tryd.func40, Tryd.ntmps40
  have hB0 : Below w.heap.size w (w.alloc (.cells #[.int .i64 0, .nilIface] 79)) := (Below.refl _ _).alloc (Nat.le_refl _) _
  have hG0 := h.below hB0
  go_wp2_with fail
  refine (as_hit n a0 w.heap.size _ _ hG0.et (World.alloc_heap_new w _) rfl).mono ?_
  rintro e w1 ⟨rfl, hb, hc⟩
  have hB1 := hB0.trans hb
  have hG1 := h.below hB1
  have c0 := cell_of_row w1 w.heap.size 0 _ _ _ hc
  have c1 := cell_of_row w1 w.heap.size 1 _ _ _ hc
  have gB := hG1.g0
  simp at c0 c1
  have hsz := hB1.size
  obtain ⟨ca, ta, hca⟩ := hG1.h0
  obtain ⟨cb, tb, hcb⟩ := hG1.h1
  obtain ⟨cc, tc, hcc⟩ := hG1.h2
  clear hc hG0 hB0 hb
  go_wp2_with fail
  refine (is_same n a0 _).mono ?_
  rintro e w2 ⟨rfl, hb2⟩
  go_wp2_with fail
  go_ret
  exact ⟨rfl, hB1.trans (hb2.mono hsz)⟩
theorem told_form (n : Int) (a0 a1 a2 : Addr) (w : World) (h : GA a0 a1 a2 w) :
    Calls Tryd.prog 40 #[werr n a1] w fun e w' => e = .returned (.int .i64 11) ∧ Below w.heap.size w w' := by
  go_enter Tryd.func40, Tryd.ntmps40
  have hB0 : Below w.heap.size w (w.alloc (.cells #[.int .i64 0, .nilIface] 79)) := (Below.refl _ _).alloc (Nat.le_refl _) _
  have hG0 := h.below hB0
  go_wp2_with fail
  refine (as_hit n a1 w.heap.size _ _ hG0.et (World.alloc_heap_new w _) rfl).mono ?_
  rintro e w1 ⟨rfl, hb, hc⟩
  have hB1 := hB0.trans hb
  have hG1 := h.below hB1
  have c0 := cell_of_row w1 w.heap.size 0 _ _ _ hc
  have c1 := cell_of_row w1 w.heap.size 1 _ _ _ hc
  have gB := hG1.g0
  simp at c0 c1
  have hsz := hB1.size
  obtain ⟨ca, ta, hca⟩ := hG1.h0
  obtain ⟨cb, tb, hcb⟩ := hG1.h1
  obtain ⟨cc, tc, hcc⟩ := hG1.h2
  clear hc hG0 hB0 hb
  go_wp2_with fail
  refine (is_other n a1 a0 cb ca tb ta _ (Ne.symm h.n01) hcb hca).mono ?_
  rintro e w2 ⟨rfl, hb2⟩
  have hB2 := hB1.trans (hb2.mono hsz)
  have hG2 := h.below hB2
  have gB2 := hG2.g1
  have hsz2 := hB2.size
  go_wp2_with fail
  refine (is_same n a1 _).mono ?_
  rintro e w3 ⟨rfl, hb3⟩
  go_wp2_with fail
  go_ret
  exact ⟨rfl, hB2.trans (hb3.mono hsz2)⟩
theorem told_size (n : Int) (a0 a1 a2 : Addr) (w : World) (h : GA a0 a1 a2 w) :
    Calls Tryd.prog 40 #[werr n a2] w fun e w' => e = .returned (.int .i64 12) ∧ Below w.heap.size w w' := by
  go_enter Tryd.func40, Tryd.ntmps40
  have hB0 : Below w.heap.size w (w.alloc (.cells #[.int .i64 0, .nilIface] 79)) := (Below.refl _ _).alloc (Nat.le_refl _) _
  have hG0 := h.below hB0
  go_wp2_with fail
  refine (as_hit n a2 w.heap.size _ _ hG0.et (World.alloc_heap_new w _) rfl).mono ?_
  rintro e w1 ⟨rfl, hb, hc⟩
  have hB1 := hB0.trans hb
  have hG1 := h.below hB1
  have c0 := cell_of_row w1 w.heap.size 0 _ _ _ hc
  have c1 := cell_of_row w1 w.heap.size 1 _ _ _ hc
  have gB := hG1.g0
  simp at c0 c1
  have hsz := hB1.size
  obtain ⟨ca, ta, hca⟩ := hG1.h0
  obtain ⟨cb, tb, hcb⟩ := hG1.h1
  obtain ⟨cc, tc, hcc⟩ := hG1.h2
  clear hc hG0 hB0 hb
  go_wp2_with fail
  refine (is_other n a2 a0 cc ca tc ta _ (Ne.symm h.n02) hcc hca).mono ?_
  rintro e w2 ⟨rfl, hb2⟩
  have hB2 := hB1.trans (hb2.mono hsz)
  have hG2 := h.below hB2
  have gB2 := hG2.g1
  have hsz2 := hB2.size
  go_wp2_with fail
  obtain ⟨cb', tb', hcb'⟩ := hG2.h1
  obtain ⟨cc', tc', hcc'⟩ := hG2.h2
  refine (is_other n a2 a1 cc' cb' tc' tb' _ (Ne.symm h.n12) hcc' hcb').mono ?_
  rintro e w3 ⟨rfl, hb3⟩
  go_wp2_with fail
  go_ret
  exact ⟨rfl, hB2.trans (hb3.mono hsz2)⟩
end Size
end Go.Proofs.YtmfnenlinhljkaaDoor
