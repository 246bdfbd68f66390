/- prim's functions, walked: told, least, the bytes' iterator, Int, read, ReadInt, ReadBool. -/
import Derived.Test.YtmfnenlinhljkaaDoorErrPrim
import Derived.Test.YtmfnenlinhljkaaDoorGAPrim
import Derived.RangeFuncNested
import Derived.RangeFuncBound
import Derived.RangeFuncCalls
import Derived.RangeFuncLeaves
import Derived.Shelf.Abstract
import Derived.Shelf.RegionOpen
import Derived.OwnWalkIn
import Derived.TacticsInMore
import Derived.LoopNIn
import Derived.LoopIn
import Derived.Maps.AppendAt
import Derived.RegionTactic
import Derived.LoopTactic
import Derived.Outline
namespace Go.Proofs.YtmfnenlinhljkaaDoor
set_option linter.unusedSimpArgs false
set_option linter.unusedVariables false
namespace Prim
open Go.RowKit Go.Shelf
attribute [local go_sem] Oper.semAt_some

theorem told_nil (w : World) : Calls Tryd.prog 36 #[.nilIface] w fun e w' => e = .returned (.int .i64 0) ∧ Below w.heap.size w w' := by
  go_enter Tryd.func36, Tryd.ntmps36
  go_wp2_with (go_at_call 43; refine (as_nil _ _).mono ?_; rintro e w' ⟨rfl, rfl⟩)
  go_ret
  exact ⟨rfl, (Below.refl _ _).alloc (Nat.le_refl _) _⟩

theorem told_number (s : ByteArray) (aN aB : Addr) (w : World) (h : GA aN aB w) :
    Calls Tryd.prog 36 #[werr s aN] w fun e w' => e = .returned (.int .i64 30) ∧ Below w.heap.size w w' := by
  go_enter Tryd.func36, Tryd.ntmps36
  have hB0 : Below w.heap.size w (w.alloc (.cells #[.string ByteArray.empty, .nilIface] 58)) := (Below.refl _ _).alloc (Nat.le_refl _) _
  have hG0 := h.below hB0
  go_wp2_with fail
  refine (as_hit s aN w.heap.size _ _ hG0.et (World.alloc_heap_new w _) rfl).mono ?_
  rintro e w1 ⟨rfl, hb, hc⟩
  have hB1 := hB0.trans hb
  have hG1 := h.below hB1
  have c0 := cell_of_row w1 w.heap.size 0 _ _ _ hc
  have c1 := cell_of_row w1 w.heap.size 1 _ _ _ hc
  have gB := hG1.g1
  obtain ⟨ca, ta, hca⟩ := hG1.h0
  obtain ⟨cb, tb, hcb⟩ := hG1.h1
  simp at c0 c1
  have hsz := hB1.size
  clear hc hG0 hB0 hb
  go_wp2_with fail
  refine (is_other s aN aB ca cb ta tb _ h.n01 hca hcb).mono ?_
  rintro e w2 ⟨rfl, hb2⟩
  go_wp2_with fail
  go_ret
  exact ⟨rfl, hB1.trans (hb2.mono hsz)⟩

theorem told_bool (s : ByteArray) (aN aB : Addr) (w : World) (h : GA aN aB w) :
    Calls Tryd.prog 36 #[werr s aB] w fun e w' => e = .returned (.int .i64 31) ∧ Below w.heap.size w w' := by
  go_enter Tryd.func36, Tryd.ntmps36
  have hB0 : Below w.heap.size w (w.alloc (.cells #[.string ByteArray.empty, .nilIface] 58)) := (Below.refl _ _).alloc (Nat.le_refl _) _
  have hG0 := h.below hB0
  go_wp2_with fail
  refine (as_hit s aB w.heap.size _ _ hG0.et (World.alloc_heap_new w _) rfl).mono ?_
  rintro e w1 ⟨rfl, hb, hc⟩
  have hB1 := hB0.trans hb
  have hG1 := h.below hB1
  have c0 := cell_of_row w1 w.heap.size 0 _ _ _ hc
  have c1 := cell_of_row w1 w.heap.size 1 _ _ _ hc
  have gB := hG1.g1
  simp at c0 c1
  have hsz := hB1.size
  clear hc hG0 hB0 hb
  go_wp2_with fail
  refine (is_same s aB _).mono ?_
  rintro e w2 ⟨rfl, hb2⟩
  go_wp2_with fail
  go_ret
  exact ⟨rfl, hB1.trans (hb2.mono hsz)⟩
end Prim
end Go.Proofs.YtmfnenlinhljkaaDoor
