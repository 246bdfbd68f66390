import Derived.Test.YtmfnenlinhljkaaDoorPrimW
namespace Go.Proofs.YtmfnenlinhljkaaDoor
set_option linter.unusedSimpArgs false
set_option linter.unusedVariables false
namespace Prim
open Go.RowKit Go.Shelf
set_option maxHeartbeats 1000000 in
theorem least1 (n : Int) (w : World) (h1 : -128 ≤ n) (h2 : n < 128) :
    Calls Tryd.prog 35 #[.int .i64 n] w fun e w' => e = .returned (.tuple #[.agg #[.int .i64 1, .int .i64 n], .nilIface]) ∧ Below w.heap.size w w' := by
  go_enter Tryd.func35, Tryd.ntmps35
  go_wp2
  refine wp_loop_rounds 1 ?_
  rw [rounds_succ]
  go_wp2
  refine bodyPost_ret (v := .tuple #[.agg #[.int .i64 1, .int .i64 n], .nilIface]) (by simp [results, Tryd.results35, go_sem]) rfl ⟨rfl, ?_⟩
  repeat (first | exact Below.refl _ _ | refine bl_alloc ?_ _ | refine Below.setCell ?_ (by simp; try omega) _)

set_option maxHeartbeats 1000000 in
theorem least2n (n : Int) (w : World) (h1 : -32768 ≤ n) (h2 : n < -128) :
    Calls Tryd.prog 35 #[.int .i64 n] w fun e w' => e = .returned (.tuple #[.agg #[.int .i64 2, .int .i64 n], .nilIface]) ∧ Below w.heap.size w w' := by
  go_enter Tryd.func35, Tryd.ntmps35
  go_wp2
  refine wp_loop_rounds 2 ?_
  rw [rounds_succ]
  go_wp2
  rw [rounds_succ]
  go_wp2
  refine bodyPost_ret (v := .tuple #[.agg #[.int .i64 2, .int .i64 n], .nilIface]) (by simp [results, Tryd.results35, go_sem]) rfl ⟨rfl, ?_⟩
  repeat (first | exact Below.refl _ _ | refine bl_alloc ?_ _ | refine Below.setCell ?_ (by simp; try omega) _)

set_option maxHeartbeats 1000000 in
theorem least2p (n : Int) (w : World) (h1 : 128 ≤ n) (h2 : n < 32768) :
    Calls Tryd.prog 35 #[.int .i64 n] w fun e w' => e = .returned (.tuple #[.agg #[.int .i64 2, .int .i64 n], .nilIface]) ∧ Below w.heap.size w w' := by
  go_enter Tryd.func35, Tryd.ntmps35
  go_wp2
  refine wp_loop_rounds 2 ?_
  rw [rounds_succ]
  go_wp2
  rw [rounds_succ]
  go_wp2
  refine bodyPost_ret (v := .tuple #[.agg #[.int .i64 2, .int .i64 n], .nilIface]) (by simp [results, Tryd.results35, go_sem]) rfl ⟨rfl, ?_⟩
  repeat (first | exact Below.refl _ _ | refine bl_alloc ?_ _ | refine Below.setCell ?_ (by simp; try omega) _)

set_option maxHeartbeats 1000000 in
theorem least3n (n : Int) (w : World) (h1 : -8388608 ≤ n) (h2 : n < -32768) :
    Calls Tryd.prog 35 #[.int .i64 n] w fun e w' => e = .returned (.tuple #[.agg #[.int .i64 3, .int .i64 n], .nilIface]) ∧ Below w.heap.size w w' := by
  go_enter Tryd.func35, Tryd.ntmps35
  go_wp2
  refine wp_loop_rounds 3 ?_
  rw [rounds_succ]
  go_wp2
  rw [rounds_succ]
  go_wp2
  rw [rounds_succ]
  go_wp2
  refine bodyPost_ret (v := .tuple #[.agg #[.int .i64 3, .int .i64 n], .nilIface]) (by simp [results, Tryd.results35, go_sem]) rfl ⟨rfl, ?_⟩
  repeat (first | exact Below.refl _ _ | refine bl_alloc ?_ _ | refine Below.setCell ?_ (by simp; try omega) _)

set_option maxHeartbeats 1000000 in
theorem least3p (n : Int) (w : World) (h1 : 32768 ≤ n) (h2 : n < 8388608) :
    Calls Tryd.prog 35 #[.int .i64 n] w fun e w' => e = .returned (.tuple #[.agg #[.int .i64 3, .int .i64 n], .nilIface]) ∧ Below w.heap.size w w' := by
  go_enter Tryd.func35, Tryd.ntmps35
  go_wp2
  refine wp_loop_rounds 3 ?_
  rw [rounds_succ]
  go_wp2
  rw [rounds_succ]
  go_wp2
  rw [rounds_succ]
  go_wp2
  refine bodyPost_ret (v := .tuple #[.agg #[.int .i64 3, .int .i64 n], .nilIface]) (by simp [results, Tryd.results35, go_sem]) rfl ⟨rfl, ?_⟩
  repeat (first | exact Below.refl _ _ | refine bl_alloc ?_ _ | refine Below.setCell ?_ (by simp; try omega) _)

set_option maxHeartbeats 1000000 in
theorem least4n (n : Int) (w : World) (h1 : -2147483648 ≤ n) (h2 : n < -8388608) :
    Calls Tryd.prog 35 #[.int .i64 n] w fun e w' => e = .returned (.tuple #[.agg #[.int .i64 4, .int .i64 n], .nilIface]) ∧ Below w.heap.size w w' := by
  go_enter Tryd.func35, Tryd.ntmps35
  go_wp2
  refine wp_loop_rounds 4 ?_
  rw [rounds_succ]
  go_wp2
  rw [rounds_succ]
  go_wp2
  rw [rounds_succ]
  go_wp2
  rw [rounds_succ]
  go_wp2
  refine bodyPost_ret (v := .tuple #[.agg #[.int .i64 4, .int .i64 n], .nilIface]) (by simp [results, Tryd.results35, go_sem]) rfl ⟨rfl, ?_⟩
  repeat (first | exact Below.refl _ _ | refine bl_alloc ?_ _ | refine Below.setCell ?_ (by simp; try omega) _)

set_option maxHeartbeats 1000000 in
theorem least4p (n : Int) (w : World) (h1 : 8388608 ≤ n) (h2 : n < 2147483648) :
    Calls Tryd.prog 35 #[.int .i64 n] w fun e w' => e = .returned (.tuple #[.agg #[.int .i64 4, .int .i64 n], .nilIface]) ∧ Below w.heap.size w w' := by
  go_enter Tryd.func35, Tryd.ntmps35
  go_wp2
  refine wp_loop_rounds 4 ?_
  rw [rounds_succ]
  go_wp2
  rw [rounds_succ]
  go_wp2
  rw [rounds_succ]
  go_wp2
  rw [rounds_succ]
  go_wp2
  refine bodyPost_ret (v := .tuple #[.agg #[.int .i64 4, .int .i64 n], .nilIface]) (by simp [results, Tryd.results35, go_sem]) rfl ⟨rfl, ?_⟩
  repeat (first | exact Below.refl _ _ | refine bl_alloc ?_ _ | refine Below.setCell ?_ (by simp; try omega) _)

end Prim
end Go.Proofs.YtmfnenlinhljkaaDoor
