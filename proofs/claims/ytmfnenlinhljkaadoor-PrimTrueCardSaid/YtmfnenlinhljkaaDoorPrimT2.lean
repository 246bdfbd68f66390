import Derived.Test.YtmfnenlinhljkaaDoorPrimW
import Derived.Test.YtmfnenlinhljkaaDoorIter
namespace Go.Proofs.YtmfnenlinhljkaaDoor
set_option linter.unusedSimpArgs false
set_option linter.unusedVariables false
namespace Prim
open Go.RowKit Go.Shelf
attribute [local go_sem] Oper.semAt_some
set_option maxHeartbeats 1000000 in
theorem least_no (n : Int) (aN aB : Addr) (w : World) (h : GA aN aB w) (h1 : n < -2147483648 ∨ 2147483648 ≤ n) :
    Calls Tryd.prog 35 #[.int .i64 n] w fun e w' => e = .returned (.tuple #[.agg #[.int .i64 0, .int .i64 0], werr ByteArray.empty aN]) ∧ Below w.heap.size w w' := by
  have hg : ∀ W, Chg (fun _ => False) w W → W.cell? ⟨1, 0, none⟩ = some (.iface 111 (.pointer (some aN))) := fun W hc => hc.cell h.g0 (by simp)
  rcases h1 with h1 | h1
  all_goals
    go_enter Tryd.func35, Tryd.ntmps35
    go_wp2
    refine wp_loop_rounds 5 ?_
    rw [rounds_succ]
    go_wp2
    rw [rounds_succ]
    go_wp2
    rw [rounds_succ]
    go_wp2
    rw [rounds_succ]
    go_wp2
    rw [rounds_succ]
    go_wp2
    have g1 := hg _ (((((((((((Chg.refl (fun _ => False) w).alloc (.cells #[.int .i64 0, .int .i64 0] 46)).alloc (.cells #[.int .i64 1] 44)).alloc (.cells #[.int .i64 1] 44)).alloc (.cells #[.int .i64 2] 44)).alloc (.cells #[.int .i64 2] 44)).alloc (.cells #[.int .i64 3] 44)).alloc (.cells #[.int .i64 3] 44)).alloc (.cells #[.int .i64 4] 44)).alloc (.cells #[.int .i64 4] 44)))
    go_region
    all_goals go_wp2
    all_goals refine bodyPost_ret (v := .tuple #[.agg #[.int .i64 0, .int .i64 0], werr ByteArray.empty aN]) (by simp [results, Tryd.results35, go_sem]; rfl) rfl ⟨rfl, ?_⟩
    all_goals repeat (first | exact Below.refl _ _ | refine bl_alloc ?_ _ | refine Below.setCell ?_ (by simp; try omega) _ | refine Below.drew ?_)
theorem bytes_any (k n : Int) (w : World) : Calls Tryd.prog 37 #[.agg #[.int .i64 k, .int .i64 n]] w
    fun e w' => e = .returned (.func (.func 45) #[] #[.pointer (some ⟨w.heap.size, 0, none⟩)]) ∧ w' = w.alloc (.cells #[.int .i64 k, .int .i64 n] 46) := by
  go_enter Tryd.func37, Tryd.ntmps37
  go_wp2
  go_ret
  exact ⟨rfl, rfl⟩
set_option maxRecDepth 100000 in
set_option maxHeartbeats 1000000 in
theorem bytes_it (m : Nat) (hm : 1 ≤ m) (k : Nat) (hk : k ≤ 4) (n : Int) (B : Nat) :
    Iter Fence.wide m Tryd.prog 45 #[.pointer (some ⟨B, 0, none⟩)] (fun x : Int => #[.int .u8 x]) (fun j => j = B)
      ((List.range k).map fun j => (n / 2 ^ (8 * (k - 1 - j))) % 256) (fun W => W.heap[B]? = some (.cells #[.int .i64 k, .int .i64 n] 46 (0, 0))) := by
  intro l J Jx W hW hJ hJx hY h0
  refine callsIn_of_wp Tryd.func45 rfl trivial ?_ rfl
  simp only [Tryd.ntmps45, List.size_toArray, List.length_cons, List.length_nil, Nat.reduceAdd, Nat.reduceSub, Array.replicate_succ, Array.replicate_zero, List.push_toArray, List.append_toArray, List.nil_append, List.cons_append]
  have c0 := cell_of_row W B 0 _ _ _ hW
  have c1 := cell_of_row W B 1 _ _ _ hW
  simp at c0 c1
  refine wpIn_wide.2 (wp_scope_straight ((wpIn_wide (n := m)).1 (wpIn_seq (wpIn_label ?_))))
  gi_wp2
  gi_loopw [3] (fun i wr => ∃ j : Nat, j ≤ k ∧ i = .int .i64 ((k : Int) - 1 - j) ∧ J j wr ∧ wr.heap[B]? = some (.cells #[.int .i64 k, .int .i64 n] 46 (0, 0)))
    (fun i _ => (intOf i + 1).toNat)
  case atStart => exact ⟨0, Nat.zero_le _, by simp, h0, hW⟩
  case round =>
    obtain ⟨j, hj, rfl, hJj, hw⟩ := hrel
    have c0 := cell_of_row wr B 0 _ _ _ hw
    have c1 := cell_of_row wr B 1 _ _ _ hw
    simp at c0 c1
    by_cases hlt : j < k
    · obtain ⟨fn, tmps, assign, body, hy, hR⟩ := hY j (n / 2 ^ (8 * (k - 1 - j)) % 256) wr (by simp [hlt]) hJj
      gi_wp2
      refine hR.mono ?_
      rintro e W3 (⟨rfl, hJ3, hk3⟩ | ⟨rfl, hJx3⟩)
      · have hw3 := hk3.heap hw (fun h => h rfl)
        gi_wp2
        go_roundw
        case rel => exact ⟨j + 1, by omega, by congr 1; omega, hJ3, hw3⟩
        case measure => simp [intOf]; omega
      · gi_wp2
        rw [Exit.noGoto_normal]
        go_end0
        exact ⟨⟨_, rfl⟩, .inr ⟨j + 1, by simp; omega, hJx3⟩⟩
    · obtain rfl : j = k := by omega
      gi_wp2
      try rw [Exit.noGoto_normal]
      go_end0
      exact ⟨⟨_, rfl⟩, .inl (by simpa using hJj)⟩
end Prim
end Go.Proofs.YtmfnenlinhljkaaDoor
