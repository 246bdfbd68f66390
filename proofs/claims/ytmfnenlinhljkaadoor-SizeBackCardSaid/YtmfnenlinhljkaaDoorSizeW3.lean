/- size's iterator. -/
import Derived.Test.YtmfnenlinhljkaaDoorSizeW2
import Derived.Test.YtmfnenlinhljkaaDoorIter
namespace Go.Proofs.YtmfnenlinhljkaaDoor
set_option linter.unusedSimpArgs false
set_option linter.unusedVariables false
namespace Size
open Go.RowKit Go.Shelf
attribute [local go_sem] Oper.semAt_some
theorem parts_any (n : Int) (w : World) : Calls Tryd.prog 48 #[.int .i64 n] w
    fun e w' => e = .returned (.func (.func 56) #[] #[.pointer (some ⟨w.heap.size, 0, none⟩)]) ∧ w' = w.alloc (.cells #[.int .i64 n] 3) := by
  go_enter Tryd.func48, Tryd.ntmps48
  go_wp2
  go_ret
  exact ⟨rfl, rfl⟩
set_option maxRecDepth 100000 in
set_option maxHeartbeats 1000000 in
theorem parts_it (m : Nat) (hm : 1 ≤ m) (k : Nat) (q : Nat → Int) (hq : ∀ j, q (j + 1) = q j / 256) (h0q : 0 ≤ q 0) (h1q : q 0 ≤ 4611686018427387904) (hpos : ∀ j, j < k → 0 < q j) (hend : q k = 0) (B : Nat) :
    Iter Fence.wide m Tryd.prog 56 #[.pointer (some ⟨B, 0, none⟩)] (fun x : Int => #[.int .u8 x]) (fun j => j = B)
      ((List.range k).map fun j => q j % 256) (fun W => W.heap[B]? = some (.cells #[.int .i64 (q 0)] 3 (0, 0))) := by
  have hqb : ∀ j, 0 ≤ q j ∧ q j ≤ 4611686018427387904 := by
    intro j
    induction j with
    | zero => exact ⟨h0q, h1q⟩
    | succ j ih => rw [hq]; omega
  intro l J Jx W hW hJ hJx hY h0
  refine callsIn_of_wp Tryd.func56 rfl trivial ?_ rfl
  simp only [Tryd.ntmps56, List.size_toArray, List.length_cons, List.length_nil, Nat.reduceAdd, Nat.reduceSub, Array.replicate_succ, Array.replicate_zero, List.push_toArray, List.append_toArray, List.nil_append, List.cons_append]
  refine wpIn_wide.2 (wp_scope_straight ((wpIn_wide (n := m)).1 (wpIn_seq (wpIn_label ?_))))
  try gi_wp2
  gi_loopw [3] (fun _ wr => ∃ j : Nat, j ≤ k ∧ J j wr ∧ wr.heap[B]? = some (.cells #[.int .i64 (q j)] 3 (0, 0)))
    (fun _ wr => (intOf ((wr.cell? ⟨B, 0, none⟩).getD .nilIface)).toNat)
  case atStart => exact ⟨0, Nat.zero_le _, h0, hW⟩
  case round =>
    obtain ⟨j, hj, hJj, hw⟩ := hrel
    have c0 := cell_of_row wr B 0 _ _ _ hw
    simp at c0
    by_cases hlt : j < k
    · obtain ⟨fn, tmps, assign, body, hy, hR⟩ := hY j (q j % 256) wr (by simp [hlt]) hJj
      have hp := hpos j hlt
      gi_wp2
      refine hR.mono ?_
      rintro e W3 (⟨rfl, hJ3, hk3⟩ | ⟨rfl, hJx3⟩)
      · have hw3 := hk3.heap hw (fun h => h rfl)
        have c3 := cell_of_row W3 B 0 _ _ _ hw3
        simp at c3
        have hb3 : Boxed W3 B 3 (.int .i64 (q j)) := hw3
        have fz := hb3.frozen
        have hw6 : wrap64 ((q j).tdiv 256) = q (j + 1) := by
          have := hqb j
          rw [hq, Int.tdiv_eq_ediv_of_nonneg (by omega)]; unfold wrap64; omega
        gi_wp2
        go_roundw
        case rel => exact ⟨j + 1, by omega, hJ _ _ _ hJ3 (Chg.setCell (S := fun j => j = B) (Chg.refl _ _) rfl _), by rw [hq]; exact hb3.set _⟩
        case measure =>
          rw [cell_of_row _ B 0 _ _ _ (hb3.set _)]
          rw [cell_of_row _ B 0 _ _ _ hw]
          simp [intOf, hw6, hq]
          omega
      · gi_wp2
        rw [Exit.noGoto_normal]
        go_end0
        exact ⟨⟨_, rfl⟩, .inr ⟨j + 1, by simp; omega, hJx3⟩⟩
    · obtain rfl : j = k := by omega
      gi_wp2
      try rw [Exit.noGoto_normal]
      go_end0
      exact ⟨⟨_, rfl⟩, .inl (by simpa using hJj)⟩
end Size
end Go.Proofs.YtmfnenlinhljkaaDoor
