/- size's closure that lays a byte ahead. -/
import Derived.Test.YtmfnenlinhljkaaDoorSizeW3
namespace Go.Proofs.YtmfnenlinhljkaaDoor
set_option linter.unusedSimpArgs false
set_option linter.unusedVariables false
namespace Size
open Go.RowKit Go.Shelf Go.Proofs.YtmfnenlinhljkaaDoorW.PrintWords
attribute [local go_sem] Oper.semAt_some
theorem info_u8 : (Tryd.prog.info? 5).map (fun i => (i.zero, i.size, i.bytes)) = some (some (.int .u8 0), 1, 1) := by kernel_rfl
theorem box_grown {W w1 : World} {B : Nat} {t : TypeId} {v : Value} (h : Boxed W B t v) (o : Obj) (hg : (W.alloc o).grownBy w1 (some W.heap.size)) : Boxed w1 B t v :=
  (h.alloc o).kept hg (by have := h.lt; simp; omega)
theorem lay_c (b : Int) (B base : Nat) (v : Value) (xs : List Int) (w : World) (hB : B < base) (hbase : base ≤ w.heap.size) (bx : Boxed w B 42 v)
    (ho : w.ownsRow base 5 1 v xs.length (nums .u8 xs)) (hl : xs.length ≤ 10) :
    Calls Tryd.prog 47 #[.int .u8 b, .pointer (some ⟨B, 0, none⟩)] w fun e w' => (∃ r, e = .returned r) ∧
      ∃ v', Boxed w' B 42 v' ∧ w'.ownsRow base 5 1 v' (b :: xs).length (nums .u8 (b :: xs)) ∧ Chg (fun z => z = B) w w' := by
  go_enter Tryd.func47, Tryd.ntmps47
  obtain ⟨A, c, rfl, hrd⟩ := own_reads ho
  have hle := own_le ho
  have hc := bx.cell
  have hlt := lt_of_cell hc
  have hnew : (w.alloc (.cells #[.int .u8 b] 5)).ownsRow base 5 1 (.slice (some ⟨w.heap.size, 0, none⟩) 1 1) [b].length (nums .u8 [b]) := by
    simpa [nums] using own_lit w base 5 .u8 [b] hbase (by simp)
  have HN := Lib.hid hnew
  have HR := Lib.hid (hrd.allocS (.cells #[.int .u8 b] 5))
  obtain ⟨m, hm⟩ : ∃ m, xs.length = m := ⟨_, rfl⟩
  rw [hm] at bx
  have HX := Lib.hid bx
  rw [hm] at hc hle hl
  clear hnew hrd bx ho
  go_wp2_with (at_builtin; refine print_append_row (w0 := w.alloc (.cells #[.int .u8 b] 5)) base rfl _ _ 42 5 .u8 1 rfl Tryd.underlying42 info_u8 (by decide) _ [b] xs A _ _ rfl (by first | rfl | (rw [hm]; rfl)) HN.out HR.out (Below.refl _ _) (by simp; omega) (by simp [hm]; omega) ?_; intro v1 w1 hown1 hb1 hg1 hat1; rw [show ([b] ++ xs).length = m + 1 by simp [hm]] at hown1; obtain ⟨g', cap', rfl⟩ := ownsRow_succ hown1; have HO := Lib.hid hown1; have HG := Lib.hid hg1; clear hown1 hb1 hat1; have bx1 := box_grown HX.out _ hg1; have hc1 := bx1.cell; have hf1 := bx1.frozen; have HX1 := Lib.hid bx1; clear bx1 hg1)
  go_end0
  exact ⟨⟨_, rfl⟩, _, HX1.out.set _, HO.out.kept (grownBy_setCell' w1 B _) (.inr (HX1.out.not_row (by decide) HO.out).symm),
    Chg.setCell (S := fun z => z = B) (Chg.grown ((Chg.refl _ w).alloc _) HG.out fun r er => .inr (by have : w.heap.size = r := by simpa [Act.eval, Value.ownBlock] using er
                                                                                                      omega)) rfl _⟩
end Size
end Go.Proofs.YtmfnenlinhljkaaDoor
