/- What the rows' list of package-level variables gives: what they hold. And a start that meets it. -/
import Derived.Test.YtmfnenlinhljkaaDoorRows
import Derived.Test.YtmfnenlinhljkaaDoorGASize
import Derived.ProofKit
import Derived.LaidMore
import Derived.OpenShut
import Derived.LaidHandle
import Derived.Stop.Joined
import Derived.Stop.LaidErr
namespace Go.Proofs.YtmfnenlinhljkaaDoor
set_option linter.unusedSimpArgs false
set_option linter.unusedVariables false
namespace Size
open Go.RowKit Go.ChangeShapes Go.WideShapes Go.ChangeAt
theorem star : "*" ++ "errors.errorString" = "*errors.errorString" := by decide
theorem rowES (u : TypeId) (h : Tryd.prog.typeName? 3 u = some "*errors.errorString") : u = 111 :=
  typeName_ptr_named (nm := "errors.errorString") (by rw [star]; kernel_rfl) (by kernel_rfl) (by decide) u (by rw [star]; exact h)
theorem cellsES : Tryd.prog.cellsOf 133 = 1 := by kernel_rfl
theorem cellsStr : Tryd.prog.cellsOf 9 = 1 := by kernel_rfl
theorem etN : Tryd.prog.globalNamed "errors.errorType" = some 5 := by kernel_rfl
theorem rtT : (Tryd.prog.cutTypes.find? (·.1 == "internal/reflectlite.rtype")).map (·.2) = some 97 := by kernel_rfl
theorem tsize : Tryd.prog.types.size = 145 := by kernel_rfl
theorem oneRow : ((List.range 145).filter fun t => Tryd.prog.rowNamed t [101, 114, 114, 111, 114]) = [48] := by kernel_rfl
theorem gn0 : Tryd.prog.globalNamed "latiner/size.errShort" = some 3 := by kernel_rfl
theorem gt0 : (Tryd.prog.globals[3]?).map (·.type) = some 48 := by kernel_rfl
theorem gn1 : Tryd.prog.globalNamed "latiner/size.errForm" = some 4 := by kernel_rfl
theorem gt1 : (Tryd.prog.globals[4]?).map (·.type) = some 48 := by kernel_rfl
theorem gn2 : Tryd.prog.globalNamed "latiner/size.errSize" = some 2 := by kernel_rfl
theorem gt2 : (Tryd.prog.globals[2]?).map (·.type) = some 48 := by kernel_rfl
def laid : List (String × DataW Unit) := [("errors.errorType", Rows.laid_errors_errorType), ("latiner/size.errShort", Rows.laid_latiner_size_errShort), ("latiner/size.errForm", Rows.laid_latiner_size_errForm), ("latiner/size.errSize", Rows.laid_latiner_size_errSize)]
set_option maxRecDepth 10000 in
theorem ga_of_laid {W : World} (h : laidMetH Tryd.prog laid W) : ∃ a0 a1 a2, GA a0 a1 a2 W := by
  have h' : laidMet Tryd.prog [("latiner/size.errShort", Rows.laid_latiner_size_errShort), ("latiner/size.errForm", Rows.laid_latiner_size_errForm), ("latiner/size.errSize", Rows.laid_latiner_size_errSize)] W ∧ handlesMet Tryd.prog [("errors.errorType", Rows.laid_errors_errorType)] W := h
  obtain ⟨hl, hh⟩ := h'
  clear h
  have het : W.cell? ⟨5, 0, none⟩ = some (.iface 97 (.agg #[.pointer (some ⟨6, 48, none⟩)])) := by
    obtain ⟨name, u, ty, e1, e2, e3, e4, e5⟩ := hh _ (List.mem_singleton.2 rfl)
    have en : name = [101, 114, 114, 111, 114] := (Option.some.inj e1).symm
    subst en
    obtain rfl := Option.some.inj (rtT.symm.trans e2)
    have hm : ty ∈ (List.range 145).filter fun t => Tryd.prog.rowNamed t [101, 114, 114, 111, 114] := List.mem_filter.2 ⟨List.mem_range.2 (by rw [← tsize]; exact e3), e4⟩
    rw [oneRow] at hm
    obtain rfl := List.mem_singleton.1 hm
    have hh : typeHandle Tryd.prog 48 = .pointer (some ⟨6, 48, none⟩) := by kernel_rfl
    rw [hh] at e5
    simpa using World.var?_cell etN e5 0
  obtain ⟨ps, ⟨g0', t0', cs0, f0, p0, q0, hg0', ht0', hv0, hd0, ⟨g1', t1', cs1, f1, p1, q1, hg1', ht1', hv1, hd1, ⟨g2', t2', cs2, f2, p2, q2, hg2', ht2', hv2, hd2, _, e2⟩, e1⟩, e0⟩, hnd, hrows⟩ := hl
  obtain rfl := Option.some.inj (gn0.symm.trans hg0')
  obtain rfl := Option.some.inj (gt0.symm.trans ht0')
  obtain rfl := Option.some.inj (gn1.symm.trans hg1')
  obtain rfl := Option.some.inj (gt1.symm.trans ht1')
  obtain rfl := Option.some.inj (gn2.symm.trans hg2')
  obtain rfl := Option.some.inj (gt2.symm.trans ht2')
  subst e2
  subst e1
  subst e0
  obtain ⟨l0⟩ := cs0
  obtain ⟨l1⟩ := cs1
  obtain ⟨l2⟩ := cs2
  have ok0 : ∀ u v, l0 = [.iface u v] → Value.okWide Tryd.prog W .any 0 u v := fun u v e => by
    subst e
    exact (hrows 3 0 (by simp [MemPlace.row])).2 u v (by simpa using World.var?_cell hg0' hv0 0)
  have ok1 : ∀ u v, l1 = [.iface u v] → Value.okWide Tryd.prog W .any 0 u v := fun u v e => by
    subst e
    exact (hrows 4 0 (by simp [MemPlace.row])).2 u v (by simpa using World.var?_cell hg1' hv1 0)
  have ok2 : ∀ u v, l2 = [.iface u v] → Value.okWide Tryd.prog W .any 0 u v := fun u v e => by
    subst e
    exact (hrows 2 0 (by simp [MemPlace.row])).2 u v (by simpa using World.var?_cell hg2' hv2 0)
  obtain ⟨a0, s0, rfl, hc0, hs0, hz0, rfl⟩ := errorString_of_trod Tryd.underlying48 rowES Tryd.underlying111 Tryd.underlying133 rfl rfl Tryd.underlying9 cellsES cellsStr hd0 ok0
  obtain ⟨a1, s1, rfl, hc1, hs1, hz1, rfl⟩ := errorString_of_trod Tryd.underlying48 rowES Tryd.underlying111 Tryd.underlying133 rfl rfl Tryd.underlying9 cellsES cellsStr hd1 ok1
  obtain ⟨a2, s2, rfl, hc2, hs2, hz2, rfl⟩ := errorString_of_trod Tryd.underlying48 rowES Tryd.underlying111 Tryd.underlying133 rfl rfl Tryd.underlying9 cellsES cellsStr hd2 ok2
  obtain ⟨c0, t0, hb0⟩ := (hrows a0.block a0.off (by simp [MemPlace.row])).1
  obtain ⟨c1, t1, hb1⟩ := (hrows a1.block a1.off (by simp [MemPlace.row])).1
  obtain ⟨c2, t2, hb2⟩ := (hrows a2.block a2.off (by simp [MemPlace.row])).1
  refine ⟨a0, a1, a2, het, (by simpa using World.var?_cell gn0 hv0 0), (by simpa using World.var?_cell gn1 hv1 0), (by simpa using World.var?_cell gn2 hv2 0), ?_, ?_, ?_, ⟨c0, t0, hb0⟩, ⟨c1, t1, hb1⟩, ⟨c2, t2, hb2⟩⟩
  all_goals (rintro rfl; simp [MemPlace.row] at hnd)
/-- The door's own heap meets the list. -/
theorem door_met (os : Os) (args : Array Value) : laidMetH Tryd.prog laid ((World.doorLaid Tryd.prog 400 os).forCall (fun _ _ => 0) ⟨#[], args, []⟩).memory :=
  laidMetH_of_parts3 (fuel := 8) (laidMet_of_run' 8 (by kernel_rfl) (by kernel_rfl)) (by kernel_rfl) (by kernel_rfl)
theorem own : ownKnob Tryd.prog.godebug = none := by kernel_rfl
end Size
end Go.Proofs.YtmfnenlinhljkaaDoor
