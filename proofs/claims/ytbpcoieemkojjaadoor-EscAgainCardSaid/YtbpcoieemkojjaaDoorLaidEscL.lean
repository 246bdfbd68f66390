/- What the rows' list of package-level variables gives: what they hold (errors of errors.New's make, and utf8's two tables where they are listed). And a start that meets it. -/
import Derived.Test.YtbpcoieemkojjaaDoorRows
import Derived.Test.YtbpcoieemkojjaaDoorExtEsc
import Derived.Test.YtbpcoieemkojjaaDoorGAEscL
import Derived.ProofKit
import Derived.LaidMore
import Derived.OpenShut
import Derived.LaidHandle
import Derived.Stop.Joined
import Derived.Stop.LaidErr
import Derived.Lib.LaidU8
import Derived.Lay
import Derived.Lib.LaidIn
namespace Go.Proofs.YtbpcoieemkojjaaDoor
set_option linter.unusedSimpArgs false
set_option linter.unusedVariables false
namespace EscL
open Go.RowKit Go.ChangeShapes Go.WideShapes Go.ChangeAt
theorem star : "*" ++ "errors.errorString" = "*errors.errorString" := by decide
theorem rowES (u : TypeId) (h : Tryd.prog.typeName? 3 u = some "*errors.errorString") : u = 131 :=
  typeName_ptr_named (nm := "errors.errorString") (by rw [star]; kernel_rfl) (by kernel_rfl) (by decide) u (by rw [star]; exact h)
theorem cellsES : Tryd.prog.cellsOf 151 = 1 := by kernel_rfl
theorem cellsStr : Tryd.prog.cellsOf 9 = 1 := by kernel_rfl
theorem etN : Tryd.prog.globalNamed "errors.errorType" = some 1 := by kernel_rfl
theorem rtT : (Tryd.prog.cutTypes.find? (·.1 == "internal/reflectlite.rtype")).map (·.2) = some 101 := by kernel_rfl
theorem tsize : Tryd.prog.types.size = 162 := by kernel_rfl
theorem oneRow : ((List.range 162).filter fun t => Tryd.prog.rowNamed t [101, 114, 114, 111, 114]) = [47] := by kernel_rfl
theorem gn0 : Tryd.prog.globalNamed "latiner/code.errCode" = some 3 := by kernel_rfl
theorem gt0 : (Tryd.prog.globals[3]?).map (·.type) = some 47 := by kernel_rfl
theorem gn1 : Tryd.prog.globalNamed "latiner/esc.errEscape" = some 0 := by kernel_rfl
theorem gt1 : (Tryd.prog.globals[0]?).map (·.type) = some 47 := by kernel_rfl
def laid : List (String × DataW Unit) := [("unicode/utf8.acceptRanges", Rows.laid_unicode_utf8_acceptRanges), ("errors.errorType", Rows.laid_errors_errorType), ("latiner/code.errCode", Rows.laid_latiner_code_errCode), ("latiner/esc.errEscape", Rows.laid_latiner_esc_errEscape), ("unicode/utf8.first", Rows.laid_unicode_utf8_first)]
theorem u8x : U8Extra Tryd.prog Tryd.lays260_ren := { n3 := by kernel_rfl, n4 := by kernel_rfl, y3 := by kernel_rfl, y4 := by kernel_rfl, c5 := by kernel_rfl, c119 := by kernel_rfl, c138 := by kernel_rfl }
theorem d_first : (Rows.laid_unicode_utf8_first : DataW Unit) = Lib.firstData := by kernel_rfl
theorem d_accept : (Rows.laid_unicode_utf8_acceptRanges : DataW Unit) = Lib.acceptData := by kernel_rfl
set_option maxRecDepth 10000 in
theorem ga_of_laid0 {W : World} (h : laidMetH Tryd.prog laid W) : ∃ a0 a1, GA a0 a1 W := by
  have h' : laidMet Tryd.prog [("unicode/utf8.acceptRanges", Rows.laid_unicode_utf8_acceptRanges), ("latiner/code.errCode", Rows.laid_latiner_code_errCode), ("latiner/esc.errEscape", Rows.laid_latiner_esc_errEscape), ("unicode/utf8.first", Rows.laid_unicode_utf8_first)] W ∧ handlesMet Tryd.prog [("errors.errorType", Rows.laid_errors_errorType)] W := h
  obtain ⟨hl, hh⟩ := h'
  clear h
  have het : W.cell? ⟨1, 0, none⟩ = some (.iface 101 (.agg #[.pointer (some ⟨7, 47, none⟩)])) := by
    obtain ⟨name, u, ty, e1, e2, e3, e4, e5⟩ := hh _ (List.mem_singleton.2 rfl)
    have en : name = [101, 114, 114, 111, 114] := (Option.some.inj e1).symm
    subst en
    obtain rfl := Option.some.inj (rtT.symm.trans e2)
    have hm : ty ∈ (List.range 162).filter fun t => Tryd.prog.rowNamed t [101, 114, 114, 111, 114] := List.mem_filter.2 ⟨List.mem_range.2 (by rw [← tsize]; exact e3), e4⟩
    rw [oneRow] at hm
    obtain rfl := List.mem_singleton.1 hm
    have hh : typeHandle Tryd.prog 47 = .pointer (some ⟨7, 47, none⟩) := by kernel_rfl
    rw [hh] at e5
    simpa using World.var?_cell etN e5 0
  obtain ⟨ps, ⟨g0', t0', cs0, f0, p0, q0, hg0', ht0', hv0, hd0, ⟨g1', t1', cs1, f1, p1, q1, hg1', ht1', hv1, hd1, ⟨g2', t2', cs2, f2, p2, q2, hg2', ht2', hv2, hd2, ⟨g3', t3', cs3, f3, p3, q3, hg3', ht3', hv3, hd3, _, e3⟩, e2⟩, e1⟩, e0⟩, hnd, hrows⟩ := hl
  obtain rfl := Option.some.inj (gn0.symm.trans hg1')
  obtain rfl := Option.some.inj (gt0.symm.trans ht1')
  obtain rfl := Option.some.inj (gn1.symm.trans hg2')
  obtain rfl := Option.some.inj (gt1.symm.trans ht2')
  subst e3
  subst e2
  subst e1
  subst e0
  obtain ⟨l0⟩ := cs1
  obtain ⟨l1⟩ := cs2
  have ok0 : ∀ u v, l0 = [.iface u v] → Value.okWide Tryd.prog W .any 0 u v := fun u v e => by
    subst e
    exact (hrows 3 0 (by simp [MemPlace.row])).2 u v (by simpa using World.var?_cell hg1' hv1 0)
  have ok1 : ∀ u v, l1 = [.iface u v] → Value.okWide Tryd.prog W .any 0 u v := fun u v e => by
    subst e
    exact (hrows 0 0 (by simp [MemPlace.row])).2 u v (by simpa using World.var?_cell hg2' hv2 0)
  obtain ⟨a0, s0, rfl, hc0, hs0, hz0, rfl⟩ := errorString_of_trod Tryd.underlying47 rowES Tryd.underlying131 Tryd.underlying151 rfl rfl Tryd.underlying9 cellsES cellsStr hd1 ok0
  obtain ⟨a1, s1, rfl, hc1, hs1, hz1, rfl⟩ := errorString_of_trod Tryd.underlying47 rowES Tryd.underlying131 Tryd.underlying151 rfl rfl Tryd.underlying9 cellsES cellsStr hd2 ok1
  obtain ⟨c0, t0, hb0⟩ := (hrows a0.block a0.off (by simp [MemPlace.row])).1
  obtain ⟨c1, t1, hb1⟩ := (hrows a1.block a1.off (by simp [MemPlace.row])).1
  refine ⟨a0, a1, het, (by simpa using World.var?_cell gn0 hv1 0), (by simpa using World.var?_cell gn1 hv2 0), ?_, ⟨c0, t0, hb0⟩, ⟨c1, t1, hb1⟩⟩
  all_goals (rintro rfl; simp [MemPlace.row, List.nodup_append] at hnd)
theorem tabs_of_laid {W : World} (h : laidMetH Tryd.prog laid W) : Lib.Utf8Tabs 4 5 W := by
  have h' : laidMet Tryd.prog [("unicode/utf8.acceptRanges", Rows.laid_unicode_utf8_acceptRanges), ("latiner/code.errCode", Rows.laid_latiner_code_errCode), ("latiner/esc.errEscape", Rows.laid_latiner_esc_errEscape), ("unicode/utf8.first", Rows.laid_unicode_utf8_first)] W ∧ handlesMet Tryd.prog [("errors.errorType", Rows.laid_errors_errorType)] W := h
  have r3 := Lib.laidMet.reads h'.1 (n := "unicode/utf8.first") (d := Rows.laid_unicode_utf8_first) (by simp)
  have r4 := Lib.laidMet.reads h'.1 (n := "unicode/utf8.acceptRanges") (d := Rows.laid_unicode_utf8_acceptRanges) (by simp)
  rw [d_first] at r3
  rw [d_accept] at r4
  exact utf8Tabs_of_reads Tryd.lays260 u8x r3 r4
theorem ga_of_laid {W : World} (h : laidMetH Tryd.prog laid W) : ExtEsc.GW W := by
  obtain ⟨a0, a1, h0⟩ := ga_of_laid0 h
  exact ⟨⟨a0, ⟨h0.et, h0.g0, h0.h0⟩⟩, ⟨a1, ⟨h0.et, h0.g1, h0.h1⟩⟩, tabs_of_laid h⟩
/-- A start: the door's own heap, and the pinned table in its place. -/
noncomputable def rowStart (os : Os) : World := (World.doorLaid Tryd.prog 400 os).layVars Tryd.prog [("unicode/utf8.first", Rows.laid_unicode_utf8_first)]
noncomputable def doorBl (os : Os) : List Nat := ((DataW.laidRun Tryd.prog (rowStart os) 8 ["unicode/utf8.acceptRanges", "latiner/code.errCode", "latiner/esc.errEscape"]).map fun x => x.2.map (·.block)).getD []
theorem rowStart_os (os : Os) : (rowStart os).os = os := (World.layVars_os _ _ _).trans rfl
theorem rowStart_shaped (os : Os) (args : Array Value) : ((rowStart os).forCall (fun _ _ => 0) ⟨#[], args, []⟩).Shaped Tryd.prog := World.shaped_of_ZipB (by kernel_rfl) (by kernel_rfl)
theorem plain_met (os : Os) : laidMet Tryd.prog (laid.filter fun x => x.2.handleName?.isNone) (rowStart os) :=
  laidMet_layVars (w0 := World.doorLaid Tryd.prog 400 os) ["unicode/utf8.first"] (doorBl os) (by unfold rowStart; kernel_rfl) (by kernel_rfl) (by kernel_rfl) (LaidIn.of_run (doorBl os) 8 (by kernel_rfl) (by kernel_rfl) (by kernel_rfl) (by kernel_rfl))
/-- The start meets the list. -/
theorem door_met (os : Os) (args : Array Value) : laidMetH Tryd.prog laid ((rowStart os).forCall (fun _ _ => 0) ⟨#[], args, []⟩).memory :=
  laidMetH_of_parts3 (fuel := 8) ((plain_met os).of_heap (by simp [World.memory, World.forCall, Input.heap])) (by kernel_rfl) (by kernel_rfl)
theorem own : ownKnob Tryd.prog.godebug = none := by kernel_rfl
end EscL
end Go.Proofs.YtbpcoieemkojjaaDoor
