/- What the package-level variables of one package hold. -/
import Derived.Test.YtbpcoieemkojjaaDoorKA
namespace Go.Proofs.YtbpcoieemkojjaaDoor
set_option linter.unusedSimpArgs false
set_option linter.unusedVariables false
namespace EscL
open Go.RowKit
structure GA (a0 a1 : Addr) (w : World) : Prop where
  et : w.cell? ⟨1, 0, none⟩ = some (.iface 101 (.agg #[.pointer (some ⟨7, 47, none⟩)]))
  g0 : w.cell? ⟨3, 0, none⟩ = some (.iface 131 (.pointer (some a0)))
  g1 : w.cell? ⟨0, 0, none⟩ = some (.iface 131 (.pointer (some a1)))
  n01 : a0 ≠ a1
  h0 : ∃ c t, w.heap[a0.block]? = some (.cells c t (0, 0))
  h1 : ∃ c t, w.heap[a1.block]? = some (.cells c t (0, 0))
theorem GA.below {a0 a1 : Addr} {w w' : World} (h : GA a0 a1 w) (hb : Below w.heap.size w w') : GA a0 a1 w' where
  et := (hb.cell (lt_of_cell h.et)).trans h.et
  g0 := (hb.cell (lt_of_cell h.g0)).trans h.g0
  g1 := (hb.cell (lt_of_cell h.g1)).trans h.g1
  n01 := h.n01
  h0 := by obtain ⟨c, t, hc⟩ := h.h0; exact ⟨c, t, (hb.block _ (Array.getElem?_eq_some_iff.1 hc).1).trans hc⟩
  h1 := by obtain ⟨c, t, hc⟩ := h.h1; exact ⟨c, t, (hb.block _ (Array.getElem?_eq_some_iff.1 hc).1).trans hc⟩
end EscL
end Go.Proofs.YtbpcoieemkojjaaDoor
