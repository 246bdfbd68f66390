/- What the package-level variables of one package hold. -/
import Derived.Test.YtmfnenlinhljkaaDoorBase
namespace Go.Proofs.YtmfnenlinhljkaaDoor
set_option linter.unusedSimpArgs false
set_option linter.unusedVariables false
namespace Size
open Go.RowKit
structure GA (a0 a1 a2 : Addr) (w : World) : Prop where
  et : w.cell? ⟨5, 0, none⟩ = some (.iface 97 (.agg #[.pointer (some ⟨6, 48, none⟩)]))
  g0 : w.cell? ⟨3, 0, none⟩ = some (.iface 111 (.pointer (some a0)))
  g1 : w.cell? ⟨4, 0, none⟩ = some (.iface 111 (.pointer (some a1)))
  g2 : w.cell? ⟨2, 0, none⟩ = some (.iface 111 (.pointer (some a2)))
  n01 : a0 ≠ a1
  n02 : a0 ≠ a2
  n12 : a1 ≠ a2
  h0 : ∃ c t, w.heap[a0.block]? = some (.cells c t (0, 0))
  h1 : ∃ c t, w.heap[a1.block]? = some (.cells c t (0, 0))
  h2 : ∃ c t, w.heap[a2.block]? = some (.cells c t (0, 0))
theorem GA.below {a0 a1 a2 : Addr} {w w' : World} (h : GA a0 a1 a2 w) (hb : Below w.heap.size w w') : GA a0 a1 a2 w' where
  et := (hb.cell (lt_of_cell h.et)).trans h.et
  g0 := (hb.cell (lt_of_cell h.g0)).trans h.g0
  g1 := (hb.cell (lt_of_cell h.g1)).trans h.g1
  g2 := (hb.cell (lt_of_cell h.g2)).trans h.g2
  n01 := h.n01
  n02 := h.n02
  n12 := h.n12
  h0 := by obtain ⟨c, t, hc⟩ := h.h0; exact ⟨c, t, (hb.block _ (Array.getElem?_eq_some_iff.1 hc).1).trans hc⟩
  h1 := by obtain ⟨c, t, hc⟩ := h.h1; exact ⟨c, t, (hb.block _ (Array.getElem?_eq_some_iff.1 hc).1).trans hc⟩
  h2 := by obtain ⟨c, t, hc⟩ := h.h2; exact ⟨c, t, (hb.block _ (Array.getElem?_eq_some_iff.1 hc).1).trans hc⟩
end Size
end Go.Proofs.YtmfnenlinhljkaaDoor
