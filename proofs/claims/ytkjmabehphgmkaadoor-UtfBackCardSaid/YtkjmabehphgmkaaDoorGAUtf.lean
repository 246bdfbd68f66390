/- What the package-level variables of one package hold. -/
import Derived.Test.YtkjmabehphgmkaaDoorBase
namespace Go.Proofs.YtkjmabehphgmkaaDoor
set_option linter.unusedSimpArgs false
set_option linter.unusedVariables false
namespace Utf
open Go.RowKit
structure GA (a0 : Addr) (w : World) : Prop where
  et : w.cell? ⟨1, 0, none⟩ = some (.iface 91 (.agg #[.pointer (some ⟨4, 39, none⟩)]))
  g0 : w.cell? ⟨0, 0, none⟩ = some (.iface 111 (.pointer (some a0)))
  h0 : ∃ c t, w.heap[a0.block]? = some (.cells c t (0, 0))
theorem GA.below {a0 : Addr} {w w' : World} (h : GA a0 w) (hb : Below w.heap.size w w') : GA a0 w' where
  et := (hb.cell (lt_of_cell h.et)).trans h.et
  g0 := (hb.cell (lt_of_cell h.g0)).trans h.g0
  h0 := by obtain ⟨c, t, hc⟩ := h.h0; exact ⟨c, t, (hb.block _ (Array.getElem?_eq_some_iff.1 hc).1).trans hc⟩
end Utf
end Go.Proofs.YtkjmabehphgmkaaDoor
