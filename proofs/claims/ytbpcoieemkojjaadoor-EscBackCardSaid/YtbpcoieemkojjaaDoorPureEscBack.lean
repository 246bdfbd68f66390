import Derived.Test.YtbpcoieemkojjaaDoorLEscx7
import Derived.Test.YtbpcoieemkojjaaDoorPureEscBase
namespace Go.Proofs.YtbpcoieemkojjaaDoor.Pure
set_option linter.unusedSimpArgs false
set_option linter.unusedVariables false
open Go.RowKit Go.Proofs.YtbpcoieemkojjaaDoor.LEsc Go.Proofs.YtbpcoieemkojjaaDoor.ExtEsc Go.Proofs.YtbpcoieemkojjaaDoor.Esc Go.Proofs.YtbpcoieemkojjaaDoorW.PrintWords Go.Proofs.YtbpcoieemkojjaaDoorW.PrintLast Go.Proofs.YtbpcoieemkojjaaDoor.PureB
open Go.Proofs.YtbpcoieemkojjaaDoor.Code (bl bl_len bl_get bl_byte Byt bl_son son_bl hexL hex_byte bl_append)
theorem plain_l0 (s : ByteArray) (hs : s.size ≤ 1000) (h : Pla (bl s)) (d : Nat) : ∀ (k j : Nat), s.size = j + d → d < k → latinerlaw06_plain.l0 k s (j : Int) = some true := by
  induction d with
  | zero =>
    intro k j hj hk
    obtain ⟨k, rfl⟩ : ∃ m, k = m + 1 := ⟨k - 1, by omega⟩
    conv => lhs; rw [latinerlaw06_plain.l0]
    rw [if_neg (by omega)]
  | succ d ih =>
    intro k j hj hk
    obtain ⟨k, rfl⟩ : ∃ m, k = m + 1 := ⟨k - 1, by omega⟩
    have hb := h _ (List.mem_of_getElem? (bl_get s j (by omega)))
    conv => lhs; rw [latinerlaw06_plain.l0]
    rw [if_pos (by omega), if_pos (by omega), if_neg (by omega), if_neg (by omega), w64 (by omega) (by omega)]
    exact ih k (j + 1) (by omega) (by omega)
theorem plain_f (s : ByteArray) (hs : s.size ≤ 1000) (h : Pla (bl s)) (k : Nat) (hk : s.size < k) : latinerlaw06_plain.f k s = some true := plain_l0 s hs h s.size k 0 (by omega) hk
theorem EscBack : latinerlaw06_EscBack.Pure := by
  intro a0 _
  obtain ⟨s, hc, hsz⟩ := cut_100 a0
  have h1 := fS_size s
  have h2 := nS_size s
  refine ⟨400, ?_⟩
  unfold latinerlaw06_EscBack.f
  rw [shown_true, Option.bind_some, hc, Option.bind_some, filter_f s (by omega), Option.bind_some, name_f s (by omega), Option.bind_some, rf_f _ (by omega), Option.bind_some, rn_f _ (by omega), Option.bind_some, if_pos rfl]
  rw [read_fS, read_nS]
  simp only [rdS_bl, rdN_some, if_true]
  rw [plain_f _ (by omega) (fS_pla s) _ (by omega), Option.bind_some, if_pos rfl, plain_f _ (by omega) (nS_pla s) _ (by omega), Option.bind_some, if_pos rfl, if_pos (by omega), decide_eq_true (by omega)]
end Go.Proofs.YtbpcoieemkojjaaDoor.Pure
