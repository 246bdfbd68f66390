import Derived.Test.YtbpcoieemkojjaaDoorLEscx8
import Derived.Test.YtbpcoieemkojjaaDoorPureEscBase
namespace Go.Proofs.YtbpcoieemkojjaaDoor.Pure
set_option linter.unusedSimpArgs false
set_option linter.unusedVariables false
open Go.RowKit Go.Proofs.YtbpcoieemkojjaaDoor.LEsc Go.Proofs.YtbpcoieemkojjaaDoor.ExtEsc Go.Proofs.YtbpcoieemkojjaaDoor.Esc Go.Proofs.YtbpcoieemkojjaaDoorW.PrintWords Go.Proofs.YtbpcoieemkojjaaDoorW.PrintLast Go.Proofs.YtbpcoieemkojjaaDoor.PureB
open Go.Proofs.YtbpcoieemkojjaaDoor.Code (bl bl_len bl_get bl_byte Byt bl_son son_bl hexL hex_byte bl_append)
theorem prL_same (f : Nat → Int → Bool × Bool) : ∀ (l : List Int) (i : Nat), (∀ x ∈ l, ∀ j, f j x = (false, false)) → prL f i l = l
  | [], _, _ => rfl
  | b :: r, i, h => by
    simp only [prL]
    rw [h b (by simp) i, prL_same f r (i + 1) (fun x hx => h x (by simp [hx]))]
    rfl
theorem letters_f (s : ByteArray) (h : ∀ x ∈ bl s, 97 ≤ x ∧ x ≤ 122) : fS s = s := by
  unfold fS fltL
  rw [prL_same ruF _ _ (fun x hx j => by
    have := h x hx
    have h1 : pl x = true := decide_eq_true (by omega)
    have h2 : inF x = false := decide_eq_false (by omega)
    simp [ruF, h1, h2])]
  exact son_bl s
theorem letters_n (s : ByteArray) (h : ∀ x ∈ bl s, 97 ≤ x ∧ x ≤ 122) : nS s = s := by
  unfold nS namL
  rw [prL_same _ _ _ (fun x hx j => by
    have := h x hx
    have h1 : pl x = true := decide_eq_true (by omega)
    have h2 : inN x = false := decide_eq_false (by omega)
    have h3 : inS x = false := decide_eq_false (by omega)
    have h4 : ¬ x = 32 := by omega
    simp [ruN, h1, h2, h3, h4])]
  exact son_bl s
theorem tl_ne (s : ByteArray) (h : 0 < s.size) : ¬ s.toList = ([] : List UInt8) := fun e => by rw [toList_nil] at e; omega
theorem plain_j (s : ByteArray) (h0 : 0 < s.size) (hsz : s.size ≤ 100) (i : Int) (k : Nat) : latinerlaw06_EscPlain.j1 (k + 1) s true i true = some true := by
  have h1 := fS_size s
  have h2 := nS_size s
  conv => lhs; rw [latinerlaw06_EscPlain.j1]
  rw [if_pos rfl, if_pos rfl, filter_f s (by omega), Option.bind_some, if_neg (tl_ne _ (by omega)), name_f s (by omega), Option.bind_some]
  simp only [Option.some.injEq, bne_iff_ne, ne_eq]
  exact tl_ne _ (by omega)
theorem plain_go (s : ByteArray) (hsz : s.size ≤ 100) (d : Nat) : ∀ (k j : Nat), s.size = j + d → 2 * d + 2 < k → (∀ x ∈ (bl s).take j, 97 ≤ x ∧ x ≤ 122) → latinerlaw06_EscPlain.l0 k s true (j : Int) = some true := by
  induction d with
  | zero =>
    intro k j hj hk h
    obtain ⟨k, rfl⟩ : ∃ m, k = m + 1 := ⟨k - 1, by omega⟩
    rw [List.take_of_length_le (by rw [bl_len]; omega)] at h
    have e1 := letters_f s h
    have e2 := letters_n s h
    have e3 := read_fS s
    have e4 := read_nS s
    rw [e1] at e3
    rw [e2] at e4
    conv => lhs; rw [latinerlaw06_EscPlain.l0]
    rw [if_neg (by omega), rf_f s (by omega), Option.bind_some, rn_f s (by omega), Option.bind_some, if_pos rfl, filter_f s (by omega), Option.bind_some, e1, if_pos rfl, name_f s (by omega), Option.bind_some, e2, if_pos rfl, e3, e4, rdS_bl]
    simp [rdN_some]
  | succ d ih =>
    intro k j hj hk h
    obtain ⟨k, rfl⟩ : ∃ m, k = m + 2 := ⟨k - 2, by omega⟩
    have hg := bl_get s j (by omega)
    conv => lhs; rw [latinerlaw06_EscPlain.l0]
    rw [if_pos (by omega), if_pos (by omega)]
    by_cases q1 : bt s (j : Int) ≥ 97
    · rw [if_pos q1]
      by_cases q2 : bt s (j : Int) ≤ 122
      · rw [decide_eq_true q2]
        conv => lhs; rw [latinerlaw06_EscPlain.j1]
        rw [if_neg (by decide), w64 (by omega) (by omega)]
        refine ih k (j + 1) (by omega) (by omega) (fun x hx => ?_)
        rw [List.take_add_one, hg] at hx
        rcases List.mem_append.1 hx with q | q
        · exact h x q
        · simp at q; omega
      · rw [decide_eq_false q2]
        exact plain_j s (by omega) hsz _ k
    · rw [if_neg q1]
      exact plain_j s (by omega) hsz _ k
theorem EscPlain : latinerlaw06_EscPlain.Pure := by
  intro a0 _
  obtain ⟨s, hc, hsz⟩ := cut_100 a0
  refine ⟨400, ?_⟩
  unfold latinerlaw06_EscPlain.f
  rw [shown_true, Option.bind_some, hc, Option.bind_some]
  exact plain_go s hsz s.size 400 0 (by omega) (by omega) (by simp)
end Go.Proofs.YtbpcoieemkojjaaDoor.Pure
