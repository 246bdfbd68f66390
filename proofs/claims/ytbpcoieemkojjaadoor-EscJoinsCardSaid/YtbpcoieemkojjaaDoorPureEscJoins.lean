import Derived.Test.YtbpcoieemkojjaaDoorLEscx7
import Derived.Test.YtbpcoieemkojjaaDoorPureEscBase
namespace Go.Proofs.YtbpcoieemkojjaaDoor.Pure
set_option linter.unusedSimpArgs false
set_option linter.unusedVariables false
open Go.RowKit Go.Proofs.YtbpcoieemkojjaaDoor.LEsc Go.Proofs.YtbpcoieemkojjaaDoor.ExtEsc Go.Proofs.YtbpcoieemkojjaaDoor.Esc Go.Proofs.YtbpcoieemkojjaaDoorW.PrintWords Go.Proofs.YtbpcoieemkojjaaDoorW.PrintLast Go.Proofs.YtbpcoieemkojjaaDoor.PureB
open Go.Proofs.YtbpcoieemkojjaaDoor.Code (bl bl_len bl_get bl_byte Byt bl_son son_bl hexL hex_byte bl_append)
theorem prF_at : ∀ (l : List Int) (i j : Nat), prL ruF i l = prL ruF j l
  | [], _, _ => rfl
  | b :: r, i, j => by simp only [prL]; rw [prF_at r (i + 1) (j + 1)]; rfl
theorem prF_app : ∀ (l m : List Int) (i : Nat), prL ruF i (l ++ m) = prL ruF i l ++ prL ruF i m
  | [], m, i => rfl
  | b :: r, m, i => by
    simp only [List.cons_append, prL, prF_app r m (i + 1), List.append_assoc]
    rw [prF_at m (i + 1) i]
theorem son_app (a b : List Int) : strOfNums (a ++ b) = strOfNums a ++ strOfNums b := by apply ByteArray.ext; simp [strOfNums]
theorem fS_app (s t : ByteArray) : fS (s ++ t) = fS s ++ fS t := by
  unfold fS fltL
  rw [bl_append, prF_app, son_app]
theorem EscJoins : latinerlaw06_EscJoins.Pure := by
  intro a0 a1 _ _
  obtain ⟨s, hc, hsz⟩ := cut_100 a0
  obtain ⟨t, hd, htz⟩ := cut_100 a1
  have h1 := fS_size s
  have h2 := fS_size t
  have h3 : (fS s ++ fS t).size = (fS s).size + (fS t).size := ByteArray.size_append
  have h4 : (s ++ t).size = s.size + t.size := ByteArray.size_append
  unfold latinerlaw06_EscJoins.f
  rw [shown_true, Option.bind_some, hc, Option.bind_some, hd, Option.bind_some, filter_f s (by omega), Option.bind_some, filter_f t (by omega), Option.bind_some, if_pos (by omega), rf_f _ (by omega), Option.bind_some, if_pos rfl, if_pos (by omega), filter_f _ (by omega), Option.bind_some, Option.bind_some, Option.bind_some, if_pos (by omega), ← fS_app, if_pos rfl, read_fS, rdS_bl]
  simp [rdN_some]
end Go.Proofs.YtbpcoieemkojjaaDoor.Pure
