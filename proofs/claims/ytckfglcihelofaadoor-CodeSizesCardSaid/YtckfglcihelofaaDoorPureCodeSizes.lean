import Derived.Test.YtckfglcihelofaaDoorPureCodeBase
import Derived.Test.YtckfglcihelofaaDoorLCodex4
namespace Go.Proofs.YtckfglcihelofaaDoor.Pure
set_option linter.unusedSimpArgs false
set_option linter.unusedVariables false
open Go.RowKit Go.Proofs.YtckfglcihelofaaDoor.LCode Go.Proofs.YtckfglcihelofaaDoor.ExtCode Go.Proofs.YtckfglcihelofaaDoor.Code Go.Proofs.YtckfglcihelofaaDoorW.PrintWords Go.Proofs.YtckfglcihelofaaDoorW.PrintLast Go.Proofs.YtckfglcihelofaaDoor.PureB
theorem sz_a (n : Nat) (h : n ≤ 200) : wrap64 (4 * (wrap64 (Int.tdiv (wrap64 ((n : Int) + 2)) 3))) = 4 * (((n : Int) + 2) / 3) := by
  have q0 : wrap64 ((n : Int) + 2) = (n : Int) + 2 := w64 (by omega) (by omega)
  have t : Int.tdiv ((n : Int) + 2) 3 = ((n : Int) + 2) / 3 := Int.tdiv_eq_ediv_of_nonneg (by omega)
  rw [q0, t]
  generalize hm : ((n : Int) + 2) / 3 = m
  have h1 : 0 ≤ m ∧ m ≤ 100 := by omega
  rw [w64 (n := m) (by omega) (by omega), w64 (by omega) (by omega)]
theorem sz_b (n : Nat) (h : n ≤ 200) : wrap64 (2 * (n : Int)) = 2 * (n : Int) := by
  generalize hm : 2 * (n : Int) = m
  have h1 : 0 ≤ m ∧ m ≤ 400 := by omega
  exact w64 (by omega) (by omega)
theorem sz_c (b n : Nat) (h : b = 4 * ((n + 2) / 3)) : (b : Int) = 4 * (((n : Int) + 2) / 3) := by omega
theorem sz_d (b n : Nat) (h : b = 2 * n) : (b : Int) = 2 * (n : Int) := by omega
theorem CodeSizes : latinerlaw05_CodeSizes.Pure := by
  intro a0 _
  obtain ⟨s, hs, hsz⟩ := cut_200 a0
  have hb := base_size s
  have hh := hex_size s
  have e1 := base_f s (by omega)
  have e2 := hex_f s (by omega)
  generalize strOfNums (baseL (bl s)) = B at hb e1
  generalize strOfNums (hexL (bl s)) = H at hh e2
  have q1 := sz_a s.size hsz
  have q2 := sz_b s.size hsz
  have c1 := sz_c B.size s.size hb
  have c2 := sz_d H.size s.size hh
  clear hb hh
  unfold latinerlaw05_CodeSizes.f
  rw [shown_true, hs]
  simp only [Option.bind_some]
  rw [e1, Option.bind_some, if_pos trivial, if_pos (c1.trans q1.symm), e2, Option.bind_some]
  exact congrArg some (beq_iff_eq.2 (c2.trans q2.symm))
end Go.Proofs.YtckfglcihelofaaDoor.Pure
