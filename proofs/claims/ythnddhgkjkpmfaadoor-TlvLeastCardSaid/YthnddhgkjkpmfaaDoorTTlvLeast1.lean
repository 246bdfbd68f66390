/- What is decoded has bytes of its own that are no more than those that it was decoded from. The card of the statement, out of the walk and the plain law. Conditions: none beyond the card's own (the listed package variables as the program's text lays them).
-/
import Derived.Test.YthnddhgkjkpmfaaDoorCTlv7
/- TlvLeast, plainly. -/
namespace Go.Proofs.YthnddhgkjkpmfaaDoor
set_option linter.unusedSimpArgs false
set_option linter.unusedVariables false
namespace Tlv
open Go.RowKit Go.Proofs.YthnddhgkjkpmfaaDoorW.PrintWords Go.Proofs.YthnddhgkjkpmfaaDoorW.PrintMore Go.Proofs.YthnddhgkjkpmfaaDoor.PureB Go.Proofs.YthnddhgkjkpmfaaDoor.KTlv Go.Proofs.YthnddhgkjkpmfaaDoor.ExtTlvC Go.Proofs.YthnddhgkjkpmfaaDoor.LTlvC
theorem TlvLeast : latinerlaw02_TlvLeast.Pure := by
  intro s _
  obtain ⟨k, hk⟩ : ∃ k : Nat, k = 4000 := ⟨_, rfl⟩
  refine ⟨k, ?_⟩
  unfold latinerlaw02_TlvLeast.f
  obtain ⟨h1, h2⟩ := cuts_f s
  rw [shown_f k (by omega), h1]
  simp only [Option.bind_some]
  generalize s.extract 0 (min s.size 4100) = t at h2 ⊢
  rw [(dec_f t 0 (by omega) k (by omega)).1]
  simp only [Option.bind_some, if_true]
  by_cases hd : (dec t 0).2.2 = 0
  · obtain ⟨hr, g1, g2, g3, _⟩ := dec_ok hd
    have hee : enc (dec t 0).1 = (laid (dec t 0).1, 0) := by unfold enc; rw [if_pos hr]
    have h3 := (right_parts hr).2.2
    rw [if_pos hd, enc_f _ (right_few hr), hee]
    simp only [Option.bind_some, if_true]
    rw [whole_f _ (by omega) k (by omega), whole_laid hr]
    simp only [Option.bind_some, if_true]
    rw [if_pos (by omega), same_f, same_self]
    simp only [Option.bind_some]
  · obtain ⟨e1, e2⟩ := dec_no hd
    rw [if_neg hd, e1, e2, if_pos (Eq.refl (0 : Int))]
    unfold z
    simp only [beq_self_eq_true]
end Tlv
end Go.Proofs.YthnddhgkjkpmfaaDoor
namespace Go.Proofs.YthnddhgkjkpmfaaDoor.tlvLeast
set_option linter.unusedSimpArgs false
open Go.ChangeShapes Go.WideShapes Go.ChangeAt Go.RowKit
open Go.ChangeMaps (open_string shut_string)
open Go.Proofs.YthnddhgkjkpmfaaDoor.KTlv
open Go.Proofs.YthnddhgkjkpmfaaDoor.TlvL (laid ga_of_laid door_met own rowStart rowStart_os rowStart_shaped)
set_option linter.unusedVariables false
set_option maxRecDepth 100000 in
theorem lifted (os : Os) (started : os.Started) (H : Type) (enc : TypeId × Value → H) :
    ReturnsInHanded {} Tryd.checked os 5 .any (fun w args => (Rows.tlvLeastSpec.pre enc Tryd.prog Tryd.f5 [] false w args ∧ laidMetH Tryd.prog laid w) ∧ sizedMet enc Tryd.prog Tryd.f5 (OpenSpec.ofChange Rows.tlvLeastSpec) false w args)
      (Rows.tlvLeastSpec.post enc Tryd.prog Tryd.f5 false true false false) := by
  refine returnsInHanded_of_change_and (C := Tryd.checked) (X := fun w _ => laidMetH Tryd.prog laid w) (fun _ _ _ hh h => h.of_heap hh) own started (by kernel_rfl) Tryd.func5
    (ChangeSpec.witness_shaped (enc := enc) (C := Tryd.checked) (os := os) (X := fun w _ => laidMetH Tryd.prog laid w) false (rowStart os) #[.string ByteArray.empty] 8 (rowStart_os os) (rowStart_shaped os _) (by kernel_rfl) (by kernel_rfl) (by kernel_rfl) (door_met os _)) ?_
  intro W base args ds gs before hval0 hW _ hsz0 hL _
  have hsz : (DataW.weightsEach Tryd.prog (Tryd.f5.params.toList ++ Rows.tlvLeastSpec.plain.varTypes Tryd.prog) (ds ++ gs)).all (· ≤ reachBytes) = true := hsz0
  have hval : ∀ (j : Nat) t v, Tryd.f5.params[j]? = some t → args[j]? = some v → Value.okWide Tryd.prog W .any base t v := hval0
  have hW' := hW
  obtain ⟨p, q, hA0, hV, rfl, hfz, hnd⟩ := hW
  have hA : DataW.TrodAll enc Tryd.prog W 0 (fun _ => true) true Tryd.f5.params.toList args.toList ds p := hA0
  rw [Tryd.params5] at hA hval hsz
  obtain ⟨v0, vs0, d0, ds0, p0, q0, hargs, rfl, rfl, h0, r0⟩ := trodAll_cons hA
  obtain ⟨rfl, rfl, rfl⟩ := trodAll_nil r0
  obtain rfl : args = #[v0] := by cases args; simp_all
  obtain ⟨rfl, rfl⟩ := trodVars_none hV
  obtain ⟨a0, rfl, rfl, rfl, y0⟩ := open_string Tryd.underlying9 (hval 0 9 v0 rfl rfl) h0
  have w0 : a0.size ≤ 140737488351232 := by
    have z := sized_string hsz (j := 0) (t := 9) rfl rfl
    rw [Array.length_toList] at z
    exact z
  clear hA0 hval0 hsz0 hsz
  obtain ⟨G, hG⟩ := ga_of_laid hL
  obtain ⟨k, hk⟩ := Tlv.TlvLeast a0 w0
  refine (LTlvC.latinerlaw02_TlvLeast.calls (G := G) k a0 true W  hG hk).mono fun e W' ⟨he, bel⟩ => ?_
  subst he
  exact ⟨_, rfl, _, _, _, [], _, [], hW', trodAll_mk1 (shut_bool Tryd.underlying4 _), (trodAll_cons_mk (shut_string Tryd.underlying9 y0) trodAll_mk0), rfl, bel.frame _, fun h => by cases h⟩
theorem said : Rows.TlvLeastSaid :=
  OpenClaim.holds_of_wide 5 Tryd.f5 rfl rfl rfl rfl rfl rfl rfl ⟨rfl, rfl, rfl, rfl, rfl⟩ rfl rfl rfl rfl rfl (by kernel_rfl) Tryd.func5 (by kernel_rfl)
    (of_decide_eq_true (by kernel_rfl)) (by unfold Func.isWrapper; first | (rw [if_pos (by decide +kernel)]; kernel_rfl) | (rw [if_neg (by decide +kernel)]; exact ⟨rfl, rfl⟩))
    (fun os started H enc _ => lifted os started H enc)
theorem plain (f : FuncId) (fn : Func) (hf : Tryd.pinned.checked.prog.funcNamed "latiner/latinerlaw02.TlvLeast" = some f) (hfn : Tryd.pinned.checked.prog.funcs[f]? = some fn) :
    true = Tryd.pinned.checked.prog.looks [] ∧ ∀ (j : Nat) t, fn.params[j]? = some t → Tryd.pinned.checked.prog.wantsStandIn t = false := by
  obtain rfl : f = 5 := Option.some.inj ((show Tryd.prog.funcNamed "latiner/latinerlaw02.TlvLeast" = some 5 by kernel_rfl).symm.trans hf) |>.symm
  obtain rfl : fn = Tryd.f5 := (Option.some.inj (Tryd.func5.symm.trans hfn)).symm
  refine ⟨by kernel_rfl, fun j t ht => ?_⟩
  rw [Tryd.params5] at ht
  have s_str : Tryd.prog.wantsStandIn 9 = false := by kernel_rfl
  have hm := Array.mem_of_getElem? ht
  simp at hm
  have hm2 : t = 9 := by omega
  clear hm
  subst hm2
  exact s_str
theorem card : Rows.TlvLeastCardSaid :=
  Claim7.holds_tied_plain_at .later [] _ _ _ _ said (fun _ h => by cases h) (by kernel_rfl) (fun _ h => by cases h) tlvLeast_row_tie rfl ⟨rfl, rfl⟩ (by kernel_rfl) rfl plain (by kernel_rfl)
end Go.Proofs.YthnddhgkjkpmfaaDoor.tlvLeast
namespace Go.Proofs.YthnddhgkjkpmfaaDoor
theorem tlvLeast_holds : Rows.TlvLeastCardSaid := tlvLeast.card
end Go.Proofs.YthnddhgkjkpmfaaDoor
