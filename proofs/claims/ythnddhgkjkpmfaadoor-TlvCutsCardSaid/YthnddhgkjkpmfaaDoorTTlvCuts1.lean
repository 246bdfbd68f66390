/- A beginning of a tree's bytes that is not all of them is too short. The card of the statement, out of the walk and the plain law. Conditions: none beyond the card's own (the listed package variables as the program's text lays them).
-/
import Derived.Test.YthnddhgkjkpmfaaDoorCTlv7
/- TlvCuts, plainly. -/
namespace Go.Proofs.YthnddhgkjkpmfaaDoor
set_option linter.unusedSimpArgs false
set_option linter.unusedVariables false
namespace Tlv
open Go.RowKit Go.Proofs.YthnddhgkjkpmfaaDoorW.PrintWords Go.Proofs.YthnddhgkjkpmfaaDoorW.PrintMore Go.Proofs.YthnddhgkjkpmfaaDoor.PureB Go.Proofs.YthnddhgkjkpmfaaDoor.KTlv Go.Proofs.YthnddhgkjkpmfaaDoor.ExtTlvC Go.Proofs.YthnddhgkjkpmfaaDoor.LTlvC
theorem TlvCuts (x : Nd) (a : Int) : ∃ k, latinerlaw02_TlvCuts.f k x.f0 x.f1 x.f2 a = some true := by
  refine ⟨4000, ?_⟩
  unfold latinerlaw02_TlvCuts.f
  rw [shown_f 4000 (by omega), cut_f x 4000 (by omega)]
  simp only [Option.bind_some]
  have hf := cut_few x
  generalize cutT 13 x = y at hf ⊢
  rw [enc_f y hf]
  simp only [Option.bind_some]
  by_cases he : (enc y).2 = 0
  · obtain ⟨hr, e⟩ := enc_ok he
    rw [if_pos he, e]
    simp only
    by_cases h0 : a < 0
    · rw [if_pos h0]
    rw [if_neg h0]
    by_cases h1 : a ≥ ((laid y).size : Int)
    · rw [if_pos h1]
    rw [if_neg h1]
    have h3 := (right_parts hr).2.2
    rw [if_pos (show 0 ≤ a by omega), if_pos (show a ≤ ((laid y).size : Int) by omega), (dec_f _ 0 (by rw [extract_size _ 0 _ (by omega)]; omega) 4000 (by omega)).1]
    simp only [Option.bind_some]
    have ho : (⟨#[97]⟩ : ByteArray).size = 1 := rfl
    rw [if_pos (by omega), whole_f _ (by rw [ByteArray.size_append]; omega) 4000 (by omega), whole_more hr _ (by omega), dec_cut hr a.toNat (by omega)]
    rfl
  · rw [if_neg he]
end Tlv
end Go.Proofs.YthnddhgkjkpmfaaDoor
namespace Go.Proofs.YthnddhgkjkpmfaaDoor.tlvCuts
set_option linter.unusedSimpArgs false
open Go.ChangeShapes Go.WideShapes Go.ChangeAt Go.RowKit
open Go.ChangeMaps (open_string shut_string)
open Go.Proofs.YthnddhgkjkpmfaaDoor.KTlv
open Go.Proofs.YthnddhgkjkpmfaaDoor.TlvL (laid ga_of_laid door_met own rowStart rowStart_os rowStart_shaped)
set_option linter.unusedVariables false
theorem laidOut : laidOutB Tryd.prog = true := by kernel_rfl
set_option maxRecDepth 100000 in
theorem lifted (os : Os) (started : os.Started) (H : Type) (enc : TypeId × Value → H) :
    ReturnsInHanded {} Tryd.checked os 7 .any (fun w args => (Rows.tlvCutsSpec.pre enc Tryd.prog Tryd.f7 [] false w args ∧ laidMetH Tryd.prog laid w) ∧ sizedMet enc Tryd.prog Tryd.f7 (OpenSpec.ofChange Rows.tlvCutsSpec) false w args)
      (Rows.tlvCutsSpec.post enc Tryd.prog Tryd.f7 false true false false) := by
  refine returnsInHanded_of_change_and (C := Tryd.checked) (X := fun w _ => laidMetH Tryd.prog laid w) (fun _ _ _ hh h => h.of_heap hh) own started (by kernel_rfl) Tryd.func7
    (ChangeSpec.witness_shaped (enc := enc) (C := Tryd.checked) (os := os) (X := fun w _ => laidMetH Tryd.prog laid w) false (rowStart os) #[.agg #[.int .i64 0, .string ByteArray.empty, .slice none 0 0], .int .i64 0] 8 (rowStart_os os) (rowStart_shaped os _) (by kernel_rfl) (by kernel_rfl) (by kernel_rfl) (door_met os _)) ?_
  intro W base args ds gs before hval0 hW _ hsz0 hL _
  have hsz : (DataW.weightsEach Tryd.prog (Tryd.f7.params.toList ++ Rows.tlvCutsSpec.plain.varTypes Tryd.prog) (ds ++ gs)).all (· ≤ reachBytes) = true := hsz0
  have hval : ∀ (j : Nat) t v, Tryd.f7.params[j]? = some t → args[j]? = some v → Value.okWide Tryd.prog W .any base t v := hval0
  have hW' := hW
  obtain ⟨p, q, hA0, hV, rfl, hfz, hnd⟩ := hW
  have hA : DataW.TrodAll enc Tryd.prog W 0 (fun _ => true) true Tryd.f7.params.toList args.toList ds p := hA0
  rw [Tryd.params7] at hA hval hsz
  obtain ⟨v0, vs0, d0, ds0, p0, q0, hargs, rfl, rfl, h0, r0⟩ := trodAll_cons hA
  obtain ⟨v1, vs1, d1, ds1, p1, q1, rfl, rfl, rfl, h1, r1⟩ := trodAll_cons r0
  obtain ⟨rfl, rfl, rfl⟩ := trodAll_nil r1
  obtain rfl : args = #[v0, v1] := by cases args; simp_all
  obtain ⟨rfl, rfl⟩ := trodVars_none hV
  obtain ⟨cs0, rfl, sz0⟩ := okWide_struct Tryd.underlying24 (hval 0 24 v0 rfl rfl)
  have k0 := h0
  have lt0 : ∀ x ∈ p0, x.block < W.heap.size := by obtain ⟨m, hm⟩ := k0; exact DataW.trod_lt m _ _ _ hm
  obtain ⟨a0, K0⟩ : ∃ x, k24.K W x cs0.toList := by obtain ⟨fuel, hf⟩ := h0; exact TreeRow.tree_of (fuel + 1) fuel (Nat.lt_succ_self _) _ _ hf
  obtain ⟨A0, c0, e0, HC0, HR0⟩ := k24_open K0
  obtain rfl : cs0 = #[.int .i64 a0.f0, .string a0.f1, .slice A0 a0.f2.length c0] := Array.toList_inj.1 e0
  obtain ⟨a1, rfl, rfl, rfl, w1⟩ := open_int Tryd.underlying3 (hval 1 3 v1 rfl rfl) h1
  clear hA0 hval0 hsz0 hsz
  obtain ⟨G, hG⟩ := ga_of_laid hL
  obtain ⟨k, hk⟩ := Tlv.TlvCuts a0 a1
  refine (LTlvC.latinerlaw02_TlvCuts.calls (G := G) k a0.f0 a0.f1 A0 c0 a0.f2 a1 true W HR0 HC0 hG hk).mono fun e W' ⟨he, bel⟩ => ?_
  subst he
  exact ⟨_, rfl, _, _, _, [], _, [], hW', trodAll_mk1 (shut_bool Tryd.underlying4 _), (trodAll_cons_mk (Below.trod laidOut (by kernel_rfl) (of_decide_eq_true (by kernel_rfl)) k0 bel lt0) (trodAll_cons_mk (shut_int Tryd.underlying3 w1) trodAll_mk0)), rfl, bel.frame _, fun h => by cases h⟩
theorem said : Rows.TlvCutsSaid :=
  OpenClaim.holds_of_wide 7 Tryd.f7 rfl rfl rfl rfl rfl rfl rfl ⟨rfl, rfl, rfl, rfl, rfl⟩ rfl rfl rfl rfl rfl (by kernel_rfl) Tryd.func7 (by kernel_rfl)
    (of_decide_eq_true (by kernel_rfl)) (by unfold Func.isWrapper; first | (rw [if_pos (by decide +kernel)]; kernel_rfl) | (rw [if_neg (by decide +kernel)]; exact ⟨rfl, rfl⟩))
    (fun os started H enc _ => lifted os started H enc)
theorem plain (f : FuncId) (fn : Func) (hf : Tryd.pinned.checked.prog.funcNamed "latiner/latinerlaw02.TlvCuts" = some f) (hfn : Tryd.pinned.checked.prog.funcs[f]? = some fn) :
    true = Tryd.pinned.checked.prog.looks [] ∧ ∀ (j : Nat) t, fn.params[j]? = some t → Tryd.pinned.checked.prog.wantsStandIn t = false := by
  obtain rfl : f = 7 := Option.some.inj ((show Tryd.prog.funcNamed "latiner/latinerlaw02.TlvCuts" = some 7 by kernel_rfl).symm.trans hf) |>.symm
  obtain rfl : fn = Tryd.f7 := (Option.some.inj (Tryd.func7.symm.trans hfn)).symm
  refine ⟨by kernel_rfl, fun j t ht => ?_⟩
  rw [Tryd.params7] at ht
  have s_int : Tryd.prog.wantsStandIn 3 = false := by kernel_rfl
  have s_tree : Tryd.prog.wantsStandIn 24 = false := by kernel_rfl
  have hm := Array.mem_of_getElem? ht
  simp at hm
  have hm2 : t = 24 ∨ t = 3 := by omega
  clear hm
  rcases hm2 with rfl | rfl
  · exact s_tree
  · exact s_int
theorem card : Rows.TlvCutsCardSaid :=
  Claim7.holds_tied_plain_at .later [] _ _ _ _ said (fun _ h => by cases h) (by kernel_rfl) (fun _ h => by cases h) tlvCuts_row_tie rfl ⟨rfl, rfl⟩ (by kernel_rfl) rfl plain (by kernel_rfl)
end Go.Proofs.YthnddhgkjkpmfaaDoor.tlvCuts
namespace Go.Proofs.YthnddhgkjkpmfaaDoor
theorem tlvCuts_holds : Rows.TlvCutsCardSaid := tlvCuts.card
end Go.Proofs.YthnddhgkjkpmfaaDoor
