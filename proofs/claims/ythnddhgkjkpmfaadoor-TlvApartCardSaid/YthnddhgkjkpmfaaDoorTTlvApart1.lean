/- Two right trees have the same bytes just if they are the same. The card of the statement, out of the walk and the plain law. Conditions: none beyond the card's own (the listed package variables as the program's text lays them).
-/
import Derived.Test.YthnddhgkjkpmfaaDoorCTlv7
/- TlvApart, plainly. -/
namespace Go.Proofs.YthnddhgkjkpmfaaDoor
set_option linter.unusedSimpArgs false
set_option linter.unusedVariables false
namespace Tlv
open Go.RowKit Go.Proofs.YthnddhgkjkpmfaaDoorW.PrintWords Go.Proofs.YthnddhgkjkpmfaaDoorW.PrintMore Go.Proofs.YthnddhgkjkpmfaaDoor.PureB Go.Proofs.YthnddhgkjkpmfaaDoor.KTlv Go.Proofs.YthnddhgkjkpmfaaDoor.ExtTlvC Go.Proofs.YthnddhgkjkpmfaaDoor.LTlvC
theorem TlvApart (x y : Nd) : ∃ k, latinerlaw02_TlvApart.f k x.f0 x.f1 x.f2 y.f0 y.f1 y.f2 = some true := by
  refine ⟨4000, ?_⟩
  unfold latinerlaw02_TlvApart.f
  rw [shown_f 4000 (by omega), cut_f x 4000 (by omega), cut_f y 4000 (by omega)]
  simp only [Option.bind_some]
  have hf := cut_few x
  have hg := cut_few y
  generalize cutT 13 x = x' at hf ⊢
  generalize cutT 13 y = y' at hg ⊢
  rw [enc_f x' hf, enc_f y' hg]
  simp only [Option.bind_some, if_true]
  by_cases he : (enc x').2 = 0
  · obtain ⟨hr, e⟩ := enc_ok he
    rw [if_pos he]
    by_cases he2 : (enc y').2 = 0
    · obtain ⟨hr2, e2⟩ := enc_ok he2
      rw [if_pos he2, same_f, e, e2]
      simp only [Option.bind_some, Option.some.injEq]
      rw [beq_iff_eq, Bool.eq_iff_iff, beq_iff_eq, toList_inj, same_iff]
      exact ⟨laid_inj hr hr2, fun h => by rw [h]⟩
    · obtain ⟨_, e2⟩ := enc_no he2
      rw [if_neg he2, e2, nil_list]
      rfl
  · obtain ⟨_, e⟩ := enc_no he
    rw [if_neg he, e, if_pos nil_list]
    by_cases he2 : (enc y').2 = 0
    · rw [if_pos he2]
    · obtain ⟨_, e2⟩ := enc_no he2
      rw [if_neg he2, e2, nil_list]
      rfl
end Tlv
end Go.Proofs.YthnddhgkjkpmfaaDoor
namespace Go.Proofs.YthnddhgkjkpmfaaDoor.tlvApart
set_option linter.unusedSimpArgs false
open Go.ChangeShapes Go.WideShapes Go.ChangeAt Go.RowKit
open Go.ChangeMaps (open_string shut_string)
open Go.Proofs.YthnddhgkjkpmfaaDoor.KTlv
open Go.Proofs.YthnddhgkjkpmfaaDoor.TlvL (laid ga_of_laid door_met own rowStart rowStart_os rowStart_shaped)
set_option linter.unusedVariables false
theorem laidOut : laidOutB Tryd.prog = true := by kernel_rfl
set_option maxRecDepth 100000 in
theorem lifted (os : Os) (started : os.Started) (H : Type) (enc : TypeId × Value → H) :
    ReturnsInHanded {} Tryd.checked os 8 .any (fun w args => (Rows.tlvApartSpec.pre enc Tryd.prog Tryd.f8 [] false w args ∧ laidMetH Tryd.prog laid w) ∧ sizedMet enc Tryd.prog Tryd.f8 (OpenSpec.ofChange Rows.tlvApartSpec) false w args)
      (Rows.tlvApartSpec.post enc Tryd.prog Tryd.f8 false true false false) := by
  refine returnsInHanded_of_change_and (C := Tryd.checked) (X := fun w _ => laidMetH Tryd.prog laid w) (fun _ _ _ hh h => h.of_heap hh) own started (by kernel_rfl) Tryd.func8
    (ChangeSpec.witness_shaped (enc := enc) (C := Tryd.checked) (os := os) (X := fun w _ => laidMetH Tryd.prog laid w) false (rowStart os) #[.agg #[.int .i64 0, .string ByteArray.empty, .slice none 0 0], .agg #[.int .i64 0, .string ByteArray.empty, .slice none 0 0]] 8 (rowStart_os os) (rowStart_shaped os _) (by kernel_rfl) (by kernel_rfl) (by kernel_rfl) (door_met os _)) ?_
  intro W base args ds gs before hval0 hW _ hsz0 hL _
  have hsz : (DataW.weightsEach Tryd.prog (Tryd.f8.params.toList ++ Rows.tlvApartSpec.plain.varTypes Tryd.prog) (ds ++ gs)).all (· ≤ reachBytes) = true := hsz0
  have hval : ∀ (j : Nat) t v, Tryd.f8.params[j]? = some t → args[j]? = some v → Value.okWide Tryd.prog W .any base t v := hval0
  have hW' := hW
  obtain ⟨p, q, hA0, hV, rfl, hfz, hnd⟩ := hW
  have hA : DataW.TrodAll enc Tryd.prog W 0 (fun _ => true) true Tryd.f8.params.toList args.toList ds p := hA0
  rw [Tryd.params8] at hA hval hsz
  obtain ⟨v0, vs0, d0, ds0, p0, q0, hargs, rfl, rfl, h0, r0⟩ := trodAll_cons hA
  obtain ⟨v1, vs1, d1, ds1, p1, q1, rfl, rfl, rfl, h1, r1⟩ := trodAll_cons r0
  obtain ⟨rfl, rfl, rfl⟩ := trodAll_nil r1
  obtain rfl : args = #[v0, v1] := by cases args; simp_all
  obtain ⟨rfl, rfl⟩ := trodVars_none hV
  obtain ⟨cs0, rfl, sz0⟩ := okWide_struct Tryd.underlying24 (hval 0 24 v0 rfl rfl)
  have k0 := h0
  have lt0 : ∀ x ∈ p0, x.block < W.heap.size := by obtain ⟨m, hm⟩ := k0; exact DataW.trod_lt m _ _ _ hm
  obtain ⟨a0, K0⟩ : ∃ x, k24.K W x cs0.toList := by obtain ⟨fuel, hf⟩ := h0; exact TreeRow.tree_of (fuel + 1) fuel (Nat.lt_succ_self _) _ _ hf
  obtain ⟨A0, c0, e0, HC0, HR0⟩ := k24_open K0
  obtain rfl : cs0 = #[.int .i64 a0.f0, .string a0.f1, .slice A0 a0.f2.length c0] := Array.toList_inj.1 e0
  obtain ⟨cs1, rfl, sz1⟩ := okWide_struct Tryd.underlying24 (hval 1 24 v1 rfl rfl)
  have k1 := h1
  have lt1 : ∀ x ∈ p1, x.block < W.heap.size := by obtain ⟨m, hm⟩ := k1; exact DataW.trod_lt m _ _ _ hm
  obtain ⟨a1, K1⟩ : ∃ x, k24.K W x cs1.toList := by obtain ⟨fuel, hf⟩ := h1; exact TreeRow.tree_of (fuel + 1) fuel (Nat.lt_succ_self _) _ _ hf
  obtain ⟨A1, c1, e1, HC1, HR1⟩ := k24_open K1
  obtain rfl : cs1 = #[.int .i64 a1.f0, .string a1.f1, .slice A1 a1.f2.length c1] := Array.toList_inj.1 e1
  clear hA0 hval0 hsz0 hsz
  obtain ⟨G, hG⟩ := ga_of_laid hL
  obtain ⟨k, hk⟩ := Tlv.TlvApart a0 a1
  refine (LTlvC.latinerlaw02_TlvApart.calls (G := G) k a0.f0 a0.f1 A0 c0 a0.f2 a1.f0 a1.f1 A1 c1 a1.f2 true W HR0 HC0 HR1 HC1 hG hk).mono fun e W' ⟨he, bel⟩ => ?_
  subst he
  exact ⟨_, rfl, _, _, _, [], _, [], hW', trodAll_mk1 (shut_bool Tryd.underlying4 _), (trodAll_cons_mk (Below.trod laidOut (by kernel_rfl) (of_decide_eq_true (by kernel_rfl)) k0 bel lt0) (trodAll_cons_mk (Below.trod laidOut (by kernel_rfl) (of_decide_eq_true (by kernel_rfl)) k1 bel lt1) trodAll_mk0)), rfl, bel.frame _, fun h => by cases h⟩
theorem said : Rows.TlvApartSaid :=
  OpenClaim.holds_of_wide 8 Tryd.f8 rfl rfl rfl rfl rfl rfl rfl ⟨rfl, rfl, rfl, rfl, rfl⟩ rfl rfl rfl rfl rfl (by kernel_rfl) Tryd.func8 (by kernel_rfl)
    (of_decide_eq_true (by kernel_rfl)) (by unfold Func.isWrapper; first | (rw [if_pos (by decide +kernel)]; kernel_rfl) | (rw [if_neg (by decide +kernel)]; exact ⟨rfl, rfl⟩))
    (fun os started H enc _ => lifted os started H enc)
theorem plain (f : FuncId) (fn : Func) (hf : Tryd.pinned.checked.prog.funcNamed "latiner/latinerlaw02.TlvApart" = some f) (hfn : Tryd.pinned.checked.prog.funcs[f]? = some fn) :
    true = Tryd.pinned.checked.prog.looks [] ∧ ∀ (j : Nat) t, fn.params[j]? = some t → Tryd.pinned.checked.prog.wantsStandIn t = false := by
  obtain rfl : f = 8 := Option.some.inj ((show Tryd.prog.funcNamed "latiner/latinerlaw02.TlvApart" = some 8 by kernel_rfl).symm.trans hf) |>.symm
  obtain rfl : fn = Tryd.f8 := (Option.some.inj (Tryd.func8.symm.trans hfn)).symm
  refine ⟨by kernel_rfl, fun j t ht => ?_⟩
  rw [Tryd.params8] at ht
  have s_tree : Tryd.prog.wantsStandIn 24 = false := by kernel_rfl
  have hm := Array.mem_of_getElem? ht
  simp at hm
  have hm2 : t = 24 := by omega
  clear hm
  subst hm2
  exact s_tree
theorem card : Rows.TlvApartCardSaid :=
  Claim7.holds_tied_plain_at .later [] _ _ _ _ said (fun _ h => by cases h) (by kernel_rfl) (fun _ h => by cases h) tlvApart_row_tie rfl ⟨rfl, rfl⟩ (by kernel_rfl) rfl plain (by kernel_rfl)
end Go.Proofs.YthnddhgkjkpmfaaDoor.tlvApart
namespace Go.Proofs.YthnddhgkjkpmfaaDoor
theorem tlvApart_holds : Rows.TlvApartCardSaid := tlvApart.card
end Go.Proofs.YthnddhgkjkpmfaaDoor
