/- The bytes of an Inner tree are its tag, the length of its Kids' bytes, and these; its Kids are right. The card of the statement, out of the walk and the plain law. Conditions: none beyond the card's own (the listed package variables as the program's text lays them).
-/
import Derived.Test.YthnddhgkjkpmfaaDoorCTlv7
/- TlvParts, plainly. -/
namespace Go.Proofs.YthnddhgkjkpmfaaDoor
set_option linter.unusedSimpArgs false
set_option linter.unusedVariables false
namespace Tlv
open Go.RowKit Go.Proofs.YthnddhgkjkpmfaaDoorW.PrintWords Go.Proofs.YthnddhgkjkpmfaaDoorW.PrintMore Go.Proofs.YthnddhgkjkpmfaaDoor.PureB Go.Proofs.YthnddhgkjkpmfaaDoor.KTlv Go.Proofs.YthnddhgkjkpmfaaDoor.ExtTlvC Go.Proofs.YthnddhgkjkpmfaaDoor.LTlvC
theorem TlvParts (x : Nd) : ∃ k, latinerlaw02_TlvParts.f k x.f0 x.f1 x.f2 = some true := by
  refine ⟨4000, ?_⟩
  unfold latinerlaw02_TlvParts.f
  rw [shown_f 4000 (by omega), cut_f x 4000 (by omega)]
  simp only [Option.bind_some]
  have hf := cut_few x
  generalize cutT 13 x = y at hf ⊢
  rw [enc_f y hf]
  simp only [Option.bind_some]
  by_cases he : (enc y).2 = 0
  · obtain ⟨hr, e⟩ := enc_ok he
    rw [if_pos he, e]
    simp only
    obtain ⟨h1, h2, h3⟩ := right_parts hr
    obtain ⟨t, b, ks⟩ := y
    obtain ⟨hk, _⟩ := all_pre h2
    obtain ⟨_, k2, k3, _, k5, k6, _⟩ := (okAt_iff _ _).1 hk
    simp only at k2 k3 k5 k6 ⊢
    have hz := joined_size t (laidL ks ++ b)
    have hz2 : ((laidL ks ++ b).size : Nat) = (laidL ks).size + b.size := ByteArray.size_append
    rw [pre, List.length_cons] at h1
    have hlen := preL_len (1 + 1) ks
    have hbody : b ++ laidL ks = laidL ks ++ b := by
      by_cases hi : inner t = true
      · rw [nil_of_size (k5 hi), app_nil, nil_app]
      · rw [k6 hi, laidL, app_nil, nil_app]
    rw [laid] at h3 ⊢
    have loop : ∀ (r i k : Nat), i + r = ks.length → r < k → latinerlaw02_TlvParts.l0 k true (joined t (laidL ks ++ b)) (b ++ laidL (ks.take i)) (i : Int) t b ks = some true := by
      intro r
      induction r with
      | zero =>
        intro i k hi hk
        obtain ⟨k, rfl⟩ : ∃ j, k = j + 1 := ⟨k - 1, by omega⟩
        obtain rfl : i = ks.length := by omega
        simp only [latinerlaw02_TlvParts.l0]
        rw [if_neg (by omega), List.take_length, hbody]
        unfold size_Encode.f
        simp only [Option.bind_some, if_true]
        have hnn : ¬ (((laidL ks ++ b).size : Int) < 0 ∨ 16777215 < ((laidL ks ++ b).size : Int)) := by omega
        have hle := enc_le ((laidL ks ++ b).size : Int)
        have hs : (strOfNums [t % 256]).size = 1 := son_size _
        have e : t % 256 = t := by omega
        rw [SizeQ.encE_ok hnn, if_pos rfl, if_pos (by omega), if_pos (by rw [ByteArray.size_append]; omega), e]
        have hj : strOfNums [t] ++ Size.encS ((laidL ks ++ b).size : Int) ++ (laidL ks ++ b) = joined t (laidL ks ++ b) := rfl
        rw [hj, if_pos rfl, decide_eq_true (by omega)]
      | succ r ih =>
        intro i k hi hk
        obtain ⟨k, rfl⟩ : ∃ j, k = j + 1 := ⟨k - 1, by omega⟩
        have hlt : i < ks.length := by omega
        have hmem : ks[i] ∈ ks := List.getElem_mem hlt
        obtain ⟨hrk, hlk⟩ := right_kid hr hmem
        simp only [latinerlaw02_TlvParts.l0]
        rw [if_pos (by omega), if_pos (by omega), rd_at ks i hlt, enc_f _ (right_few hrk)]
        have hee : enc ks[i] = (laid ks[i], 0) := by unfold enc; rw [if_pos hrk]
        rw [hee]
        simp only [Option.bind_some, if_true]
        have htk : laidL (ks.take (i + 1)) = laidL (ks.take i) ++ laid ks[i] := by
          rw [List.take_add_one, List.getElem?_eq_getElem hlt, laidL_app]
          show laidL (ks.take i) ++ (laid ks[i] ++ laidL []) = _
          rw [laidL, app_nil]
        have hdl : laidL ks = laidL (ks.take i) ++ laidL (ks.drop i) := by rw [← laidL_app, List.take_append_drop]
        have hds : (laidL ks).size = (laidL (ks.take i)).size + (laidL (ks.drop i)).size := by
          have := congrArg ByteArray.size hdl
          rwa [ByteArray.size_append] at this
        rw [if_pos (by rw [ByteArray.size_append]; omega), w64 (n := (i : Int) + 1) (by omega) (by omega), ByteArray.append_assoc, ← htk]
        exact ih (i + 1) k (by omega) (by omega)
    have := loop ks.length 0 4000 (by omega) (by omega)
    rw [List.take_zero, laidL, app_nil] at this
    exact this
  · obtain ⟨_, e⟩ := enc_no he
    rw [if_neg he, e]
    simp [nil_list]
end Tlv
end Go.Proofs.YthnddhgkjkpmfaaDoor
namespace Go.Proofs.YthnddhgkjkpmfaaDoor.tlvParts
set_option linter.unusedSimpArgs false
open Go.ChangeShapes Go.WideShapes Go.ChangeAt Go.RowKit
open Go.ChangeMaps (open_string shut_string)
open Go.Proofs.YthnddhgkjkpmfaaDoor.KTlv
open Go.Proofs.YthnddhgkjkpmfaaDoor.TlvL (laid ga_of_laid door_met own rowStart rowStart_os rowStart_shaped)
set_option linter.unusedVariables false
theorem laidOut : laidOutB Tryd.prog = true := by kernel_rfl
set_option maxRecDepth 100000 in
theorem lifted (os : Os) (started : os.Started) (H : Type) (enc : TypeId × Value → H) :
    ReturnsInHanded {} Tryd.checked os 6 .any (fun w args => (Rows.tlvPartsSpec.pre enc Tryd.prog Tryd.f6 [] false w args ∧ laidMetH Tryd.prog laid w) ∧ sizedMet enc Tryd.prog Tryd.f6 (OpenSpec.ofChange Rows.tlvPartsSpec) false w args)
      (Rows.tlvPartsSpec.post enc Tryd.prog Tryd.f6 false true false false) := by
  refine returnsInHanded_of_change_and (C := Tryd.checked) (X := fun w _ => laidMetH Tryd.prog laid w) (fun _ _ _ hh h => h.of_heap hh) own started (by kernel_rfl) Tryd.func6
    (ChangeSpec.witness_shaped (enc := enc) (C := Tryd.checked) (os := os) (X := fun w _ => laidMetH Tryd.prog laid w) false (rowStart os) #[.agg #[.int .i64 0, .string ByteArray.empty, .slice none 0 0]] 8 (rowStart_os os) (rowStart_shaped os _) (by kernel_rfl) (by kernel_rfl) (by kernel_rfl) (door_met os _)) ?_
  intro W base args ds gs before hval0 hW _ hsz0 hL _
  have hsz : (DataW.weightsEach Tryd.prog (Tryd.f6.params.toList ++ Rows.tlvPartsSpec.plain.varTypes Tryd.prog) (ds ++ gs)).all (· ≤ reachBytes) = true := hsz0
  have hval : ∀ (j : Nat) t v, Tryd.f6.params[j]? = some t → args[j]? = some v → Value.okWide Tryd.prog W .any base t v := hval0
  have hW' := hW
  obtain ⟨p, q, hA0, hV, rfl, hfz, hnd⟩ := hW
  have hA : DataW.TrodAll enc Tryd.prog W 0 (fun _ => true) true Tryd.f6.params.toList args.toList ds p := hA0
  rw [Tryd.params6] at hA hval hsz
  obtain ⟨v0, vs0, d0, ds0, p0, q0, hargs, rfl, rfl, h0, r0⟩ := trodAll_cons hA
  obtain ⟨rfl, rfl, rfl⟩ := trodAll_nil r0
  obtain rfl : args = #[v0] := by cases args; simp_all
  obtain ⟨rfl, rfl⟩ := trodVars_none hV
  obtain ⟨cs0, rfl, sz0⟩ := okWide_struct Tryd.underlying24 (hval 0 24 v0 rfl rfl)
  have k0 := h0
  have lt0 : ∀ x ∈ p0, x.block < W.heap.size := by obtain ⟨m, hm⟩ := k0; exact DataW.trod_lt m _ _ _ hm
  obtain ⟨a0, K0⟩ : ∃ x, k24.K W x cs0.toList := by obtain ⟨fuel, hf⟩ := h0; exact TreeRow.tree_of (fuel + 1) fuel (Nat.lt_succ_self _) _ _ hf
  obtain ⟨A0, c0, e0, HC0, HR0⟩ := k24_open K0
  obtain rfl : cs0 = #[.int .i64 a0.f0, .string a0.f1, .slice A0 a0.f2.length c0] := Array.toList_inj.1 e0
  clear hA0 hval0 hsz0 hsz
  obtain ⟨G, hG⟩ := ga_of_laid hL
  obtain ⟨k, hk⟩ := Tlv.TlvParts a0
  refine (LTlvC.latinerlaw02_TlvParts.calls (G := G) k a0.f0 a0.f1 A0 c0 a0.f2 true W HR0 HC0 hG hk).mono fun e W' ⟨he, bel⟩ => ?_
  subst he
  exact ⟨_, rfl, _, _, _, [], _, [], hW', trodAll_mk1 (shut_bool Tryd.underlying4 _), (trodAll_cons_mk (Below.trod laidOut (by kernel_rfl) (of_decide_eq_true (by kernel_rfl)) k0 bel lt0) trodAll_mk0), rfl, bel.frame _, fun h => by cases h⟩
theorem said : Rows.TlvPartsSaid :=
  OpenClaim.holds_of_wide 6 Tryd.f6 rfl rfl rfl rfl rfl rfl rfl ⟨rfl, rfl, rfl, rfl, rfl⟩ rfl rfl rfl rfl rfl (by kernel_rfl) Tryd.func6 (by kernel_rfl)
    (of_decide_eq_true (by kernel_rfl)) (by unfold Func.isWrapper; first | (rw [if_pos (by decide +kernel)]; kernel_rfl) | (rw [if_neg (by decide +kernel)]; exact ⟨rfl, rfl⟩))
    (fun os started H enc _ => lifted os started H enc)
theorem plain (f : FuncId) (fn : Func) (hf : Tryd.pinned.checked.prog.funcNamed "latiner/latinerlaw02.TlvParts" = some f) (hfn : Tryd.pinned.checked.prog.funcs[f]? = some fn) :
    true = Tryd.pinned.checked.prog.looks [] ∧ ∀ (j : Nat) t, fn.params[j]? = some t → Tryd.pinned.checked.prog.wantsStandIn t = false := by
  obtain rfl : f = 6 := Option.some.inj ((show Tryd.prog.funcNamed "latiner/latinerlaw02.TlvParts" = some 6 by kernel_rfl).symm.trans hf) |>.symm
  obtain rfl : fn = Tryd.f6 := (Option.some.inj (Tryd.func6.symm.trans hfn)).symm
  refine ⟨by kernel_rfl, fun j t ht => ?_⟩
  rw [Tryd.params6] at ht
  have s_tree : Tryd.prog.wantsStandIn 24 = false := by kernel_rfl
  have hm := Array.mem_of_getElem? ht
  simp at hm
  have hm2 : t = 24 := by omega
  clear hm
  subst hm2
  exact s_tree
theorem card : Rows.TlvPartsCardSaid :=
  Claim7.holds_tied_plain_at .later [] _ _ _ _ said (fun _ h => by cases h) (by kernel_rfl) (fun _ h => by cases h) tlvParts_row_tie rfl ⟨rfl, rfl⟩ (by kernel_rfl) rfl plain (by kernel_rfl)
end Go.Proofs.YthnddhgkjkpmfaaDoor.tlvParts
namespace Go.Proofs.YthnddhgkjkpmfaaDoor
theorem tlvParts_holds : Rows.TlvPartsCardSaid := tlvParts.card
end Go.Proofs.YthnddhgkjkpmfaaDoor
