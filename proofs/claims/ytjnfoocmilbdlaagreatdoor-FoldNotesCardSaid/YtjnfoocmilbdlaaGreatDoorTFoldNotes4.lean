/- A note ahead of a text changes nothing. The card of the statement, out of the walk and the plain law. Conditions: none beyond the card's own (the listed package variables as the program's text lays them).
-/
import Derived.Test.YtjnfoocmilbdlaaGreatDoorTFoldNotes3
namespace Go.Proofs.YtjnfoocmilbdlaaGreatDoor.Pure
set_option linter.unusedSimpArgs false
set_option linter.unusedVariables false
open Go.RowKit Go.Proofs.YtjnfoocmilbdlaaGreatDoor.LFold Go.Proofs.YtjnfoocmilbdlaaGreatDoor.ExtFold Go.Proofs.YtjnfoocmilbdlaaGreatDoor.Fold Go.Proofs.YtjnfoocmilbdlaaGreatDoorW.PrintWords Go.Proofs.YtjnfoocmilbdlaaGreatDoorW.PrintLast Go.Proofs.YtjnfoocmilbdlaaGreatDoor.PureB
open Go.Proofs.YtjnfoocmilbdlaaGreatDoor.Code (bl bl_len bl_get bl_byte Byt bl_son son_bl bl_append)
theorem notes_end (s t : ByteArray) (hs : s.size ≤ 3000) (ht : t.size ≤ 100) (hn : ∀ x ∈ bl t, 32 ≤ x ∧ x ≤ 126) (k : Nat) (hk : 10000 ≤ k) : latinerlaw15_FoldNotes.l0 (k + 1) s t true (t.size : Int) = some true := by
  have e1 : ((⟨#[35]⟩ : ByteArray) ++ t).size = 1 + t.size := by rw [ByteArray.size_append]; rfl
  have e2 : (((⟨#[35]⟩ : ByteArray) ++ t) ++ (⟨#[10]⟩ : ByteArray)).size = 1 + t.size + 1 := by rw [ByteArray.size_append, e1]; rfl
  have e3 : ((((⟨#[35]⟩ : ByteArray) ++ t) ++ (⟨#[10]⟩ : ByteArray)) ++ s).size = 1 + t.size + 1 + s.size := by rw [ByteArray.size_append, e2]
  have b1 : bl ((((⟨#[35]⟩ : ByteArray) ++ t) ++ (⟨#[10]⟩ : ByteArray)) ++ s) = 35 :: bl t ++ 10 :: bl s := by
    rw [bl_append, bl_append, bl_append]
    show (([35] ++ bl t) ++ [10]) ++ bl s = _
    simp
  have l1 : (bl s).length ≤ 8000 := by rw [bl_len]; omega
  have l2 : (35 :: bl t ++ 10 :: bl s).length ≤ 8000 := by rw [← b1, bl_len]; omega
  have n1 := unf_len _ l1
  conv => lhs; rw [latinerlaw15_FoldNotes.l0]
  rw [if_neg (by omega), unfold_f _ (by omega), Option.bind_some, if_pos (by omega), if_pos (by omega), if_pos (by omega), unfold_f _ (by omega), Option.bind_some, b1]
  have key : st32 (bl s) = false → unfL (35 :: bl t ++ 10 :: bl s) = unfL (bl s) ∧ unfE (35 :: bl t ++ 10 :: bl s) = unfE (bl s) := fun h => by
    have h1 := unf_small _ l1
    have h2 := unf_small _ l2
    rw [h1.1, h1.2, h2.1, h2.2, unf_note _ _ hn h]
    exact ⟨rfl, rfl⟩
  have fin := texts_refl ((unfL (bl s)).map strOfNums) (by rw [List.length_map]; omega) k (by rw [List.length_map]; omega)
  by_cases h0 : bl s = []
  · have hk := key (by rw [h0]; rfl)
    rw [hk.1, hk.2, if_pos (by rw [toList_nil, ← bl_len, h0]; rfl), if_pos rfl, if_pos rfl, fin]
    rfl
  · have hp : 0 < s.size := by have := List.length_pos_iff.2 h0; rw [bl_len] at this; exact this
    have hg := bl_get s 0 hp
    rw [if_neg (fun e => by rw [toList_nil] at e; omega), if_pos (by omega)]
    by_cases h32 : bt s 0 = 32
    · have hst : st32 (bl s) = true := by
        cases hb : bl s with
        | nil => exact absurd hb h0
        | cons c r =>
          rw [hb] at hg
          simp only [List.getElem?_cons_zero, Option.some.injEq] at hg
          exact decide_eq_true (by rw [hg]; exact h32)
      rw [if_pos h32, if_pos rfl, (unf_none l1 (unf_blank _ hst)).2]
      rfl
    · have hst : st32 (bl s) = false := by
        cases hb : bl s with
        | nil => rfl
        | cons c r =>
          rw [hb] at hg
          simp only [List.getElem?_cons_zero, Option.some.injEq] at hg
          exact decide_eq_false (by rw [hg]; exact h32)
      have hk := key hst
      rw [if_neg h32, hk.1, hk.2, if_pos rfl, if_pos rfl, fin]
      rfl
theorem notes_go (s t : ByteArray) (hs : s.size ≤ 3000) (ht : t.size ≤ 100) (d : Nat) : ∀ (k j : Nat), t.size = j + d → 10000 + d < k → (∀ x ∈ (bl t).take j, 32 ≤ x ∧ x ≤ 126) → latinerlaw15_FoldNotes.l0 k s t true (j : Int) = some true := by
  induction d with
  | zero =>
    intro k j hj hk h
    obtain ⟨k, rfl⟩ : ∃ m, k = m + 1 := ⟨k - 1, by omega⟩
    obtain rfl : t.size = j := by omega
    rw [List.take_of_length_le (by rw [bl_len]; omega)] at h
    exact notes_end s t hs ht h k (by omega)
  | succ d ih =>
    intro k j hj hk h
    obtain ⟨k, rfl⟩ : ∃ m, k = m + 1 := ⟨k - 1, by omega⟩
    have hg := bl_get t j (by omega)
    conv => lhs; rw [latinerlaw15_FoldNotes.l0]
    rw [if_pos (by omega), if_pos (by omega)]
    by_cases q1 : bt t (j : Int) < 32
    · rw [if_pos q1]
    · rw [if_neg q1]
      by_cases q2 : bt t (j : Int) > 126
      · rw [if_pos q2]
      · rw [if_neg q2, w64 (by omega) (by omega)]
        refine ih k (j + 1) (by omega) (by omega) (fun x hx => ?_)
        rw [List.take_add_one, hg] at hx
        rcases List.mem_append.1 hx with q | q
        · exact h x q
        · simp at q; omega
theorem FoldNotes : latinerlaw15_FoldNotes.Pure := by
  intro a0 a1 _ _
  have c0 := cut_of a0 3000 (by omega)
  have c1 := cut_of a1 100 (by omega)
  have z0 : (a0.extract 0 (mn (a0.size : Int) 3000).toNat).size ≤ 3000 := cut_sz a0 3000
  have z1 : (a1.extract 0 (mn (a1.size : Int) 100).toNat).size ≤ 100 := cut_sz a1 100
  refine ⟨20000, ?_⟩
  unfold latinerlaw15_FoldNotes.f
  rw [shown_k _ (by omega), Option.bind_some, if_pos c0.1, if_pos c0.2.1, if_pos c1.1, if_pos c1.2.1]
  exact notes_go _ _ z0 z1 (a1.extract 0 (mn (a1.size : Int) 100).toNat).size 20000 0 (by omega) (by omega) (by simp)
end Go.Proofs.YtjnfoocmilbdlaaGreatDoor.Pure
/- A claim's hand-over whose walk may also use that the start is shaped: the cell of a package-level variable that the rows do not list is still of its type. -/
namespace Go.Proofs.YtjnfoocmilbdlaaGreatDoor
set_option linter.unusedSimpArgs false
set_option linter.unusedVariables false
namespace HandSh
open Go.RowKit Go.ChangeShapes Go.WideShapes Go.ChangeAt
theorem handed_shaped {H : Type} {enc : TypeId × Value → H} {a : Assume} {C : Checked} {os : Os} {f : FuncId} {fn : Func} {s : ChangeSpec} {conds : List PathCond} {apart fresh handsOn again : Bool} {X : World → Array Value → Prop}
    (hX : ∀ (w w' : World) (args : Array Value), w.heap = w'.heap → X w args → X w' args)
    (own : ownKnob C.prog.godebug = none) (started : os.Started) (noInit : C.prog.inits.idxOf? f = none) (hfn : C.prog.funcs[f]? = some fn)
    (witness : ∃ (w : World) (tape : Tape) (i : Input), w.os = os ∧ (w.forCall tape i).Shaped C.prog ∧ i.vars = [] ∧ Input.okWide C.prog (w.forCall tape i) .any w.heap.size f i ∧
      ((s.pre enc C.prog fn conds apart (w.forCall tape i).memory i.args ∧ X (w.forCall tape i).memory i.args) ∧ sizedMet enc C.prog fn (OpenSpec.ofChange s) apart (w.forCall tape i).memory i.args) ∧ a.holds C.prog (lone (Frame.enter C.prog f i.args .normal) [] (w.forCall tape i)))
    (contract : ∀ (W : World) (base : Nat) (args : Array Value) (ds gs : List (DataW H)) (before : List MemPlace), W.ShapedOpen C.prog →
      (∀ (j : Nat) t v, fn.params[j]? = some t → args[j]? = some v → Value.okWide C.prog W .any base t v) →
      DataW.Whole enc C.prog fn.params.toList s.vars apart W args.toList ds gs before →
      (DataW.weightsEach C.prog (fn.params.toList ++ s.plain.varTypes C.prog) (ds ++ gs)).all (· ≤ reachBytes) = true → X W args →
      Calls C.prog f args W fun e W' => ∃ v, e = .returned v ∧ s.post enc C.prog fn apart fresh handsOn again W args v W') :
    ReturnsInHanded a C os f .any (fun w args => (s.pre enc C.prog fn conds apart w args ∧ X w args) ∧ sizedMet enc C.prog fn (OpenSpec.ofChange s) apart w args) (s.post enc C.prog fn apart fresh handsOn again) :=
  returnsInHanded_of_calls own started noInit witness fun w tape i _ hsh _ hok hpre _ => by
    obtain ⟨_, _, _, g, hg, _, _, _, _, hval⟩ := hok
    obtain rfl : g = fn := Option.some.inj (hg.symm.trans hfn)
    obtain ⟨⟨⟨ds, gs, before, hw, _⟩, hx⟩, hz⟩ := hpre
    have hw' := DataW.Whole.of_heap (w' := w.forCall tape i) (by rfl) hw
    refine (contract _ w.heap.size _ ds gs before hsh hval hw' (hz.weights hw) (hX _ _ _ (by rfl) hx)).mono ?_
    rintro e W' ⟨v, rfl, hp⟩
    exact ChangeSpec.post_blind hp
theorem maxLen_of_shaped {W : World} (h : W.ShapedOpen Tryz.prog) : ∃ M, W.cell? ⟨6, 0, none⟩ = some (.int .i64 M) := Tryz.laysM145.s1_3 W h
end HandSh
end Go.Proofs.YtjnfoocmilbdlaaGreatDoor
namespace Go.Proofs.YtjnfoocmilbdlaaGreatDoor.foldNotes
set_option linter.unusedSimpArgs false
open Go.ChangeShapes Go.WideShapes Go.ChangeAt Go.RowKit
open Go.ChangeMaps (open_string shut_string)
open Go.Proofs.YtjnfoocmilbdlaaGreatDoor.FoldL (laid ga_of_laid door_met own rowStart rowStart_os rowStart_shaped)
set_option linter.unusedVariables false
set_option maxRecDepth 100000 in
theorem lifted (os : Os) (started : os.Started) (H : Type) (enc : TypeId × Value → H) :
    ReturnsInHanded {} Tryz.checked os 9 .any (fun w args => (Rows.foldNotesSpec.pre enc Tryz.prog Tryz.f9 [] false w args ∧ laidMetH Tryz.prog laid w) ∧ sizedMet enc Tryz.prog Tryz.f9 (OpenSpec.ofChange Rows.foldNotesSpec) false w args)
      (Rows.foldNotesSpec.post enc Tryz.prog Tryz.f9 false true false false) := by
  refine HandSh.handed_shaped (C := Tryz.checked) (X := fun w _ => laidMetH Tryz.prog laid w) (fun _ _ _ hh h => h.of_heap hh) own started (by kernel_rfl) Tryz.func9
    (ChangeSpec.witness_shaped (enc := enc) (C := Tryz.checked) (os := os) (X := fun w _ => laidMetH Tryz.prog laid w) false (rowStart os) #[.string ByteArray.empty, .string ByteArray.empty] 8 (rowStart_os os) (rowStart_shaped os _) (by kernel_rfl) (by kernel_rfl) (by kernel_rfl) (door_met os _)) ?_
  intro W base args ds gs before hsh hval0 hW hsz0 hL
  have hsz : (DataW.weightsEach Tryz.prog (Tryz.f9.params.toList ++ Rows.foldNotesSpec.plain.varTypes Tryz.prog) (ds ++ gs)).all (· ≤ reachBytes) = true := hsz0
  have hval : ∀ (j : Nat) t v, Tryz.f9.params[j]? = some t → args[j]? = some v → Value.okWide Tryz.prog W .any base t v := hval0
  have hW' := hW
  obtain ⟨p, q, hA0, hV, rfl, hfz, hnd⟩ := hW
  have hA : DataW.TrodAll enc Tryz.prog W 0 (fun _ => true) true Tryz.f9.params.toList args.toList ds p := hA0
  rw [Tryz.params9] at hA hval hsz
  obtain ⟨v0, vs0, d0, ds0, p0, q0, hargs, rfl, rfl, h0, r0⟩ := trodAll_cons hA
  obtain ⟨v1, vs1, d1, ds1, p1, q1, rfl, rfl, rfl, h1, r1⟩ := trodAll_cons r0
  obtain ⟨rfl, rfl, rfl⟩ := trodAll_nil r1
  obtain rfl : args = #[v0, v1] := by cases args; simp_all
  obtain ⟨rfl, rfl⟩ := trodVars_none hV
  obtain ⟨a0, rfl, rfl, rfl, y0⟩ := open_string Tryz.underlying9 (hval 0 9 v0 rfl rfl) h0
  have w0 : a0.size ≤ 140737488351232 := by
    have z := sized_string hsz (j := 0) (t := 9) rfl rfl
    rw [Array.length_toList] at z
    exact z
  obtain ⟨a1, rfl, rfl, rfl, y1⟩ := open_string Tryz.underlying9 (hval 1 9 v1 rfl rfl) h1
  have w1 : a1.size ≤ 140737488351232 := by
    have z := sized_string hsz (j := 1) (t := 9) rfl rfl
    rw [Array.length_toList] at z
    exact z
  clear hA0 hval0 hsz0 hsz
  refine (LFold.latinerlaw15_FoldNotes.walk Pure.FoldNotes a0 a1 W w0 w1 (ga_of_laid hL (HandSh.maxLen_of_shaped hsh))).mono fun e W' ⟨he, bel⟩ => ?_
  subst he
  exact ⟨_, rfl, _, _, _, [], _, [], hW', trodAll_mk1 (shut_bool Tryz.underlying4 _), (trodAll_cons_mk (shut_string Tryz.underlying9 y0) (trodAll_cons_mk (shut_string Tryz.underlying9 y1) trodAll_mk0)), rfl, bel.frame _, fun h => by cases h⟩
theorem said : Rows.FoldNotesSaid :=
  OpenClaim.holds_of_wide 9 Tryz.f9 rfl rfl rfl rfl rfl rfl rfl ⟨rfl, rfl, rfl, rfl, rfl⟩ rfl rfl rfl rfl rfl (by kernel_rfl) Tryz.func9 (by kernel_rfl)
    (of_decide_eq_true (by kernel_rfl)) (by unfold Func.isWrapper; first | (rw [if_pos (by decide +kernel)]; kernel_rfl) | (rw [if_neg (by decide +kernel)]; exact ⟨rfl, rfl⟩))
    (fun os started H enc _ => lifted os started H enc)
theorem plain (f : FuncId) (fn : Func) (hf : Tryz.pinned.checked.prog.funcNamed "latiner/latinerlaw15.FoldNotes" = some f) (hfn : Tryz.pinned.checked.prog.funcs[f]? = some fn) :
    true = Tryz.pinned.checked.prog.looks [] ∧ ∀ (j : Nat) t, fn.params[j]? = some t → Tryz.pinned.checked.prog.wantsStandIn t = false := by
  obtain rfl : f = 9 := Option.some.inj ((show Tryz.prog.funcNamed "latiner/latinerlaw15.FoldNotes" = some 9 by kernel_rfl).symm.trans hf) |>.symm
  obtain rfl : fn = Tryz.f9 := (Option.some.inj (Tryz.func9.symm.trans hfn)).symm
  refine ⟨by kernel_rfl, fun j t ht => ?_⟩
  rw [Tryz.params9] at ht
  have s_str : Tryz.prog.wantsStandIn 9 = false := by kernel_rfl
  have hm := Array.mem_of_getElem? ht
  simp at hm
  have hm2 : t = 9 := by omega
  clear hm
  subst hm2
  exact s_str
/-- The card. -/
theorem card : Rows.FoldNotesCardSaid :=
  Claim7.holds_tied_plain_at .later [] _ _ _ _ said (fun _ h => by cases h) (by kernel_rfl) (fun _ h => by cases h) foldNotes_row_tie rfl ⟨rfl, rfl⟩ (by kernel_rfl) rfl plain (by kernel_rfl)
end Go.Proofs.YtjnfoocmilbdlaaGreatDoor.foldNotes
namespace Go.Proofs.YtjnfoocmilbdlaaGreatDoor
theorem foldNotes_holds : Rows.FoldNotesCardSaid := foldNotes.card
end Go.Proofs.YtjnfoocmilbdlaaGreatDoor
