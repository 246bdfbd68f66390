/- A line is unfolded from what it is folded to, whose rows have at most 76 bytes. The card of the statement, out of the walk and the plain law. Conditions: none beyond the card's own (the listed package variables as the program's text lays them).
-/
import Derived.Test.YtjnfoocmilbdlaaGreatDoorTFoldBack3
namespace Go.Proofs.YtjnfoocmilbdlaaGreatDoor.Pure
set_option linter.unusedSimpArgs false
set_option linter.unusedVariables false
open Go.RowKit Go.Proofs.YtjnfoocmilbdlaaGreatDoor.LFold Go.Proofs.YtjnfoocmilbdlaaGreatDoor.ExtFold Go.Proofs.YtjnfoocmilbdlaaGreatDoor.Fold Go.Proofs.YtjnfoocmilbdlaaGreatDoorW.PrintWords Go.Proofs.YtjnfoocmilbdlaaGreatDoorW.PrintLast Go.Proofs.YtjnfoocmilbdlaaGreatDoor.PureB
open Go.Proofs.YtjnfoocmilbdlaaGreatDoor.Code (bl bl_len bl_get bl_byte Byt bl_son son_bl bl_append bl_extract)
theorem foldR_len2 : ∀ (f w : Nat) (l : List Int), 75 ≤ w → 75 * (foldR f w l).length ≤ 77 * l.length + 75
  | 0, _, _, _ => Nat.zero_le _
  | f + 1, w, l, hw => by
    have ih := foldR_len2 f 75 (l.drop w) (by omega)
    have hl : (l.drop w).length = l.length - w := List.length_drop
    have ht : (l.take w).length = min w l.length := List.length_take
    simp only [foldR, List.length_append, List.length_cons, List.length_nil]
    by_cases hd : l.drop w = []
    · rw [if_pos hd]; simp only [List.length_nil]; omega
    · have h3 : 0 < (l.drop w).length := List.length_pos_iff.2 hd
      rw [if_neg hd]; simp only [List.length_cons]
      omega
/-- rows of at most 76 -/
def fit : Nat → List Int → Prop
  | _, [] => True
  | n, c :: r => if c = 10 then fit 0 r else n + 1 ≤ 76 ∧ fit (n + 1) r
theorem fit_row : ∀ (a : List Int) (n : Nat) (b : List Int), (10 : Int) ∉ a → n + a.length ≤ 76 → fit 0 b → fit n (a ++ 10 :: b)
  | [], n, b, _, _, h => by simp only [List.nil_append, fit, if_true]; exact h
  | c :: a, n, b, h, hn, hb => by
    simp only [List.mem_cons, not_or] at h
    simp only [List.length_cons] at hn
    simp only [List.cons_append, fit]
    rw [if_neg (fun e => h.1 e.symm)]
    exact ⟨by omega, fit_row a (n + 1) b h.2 (by omega) hb⟩
theorem fit_fold : ∀ (f : Nat) (w n : Nat) (l p : List Int), (10 : Int) ∉ l → (10 : Int) ∉ p → p.length + w ≤ 76 → n = 0 → fit n (p ++ foldR (f + 1) w l)
  | f, w, n, l, p, hl, hp, hw, hn => by
    subst hn
    have ht : (l.take w).length = min w l.length := List.length_take
    simp only [foldR]
    rw [show p ++ (l.take w ++ [10] ++ if l.drop w = [] then [] else 32 :: foldR f 75 (l.drop w)) = (p ++ l.take w) ++ 10 :: (if l.drop w = [] then [] else 32 :: foldR f 75 (l.drop w)) by simp]
    refine fit_row _ 0 _ (fun e => ?_) (by rw [List.length_append]; omega) ?_
    · rcases List.mem_append.1 e with q | q
      · exact hp q
      · exact hl (List.mem_of_mem_take q)
    · by_cases hd : l.drop w = []
      · rw [if_pos hd]; trivial
      · rw [if_neg hd]
        cases f with
        | zero => simp [foldR, fit]
        | succ f => exact fit_fold f 75 0 (l.drop w) [32] (fun e => hl (List.mem_of_mem_drop e)) (by simp) (by simp) rfl
theorem back_l1 (s T : ByteArray) (X : List ByteArray) (e : Int) (B : Bool) (hT : T.size ≤ 8000) (hlast : ∃ m, bl T = m ++ [10]) (hB : B = false → e = 0 ∧ X = [s]) (d : Nat) :
    ∀ (k j n : Nat), T.size = j + d → d + 10 < k → n ≤ 76 → fit n ((bl T).drop j) → latinerlaw15_FoldBack.l1 k s true T X e (n : Int) B (j : Int) = some true := by
  have hp : 0 < T.size := by
    obtain ⟨m, hm⟩ := hlast
    rw [← bl_len, hm]
    simp
  induction d with
  | zero =>
    intro k j n hj hk hn hf
    obtain ⟨k, rfl⟩ : ∃ m, k = m + 1 := ⟨k - 1, by omega⟩
    have hx : (T.extract (((T.size : Int) - 1) : Int).toNat T.size).toList = ([10] : List UInt8) := by
      obtain ⟨m, hm⟩ := hlast
      have hmz : m.length = T.size - 1 := by
        have := bl_len T
        rw [hm, List.length_append] at this
        simp only [List.length_cons, List.length_nil] at this
        omega
      have hb : bl (T.extract (((T.size : Int) - 1) : Int).toNat T.size) = [10] := by
        rw [bl_extract, List.take_of_length_le (by rw [bl_len]; exact Nat.le_refl _), hm, show ((T.size : Int) - 1).toNat = m.length by omega, List.drop_left]
      have h2 : T.extract (((T.size : Int) - 1) : Int).toNat T.size = ⟨#[10]⟩ := by rw [← son_bl (T.extract _ _), hb]; rfl
      rw [h2, Lib.toList_data]
    conv => lhs; rw [latinerlaw15_FoldBack.l1]
    rw [if_neg (by omega), if_pos rfl, w64 (by omega) (by omega), if_pos (by omega), if_pos (by omega), if_pos hx]
    cases B with
    | true => rw [if_pos rfl]
    | false =>
      obtain ⟨h1, h2⟩ := hB rfl
      rw [if_neg (by decide), if_pos h1, h2, texts_refl _ (by simp) _ (by simp only [List.length_cons, List.length_nil]; omega)]
      rfl
  | succ d ih =>
    intro k j n hj hk hn hf
    obtain ⟨k, rfl⟩ : ∃ m, k = m + 1 := ⟨k - 1, by omega⟩
    have hg := bl_get T j (by omega)
    have hd : (bl T).drop j = bt T (j : Int) :: (bl T).drop (j + 1) := by
      rw [List.drop_eq_getElem_cons (by rw [bl_len]; omega)]
      congr 1
      exact (List.getElem?_eq_some_iff.1 hg).2
    rw [hd] at hf
    simp only [fit] at hf
    conv => lhs; rw [latinerlaw15_FoldBack.l1]
    rw [if_pos (by omega), if_pos (by omega)]
    by_cases h10 : bt T (j : Int) = 10
    · rw [if_pos h10] at hf
      rw [if_pos h10, if_neg (by omega), w64 (by omega) (by omega)]
      exact ih k (j + 1) 0 (by omega) (by omega) (by omega) hf
    · rw [if_neg h10] at hf
      rw [if_neg h10, w64 (n := (n : Int) + 1) (by omega) (by omega), if_neg (by omega), w64 (by omega) (by omega)]
      exact ih k (j + 1) (n + 1) (by omega) (by omega) hf.1 hf.2
theorem back_l0 (s T : ByteArray) (X : List ByteArray) (e : Int) (hs : s.size ≤ 3000) (d : Nat) : ∀ (k j : Nat) (b : Bool), s.size = j + d →
    ∃ B, latinerlaw15_FoldBack.l0 (k + d + 1) s true T X e 0 b (j : Int) = latinerlaw15_FoldBack.l1 k s true T X e 0 B 0 ∧ (B = false → b = false ∧ ∀ i : Nat, j ≤ i → i < s.size → bt s i ≠ 0 ∧ bt s i ≤ 127) := by
  induction d with
  | zero =>
    intro k j b hj
    refine ⟨b, ?_, fun h => ⟨h, fun i h1 h2 => by omega⟩⟩
    conv => lhs; rw [latinerlaw15_FoldBack.l0]
    rw [if_neg (by omega)]
  | succ d ih =>
    intro k j b hj
    have e1 : k + (d + 1) + 1 = (k + d + 1) + 1 := by omega
    rw [e1]
    conv => enter [1, B, 1, 1]; rw [latinerlaw15_FoldBack.l0]
    rw [if_pos (by omega), w64 (by omega) (by omega)]
    cases b with
    | true =>
      obtain ⟨B, h1, h2⟩ := ih k (j + 1) true (by omega)
      exact ⟨B, by rw [if_pos rfl]; exact h1, fun q => absurd (h2 q).1 (by decide)⟩
    | false =>
      rw [if_neg (by decide), if_pos (by omega)]
      by_cases h0 : bt s (j : Int) = 0
      · obtain ⟨B, h1, h2⟩ := ih k (j + 1) true (by omega)
        exact ⟨B, by rw [if_pos h0]; exact h1, fun q => absurd (h2 q).1 (by decide)⟩
      · obtain ⟨B, h1, h2⟩ := ih k (j + 1) (decide (bt s (j : Int) > 127)) (by omega)
        refine ⟨B, by rw [if_neg h0]; exact h1, fun q => ⟨rfl, fun i hi1 hi2 => ?_⟩⟩
        by_cases hij : i = j
        · subst hij
          have := of_decide_eq_false (h2 q).1
          exact ⟨h0, by omega⟩
        · exact (h2 q).2 i (by omega) hi2
theorem FoldBack : latinerlaw15_FoldBack.Pure := by
  intro a0 _
  have c0 := cut_of a0 3000 (by omega)
  have z0 : (a0.extract 0 (mn (a0.size : Int) 3000).toNat).size ≤ 3000 := cut_sz a0 3000
  refine ⟨20000, ?_⟩
  unfold latinerlaw15_FoldBack.f
  rw [shown_k _ (by omega), Option.bind_some, if_pos c0.1, if_pos c0.2.1]
  generalize a0.extract 0 (mn (a0.size : Int) 3000).toNat = s at z0 ⊢
  have hl : (bl s).length = s.size := bl_len s
  have h8 : ¬ (bl s).length > 8000 := by omega
  cases hb : brk (bl s) with
  | true =>
    have hv : fdV (bl s) = [] := by unfold fdV; rw [if_neg h8, hb]; rfl
    have he : fdE (bl s) = 150 := by unfold fdE; rw [if_neg h8, hb]; rfl
    rw [fold_f _ (by omega), Option.bind_some, hv, he]
    dsimp only
    rw [unfold_f _ (by show 0 ≤ 100000; omega), Option.bind_some, if_neg (by omega), if_pos rfl, show (strOfNums []).toList = ([] : List UInt8) from toList_nil.2 rfl]
    rfl
  | false =>
    have hv : fdV (bl s) = foldL (bl s) := by unfold fdV; rw [if_neg h8, hb]; rfl
    have he : fdE (bl s) = 0 := by unfold fdE; rw [if_neg h8, hb]; rfl
    have hn10 : (10 : Int) ∉ bl s := fun e => by
      unfold brk at hb
      rw [List.any_eq_false] at hb
      exact hb 10 e (by simp)
    have hn13 : (13 : Int) ∉ bl s := fun e => by
      unfold brk at hb
      rw [List.any_eq_false] at hb
      exact hb 13 e (by simp)
    have hfl := foldR_len2 ((bl s).length + 1) 76 (bl s) (by omega)
    have hbT : bl (strOfNums (foldL (bl s))) = foldL (bl s) := bl_son _ (foldR_byt _ _ _ (bl_byte s))
    have hzT : (strOfNums (foldL (bl s))).size ≤ 4000 := by rw [son_size]; unfold foldL; omega
    have hlast : ∃ m, bl (strOfNums (foldL (bl s))) = m ++ [10] := by rw [hbT]; exact foldR_last _ 76 _ (by omega) (Nat.lt_succ_self _)
    have hfit : fit 0 (bl (strOfNums (foldL (bl s)))) := by rw [hbT]; exact fit_fold (bl s).length 76 0 (bl s) [] hn10 (by simp) (by simp) rfl
    rw [fold_f _ (by omega), Option.bind_some, hv, he]
    dsimp only
    rw [unfold_f _ (by omega), Option.bind_some, hbT]
    dsimp only
    have hz2 : (foldL (bl s)).length ≤ 8000 := by rw [← hbT, bl_len]; omega
    generalize hT : strOfNums (foldL (bl s)) = T at hzT hlast hfit
    have key : ∀ b : Bool, (b = false → headOk (bl s)) → latinerlaw15_FoldBack.j0 20000 s true T ((unfL (foldL (bl s))).map strOfNums) (unfE (foldL (bl s))) 0 b = some true := fun b hbb => by
      obtain ⟨B, h1, h2⟩ := back_l0 s T ((unfL (foldL (bl s))).map strOfNums) (unfE (foldL (bl s))) z0 s.size (19998 - s.size) 0 b (by omega)
      have e1 : 19998 - s.size + s.size + 1 = 19999 := by omega
      rw [e1, show ((0 : Nat) : Int) = 0 from rfl] at h1
      conv => lhs; rw [latinerlaw15_FoldBack.j0]
      rw [h1]
      refine back_l1 s T _ _ B (by omega) hlast (fun q => ?_) T.size _ 0 0 (by omega) (by omega) (by omega) hfit
      obtain ⟨h3, h4⟩ := h2 q
      have hu := unf_some hz2 (unf_fold (bl s) (fun y hy => by
        obtain ⟨i, hi, rfl⟩ := List.mem_iff_getElem.1 hy
        have h5 := h4 i (Nat.zero_le _) (by omega)
        have h6 := bl_get s i (by omega)
        have h7 := (List.getElem?_eq_some_iff.1 h6).2
        refine ⟨by rw [h7]; exact h5.1, fun e => hn10 (e ▸ hy), fun e => hn13 (e ▸ hy), by rw [h7]; exact h5.2⟩) (hbb h3))
      rw [hu.1, hu.2]
      exact ⟨rfl, by rw [List.map_cons, son_bl]; rfl⟩
    rw [if_pos rfl]
    by_cases h0 : bl s = []
    · rw [if_pos (toList_nil.2 (by rw [← hl, h0]; rfl))]
      exact key false (fun _ c r e => by rw [h0] at e; cases e)
    · have hp : 0 < s.size := by have := List.length_pos_iff.2 h0; rw [bl_len] at this; exact this
      have hg := bl_get s 0 hp
      rw [if_neg (fun e => by rw [toList_nil] at e; omega), if_pos (by omega)]
      by_cases h32 : bt s 0 = 32
      · rw [if_pos h32]
        exact key true (fun q => by cases q)
      · rw [if_neg h32]
        refine key _ (fun q c r e => ?_)
        rw [e] at hg
        simp only [List.getElem?_cons_zero, Option.some.injEq] at hg
        rw [hg]
        exact ⟨h32, by simpa using q⟩
end Go.Proofs.YtjnfoocmilbdlaaGreatDoor.Pure
/- A claim's hand-over whose walk may also use that the start is shaped: the cell of a package-level variable that the rows do not list is still of its type. -/
namespace Go.Proofs.YtjnfoocmilbdlaaGreatDoor
set_option linter.unusedSimpArgs false
set_option linter.unusedVariables false
namespace HandSh
open Go.RowKit Go.ChangeShapes Go.WideShapes Go.ChangeAt
theorem handed_shaped {H : Type} {enc : TypeId × Value → H} {a : Assume} {C : Checked} {os : Os} {f : FuncId} {fn : Func} {s : ChangeSpec} {conds : List PathCond} {apart fresh handsOn again : Bool} {X : World → Array Value → Prop}
    (hX : ∀ (w w' : World) (args : Array Value), w.heap = w'.heap → X w args → X w' args)
    (own : ownKnob C.prog.godebug = none) (started : os.Started) (noInit : C.prog.inits.idxOf? f = none) (hfn : C.prog.funcs[f]? = some fn)
    (witness : ∃ (w : World) (tape : Tape) (i : Input), w.os = os ∧ (w.forCall tape i).Shaped C.prog ∧ i.vars = [] ∧ Input.okWide C.prog (w.forCall tape i) .any w.heap.size f i ∧
      ((s.pre enc C.prog fn conds apart (w.forCall tape i).memory i.args ∧ X (w.forCall tape i).memory i.args) ∧ sizedMet enc C.prog fn (OpenSpec.ofChange s) apart (w.forCall tape i).memory i.args) ∧ a.holds C.prog (lone (Frame.enter C.prog f i.args .normal) [] (w.forCall tape i)))
    (contract : ∀ (W : World) (base : Nat) (args : Array Value) (ds gs : List (DataW H)) (before : List MemPlace), W.ShapedOpen C.prog →
      (∀ (j : Nat) t v, fn.params[j]? = some t → args[j]? = some v → Value.okWide C.prog W .any base t v) →
      DataW.Whole enc C.prog fn.params.toList s.vars apart W args.toList ds gs before →
      (DataW.weightsEach C.prog (fn.params.toList ++ s.plain.varTypes C.prog) (ds ++ gs)).all (· ≤ reachBytes) = true → X W args →
      Calls C.prog f args W fun e W' => ∃ v, e = .returned v ∧ s.post enc C.prog fn apart fresh handsOn again W args v W') :
    ReturnsInHanded a C os f .any (fun w args => (s.pre enc C.prog fn conds apart w args ∧ X w args) ∧ sizedMet enc C.prog fn (OpenSpec.ofChange s) apart w args) (s.post enc C.prog fn apart fresh handsOn again) :=
  returnsInHanded_of_calls own started noInit witness fun w tape i _ hsh _ hok hpre _ => by
    obtain ⟨_, _, _, g, hg, _, _, _, _, hval⟩ := hok
    obtain rfl : g = fn := Option.some.inj (hg.symm.trans hfn)
    obtain ⟨⟨⟨ds, gs, before, hw, _⟩, hx⟩, hz⟩ := hpre
    have hw' := DataW.Whole.of_heap (w' := w.forCall tape i) (by rfl) hw
    refine (contract _ w.heap.size _ ds gs before hsh hval hw' (hz.weights hw) (hX _ _ _ (by rfl) hx)).mono ?_
    rintro e W' ⟨v, rfl, hp⟩
    exact ChangeSpec.post_blind hp
theorem maxLen_of_shaped {W : World} (h : W.ShapedOpen Tryz.prog) : ∃ M, W.cell? ⟨6, 0, none⟩ = some (.int .i64 M) := Tryz.laysM145.s1_3 W h
end HandSh
end Go.Proofs.YtjnfoocmilbdlaaGreatDoor
namespace Go.Proofs.YtjnfoocmilbdlaaGreatDoor.foldBack
set_option linter.unusedSimpArgs false
open Go.ChangeShapes Go.WideShapes Go.ChangeAt Go.RowKit
open Go.ChangeMaps (open_string shut_string)
open Go.Proofs.YtjnfoocmilbdlaaGreatDoor.FoldL (laid ga_of_laid door_met own rowStart rowStart_os rowStart_shaped)
set_option linter.unusedVariables false
set_option maxRecDepth 100000 in
theorem lifted (os : Os) (started : os.Started) (H : Type) (enc : TypeId × Value → H) :
    ReturnsInHanded {} Tryz.checked os 5 .any (fun w args => (Rows.foldBackSpec.pre enc Tryz.prog Tryz.f5 [] false w args ∧ laidMetH Tryz.prog laid w) ∧ sizedMet enc Tryz.prog Tryz.f5 (OpenSpec.ofChange Rows.foldBackSpec) false w args)
      (Rows.foldBackSpec.post enc Tryz.prog Tryz.f5 false true false false) := by
  refine HandSh.handed_shaped (C := Tryz.checked) (X := fun w _ => laidMetH Tryz.prog laid w) (fun _ _ _ hh h => h.of_heap hh) own started (by kernel_rfl) Tryz.func5
    (ChangeSpec.witness_shaped (enc := enc) (C := Tryz.checked) (os := os) (X := fun w _ => laidMetH Tryz.prog laid w) false (rowStart os) #[.string ByteArray.empty] 8 (rowStart_os os) (rowStart_shaped os _) (by kernel_rfl) (by kernel_rfl) (by kernel_rfl) (door_met os _)) ?_
  intro W base args ds gs before hsh hval0 hW hsz0 hL
  have hsz : (DataW.weightsEach Tryz.prog (Tryz.f5.params.toList ++ Rows.foldBackSpec.plain.varTypes Tryz.prog) (ds ++ gs)).all (· ≤ reachBytes) = true := hsz0
  have hval : ∀ (j : Nat) t v, Tryz.f5.params[j]? = some t → args[j]? = some v → Value.okWide Tryz.prog W .any base t v := hval0
  have hW' := hW
  obtain ⟨p, q, hA0, hV, rfl, hfz, hnd⟩ := hW
  have hA : DataW.TrodAll enc Tryz.prog W 0 (fun _ => true) true Tryz.f5.params.toList args.toList ds p := hA0
  rw [Tryz.params5] at hA hval hsz
  obtain ⟨v0, vs0, d0, ds0, p0, q0, hargs, rfl, rfl, h0, r0⟩ := trodAll_cons hA
  obtain ⟨rfl, rfl, rfl⟩ := trodAll_nil r0
  obtain rfl : args = #[v0] := by cases args; simp_all
  obtain ⟨rfl, rfl⟩ := trodVars_none hV
  obtain ⟨a0, rfl, rfl, rfl, y0⟩ := open_string Tryz.underlying9 (hval 0 9 v0 rfl rfl) h0
  have w0 : a0.size ≤ 140737488351232 := by
    have z := sized_string hsz (j := 0) (t := 9) rfl rfl
    rw [Array.length_toList] at z
    exact z
  clear hA0 hval0 hsz0 hsz
  refine (LFold.latinerlaw15_FoldBack.walk Pure.FoldBack a0 W w0 (ga_of_laid hL (HandSh.maxLen_of_shaped hsh))).mono fun e W' ⟨he, bel⟩ => ?_
  subst he
  exact ⟨_, rfl, _, _, _, [], _, [], hW', trodAll_mk1 (shut_bool Tryz.underlying4 _), (trodAll_cons_mk (shut_string Tryz.underlying9 y0) trodAll_mk0), rfl, bel.frame _, fun h => by cases h⟩
theorem said : Rows.FoldBackSaid :=
  OpenClaim.holds_of_wide 5 Tryz.f5 rfl rfl rfl rfl rfl rfl rfl ⟨rfl, rfl, rfl, rfl, rfl⟩ rfl rfl rfl rfl rfl (by kernel_rfl) Tryz.func5 (by kernel_rfl)
    (of_decide_eq_true (by kernel_rfl)) (by unfold Func.isWrapper; first | (rw [if_pos (by decide +kernel)]; kernel_rfl) | (rw [if_neg (by decide +kernel)]; exact ⟨rfl, rfl⟩))
    (fun os started H enc _ => lifted os started H enc)
theorem plain (f : FuncId) (fn : Func) (hf : Tryz.pinned.checked.prog.funcNamed "latiner/latinerlaw15.FoldBack" = some f) (hfn : Tryz.pinned.checked.prog.funcs[f]? = some fn) :
    true = Tryz.pinned.checked.prog.looks [] ∧ ∀ (j : Nat) t, fn.params[j]? = some t → Tryz.pinned.checked.prog.wantsStandIn t = false := by
  obtain rfl : f = 5 := Option.some.inj ((show Tryz.prog.funcNamed "latiner/latinerlaw15.FoldBack" = some 5 by kernel_rfl).symm.trans hf) |>.symm
  obtain rfl : fn = Tryz.f5 := (Option.some.inj (Tryz.func5.symm.trans hfn)).symm
  refine ⟨by kernel_rfl, fun j t ht => ?_⟩
  rw [Tryz.params5] at ht
  have s_str : Tryz.prog.wantsStandIn 9 = false := by kernel_rfl
  have hm := Array.mem_of_getElem? ht
  simp at hm
  have hm2 : t = 9 := by omega
  clear hm
  subst hm2
  exact s_str
/-- The card. -/
theorem card : Rows.FoldBackCardSaid :=
  Claim7.holds_tied_plain_at .later [] _ _ _ _ said (fun _ h => by cases h) (by kernel_rfl) (fun _ h => by cases h) foldBack_row_tie rfl ⟨rfl, rfl⟩ (by kernel_rfl) rfl plain (by kernel_rfl)
end Go.Proofs.YtjnfoocmilbdlaaGreatDoor.foldBack
namespace Go.Proofs.YtjnfoocmilbdlaaGreatDoor
theorem foldBack_holds : Rows.FoldBackCardSaid := foldBack.card
end Go.Proofs.YtjnfoocmilbdlaaGreatDoor
