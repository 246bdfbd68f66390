/- utf's Right, Bad, Signs. -/
import Derived.Test.YtkjmabehphgmkaaDoorUtfW2
namespace Go.Proofs.YtkjmabehphgmkaaDoor
set_option linter.unusedSimpArgs false
set_option linter.unusedVariables false
namespace Utf
open Go.RowKit Go.Shelf Go.Proofs.YtkjmabehphgmkaaDoorW.PrintWords
attribute [local go_sem] Oper.semAt_some
set_option maxHeartbeats 1000000 in
theorem Right_c (s : ByteArray) (hs : s.size ≤ 4611686018427387904) (a0 : Addr) (w : World) (h : GU a0 w) :
    Calls Tryd.prog 17 #[.string s] w fun e w' => e = .returned (.bool (decide (bad s < 0))) ∧ Below w.heap.size w w' := by
  have HC := Lib.hid (check_c s hs a0 w h)
  go_enter Tryd.func17, Tryd.ntmps17
  go_wp2_with (go_at_call 32; refine HC.out.mono ?_)
  rintro e w1 ⟨rfl, hb⟩
  by_cases hbad : bad s < 0
  · have hv : chkV s = .nilIface := by unfold chkV; rw [if_pos hbad]
    rw [hv]
    go_wp2_with fail
    go_ret
    exact ⟨by simp [hbad], hb⟩
  · have hv : chkV s = werr (bad s) := by unfold chkV; rw [if_neg hbad]
    rw [hv]
    go_wp2_with fail
    go_ret
    exact ⟨by simp [hbad], hb⟩
set_option maxHeartbeats 1000000 in
theorem Bad_c (s : ByteArray) (hs : s.size ≤ 4611686018427387904) (a0 : Addr) (w : World) (h : GU a0 w) :
    Calls Tryd.prog 19 #[.string s] w fun e w' => e = .returned (.int .i64 (bad s)) ∧ Below w.heap.size w w' := by
  have hb0 : Below w.heap.size w (w.alloc (.cells #[.int .i64 0] 53)) := (Below.refl _ _).alloc (Nat.le_refl _) _
  have HC := Lib.hid (check_c s hs a0 _ (h.below hb0))
  go_enter Tryd.func19, Tryd.ntmps19
  go_wp2_with (go_at_call 32; refine HC.out.mono ?_)
  rintro e w1 ⟨rfl, hb⟩
  have hB1 := bl_trans hb0 hb
  have hr1 : w1.heap[w.heap.size]? = some (.cells #[.int .i64 0] 53 (0, 0)) := (Chg.of_below (S := fun _ => False) hb).heap (World.alloc_heap_new w _) (by simp)
  have hG1 := h.below hB1
  by_cases hbad : bad s < 0
  · have hv : chkV s = .nilIface := by unfold chkV; rw [if_pos hbad]
    have hd : bad s = -1 := by have := bad_ge s; omega
    rw [hv]
    go_wp2_with (go_at_call 33; refine (as_nil _ _).mono ?_; rintro e w' ⟨rfl, rfl⟩)
    go_ret
    exact ⟨by rw [hd]; rfl, hB1⟩
  · have hv : chkV s = werr (bad s) := by unfold chkV; rw [if_neg hbad]
    rw [hv]
    go_wp2_with (go_at_call 33; refine (as_hit (bad s) w.heap.size _ _ hG1.ga.et hr1 rfl).mono ?_)
    rintro e w2 ⟨rfl, hb2, hr2⟩
    have c0 := cell_of_row w2 w.heap.size 0 _ _ _ hr2
    simp at c0
    go_wp2_with fail
    go_ret
    exact ⟨rfl, hB1.trans hb2⟩
/-- What Signs answers. -/
def sgV (s : ByteArray) : List Int := if bad s < 0 then sgn s else []
def sgE (s : ByteArray) : Int := if bad s < 0 then 0 else 40
theorem info_int : (Tryd.prog.info? 3).map (fun i => (i.zero, i.size, i.bytes)) = some (some (.int .i64 0), 1, 8) := by kernel_rfl
/-- 'out = append(out, ..)', out in a box. -/
theorem box_appendedU {W w1 : World} {base B : Nat} {t e : TypeId} {size : Nat} {v v' : Value} {k m : Nat} {xs ys : List Value} {tmp : Obj}
    (hv : Boxed W B t v) (hte : t ≠ e) (hrow : W.ownsRow base e size v k xs) (hown' : w1.ownsRow base e size v' m ys) (hgrow : (W.alloc tmp).grownBy w1 v.ownBlock) :
    Boxed w1 B t v ∧ Boxed (w1.setCell ⟨B, 0, none⟩ v') B t v' ∧ (w1.setCell ⟨B, 0, none⟩ v').ownsRow base e size v' m ys ∧
      ∀ S : Nat → Prop, S B → (∀ r, v.ownBlock = some r → S r) → Chg S W (w1.setCell ⟨B, 0, none⟩ v') := by
  have hv1 : Boxed w1 B t v := (hv.alloc tmp).kept hgrow (hv.not_row hte hrow)
  exact ⟨hv1, hv1.set v', hown'.kept (grownBy_setCell' w1 B v') (.inr (hv1.not_row hte hown').symm), fun S hB hS => Chg.setCell (Chg.grown ((Chg.refl S W).alloc tmp) hgrow fun r er => .inl (hS r er)) hB v'⟩
set_option maxRecDepth 100000 in
set_option maxHeartbeats 4000000 in
theorem Signs_c (s : ByteArray) (hs : s.size ≤ 4611686018427) (a0 : Addr) (w : World) (h : GU a0 w) :
    Calls Tryd.prog 13 #[.string s] w fun e w' => ∃ v, e = .returned (.tuple #[v, .int .i64 (sgE s)]) ∧ w'.ownsRow w.heap.size 3 1 v (sgV s).length (nums .i64 (sgV s)) ∧ Below w.heap.size w w' := by
  have hT := h.tabs
  have hit := signs_it (9 - 1) (by decide) s (by omega) (w.heap.size + 2) (w.heap.size + 3) w.heap.size (fun j => j < w.heap.size) (tabs_lt hT).1 (tabs_lt hT).2 (by omega)
  refine (callsIn_wide (n := 9)).1 ?_
  refine callsIn_of_wp_marks Tryd.func13 rfl trivial ?_ rfl
  simp only [Tryd.ntmps13, List.size_toArray, List.length_cons, List.length_nil, Nat.reduceAdd, Nat.reduceSub, Array.replicate_succ, Array.replicate_zero, List.push_toArray, List.append_toArray, List.nil_append, List.cons_append]
  have HIT := Lib.hid hit
  have HT := Lib.hid hT
  have HG := Lib.hid h
  obtain ⟨xs, hxs⟩ : ∃ xs, (sc s s.size 0).1 = xs := ⟨_, rfl⟩
  have hlen : xs.length ≤ s.size := by
    rw [← hxs]
    obtain ⟨j, hr, _⟩ := bad_runs s
    have h1 := hr.len
    have h2 := hr.le (Nat.zero_le _)
    have : (sgn s).length = (sc s s.size 0).1.length := by simp [sgn]
    omega
  have hsgn : sgn s = xs.map (·.2) := by rw [← hxs]; rfl
  clear hit hT h
  gi_wp2_with fail
  refine ⟨trivial, (callsIn_wide.2 (signs_any s w.heap.size _)).mono ?_⟩
  rintro e w2 ⟨rfl, rfl⟩
  gi_wp2_with fail
  have hsz : ((((w.alloc (.cells #[.nilIface] 39)).alloc (.cells #[.slice none 0 0] 22)).alloc (.cells #[.string s] 43)).alloc (.cells #[.pointer (some ⟨w.heap.size, 0, none⟩)] 45)).heap.size = w.heap.size + 4 := by simp
  have c1 : Chg (fun _ => False) w ((((w.alloc (.cells #[.nilIface] 39)).alloc (.cells #[.slice none 0 0] 22)).alloc (.cells #[.string s] 43)).alloc (.cells #[.pointer (some ⟨w.heap.size, 0, none⟩)] 45)) := ((((Chg.refl _ w).alloc _).alloc _).alloc _).alloc _
  have k1 : ((((w.alloc (.cells #[.nilIface] 39)).alloc (.cells #[.slice none 0 0] 22)).alloc (.cells #[.string s] 43)).alloc (.cells #[.pointer (some ⟨w.heap.size, 0, none⟩)] 45)).heap[w.heap.size]? = some (.cells #[.nilIface] 39 (0, 0)) :=
    ((((Chg.refl (fun _ => False) _).alloc _).alloc _).alloc _).heap (World.alloc_heap_new w _) (by simp)
  have ko : Boxed ((((w.alloc (.cells #[.nilIface] 39)).alloc (.cells #[.slice none 0 0] 22)).alloc (.cells #[.string s] 43)).alloc (.cells #[.pointer (some ⟨w.heap.size, 0, none⟩)] 45)) (w.heap.size + 1) 22 (.slice none 0 0) := by
    have := World.alloc_heap_new (w.alloc (.cells #[.nilIface] 39)) (.cells #[.slice none 0 0] 22)
    exact (((Chg.refl (fun _ => False) _).alloc _).alloc _).heap (by simpa using this) (by simp)
  have k2 : ((((w.alloc (.cells #[.nilIface] 39)).alloc (.cells #[.slice none 0 0] 22)).alloc (.cells #[.string s] 43)).alloc (.cells #[.pointer (some ⟨w.heap.size, 0, none⟩)] 45)).heap[w.heap.size + 2]? = some (.cells #[.string s] 43 (0, 0)) := by
    have := World.alloc_heap_new ((w.alloc (.cells #[.nilIface] 39)).alloc (.cells #[.slice none 0 0] 22)) (.cells #[.string s] 43)
    exact ((Chg.refl (fun _ => False) _).alloc _).heap (by simpa using this) (by simp)
  have k3 : ((((w.alloc (.cells #[.nilIface] 39)).alloc (.cells #[.slice none 0 0] 22)).alloc (.cells #[.string s] 43)).alloc (.cells #[.pointer (some ⟨w.heap.size, 0, none⟩)] 45)).heap[w.heap.size + 3]? = some (.cells #[.pointer (some ⟨w.heap.size, 0, none⟩)] 45 (0, 0)) := by
    have := World.alloc_heap_new (((w.alloc (.cells #[.nilIface] 39)).alloc (.cells #[.slice none 0 0] 22)).alloc (.cells #[.string s] 43)) (.cells #[.pointer (some ⟨w.heap.size, 0, none⟩)] 45)
    simpa using this
  obtain ⟨i0, hi, hz0, hz1, hz2⟩ := info_parts info_int
  refine wpIn_range_itD1 rfl (by decide) (gf := 40) (lb := #[.pointer (some ⟨w.heap.size + 2, 0, none⟩), .pointer (some ⟨w.heap.size + 3, 0, none⟩)]) rfl trivial (enters_of Tryd.func40 (by kernel_rfl) rfl)
    HIT.out (fun j hj => by rw [hsz]; omega) (fun j => j = w.heap.size + 1) (fun j hj => by rw [hsz]; omega)
    (fun W hc hs2 => ⟨hc.heap k2 (by simp), hc.heap k3 (by simp), hc.heap k1 (by simp), by rw [hsz]; unfold LZ; omega, by rw [hsz]; unfold LZ; omega, by rw [hsz]; unfold LZ; omega, tabs_chg HT.out (c1.trans hc) (by simp) (by simp)⟩) (fun _ => rfl)
    (fun k U A => (∃ v, Boxed A (w.heap.size + 1) 22 v ∧ A.ownsRow w.heap.size 3 1 v k (nums .i64 ((xs.map (·.2)).take k)) ∧ U (w.heap.size + 1) ∧ ∀ r, v.ownBlock = some r → U r) ∧ Below w.heap.size w A ∧ w.heap.size ≤ A.heap.size) (fun _ _ _ _ => False)
    ?hI (fun _ _ _ _ _ h _ => h) ?hE ⟨⟨_, ko, World.ownsRow_nil _ _ _ _, rfl, fun r hr => by simp [Value.ownBlock] at hr⟩, bl_alloc (bl_alloc (bl_alloc (bl_alloc (Below.refl _ _) _) _) _) _, by rw [hsz]; omega⟩
    ?a1 ?assign ?body ?done ?stop
  case assign =>
    intro l x A K hK
    gi_wp2
    exact hK
  case stop => rintro c j U B _ h; exact h.elim
  case hE =>
    intro A B hE hc
    exact hc.heap hE (by rw [hsz]; unfold LZ; omega)
  case hI =>
    rintro k U A B ⟨⟨v, hv, hr, hu1, hu2⟩, hb, hs⟩ _ hc
    exact ⟨⟨v, hc.heap hv (fun q => q.1 hu1), own_move hr (fun r hr' => hc.block r (own_lt hr r hr') (fun q => q.1 (hu2 r hr'))), hu1, hu2⟩, below_chgU hb hs hc, Nat.le_trans hs hc.size⟩
  case body =>
    rintro k x U A _ hx ⟨⟨v, hv, hr, hu1, hu2⟩, hb, hs⟩ hU hs2
    rw [hxs] at hx
    have hkl : k < xs.length := (List.getElem?_eq_some_iff.1 hx).1
    have hvr : vr x.2 = true := by
      obtain ⟨j, hrr, _⟩ := bad_runs s
      exact hrr.vrs _ (by rw [hsgn]; exact List.mem_map.2 ⟨x, List.mem_of_getElem? hx, rfl⟩)
    have hwr : wrap64 x.2 = x.2 := by simp only [vr, decide_eq_true_eq] at hvr; unfold wrap64; omega
    have HW := Lib.hid hwr
    clear hvr hwr
    have htk : (xs.map (·.2)).take (k + 1) = (xs.map (·.2)).take k ++ [x.2] := by
      rw [List.take_add_one, List.getElem?_map, hx]; rfl
    have hc := hv.cell
    have HTK := Lib.hid htk
    rw [hsz] at hs2
    clear htk hx
    gi_wp2_with (gi_at_builtin; refine wpListIn_append_own_at _ rfl _ _ 22 rfl w.heap.size 3 i0 (.int .i64 0) 1 8 Tryd.underlying22 hi hz0 hz1 hz2 rfl (by decide) _ _ _ rfl (hr.alloc _) ⟨A.heap.size, 0, none⟩ 1 1 [.int .i64 (wrap64 x.2)] rfl rfl (cell_one_new _ _ _) (by simp [Value.oneCell']) (by unfold maxLen; omega) (by omega) (by simp; omega) ?_; intro v' w3 hown' hgrow _ hat; obtain ⟨g', cap', rfl⟩ := ownsRow_succ hown'; obtain ⟨hv1, hv2, hr2, hk2⟩ := box_appendedU hv (by decide) hr hown' hgrow; have hc1 := hv1.cell; have hf1 := hv1.frozen; have HAT := Lib.hid hat; have HR2 := Lib.hid hr2; have HK2 := Lib.hid hk2; have HV2 := Lib.hid hv2; clear hat hr2 hk2 hv2 hgrow hown')
    have hbA := own_base hr
    have hsz3 := (HK2.out (fun _ => True) trivial (fun _ _ => trivial)).size
    refine ⟨fun j => U j ∨ some j = (Value.slice (some ⟨g', 0, none⟩) (k + 1) cap').ownBlock, ⟨fun j hj => ?_, fun j hj => ?_, HK2.out _ hu1 hu2⟩, ⟨_, HV2.out, ?_, .inl hu1, fun r hr => .inr hr.symm⟩, Below.chg hb (HK2.out (fun z => w.heap.size ≤ z) (by simp) (fun r hr' => hbA r hr')) hs (fun z hz => hz), by omega⟩
    · rcases hj with hj | hj
      · exact .inl hj
      · rcases HAT.out with e | e
        · exact .inl (hu2 j (e.symm.trans hj.symm))
        · right
          have := Option.some.inj (hj.trans e)
          simp at this
          omega
    · rcases hj with hj | hj
      · have := (hU j hj).1; omega
      · exact own_lt HR2.out j hj.symm
    · rw [HTK.out, nums_append]
      have := HR2.out
      rw [HW.out] at this
      exact this
  case done =>
    rintro U B ⟨⟨v, hv, hr, hu1, hu2⟩, hb, hbs⟩ hE hU hs2 hK
    have hE' : Boxed B w.heap.size 39 (chkV s) := hE
    have hc := hE'.cell
    have hc2 := hv.cell
    rw [hsz] at hs2 hK
    rw [hxs] at hr
    rw [List.take_of_length_le (by simp), ← hsgn] at hr
    have hl : xs.length = (sgn s).length := by rw [hsgn]; simp
    rw [hl] at hr
    obtain ⟨A', c', rfl⟩ := own_slice hr
    by_cases hbad : bad s < 0
    · have hv1 : chkV s = .nilIface := by unfold chkV; rw [if_pos hbad]
      rw [hv1] at hc
      have HR := Lib.hid hr
      have HL := Lib.hid (show sgV s = sgn s from if_pos hbad)
      have HN := Lib.hid (show sgE s = 0 from if_pos hbad)
      have HB := Lib.hid hbad
      clear hE hE' hr hbad hv hu1 hu2 hU hsgn hlen hl hxs
      gi_wp2_with fail
      refine ⟨by simp, .inl ⟨_, _, rfl, run_takeDeferred (by rw [hsz]; exact hK), ?_⟩⟩
      refine ⟨_, results_tmp2 rfl _ _ _, _, by rw [HN.out]; rfl, ?_, Below.chg hb ((Chg.refl (fun z => w.heap.size ≤ z) B).putObj (by rw [hsz]; omega) _) hbs (fun z hz => hz)⟩
      rw [HL.out]
      refine own_move HR.out (fun r hr' => World.putObj_heap_other ?_)
      rintro rfl
      obtain ⟨cs, hcs⟩ := own_typed HR.out _ hr'
      rw [hsz, hK] at hcs
      cases hcs
    · have hv1 : chkV s = werr (bad s) := by unfold chkV; rw [if_neg hbad]
      rw [hv1] at hc
      have HL := Lib.hid (show sgV s = [] from if_neg hbad)
      have HN := Lib.hid (show sgE s = 40 from if_neg hbad)
      clear hE hE' hr hbad hv hu1 hu2 hU hsgn hlen hl hxs
      gi_wp2_with fail
      refine ⟨trivial, (callsIn_wide.2 (told_bad (bad s) a0 _ (HG.out.ga.below hb))).mono ?_⟩
      rintro e w3 ⟨rfl, hb3⟩
      have hK3 := (Chg.of_below (S := fun _ => False) hb3).heap hK (by simp)
      have hs3 := hb3.size
      gi_wp2_with fail
      refine ⟨by simp, .inl ⟨_, _, rfl, run_takeDeferred (by first | exact hK3 | (rw [hsz]; exact hK3)), ?_⟩⟩
      refine ⟨_, results_tmp2 rfl _ _ _, _, by rw [HN.out]; rfl, ?_, Below.chg (bl_trans hb hb3) ((Chg.refl (fun z => w.heap.size ≤ z) w3).putObj (by first | omega | (rw [hsz]; omega)) _) (by omega) (fun z hz => hz)⟩
      rw [HL.out]
      exact World.ownsRow_nil _ _ _ _
end Utf
end Go.Proofs.YtkjmabehphgmkaaDoor
