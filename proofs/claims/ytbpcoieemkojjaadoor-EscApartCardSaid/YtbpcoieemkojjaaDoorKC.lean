/- KC: several texts of this seat laid as one. -/
import Derived.Test.YtbpcoieemkojjaaDoorKB
import Derived.Test.YtbpcoieemkojjaaDoorKA
import Derived.Below
import Derived.Test.YtbpcoieemkojjaaDoorShelf
import Derived.Lib.OthersKept
import Derived.Deep.RegionHeld3
import Derived.Maps.OwnIn
/- esc's small functions, the iterator over a text's bytes, the two rules. -/
namespace Go.Proofs.YtbpcoieemkojjaaDoor
set_option linter.unusedSimpArgs false
set_option linter.unusedVariables false
namespace Esc
open Go.RowKit Go.Shelf Go.Proofs.YtbpcoieemkojjaaDoorW.PrintWords Go.Proofs.YtbpcoieemkojjaaDoor.Code Go.Proofs.YtbpcoieemkojjaaDoor.PureB
attribute [local go_sem] Oper.semAt_some
set_option maxHeartbeats 4000000 in
theorem isOne_c (b : Int) (ls : List Int) (n : Nat) (hn : ls.length = n) (hn2 : n ≤ 100) (g : Nat) (w : World) (hr : ∀ (j : Nat) u, ls[j]? = some u → w.cell? ⟨g, j, none⟩ = some (.int .u8 u)) :
    Calls Tryd.prog 27 #[.int .u8 b, .slice (some ⟨g, 0, none⟩) n n] w fun e w' => e = .returned (.bool (decide (b ∈ ls))) ∧ Below w.heap.size w w' := by
  have HR := Lib.hid hr
  clear hr
  go_enter Tryd.func27, Tryd.ntmps27
  go_wp2_with fail
  go_loopw [9] (fun i wr => ∃ j : Nat, i = .int .i64 j ∧ j ≤ n ∧ RowKit.Hid (∀ k : Nat, k < j → ls[k]? ≠ some b) ∧ Below w.heap.size w wr)
    (fun i _ => n - (intOf i).toNat)
  case atStart => exact ⟨0, rfl, Nat.zero_le _, Lib.hid (fun k hk => absurd hk (Nat.not_lt_zero _)), Below.refl _ _⟩
  case round =>
    obtain ⟨j, rfl, hj, HV, hb⟩ := hrel
    by_cases hlt : j < n
    · obtain ⟨x, hx⟩ : ∃ x, ls[j]? = some x := ⟨ls[j]'(by omega), List.getElem?_eq_getElem (by omega)⟩
      have hc0 := HR.out j x hx
      have hc := (hb.cell (lt_of_cell hc0)).trans hc0
      clear hc0
      by_cases hq : b = x
      · have HQ : RowKit.Hid (decide (b ∈ ls) = true) := Lib.hid (by rw [decide_eq_true_eq, hq]; exact List.mem_of_getElem? hx)
        subst hq
        clear hx
        go_wp2_with fail
        all_goals first | go_region | skip
        all_goals go_wp2_with fail
        all_goals refine bodyPost_ret (v := .bool true) (by simp [results, Tryd.results27, go_sem]) rfl ⟨by rw [HQ.out], by repeat (first | exact hb | refine Below.drew ?_)⟩
      · have HX := Lib.hid hx
        clear hx
        go_wp2_with fail
        all_goals first | go_region | skip
        all_goals go_wp2_with fail
        go_roundw
        case rel => exact ⟨j + 1, by simp, by omega, Lib.hid (fun k hk => by
          rcases Nat.lt_or_ge k j with h1 | h1
          · exact HV.out k h1
          · rw [show k = j by omega, HX.out]; intro e; exact hq (Option.some.inj e).symm), by repeat (first | exact hb | refine Below.drew ?_)⟩
        case measure => simp [intOf]; omega
    · obtain rfl : j = n := by omega
      have HQ : RowKit.Hid (decide (b ∈ ls) = false) := Lib.hid (by
        apply decide_eq_false
        intro hm
        obtain ⟨k, hk⟩ := List.mem_iff_getElem?.1 hm
        exact HV.out k (by have := (List.getElem?_eq_some_iff.1 hk).1; omega) hk)
      go_wp2_with fail
      refine bodyPost_ret (v := .bool false) (by simp [results, Tryd.results27, go_sem]) rfl ⟨by rw [HQ.out], by repeat (first | exact hb | refine Below.drew ?_)⟩
theorem isPlain_c (b : Int) (w : World) : Calls Tryd.prog 26 #[.int .u8 b] w fun e w' => e = .returned (.bool (pl b)) ∧ w' = w := by
  go_enter Tryd.func26, Tryd.ntmps26
  go_wp2
  all_goals go_ret
  all_goals refine ⟨?_, rfl⟩
  all_goals (simp [pl]; try omega)
/-! The iterator. -/
theorem bytes_any (s : ByteArray) (w : World) : Calls Tryd.prog 35 #[.string s] w
    fun e w' => e = .returned (.func (.func 47) #[] #[.pointer (some ⟨w.heap.size, 0, none⟩)]) ∧ w' = w.alloc (.cells #[.string s] 9) := by
  go_enter Tryd.func35, Tryd.ntmps35
  go_wp2
  go_ret
  exact ⟨rfl, rfl⟩
/-- A text's bytes, each with its place. -/
def byp (s : ByteArray) : List (Int × Int) := (List.range s.size).map fun (j : Nat) => ((j : Int), bt s j)
theorem byp_len (s : ByteArray) : (byp s).length = s.size := by simp [byp]
theorem byp_get (s : ByteArray) (j : Nat) (h : j < s.size) : (byp s)[j]? = some ((j : Int), bt s j) := by simp [byp, h]
def SB (s : ByteArray) (B : Nat) (W : World) : Prop := W.heap[B]? = some (.cells #[.string s] 9 (0, 0))
set_option maxRecDepth 100000 in
set_option maxHeartbeats 2000000 in
theorem bytes_it (m : Nat) (hm : 1 ≤ m) (s : ByteArray) (hs : s.size ≤ 4611686018427387904) (B : Nat) :
    IterE Fence.wide m Tryd.prog 47 #[.pointer (some ⟨B, 0, none⟩)] (fun x : Int × Int => #[.int .i64 x.1, .int .u8 x.2]) (byp s) (SB s B) := by
  intro l J Jx W hW hJ hJx hY h0
  have HW := Lib.hid hW
  have HJ := Lib.hid hJ
  have HY := Lib.hid hY
  have HJx := Lib.hid hJx
  have r0 := hW 0 W h0
  have z0 := cell_of_row W B 0 _ _ _ r0
  simp at z0
  clear hW hJ hY hJx
  refine callsIn_of_wp Tryd.func47 rfl trivial ?_ rfl
  simp only [Tryd.ntmps47, List.size_toArray, List.length_cons, List.length_nil, Nat.reduceAdd, Nat.reduceSub, Array.replicate_succ, Array.replicate_zero, List.push_toArray, List.append_toArray, List.nil_append, List.cons_append]
  refine wpIn_wide.2 (wp_scope_straight ((wpIn_wide (n := m)).1 (wpIn_seq (wpIn_label ?_))))
  gi_wp2_with fail
  gi_loopw [6] (fun v wr => ∃ k : Nat, v = .int .i64 k ∧ k ≤ s.size ∧ J k wr)
    (fun v _ => s.size - (intOf v).toNat)
  case atStart => exact ⟨0, rfl, Nat.zero_le _, h0⟩
  case round =>
    obtain ⟨k, rfl, hk, hJk⟩ := hrel
    have rB := HW.out k _ hJk
    have c0 := cell_of_row wr B 0 _ _ _ rB
    simp at c0
    have hlen := byp_len s
    by_cases hlt : k < s.size
    · have hx := byp_get s k hlt
      have hbn := (bt_nat s k hlt).symm
      obtain ⟨x, hxx⟩ : ∃ x, bt s k = x := ⟨_, rfl⟩
      rw [hxx] at hx hbn
      obtain ⟨fn, tmps, assign, body, hy, hYR⟩ := HY.out k _ wr hx hJk
      clear hx hxx
      gi_wp2_with fail
      refine hYR.mono ?_
      rintro e W4 (⟨rfl, hJ4⟩ | ⟨rfl, hJx4⟩)
      · gi_wp2_with fail
        go_roundw
        case rel => exact ⟨k + 1, by simp, by omega, hJ4⟩
        case measure => simp [intOf]; omega
      · gi_wp2_with fail
        try rw [Exit.noGoto_normal]
        go_end0
        exact ⟨⟨_, rfl⟩, .inr ⟨k + 1, by omega, hJx4⟩⟩
    · obtain rfl : k = s.size := by omega
      gi_wp2_with fail
      try rw [Exit.noGoto_normal]
      go_end0
      exact ⟨⟨_, rfl⟩, .inl (by rw [hlen]; exact hJk)⟩
end Esc
end Go.Proofs.YtbpcoieemkojjaaDoor
/- esc's two rules. -/
namespace Go.Proofs.YtbpcoieemkojjaaDoor
set_option linter.unusedSimpArgs false
set_option linter.unusedVariables false
namespace Esc
open Go.RowKit Go.Shelf Go.Proofs.YtbpcoieemkojjaaDoorW.PrintWords Go.Proofs.YtbpcoieemkojjaaDoor.Code Go.Proofs.YtbpcoieemkojjaaDoor.PureB
attribute [local go_sem] Oper.semAt_some
theorem row_lits (W : World) (t : TypeId) (ls : List Int) : ∀ (j : Nat) u, ls[j]? = some u → (W.alloc (.cells (ls.map (Value.int .u8)).toArray t)).cell? ⟨W.heap.size, j, none⟩ = some (.int .u8 u) := by
  intro j u hu
  rw [cell_of_row _ _ _ _ _ _ (World.alloc_heap_new W _)]
  simp [hu]
theorem inF_mem (b : Int) : decide (b ∈ [(92 : Int), 42, 40, 41]) = inF b := by unfold inF; rw [decide_eq_decide]; simp
theorem inS_mem (b : Int) : decide (b ∈ [(32 : Int), 35]) = inS b := by unfold inS; rw [decide_eq_decide]; simp
theorem inN_mem (b : Int) : decide (b ∈ [(34 : Int), 43, 44, 59, 60, 62, 92]) = inN b := by unfold inN; rw [decide_eq_decide]; simp
theorem inM_mem (b : Int) : decide (b ∈ [(34 : Int), 43, 44, 59, 60, 62]) = inM b := by unfold inM; rw [decide_eq_decide]; simp
theorem inB_mem (b : Int) : decide (b ∈ [(42 : Int), 40, 41]) = inB b := by unfold inB; rw [decide_eq_decide]; simp
theorem isF_c (b : Int) (W : World) : Calls Tryd.prog 27 #[.int .u8 b, .slice (some ⟨W.heap.size, 0, none⟩) 4 4] (W.alloc (.cells #[.int .u8 92, .int .u8 42, .int .u8 40, .int .u8 41] 5)) fun e w' => e = .returned (.bool (inF b)) ∧ Below W.heap.size W w' := by
  refine (isOne_c b [92, 42, 40, 41] 4 rfl (by decide) W.heap.size _ (row_lits W 5 [92, 42, 40, 41])).mono ?_
  rintro e w' ⟨rfl, hb⟩
  exact ⟨by rw [inF_mem], ((Below.refl _ W).alloc (Nat.le_refl _) _).trans (hb.mono (by simp))⟩
theorem isS_c (b : Int) (W : World) : Calls Tryd.prog 27 #[.int .u8 b, .slice (some ⟨W.heap.size, 0, none⟩) 2 2] (W.alloc (.cells #[.int .u8 32, .int .u8 35] 5)) fun e w' => e = .returned (.bool (inS b)) ∧ Below W.heap.size W w' := by
  refine (isOne_c b [32, 35] 2 rfl (by decide) W.heap.size _ (row_lits W 5 [32, 35])).mono ?_
  rintro e w' ⟨rfl, hb⟩
  exact ⟨by rw [inS_mem], ((Below.refl _ W).alloc (Nat.le_refl _) _).trans (hb.mono (by simp))⟩
theorem isN_c (b : Int) (W : World) : Calls Tryd.prog 27 #[.int .u8 b, .slice (some ⟨W.heap.size, 0, none⟩) 7 7] (W.alloc (.cells #[.int .u8 34, .int .u8 43, .int .u8 44, .int .u8 59, .int .u8 60, .int .u8 62, .int .u8 92] 5)) fun e w' => e = .returned (.bool (inN b)) ∧ Below W.heap.size W w' := by
  refine (isOne_c b [34, 43, 44, 59, 60, 62, 92] 7 rfl (by decide) W.heap.size _ (row_lits W 5 [34, 43, 44, 59, 60, 62, 92])).mono ?_
  rintro e w' ⟨rfl, hb⟩
  exact ⟨by rw [inN_mem], ((Below.refl _ W).alloc (Nat.le_refl _) _).trans (hb.mono (by simp))⟩
theorem isM_c (b : Int) (W : World) : Calls Tryd.prog 27 #[.int .u8 b, .slice (some ⟨W.heap.size, 0, none⟩) 6 6] (W.alloc (.cells #[.int .u8 34, .int .u8 43, .int .u8 44, .int .u8 59, .int .u8 60, .int .u8 62] 5)) fun e w' => e = .returned (.bool (inM b)) ∧ Below W.heap.size W w' := by
  refine (isOne_c b [34, 43, 44, 59, 60, 62] 6 rfl (by decide) W.heap.size _ (row_lits W 5 [34, 43, 44, 59, 60, 62])).mono ?_
  rintro e w' ⟨rfl, hb⟩
  exact ⟨by rw [inM_mem], ((Below.refl _ W).alloc (Nat.le_refl _) _).trans (hb.mono (by simp))⟩
theorem isB_c (b : Int) (W : World) : Calls Tryd.prog 27 #[.int .u8 b, .slice (some ⟨W.heap.size, 0, none⟩) 3 3] (W.alloc (.cells #[.int .u8 42, .int .u8 40, .int .u8 41] 5)) fun e w' => e = .returned (.bool (inB b)) ∧ Below W.heap.size W w' := by
  refine (isOne_c b [42, 40, 41] 3 rfl (by decide) W.heap.size _ (row_lits W 5 [42, 40, 41])).mono ?_
  rintro e w' ⟨rfl, hb⟩
  exact ⟨by rw [inB_mem], ((Below.refl _ W).alloc (Nat.le_refl _) _).trans (hb.mono (by simp))⟩
/-- What a rule hands back. -/
def ruV (p : Bool × Bool) : Value := .tuple #[.bool p.1, .bool p.2]
set_option maxHeartbeats 2000000 in
theorem ruleF (i : Nat) (b : Int) (w : World) : Calls Tryd.prog 25 #[.int .i64 i, .int .u8 b] w fun e w' => e = .returned (ruV (ruF i b)) ∧ Below w.heap.size w w' := by
  have HP := Lib.hid (isPlain_c b)
  have HF := Lib.hid (isF_c b)
  have hv : ruF i b = (false, !pl b || inF b) := rfl
  rw [hv]
  cases hp : pl b with
  | false =>
    rw [hp] at HP
    go_enter Tryd.func25, Tryd.ntmps25
    go_wp2_with (go_at_call 26; refine (HP.out _).mono ?_; rintro e w' ⟨rfl, rfl⟩)
    go_ret2
    exact ⟨rfl, Below.refl _ _⟩
  | true =>
    rw [hp] at HP
    go_enter Tryd.func25, Tryd.ntmps25
    go_wp2_with (first
      | (go_at_call 26; refine (HP.out _).mono ?_; rintro e w' ⟨rfl, rfl⟩)
      | (go_at_call 27; refine (HF.out _).mono ?_; rintro e w2 ⟨rfl, hb⟩))
    go_ret2
    exact ⟨by simp [ruV], hb⟩
set_option maxRecDepth 100000 in
set_option maxHeartbeats 4000000 in
theorem ruleN (s : ByteArray) (i : Nat) (b : Int) (hi : i < s.size) (hs : s.size ≤ 4611686018427387904) (B : Nat) (w : World) (h : w.cell? ⟨B, 0, none⟩ = some (.string s)) :
    Calls Tryd.prog 29 #[.int .i64 i, .int .u8 b, .pointer (some ⟨B, 0, none⟩)] w fun e w' => e = .returned (ruV (ruN s.size i b)) ∧ Below w.heap.size w w' := by
  have HP := Lib.hid (isPlain_c b)
  have HS := Lib.hid (isS_c b)
  have HN := Lib.hid (isN_c b)
  have hv : ruN s.size i b = (decide (i = 0 ∧ inS b = true) || decide (i + 1 = s.size ∧ b = 32) || inN b, !pl b) := rfl
  have hlt := lt_of_cell h
  rw [hv]
  have hw : wrap64 ((s.size : Int) - 1) = s.size - 1 := by unfold wrap64; omega
  generalize hx1 : pl b = x1 at HP ⊢
  generalize hx2 : inS b = x2 at HS ⊢
  generalize hx3 : inN b = x3 at HN ⊢
  clear hv hx1 hx2 hx3
  have fin : ∀ w1, Below w.heap.size w w1 → w1.cell? ⟨B, 0, none⟩ = some (.string s) := fun w1 hb => (hb.cell hlt).trans h
  have FIN := Lib.hid fin
  clear fin
  by_cases hi0 : i = 0
  · have e0 : (i : Int) = 0 := by omega
    go_enter Tryd.func29, Tryd.ntmps29
    go_wp2_with fail
    refine (HS.out _).mono ?_
    rintro e w1 ⟨rfl, hb1⟩
    have hc1 := FIN.out w1 hb1
    cases x2 with
    | true =>
      by_cases hl : i + 1 = s.size
      · have e1 : (i : Int) = s.size - 1 := by omega
        by_cases h32 : b = 32
        · subst h32
          go_wp2_with fail
          refine (HP.out _).mono ?_
          rintro e w' ⟨rfl, rfl⟩
          go_wp2_with fail
          go_ret2
          exact ⟨by simp [ruV, hl, hi0]; try (intros; omega), hb1⟩
        · go_wp2_with fail
          refine (HP.out _).mono ?_
          rintro e w' ⟨rfl, rfl⟩
          go_wp2_with fail
          go_ret2
          exact ⟨by simp [ruV, hl, hi0, h32]; try (intros; omega), hb1⟩
      · have e1 : ¬ (i : Int) = s.size - 1 := by omega
        go_wp2_with fail
        refine (HP.out _).mono ?_
        rintro e w' ⟨rfl, rfl⟩
        go_wp2_with fail
        go_ret2
        exact ⟨by simp [ruV, hl, hi0]; try (intros; omega), hb1⟩
    | false =>
      by_cases hl : i + 1 = s.size
      · have e1 : (i : Int) = s.size - 1 := by omega
        by_cases h32 : b = 32
        · subst h32
          go_wp2_with fail
          refine (HP.out _).mono ?_
          rintro e w' ⟨rfl, rfl⟩
          go_wp2_with fail
          go_ret2
          exact ⟨by simp [ruV, hl, hi0]; try (intros; omega), hb1⟩
        · go_wp2_with fail
          refine (HN.out _).mono ?_
          rintro e wN ⟨rfl, hbN⟩
          go_wp2_with fail
          refine (HP.out _).mono ?_
          rintro e w' ⟨rfl, rfl⟩
          go_wp2_with fail
          go_ret2
          exact ⟨by simp [ruV, hl, hi0, h32]; try (intros; omega), bl_trans hb1 hbN⟩
      · have e1 : ¬ (i : Int) = s.size - 1 := by omega
        go_wp2_with fail
        refine (HN.out _).mono ?_
        rintro e wN ⟨rfl, hbN⟩
        go_wp2_with fail
        refine (HP.out _).mono ?_
        rintro e w' ⟨rfl, rfl⟩
        go_wp2_with fail
        go_ret2
        exact ⟨by simp [ruV, hl, hi0]; try (intros; omega), bl_trans hb1 hbN⟩
  · have e0 : ¬ (i : Int) = 0 := by omega
    go_enter Tryd.func29, Tryd.ntmps29
    by_cases hl : i + 1 = s.size
    · have e1 : (i : Int) = s.size - 1 := by omega
      by_cases h32 : b = 32
      · subst h32
        go_wp2_with fail
        refine (HP.out _).mono ?_
        rintro e w' ⟨rfl, rfl⟩
        go_wp2_with fail
        go_ret2
        exact ⟨by simp [ruV, hl, hi0]; try (intros; omega), Below.refl _ _⟩
      · go_wp2_with fail
        refine (HN.out _).mono ?_
        rintro e wN ⟨rfl, hbN⟩
        go_wp2_with fail
        refine (HP.out _).mono ?_
        rintro e w' ⟨rfl, rfl⟩
        go_wp2_with fail
        go_ret2
        exact ⟨by simp [ruV, hl, hi0, h32]; try (intros; omega), hbN⟩
    · have e1 : ¬ (i : Int) = s.size - 1 := by omega
      go_wp2_with fail
      refine (HN.out _).mono ?_
      rintro e wN ⟨rfl, hbN⟩
      go_wp2_with fail
      refine (HP.out _).mono ?_
      rintro e w' ⟨rfl, rfl⟩
      go_wp2_with fail
      go_ret2
      exact ⟨by simp [ruV, hl, hi0]; try (intros; omega), hbN⟩
end Esc
end Go.Proofs.YtbpcoieemkojjaaDoor
/- esc's printed, Filter, Name. -/
namespace Go.Proofs.YtbpcoieemkojjaaDoor
set_option linter.unusedSimpArgs false
set_option linter.unusedVariables false
namespace Esc
open Go.RowKit Go.Shelf Go.Proofs.YtbpcoieemkojjaaDoorW.PrintWords Go.Proofs.YtbpcoieemkojjaaDoor.Code Go.Proofs.YtbpcoieemkojjaaDoor.PureB
attribute [local go_sem] Oper.semAt_some
theorem prL_append (f : Nat → Int → Bool × Bool) (b : Int) : ∀ (l : List Int) (i : Nat), prL f i (l ++ [b]) = prL f i l ++ one (f (i + l.length) b).1 (f (i + l.length) b).2 b
  | [], i => by simp [prL]
  | a :: l, i => by
    simp only [List.cons_append, prL, prL_append f b l (i + 1), List.append_assoc, List.length_cons]
    rw [show i + 1 + l.length = i + (l.length + 1) by omega]
theorem one_byt (sg dg : Bool) (b : Int) (h : 0 ≤ b ∧ b < 256) : Byt (one sg dg b) := by
  have h1 := dg_rng (b / 16) (by omega) (by omega)
  have h2 := dg_rng (b % 16) (by omega) (by omega)
  intro x hx
  cases sg <;> cases dg <;> simp [one, hex_one] at hx <;> omega
theorem prL_byt (f : Nat → Int → Bool × Bool) : ∀ (l : List Int) (i : Nat), Byt l → Byt (prL f i l)
  | [], _, _ => by intro x hx; simp [prL] at hx
  | b :: r, i, h => by
    intro x hx
    simp only [prL] at hx
    rcases List.mem_append.1 hx with q | q
    · exact one_byt _ _ b (h b (by simp)) x q
    · exact prL_byt f r (i + 1) (fun y hy => h y (by simp [hy])) x q
theorem prL_le (f : Nat → Int → Bool × Bool) : ∀ (l : List Int) (i : Nat), (prL f i l).length ≤ 3 * l.length
  | [], _ => Nat.zero_le _
  | b :: r, i => by
    have h1 := prL_le f r (i + 1)
    have h2 := (one_len (f i b).1 (f i b).2 b).2
    simp only [prL, List.length_append, List.length_cons]
    omega
theorem conv1 (w : World) (a : Int) (t : TypeId) : (convert 41 9 (.slice (some ⟨w.heap.size, 0, none⟩) 1 1)).run Tryd.prog (w.alloc (.cells #[.int .u8 a] t)) = .ok (.string (strOfNums [a])) (w.alloc (.cells #[.int .u8 a] t)) := by
  refine string_of_reads (P := Tryd.prog) (src := 41) (dst := 9) (c := 1) Tryd.underlying41 Tryd.underlying5 Tryd.underlying9 ⟨rfl, by decide, fun _ => ⟨_, rfl, fun j hj => ?_⟩⟩
  refine World.news_of_block (World.alloc_heap_new w _) j _ ?_
  have h0 : j = 0 := by simpa using hj
  subst h0
  rfl
/-- What stands in a round of printed. -/
structure PI (w : World) (n0 z : Nat) (rv : Value) (s : ByteArray) (X : List Int) (A : World) : Prop where
  r0 : A.heap[n0]? = some (.cells #[rv] 36 (0, 0))
  rs : SB s (n0 + 2) A
  hI : Lib.IsBuilderF 43 5 (n0 + 1) (n0 + 1) (nums .u8 X) A
  ho : Bld.BOff (n0 + 1) z A
  hb : Below w.heap.size w A
  hs : n0 + 3 ≤ A.heap.size
theorem PI.call {w : World} {n0 z : Nat} {rv : Value} {s : ByteArray} {X : List Int} {A B : World} (h : PI w n0 z rv s X A) (hb : Below A.heap.size A B) : PI w n0 z rv s X B where
  r0 := (Chg.of_below (S := fun _ => False) hb).heap h.r0 (fun h => h)
  rs := (Chg.of_below (S := fun _ => False) hb).heap h.rs (fun h => h)
  hI := h.hI.below hb
  ho := h.ho.keep (hb.block _ (by have := h.hs; omega))
  hb := bl_trans h.hb hb
  hs := Nat.le_trans h.hs hb.size
theorem PI.wrote {w : World} {n0 z : Nat} {rv : Value} {s : ByteArray} {X Y : List Int} {A B : World} (h : PI w n0 z rv s X A) (hw : w.heap.size ≤ n0) (hz : z = n0 + 3)
    (h1 : A.heap[z]? = some (.deferred (some []))) (h2 : ∃ r, A.heap[z + 1]? = some (.loop r))
    (hB : Lib.BuilderAtF 43 5 (n0 + 1) (n0 + 1) (.pointer (some ⟨n0 + 1, 0, none⟩)) (nums .u8 X ++ nums .u8 Y) B) (hb : Below (n0 + 1) A B) (hk : Lib.OthersKept 5 (some (n0 + 1)) A B) :
    PI w n0 z rv s (X ++ Y) B ∧ LK z A B ∧ B.heap[z]? = some (.deferred (some [])) ∧ ∃ r, B.heap[z + 1]? = some (.loop r) := by
  have hlk : LK z A B := Bld.LK_kept hb.size hk (by rintro (h | h) <;> omega) h1 h2
  have h1' := hlk.z0.trans h1
  have h2' : ∃ r, B.heap[z + 1]? = some (.loop r) := by obtain ⟨r, hr⟩ := h2; exact ⟨r, hlk.z1.trans hr⟩
  have hI2 : Lib.IsBuilderF 43 5 (n0 + 1) (n0 + 1) (nums .u8 (X ++ Y)) B := by rw [Bld.nums_app]; exact .inr hB
  exact ⟨⟨Bld.kept_row hk h.r0 (by omega) (by decide), Bld.kept_row hk h.rs (by omega) (by decide), hI2, Bld.BOff.of hI2 h1' h2', h.hb.trans (hb.mono (by omega)), Nat.le_trans h.hs hb.size⟩, hlk, h1', h2'⟩
set_option maxRecDepth 100000 in
set_option maxHeartbeats 8000000 in
theorem printedF (s : ByteArray) (hs : s.size ≤ 4611686018427) (w : World) :
    Calls Tryd.prog 24 #[.string s, .func (.func 25) #[] #[]] w fun e w' => e = .returned (.string (strOfNums (prL ruF 0 (bl s)))) ∧ Below w.heap.size w w' := by
  refine (callsIn_wide (n := 9)).1 ?_
  refine callsIn_of_wp_marks Tryd.func24 rfl trivial ?_ rfl
  simp only [Tryd.ntmps24, List.size_toArray, List.length_cons, List.length_nil, Nat.reduceAdd, Nat.reduceSub, Array.replicate_succ, Array.replicate_zero, List.push_toArray, List.append_toArray, List.nil_append, List.cons_append]
  gi_wp2_with fail
  refine ⟨trivial, (callsIn_wide.2 (bytes_any s _)).mono ?_⟩
  rintro e w2 ⟨rfl, rfl⟩
  gi_wp2_with fail
  obtain ⟨W, hW⟩ : ∃ W, (((w.alloc (.cells #[.func (.func 25) #[] #[]] 36)).alloc (.cells #[.pointer none, .slice none 0 0] 43)).alloc (.cells #[.string s] 9)) = W := ⟨_, rfl⟩
  have hsz : W.heap.size = w.heap.size + 3 := by rw [← hW]; simp
  have k0 : W.heap[w.heap.size]? = some (.cells #[.func (.func 25) #[] #[]] 36 (0, 0)) := by rw [← hW]; repeat (first | exact ag_new _ _ _ (by simp) | refine ag_old ?_)
  have kb : W.heap[w.heap.size + 1]? = some (.cells #[.pointer none, .slice none 0 0] 43 (0, 0)) := by rw [← hW]; repeat (first | exact ag_new _ _ _ (by simp) | refine ag_old ?_)
  have k2 : W.heap[w.heap.size + 2]? = some (.cells #[.string s] 9 (0, 0)) := by rw [← hW]; repeat (first | exact ag_new _ _ _ (by simp) | refine ag_old ?_)
  have hbW : Below w.heap.size w W := by rw [← hW]; exact bl_alloc (bl_alloc (bl_alloc (Below.refl _ _) _) _) _
  have hI0 : Lib.IsBuilderF 43 5 (w.heap.size + 1) (w.heap.size + 1) (nums .u8 []) W := Lib.IsBuilderF.of (.inl ⟨Nat.le_refl _, _, kb, World.ownsRow_nil _ _ _ _, by simp [Value.ownBlock]⟩)
  obtain ⟨n0, hn0⟩ : ∃ n0, w.heap.size = n0 := ⟨_, rfl⟩
  have hwn : w.heap.size ≤ n0 := by omega
  rw [hW]
  clear hW
  simp only [hn0] at hsz k0 kb k2 hI0 ⊢
  have HIT := Lib.hid (bytes_it (9 - 1) (by decide) s (by omega) (n0 + 2))
  have HP0 := Lib.hid (PI.mk (z := n0 + 3) k0 k2 hI0 (Bld.BOff.fresh kb) hbW (by omega) : PI w n0 (n0 + 3) _ s [] W)
  clear k0 kb k2 hI0 hbW
  refine wpIn_range_itE1 rfl (by decide) (gf := 47) (lb := #[.pointer (some ⟨n0 + 2, 0, none⟩)]) rfl trivial (enters_of Tryd.func47 (by kernel_rfl) rfl)
    HIT.out (fun _ => rfl)
    (fun k A => PI w n0 (n0 + 3) (.func (.func 25) #[] #[]) s (prL ruF 0 ((bl s).take k)) A) (fun _ _ _ => False)
    (fun k A h => h.rs) ?hI (fun _ _ _ _ h _ => h) (by simpa [prL] using HP0.out)
    ?a1 ?assign ?body ?done ?stop
  case assign =>
    intro l x A K hK
    gi_wp2_with fail
    exact hK
  case stop => rintro c j B _ h; exact h.elim
  case hI =>
    rintro k A B h _ hc
    rw [hsz] at hc
    have hsA := h.hs
    have z : ∀ j, j < n0 + 3 → ¬ LZ (n0 + 3) j := fun j hj h => by rcases h with h | h <;> omega
    exact ⟨hc.heap h.r0 (z _ (by omega)), hc.heap h.rs (z _ (by omega)), Bld.isB_chg h.hI h.ho (z _ (by omega)) hc, h.ho.keep (hc.block _ (by omega) (z _ (by omega))),
      Below.chg h.hb (hc.mono (T := fun k => n0 + 3 ≤ k) (fun k hk => by rcases hk with hk | hk <;> omega)) (by omega) (fun k hk => by have : n0 + 3 ≤ k := hk; omega), Nat.le_trans h.hs hc.size⟩
  case body =>
    rintro k x A hl hz hx hp hs2
    rw [hsz] at hl hz hs2 ⊢
    have hkl : k < s.size := by rw [← byp_len]; exact (List.getElem?_eq_some_iff.1 hx).1
    rw [byp_get s k hkl] at hx
    obtain rfl := Option.some.inj hx
    clear hx
    have hbr := bt_range s k
    have hgx := bl_get s k hkl
    obtain ⟨x, hx⟩ : ∃ x, bt s k = x := ⟨_, rfl⟩
    rw [hx] at hbr hgx ⊢
    have hst : prL ruF 0 ((bl s).take (k + 1)) = prL ruF 0 ((bl s).take k) ++ one (ruF k x).1 (ruF k x).2 x := by
      rw [List.take_add_one, hgx]
      have := prL_append ruF x ((bl s).take k) 0
      rw [List.length_take, bl_len, Nat.min_eq_left (by omega), Nat.zero_add] at this
      exact this
    have hlen : (prL ruF 0 ((bl s).take k)).length ≤ 3 * k := by
      have := prL_le ruF ((bl s).take k) 0
      rw [List.length_take, bl_len] at this
      omega
    have HST := Lib.hid hst
    have HP := Lib.hid hp
    have HL := Lib.hid hl
    have HZ := Lib.hid hz
    have hr0 := hp.r0
    have hsA := hp.hs
    have c0 := cell_of_row A n0 0 _ _ _ hr0
    simp at c0
    obtain ⟨sg, hsg⟩ : ∃ q, (ruF k x).1 = q := ⟨_, rfl⟩
    obtain ⟨dgg, hdg⟩ : ∃ q, (ruF k x).2 = q := ⟨_, rfl⟩
    rw [hsg, hdg] at HST
    have hrv : ruV (ruF k x) = .tuple #[.bool sg, .bool dgg] := by unfold ruV; rw [hsg, hdg]
    have hrule := ruleF k x A
    rw [hrv] at hrule
    have HRU := Lib.hid hrule
    clear hst hgx hx hp hl hz hr0 hsg hdg hrv hrule
    gi_wp2_with fail
    refine ⟨trivial, (callsIn_wide.2 HRU.out).mono ?_⟩
    rintro e A1 ⟨rfl, hb1⟩
    have HP1 := Lib.hid (HP.out.call hb1)
    have hlk1 : LK (n0 + 3) A A1 := LK.of_below hb1 (by omega)
    have z1 := Lib.hid (hlk1.z0.trans HZ.out)
    have l1 : RowKit.Hid (∃ r, A1.heap[n0 + 3 + 1]? = some (.loop r)) := Lib.hid (by obtain ⟨r, hr⟩ := HL.out; exact ⟨r, hlk1.z1.trans hr⟩)
    have LK1 := Lib.hid hlk1
    clear hb1 hlk1
    have hlen2 : (nums .u8 (prL ruF 0 ((bl s).take k))).length ≤ 13835058055281 := by rw [Bld.nums_len]; omega
    have hs1 := HP1.out.hs
    cases dgg with
    | true =>
      have hds : one sg true x = [92] ++ hexL [x] := by cases sg <;> rfl
      rw [hds] at HST
      cases sg
      all_goals
        gi_wp2_with fail
        refine ⟨trivial, (callsIn_wide.2 (Bld.WriteByte_k (n0 + 1) (n0 + 1) _ 92 A1 HP1.out.hI (by omega) (by omega))).mono ?_⟩
        rintro e A2 ⟨rfl, hB2, hb2, hk2⟩
        obtain ⟨hP2, hlk2, z2, l2⟩ := HP1.out.wrote (Y := [92]) hwn rfl z1.out l1.out hB2 hb2 hk2
        have HP2 := Lib.hid hP2
        have HZ2 := Lib.hid z2
        have HL2 := Lib.hid l2
        have LK2 := Lib.hid hlk2
        have hs2A := hP2.hs
        have hcv := conv1 A2 x 5
        clear hP2 z2 l2 hlk2 hB2 hb2 hk2
        gi_wp2_with fail
        refine ⟨trivial, (callsIn_wide.2 (Hex_c (strOfNums [x]) (by rw [son_size]; simp) _)).mono ?_⟩
        rintro e A3 ⟨rfl, hb3⟩
        have hb3' : Below A2.heap.size A2 A3 := ((Below.refl _ A2).alloc (Nat.le_refl _) _).trans (hb3.mono (by simp))
        have HP3 := Lib.hid (HP2.out.call hb3')
        have hlk3 : LK (n0 + 3) A2 A3 := LK.of_below hb3' (by have := LK2.out.size; have := LK1.out.size; omega)
        have hs3A := HP3.out.hs
        have hbx : bl (strOfNums [x]) = [x] := bl_son [x] (by intro y hy; simp at hy; omega)
        have hhx : Lib.strCells (strOfNums (hexL (bl (strOfNums [x])))) = nums .u8 (hexL [x]) := by
          rw [hbx]
          exact Bld.strCells_son _ (hex_byte _ (by intro y hy; simp at hy; omega))
        have hsz6 : (strOfNums (hexL (bl (strOfNums [x])))).size = 2 := by rw [hbx, son_size]; rfl
        have HHX := Lib.hid hhx
        have LK3 := Lib.hid hlk3
        clear hb3 hb3' hlk3 hcv hbx hhx
        gi_wp2_with fail
        refine ⟨trivial, (callsIn_wide.2 (Bld.WriteString_k (n0 + 1) (n0 + 1) _ _ A3 HP3.out.hI (by rw [Bld.nums_app, List.length_append, hsz6]; have : (nums .u8 [92]).length = 1 := rfl; omega) (by omega))).mono ?_⟩
        rintro e A4 ⟨rfl, hB4, hb4, hk4⟩
        rw [HHX.out] at hB4
        obtain ⟨hP4, hlk4, z4, l4⟩ := HP3.out.wrote (Y := hexL [x]) hwn rfl (LK3.out.z0.trans HZ2.out) (by obtain ⟨r, hr⟩ := HL2.out; exact ⟨r, LK3.out.z1.trans hr⟩) hB4 hb4 hk4
        gi_wp2_with fail
        refine ⟨LK1.out.trans (LK2.out.trans (LK3.out.trans hlk4)), ?_⟩
        show PI _ _ _ _ _ _ _
        rw [HST.out, ← List.append_assoc]
        exact hP4
    | false =>
      cases sg with
      | true =>
        have hds : one true false x = [92] ++ [x] := rfl
        rw [hds] at HST
        gi_wp2_with fail
        refine ⟨trivial, (callsIn_wide.2 (Bld.WriteByte_k (n0 + 1) (n0 + 1) _ 92 A1 HP1.out.hI (by omega) (by omega))).mono ?_⟩
        rintro e A2 ⟨rfl, hB2, hb2, hk2⟩
        obtain ⟨hP2, hlk2, z2, l2⟩ := HP1.out.wrote (Y := [92]) hwn rfl z1.out l1.out hB2 hb2 hk2
        have HP2 := Lib.hid hP2
        have HZ2 := Lib.hid z2
        have HL2 := Lib.hid l2
        have LK2 := Lib.hid hlk2
        have hs2A := hP2.hs
        clear hP2 z2 l2 hlk2 hB2 hb2 hk2
        gi_wp2_with fail
        refine ⟨trivial, (callsIn_wide.2 (Bld.WriteByte_k (n0 + 1) (n0 + 1) _ x A2 HP2.out.hI (by rw [Bld.nums_app, List.length_append]; have : (nums .u8 [92]).length = 1 := rfl; omega) (by omega))).mono ?_⟩
        rintro e A4 ⟨rfl, hB4, hb4, hk4⟩
        obtain ⟨hP4, hlk4, z4, l4⟩ := HP2.out.wrote (Y := [x]) hwn rfl HZ2.out HL2.out hB4 hb4 hk4
        gi_wp2_with fail
        refine ⟨LK1.out.trans (LK2.out.trans hlk4), ?_⟩
        show PI _ _ _ _ _ _ _
        rw [HST.out, ← List.append_assoc]
        exact hP4
      | false =>
        have hds : one false false x = [x] := rfl
        rw [hds] at HST
        gi_wp2_with fail
        refine ⟨trivial, (callsIn_wide.2 (Bld.WriteByte_k (n0 + 1) (n0 + 1) _ x A1 HP1.out.hI (by omega) (by omega))).mono ?_⟩
        rintro e A4 ⟨rfl, hB4, hb4, hk4⟩
        obtain ⟨hP4, hlk4, z4, l4⟩ := HP1.out.wrote (Y := [x]) hwn rfl z1.out l1.out hB4 hb4 hk4
        gi_wp2_with fail
        refine ⟨LK1.out.trans hlk4, ?_⟩
        show PI _ _ _ _ _ _ _
        rw [HST.out]
        exact hP4
  case done =>
    rintro B hp hs2 hK
    rw [hsz] at hK hs2
    rw [byp_len, List.take_of_length_le (by rw [bl_len]; omega)] at hp
    have hby := prL_byt ruF (bl s) 0 (bl_byte s)
    have hI := hp.hI
    rw [← Bld.byteCells_nums _ hby] at hI
    have hsB := hp.hs
    have HSt := Lib.hid (Tryd.Builder_String_any_k (n0 + 1) (n0 + 1) _ B hI (by omega))
    have HB := Lib.hid hp.hb
    clear hI hby hp
    gi_wp2_with fail
    refine ⟨trivial, (callsIn_wide.2 HSt.out).mono ?_⟩
    rintro e B2 ⟨rfl, hI2, hb2, hok2⟩
    have hK2 : B2.heap[n0 + 3]? = some (.deferred (some [])) := hok2 _ _ hK (fun e => by have := Option.some.inj e; omega) (by intro c fz e; cases e)
    have hs3 := hb2.size
    gi_wp2_with fail
    refine ⟨by simp, .inl ⟨_, _, rfl, run_takeDeferred hK2, ?_⟩⟩
    refine ⟨_, results_tmp rfl _ _ _, rfl, Below.chg (HB.out.trans (hb2.mono (by omega))) ((Chg.refl (fun z => w.heap.size ≤ z) B2).putObj (by omega) _) (by omega) (fun z hz => hz)⟩
set_option maxRecDepth 100000 in
set_option maxHeartbeats 8000000 in
theorem printedN (s : ByteArray) (hs : s.size ≤ 4611686018427) (w : World) (B0 : Nat) (hB0 : w.cell? ⟨B0, 0, none⟩ = some (.string s)) :
    Calls Tryd.prog 24 #[.string s, .func (.func 29) #[] #[.pointer (some ⟨B0, 0, none⟩)]] w fun e w' => e = .returned (.string (strOfNums (prL (ruN s.size) 0 (bl s)))) ∧ Below w.heap.size w w' := by
  refine (callsIn_wide (n := 9)).1 ?_
  refine callsIn_of_wp_marks Tryd.func24 rfl trivial ?_ rfl
  simp only [Tryd.ntmps24, List.size_toArray, List.length_cons, List.length_nil, Nat.reduceAdd, Nat.reduceSub, Array.replicate_succ, Array.replicate_zero, List.push_toArray, List.append_toArray, List.nil_append, List.cons_append]
  gi_wp2_with fail
  refine ⟨trivial, (callsIn_wide.2 (bytes_any s _)).mono ?_⟩
  rintro e w2 ⟨rfl, rfl⟩
  gi_wp2_with fail
  obtain ⟨W, hW⟩ : ∃ W, (((w.alloc (.cells #[.func (.func 29) #[] #[.pointer (some ⟨B0, 0, none⟩)]] 36)).alloc (.cells #[.pointer none, .slice none 0 0] 43)).alloc (.cells #[.string s] 9)) = W := ⟨_, rfl⟩
  have hsz : W.heap.size = w.heap.size + 3 := by rw [← hW]; simp
  have k0 : W.heap[w.heap.size]? = some (.cells #[.func (.func 29) #[] #[.pointer (some ⟨B0, 0, none⟩)]] 36 (0, 0)) := by rw [← hW]; repeat (first | exact ag_new _ _ _ (by simp) | refine ag_old ?_)
  have kb : W.heap[w.heap.size + 1]? = some (.cells #[.pointer none, .slice none 0 0] 43 (0, 0)) := by rw [← hW]; repeat (first | exact ag_new _ _ _ (by simp) | refine ag_old ?_)
  have k2 : W.heap[w.heap.size + 2]? = some (.cells #[.string s] 9 (0, 0)) := by rw [← hW]; repeat (first | exact ag_new _ _ _ (by simp) | refine ag_old ?_)
  have hbW : Below w.heap.size w W := by rw [← hW]; exact bl_alloc (bl_alloc (bl_alloc (Below.refl _ _) _) _) _
  have hI0 : Lib.IsBuilderF 43 5 (w.heap.size + 1) (w.heap.size + 1) (nums .u8 []) W := Lib.IsBuilderF.of (.inl ⟨Nat.le_refl _, _, kb, World.ownsRow_nil _ _ _ _, by simp [Value.ownBlock]⟩)
  obtain ⟨n0, hn0⟩ : ∃ n0, w.heap.size = n0 := ⟨_, rfl⟩
  have hwn : w.heap.size ≤ n0 := by omega
  rw [hW]
  clear hW
  simp only [hn0] at hsz k0 kb k2 hI0 ⊢
  have HIT := Lib.hid (bytes_it (9 - 1) (by decide) s (by omega) (n0 + 2))
  have HP0 := Lib.hid (PI.mk (z := n0 + 3) k0 k2 hI0 (Bld.BOff.fresh kb) hbW (by omega) : PI w n0 (n0 + 3) _ s [] W)
  clear k0 kb k2 hI0 hbW
  refine wpIn_range_itE1 rfl (by decide) (gf := 47) (lb := #[.pointer (some ⟨n0 + 2, 0, none⟩)]) rfl trivial (enters_of Tryd.func47 (by kernel_rfl) rfl)
    HIT.out (fun _ => rfl)
    (fun k A => PI w n0 (n0 + 3) (.func (.func 29) #[] #[.pointer (some ⟨B0, 0, none⟩)]) s (prL (ruN s.size) 0 ((bl s).take k)) A) (fun _ _ _ => False)
    (fun k A h => h.rs) ?hI (fun _ _ _ _ h _ => h) (by simpa [prL] using HP0.out)
    ?a1 ?assign ?body ?done ?stop
  case assign =>
    intro l x A K hK
    gi_wp2_with fail
    exact hK
  case stop => rintro c j B _ h; exact h.elim
  case hI =>
    rintro k A B h _ hc
    rw [hsz] at hc
    have hsA := h.hs
    have z : ∀ j, j < n0 + 3 → ¬ LZ (n0 + 3) j := fun j hj h => by rcases h with h | h <;> omega
    exact ⟨hc.heap h.r0 (z _ (by omega)), hc.heap h.rs (z _ (by omega)), Bld.isB_chg h.hI h.ho (z _ (by omega)) hc, h.ho.keep (hc.block _ (by omega) (z _ (by omega))),
      Below.chg h.hb (hc.mono (T := fun k => n0 + 3 ≤ k) (fun k hk => by rcases hk with hk | hk <;> omega)) (by omega) (fun k hk => by have : n0 + 3 ≤ k := hk; omega), Nat.le_trans h.hs hc.size⟩
  case body =>
    rintro k x A hl hz hx hp hs2
    rw [hsz] at hl hz hs2 ⊢
    have hkl : k < s.size := by rw [← byp_len]; exact (List.getElem?_eq_some_iff.1 hx).1
    rw [byp_get s k hkl] at hx
    obtain rfl := Option.some.inj hx
    clear hx
    have hbr := bt_range s k
    have hgx := bl_get s k hkl
    obtain ⟨x, hx⟩ : ∃ x, bt s k = x := ⟨_, rfl⟩
    rw [hx] at hbr hgx ⊢
    have hst : prL (ruN s.size) 0 ((bl s).take (k + 1)) = prL (ruN s.size) 0 ((bl s).take k) ++ one ((ruN s.size) k x).1 ((ruN s.size) k x).2 x := by
      rw [List.take_add_one, hgx]
      have := prL_append (ruN s.size) x ((bl s).take k) 0
      rw [List.length_take, bl_len, Nat.min_eq_left (by omega), Nat.zero_add] at this
      exact this
    have hlen : (prL (ruN s.size) 0 ((bl s).take k)).length ≤ 3 * k := by
      have := prL_le (ruN s.size) ((bl s).take k) 0
      rw [List.length_take, bl_len] at this
      omega
    have HST := Lib.hid hst
    have HP := Lib.hid hp
    have HL := Lib.hid hl
    have HZ := Lib.hid hz
    have hr0 := hp.r0
    have hsA := hp.hs
    have c0 := cell_of_row A n0 0 _ _ _ hr0
    simp at c0
    obtain ⟨sg, hsg⟩ : ∃ q, ((ruN s.size) k x).1 = q := ⟨_, rfl⟩
    obtain ⟨dgg, hdg⟩ : ∃ q, ((ruN s.size) k x).2 = q := ⟨_, rfl⟩
    rw [hsg, hdg] at HST
    have hrv : ruV ((ruN s.size) k x) = .tuple #[.bool sg, .bool dgg] := by unfold ruV; rw [hsg, hdg]
    have hrule := ruleN s k x hkl (by omega) B0 A ((hp.hb.cell (lt_of_cell hB0)).trans hB0)
    rw [hrv] at hrule
    have HRU := Lib.hid hrule
    clear hst hgx hx hp hl hz hr0 hsg hdg hrv hrule
    gi_wp2_with fail
    refine ⟨trivial, (callsIn_wide.2 HRU.out).mono ?_⟩
    rintro e A1 ⟨rfl, hb1⟩
    have HP1 := Lib.hid (HP.out.call hb1)
    have hlk1 : LK (n0 + 3) A A1 := LK.of_below hb1 (by omega)
    have z1 := Lib.hid (hlk1.z0.trans HZ.out)
    have l1 : RowKit.Hid (∃ r, A1.heap[n0 + 3 + 1]? = some (.loop r)) := Lib.hid (by obtain ⟨r, hr⟩ := HL.out; exact ⟨r, hlk1.z1.trans hr⟩)
    have LK1 := Lib.hid hlk1
    clear hb1 hlk1
    have hlen2 : (nums .u8 (prL (ruN s.size) 0 ((bl s).take k))).length ≤ 13835058055281 := by rw [Bld.nums_len]; omega
    have hs1 := HP1.out.hs
    cases dgg with
    | true =>
      have hds : one sg true x = [92] ++ hexL [x] := by cases sg <;> rfl
      rw [hds] at HST
      cases sg
      all_goals
        gi_wp2_with fail
        refine ⟨trivial, (callsIn_wide.2 (Bld.WriteByte_k (n0 + 1) (n0 + 1) _ 92 A1 HP1.out.hI (by omega) (by omega))).mono ?_⟩
        rintro e A2 ⟨rfl, hB2, hb2, hk2⟩
        obtain ⟨hP2, hlk2, z2, l2⟩ := HP1.out.wrote (Y := [92]) hwn rfl z1.out l1.out hB2 hb2 hk2
        have HP2 := Lib.hid hP2
        have HZ2 := Lib.hid z2
        have HL2 := Lib.hid l2
        have LK2 := Lib.hid hlk2
        have hs2A := hP2.hs
        have hcv := conv1 A2 x 5
        clear hP2 z2 l2 hlk2 hB2 hb2 hk2
        gi_wp2_with fail
        refine ⟨trivial, (callsIn_wide.2 (Hex_c (strOfNums [x]) (by rw [son_size]; simp) _)).mono ?_⟩
        rintro e A3 ⟨rfl, hb3⟩
        have hb3' : Below A2.heap.size A2 A3 := ((Below.refl _ A2).alloc (Nat.le_refl _) _).trans (hb3.mono (by simp))
        have HP3 := Lib.hid (HP2.out.call hb3')
        have hlk3 : LK (n0 + 3) A2 A3 := LK.of_below hb3' (by have := LK2.out.size; have := LK1.out.size; omega)
        have hs3A := HP3.out.hs
        have hbx : bl (strOfNums [x]) = [x] := bl_son [x] (by intro y hy; simp at hy; omega)
        have hhx : Lib.strCells (strOfNums (hexL (bl (strOfNums [x])))) = nums .u8 (hexL [x]) := by
          rw [hbx]
          exact Bld.strCells_son _ (hex_byte _ (by intro y hy; simp at hy; omega))
        have hsz6 : (strOfNums (hexL (bl (strOfNums [x])))).size = 2 := by rw [hbx, son_size]; rfl
        have HHX := Lib.hid hhx
        have LK3 := Lib.hid hlk3
        clear hb3 hb3' hlk3 hcv hbx hhx
        gi_wp2_with fail
        refine ⟨trivial, (callsIn_wide.2 (Bld.WriteString_k (n0 + 1) (n0 + 1) _ _ A3 HP3.out.hI (by rw [Bld.nums_app, List.length_append, hsz6]; have : (nums .u8 [92]).length = 1 := rfl; omega) (by omega))).mono ?_⟩
        rintro e A4 ⟨rfl, hB4, hb4, hk4⟩
        rw [HHX.out] at hB4
        obtain ⟨hP4, hlk4, z4, l4⟩ := HP3.out.wrote (Y := hexL [x]) hwn rfl (LK3.out.z0.trans HZ2.out) (by obtain ⟨r, hr⟩ := HL2.out; exact ⟨r, LK3.out.z1.trans hr⟩) hB4 hb4 hk4
        gi_wp2_with fail
        refine ⟨LK1.out.trans (LK2.out.trans (LK3.out.trans hlk4)), ?_⟩
        show PI _ _ _ _ _ _ _
        rw [HST.out, ← List.append_assoc]
        exact hP4
    | false =>
      cases sg with
      | true =>
        have hds : one true false x = [92] ++ [x] := rfl
        rw [hds] at HST
        gi_wp2_with fail
        refine ⟨trivial, (callsIn_wide.2 (Bld.WriteByte_k (n0 + 1) (n0 + 1) _ 92 A1 HP1.out.hI (by omega) (by omega))).mono ?_⟩
        rintro e A2 ⟨rfl, hB2, hb2, hk2⟩
        obtain ⟨hP2, hlk2, z2, l2⟩ := HP1.out.wrote (Y := [92]) hwn rfl z1.out l1.out hB2 hb2 hk2
        have HP2 := Lib.hid hP2
        have HZ2 := Lib.hid z2
        have HL2 := Lib.hid l2
        have LK2 := Lib.hid hlk2
        have hs2A := hP2.hs
        clear hP2 z2 l2 hlk2 hB2 hb2 hk2
        gi_wp2_with fail
        refine ⟨trivial, (callsIn_wide.2 (Bld.WriteByte_k (n0 + 1) (n0 + 1) _ x A2 HP2.out.hI (by rw [Bld.nums_app, List.length_append]; have : (nums .u8 [92]).length = 1 := rfl; omega) (by omega))).mono ?_⟩
        rintro e A4 ⟨rfl, hB4, hb4, hk4⟩
        obtain ⟨hP4, hlk4, z4, l4⟩ := HP2.out.wrote (Y := [x]) hwn rfl HZ2.out HL2.out hB4 hb4 hk4
        gi_wp2_with fail
        refine ⟨LK1.out.trans (LK2.out.trans hlk4), ?_⟩
        show PI _ _ _ _ _ _ _
        rw [HST.out, ← List.append_assoc]
        exact hP4
      | false =>
        have hds : one false false x = [x] := rfl
        rw [hds] at HST
        gi_wp2_with fail
        refine ⟨trivial, (callsIn_wide.2 (Bld.WriteByte_k (n0 + 1) (n0 + 1) _ x A1 HP1.out.hI (by omega) (by omega))).mono ?_⟩
        rintro e A4 ⟨rfl, hB4, hb4, hk4⟩
        obtain ⟨hP4, hlk4, z4, l4⟩ := HP1.out.wrote (Y := [x]) hwn rfl z1.out l1.out hB4 hb4 hk4
        gi_wp2_with fail
        refine ⟨LK1.out.trans hlk4, ?_⟩
        show PI _ _ _ _ _ _ _
        rw [HST.out]
        exact hP4
  case done =>
    rintro B hp hs2 hK
    rw [hsz] at hK hs2
    rw [byp_len, List.take_of_length_le (by rw [bl_len]; omega)] at hp
    have hby := prL_byt (ruN s.size) (bl s) 0 (bl_byte s)
    have hI := hp.hI
    rw [← Bld.byteCells_nums _ hby] at hI
    have hsB := hp.hs
    have HSt := Lib.hid (Tryd.Builder_String_any_k (n0 + 1) (n0 + 1) _ B hI (by omega))
    have HB := Lib.hid hp.hb
    clear hI hby hp
    gi_wp2_with fail
    refine ⟨trivial, (callsIn_wide.2 HSt.out).mono ?_⟩
    rintro e B2 ⟨rfl, hI2, hb2, hok2⟩
    have hK2 : B2.heap[n0 + 3]? = some (.deferred (some [])) := hok2 _ _ hK (fun e => by have := Option.some.inj e; omega) (by intro c fz e; cases e)
    have hs3 := hb2.size
    gi_wp2_with fail
    refine ⟨by simp, .inl ⟨_, _, rfl, run_takeDeferred hK2, ?_⟩⟩
    refine ⟨_, results_tmp rfl _ _ _, rfl, Below.chg (HB.out.trans (hb2.mono (by omega))) ((Chg.refl (fun z => w.heap.size ≤ z) B2).putObj (by omega) _) (by omega) (fun z hz => hz)⟩
set_option maxHeartbeats 2000000 in
theorem Filter_c (s : ByteArray) (hs : s.size ≤ 4611686018427) (w : World) :
    Calls Tryd.prog 15 #[.string s] w fun e w' => e = .returned (.string (strOfNums (fltL (bl s)))) ∧ Below w.heap.size w w' := by
  have HP := Lib.hid (printedF s hs)
  go_enter Tryd.func15, Tryd.ntmps15
  go_wp2_with (go_at_call 24; refine (HP.out _).mono ?_)
  rintro e w1 ⟨rfl, hb⟩
  go_wp2_with fail
  go_ret
  exact ⟨rfl, hb⟩
set_option maxHeartbeats 2000000 in
theorem Name_c (s : ByteArray) (hs : s.size ≤ 4611686018427) (w : World) :
    Calls Tryd.prog 17 #[.string s] w fun e w' => e = .returned (.string (strOfNums (namL (bl s)))) ∧ Below w.heap.size w w' := by
  have hb0 : Below w.heap.size w (w.alloc (.cells #[.string s] 9)) := (Below.refl _ _).alloc (Nat.le_refl _) _
  have HP := Lib.hid (printedN s hs (w.alloc (.cells #[.string s] 9)) w.heap.size (by simp))
  go_enter Tryd.func17, Tryd.ntmps17
  go_wp2_with (go_at_call 24; refine HP.out.mono ?_)
  rintro e w1 ⟨rfl, hb⟩
  go_wp2_with fail
  go_ret
  exact ⟨by unfold namL; rw [bl_len]; rfl, bl_trans hb0 hb⟩
end Esc
end Go.Proofs.YtbpcoieemkojjaaDoor
/- strings.Builder inside of esc's reader (cells 3 and 4 of its block): its writers, walked anew. -/
namespace Go.Proofs.YtbpcoieemkojjaaDoor
set_option linter.unusedSimpArgs false
set_option linter.unusedVariables false
namespace BldO
open Go.RowKit
/-- a reader in block b, whose builder has pointer p and holds bs -/
def RDp (p : Value) (b : Nat) (s : ByteArray) (at_ : Int) (nm : Bool) (bs : List Value) (w : World) : Prop :=
  ∃ v, w.heap[b]? = some (.cells #[.string s, .int .i64 at_, .bool nm, p, v] 45 (0, 0)) ∧ w.ownsRowF b 5 1 v bs.length bs ∧ v.ownBlock ≠ some b
def RD (b : Nat) (s : ByteArray) (at_ : Int) (nm : Bool) (bs : List Value) (w : World) : Prop := RDp (.pointer none) b s at_ nm bs w ∨ RDp (.pointer (some ⟨b, 3, none⟩)) b s at_ nm bs w
theorem sizeR : (Tryd.prog.info? 43).map (·.size) = some 2 := by kernel_rfl
theorem liesR : liesAt Tryd.prog Tryd.prog.depth 45 (5 / Tryd.prog.cellsOf 45) 3 43 1 = true := by kernel_rfl
theorem RDp.put {b : Nat} {s : ByteArray} {at_ : Int} {nm : Bool} {bs : List Value} {w : World} (h : RDp (.pointer none) b s at_ nm bs w) : RDp (.pointer (some ⟨b, 3, none⟩)) b s at_ nm bs (w.setCell ⟨b, 3, none⟩ (.pointer (some ⟨b, 3, none⟩))) := by
  obtain ⟨v, h1, h2, h3⟩ := h
  refine ⟨v, ?_, Bld.ownF_move h2 (fun r hr => Below.heap_setCell _ _ _ _ (fun e => h3 (by rw [hr]; exact congrArg some e))), h3⟩
  simp only [World.setCell, Array.getElem?_modify, h1]
  rfl
set_option maxHeartbeats 1000000 in
set_option maxRecDepth 100000 in
theorem copyCheck_o (b : Nat) (s : ByteArray) (at_ : Int) (nm : Bool) (bs : List Value) (w : World) (h : RD b s at_ nm bs w) :
    Calls Tryd.prog 48 #[.pointer (some ⟨b, 3, none⟩)] w fun e w' => e = .returned (.tuple #[]) ∧ RDp (.pointer (some ⟨b, 3, none⟩)) b s at_ nm bs w' ∧ Below b w w' := by
  obtain ⟨j, hj, hjs⟩ := Option.map_eq_some_iff.1 sizeR
  rcases h with h | h
  · obtain ⟨v, h1, h2, h3⟩ := id h
    have c0 : w.cell? ⟨b, 3, none⟩ = some (.pointer none) := by rw [Lib.cell_of_heap h1]; rfl
    have f0 : w.frozen? ⟨b, 3, none⟩ = false := Lib.frozen_of_heap h1 3
    have hsh : w.shape? b = some (45, 5) := by simp [World.shape?, h1]
    have HP := Lib.hid h.put
    clear h h1 h2 h3
    go_enter Tryd.func48, Tryd.ntmps48
    go_wp2
    rw [Lib.run_to_unsafe w ⟨b, 3, none⟩ Tryd.underlying40 Tryd.underlying74 hj (by rw [hjs]; decide) hsh (by show 3 < 5; decide)]
    simp only [Result.andThen]
    rw [Oper.upon_value]
    go_wp2
    rw [run_callFunc_extern Tryd.func60 (by kernel_rfl) (by kernel_rfl) (by kernel_rfl) (e := Extern.AbiNoEscape.same) (by kernel_rfl)]
    rw [Lib.run_noEscape]
    simp only [Result.andThen]
    rw [Oper.upon_value]
    go_wp2
    rw [Lib.run_from_unsafe w ⟨b, 3, none⟩ Tryd.underlying74 Tryd.underlying40 hj hsh liesR]
    simp only [Result.andThen]
    rw [Oper.upon_value]
    go_wp2
    go_end0
    exact ⟨rfl, HP.out, (Below.refl b w).setCell (p := ⟨b, 3, none⟩) (Nat.le_refl _) _⟩
  · obtain ⟨v, h1, h2, h3⟩ := id h
    have c0 : w.cell? ⟨b, 3, none⟩ = some (.pointer (some ⟨b, 3, none⟩)) := by rw [Lib.cell_of_heap h1]; rfl
    have HP := Lib.hid h
    clear h h1 h2 h3
    go_enter Tryd.func48, Tryd.ntmps48
    go_wp2
    rw [Lib.run_neq_ptr_same w _ Tryd.underlying40 hj]
    go_wp2
    go_end0
    exact ⟨rfl, HP.out, Below.refl _ _⟩
theorem put4 {b : Nat} {s : ByteArray} {at_ : Int} {nm : Bool} {p v v' : Value} {bs' : List Value} {w : World} (h1 : w.heap[b]? = some (.cells #[.string s, .int .i64 at_, .bool nm, p, v] 45 (0, 0))) (h2 : w.ownsRowF b 5 1 v' bs'.length bs') :
    RDp p b s at_ nm bs' (w.setCell ⟨b, 4, none⟩ v') := by
  have h3 : v'.ownBlock ≠ some b := fun e => by
    obtain ⟨c, fz, hc⟩ := Lib.ownsRowF_kind h2 b e
    rw [h1] at hc
    cases hc
  refine ⟨v', ?_, Bld.ownF_move h2 (fun r hr => Below.heap_setCell _ _ _ _ (fun e => h3 (by rw [hr]; exact congrArg some e))), h3⟩
  simp only [World.setCell, Array.getElem?_modify, h1]
  rfl
set_option maxHeartbeats 4000000 in
set_option maxRecDepth 100000 in
theorem WriteByte_o (b : Nat) (s : ByteArray) (at_ : Int) (nm : Bool) (bs : List Value) (c : Int) (w : World) (h : RD b s at_ nm bs w) (hlen : bs.length + 1 ≤ 140737488355328) (hBw : b ≤ w.heap.size) :
    Calls Tryd.prog 36 #[.pointer (some ⟨b, 3, none⟩), .int .u8 c] w fun e w' => e = .returned .nilIface ∧ RDp (.pointer (some ⟨b, 3, none⟩)) b s at_ nm (bs ++ [.int .u8 c]) w' ∧ Below b w w' := by
  obtain ⟨i0, hi, hz0, hz1, hz2⟩ := info_parts Bld.infoByte
  go_enter Tryd.func36, Tryd.ntmps36
  go_wp2_with (go_at_call 48; refine (copyCheck_o b s at_ nm bs _ h).mono ?_)
  rintro e w1 ⟨rfl, h1, hb1⟩
  obtain ⟨v, hbk, hown, hne⟩ := h1
  have c1 : w1.cell? ⟨b, 4, none⟩ = some v := by rw [Lib.cell_of_heap hbk]; rfl
  go_wp2_with (at_builtin; refine wpList_append_ownF _ rfl _ _ 41 rfl b 5 i0 (.int .u8 0) 1 1 Tryd.underlying41 hi hz0 hz1 hz2 rfl (by decide) _ _ _ rfl (hown.alloc _) ⟨w1.heap.size, 0, none⟩ 1 1 [.int .u8 c] rfl rfl (cell_one_new _ _ _) (by intro u hu; simp at hu; subst hu; rfl) (by unfold maxLen; omega) (by omega) (by have := hb1.size; simp; omega) ?_)
  intro v' w2 hown' hgrow _
  have hlt : b < w1.heap.size := (Array.getElem?_eq_some_iff.1 hbk).1
  have hb2 : w2.heap[b]? = some (.cells #[.string s, .int .i64 at_, .bool nm, .pointer (some ⟨b, 3, none⟩), v] 45 (0, 0)) := by
    rw [hgrow.block b (by simp; omega) (fun e => hne e.symm), Lib.alloc_old w1 _ b hlt]
    exact hbk
  have d1 : w2.cell? ⟨b, 4, none⟩ = some v := by rw [Lib.cell_of_heap hb2]; rfl
  have f1 : w2.frozen? ⟨b, 4, none⟩ = false := Lib.frozen_of_heap hb2 4
  obtain ⟨g, cap, rfl⟩ : ∃ g cap, v' = .slice (some ⟨g, 0, none⟩) (bs.length + 1) cap := by
    rcases hown'.2 with ⟨_, h0⟩ | ⟨g, cap, cur, fz, hv, _⟩
    · omega
    · exact ⟨g, cap, hv⟩
  go_wp2
  go_ret
  refine ⟨rfl, put4 hb2 (by simpa using hown'), ?_⟩
  exact ((hb1.alloc (by have := hb1.size; omega) _).grown hgrow (by have := hb1.size; simp; omega) (fun k hk => (hown.lt k hk).1)).setCell (p := ⟨b, 4, none⟩) (Nat.le_refl _) _
set_option maxHeartbeats 4000000 in
set_option maxRecDepth 100000 in
theorem WriteString_o (b : Nat) (s : ByteArray) (at_ : Int) (nm : Bool) (bs : List Value) (t : ByteArray) (w : World) (h : RD b s at_ nm bs w) (hlen : bs.length + t.size ≤ 140737488355328) (hBw : b ≤ w.heap.size) :
    Calls Tryd.prog 37 #[.pointer (some ⟨b, 3, none⟩), .string t] w fun e w' => e = .returned (.tuple #[.int .i64 t.size, .nilIface]) ∧ RDp (.pointer (some ⟨b, 3, none⟩)) b s at_ nm (bs ++ Lib.strCells t) w' ∧ Below b w w' := by
  obtain ⟨i0, hi, hz0, hz1, hz2⟩ := info_parts Bld.infoByte
  go_enter Tryd.func37, Tryd.ntmps37
  go_wp2_with (go_at_call 48; refine (copyCheck_o b s at_ nm bs _ h).mono ?_)
  rintro e w1 ⟨rfl, h1, hb1⟩
  obtain ⟨v, hbk, hown, hne⟩ := h1
  have c1 : w1.cell? ⟨b, 4, none⟩ = some v := by rw [Lib.cell_of_heap hbk]; rfl
  go_wp2_with (at_builtin; refine Lib.wpList_append_own_stringF _ rfl _ _ 41 9 rfl b 5 i0 Tryd.underlying41 Tryd.underlying9 hi hz0 hz1 hz2 _ _ _ rfl hown t rfl (by unfold maxLen; omega) (by omega) (by have := hb1.size; omega) ?_)
  intro v' w2 hown' hgrow _
  have hlt : b < w1.heap.size := (Array.getElem?_eq_some_iff.1 hbk).1
  have hb2 : w2.heap[b]? = some (.cells #[.string s, .int .i64 at_, .bool nm, .pointer (some ⟨b, 3, none⟩), v] 45 (0, 0)) := by
    rw [hgrow.block b hlt (fun e => hne e.symm)]
    exact hbk
  have d1 : w2.cell? ⟨b, 4, none⟩ = some v := by rw [Lib.cell_of_heap hb2]; rfl
  have f1 : w2.frozen? ⟨b, 4, none⟩ = false := Lib.frozen_of_heap hb2 4
  obtain ⟨ao, n', cap, rfl⟩ : ∃ ao n' cap, v' = .slice ao n' cap := by
    rcases hown'.2 with ⟨hv, _⟩ | ⟨g, cap, cur, fz, hv, _⟩
    · exact ⟨_, _, _, hv⟩
    · exact ⟨_, _, _, hv⟩
  go_wp2
  go_ret2
  refine ⟨rfl, put4 hb2 (by simpa [Lib.strCells_length] using hown'), ?_⟩
  exact (hb1.grown hgrow (by have := hb1.size; omega) (fun k hk => (hown.lt k hk).1)).setCell (p := ⟨b, 4, none⟩) (Nat.le_refl _) _
theorem cellsU : Tryd.prog.cellsOf 5 = 1 := by kernel_rfl
set_option maxHeartbeats 4000000 in
set_option maxRecDepth 100000 in
theorem String_o (b : Nat) (s : ByteArray) (at_ : Int) (nm : Bool) (l : List UInt8) (w : World) (h : RD b s at_ nm (Lib.byteCells l) w) (hBw : b ≤ w.heap.size) :
    Calls Tryd.prog 32 #[.pointer (some ⟨b, 3, none⟩)] w fun e w' => e = .returned (.string ⟨l.toArray⟩) ∧ Below b w w' := by
  obtain ⟨p, v, h1, hown⟩ : ∃ p v, w.heap[b]? = some (.cells #[.string s, .int .i64 at_, .bool nm, p, v] 45 (0, 0)) ∧ w.ownsRowF b 5 1 v l.length (Lib.byteCells l) := by
    rcases h with ⟨v, h1, h2, _⟩ | ⟨v, h1, h2, _⟩
    · exact ⟨_, v, h1, by rw [Lib.byteCells_length] at h2; exact h2⟩
    · exact ⟨_, v, h1, by rw [Lib.byteCells_length] at h2; exact h2⟩
  have c1 : w.drew.cell? ⟨b, 4, none⟩ = some v := by
    have : w.drew.heap[b]? = _ := h1
    rw [Lib.cell_of_heap this]; rfl
  have c2 : w.cell? ⟨b, 4, none⟩ = some v := c1
  have mixed : Tryd.prog.follows Departure.mixedOrders = true := by kernel_rfl
  rcases hown.2 with ⟨rfl, h0⟩ | ⟨g, cap, cur, fz, rfl, hbg, hg, hfz, hnc, hcm, hcs, htake⟩
  · have hl0 : l = [] := List.eq_nil_of_length_eq_zero h0
    subst hl0
    have hSD : (Builtin.unsafeSliceData_ #[41] 64 #[.slice none 0 0]).run Tryd.prog w.drew = .ok (.pointer none) w.drew := rfl
    have hUS : ∀ W q, (Builtin.unsafeString_ #[64, 3] 9 #[.pointer q, .int .i64 0]).run Tryd.prog W = .ok (.string .empty) W := fun W q => Lib.run_unsafeString_none W _ _ _ q
    clear h1 hown h
    go_enter Tryd.func32, Tryd.ntmps32
    go_wp2
    go_region_o
    all_goals (go_wp2; go_ret; exact ⟨rfl, Below.drew (Below.refl b w)⟩)
  · by_cases hl0 : l = []
    · subst hl0
      have hUS : ∀ W q, (Builtin.unsafeString_ #[64, 3] 9 #[.pointer q, .int .i64 0]).run Tryd.prog W = .ok (.string .empty) W := fun W q => Lib.run_unsafeString_none W _ _ _ q
      by_cases hcap : cap = 0
      · subst hcap
        have hSD : (Builtin.unsafeSliceData_ #[41] 64 #[.slice (some ⟨g, 0, none⟩) 0 0]).run Tryd.prog w.drew = .ok (.pointer (some ⟨w.drew.heap.size, 0, none⟩)) (w.drew.alloc (.view ⟨g, 0, none⟩ 5)) :=
          Lib.run_unsafeSliceData_zero _ _ _ 5 Tryd.underlying64 ⟨g, 0, none⟩ 0 (5, cur.size) (by have hg' : w.drew.heap[g]? = some (.cells cur 5 fz) := hg; simp [World.shape?, hg'])
        have hlt : b < w.heap.size := (Array.getElem?_eq_some_iff.1 h1).1
        have c3 : (w.drew.alloc (.view ⟨g, 0, none⟩ 5)).cell? ⟨b, 4, none⟩ = some (.slice (some ⟨g, 0, none⟩) 0 0) := (((Below.refl w.drew.heap.size w.drew).alloc (Nat.le_refl _) _).cell (p := ⟨b, 4, none⟩) hlt).trans c1
        have c4 : (w.alloc (.view ⟨g, 0, none⟩ 5)).cell? ⟨b, 4, none⟩ = some (.slice (some ⟨g, 0, none⟩) 0 0) := (((Below.refl w.heap.size w).alloc (Nat.le_refl _) _).cell (p := ⟨b, 4, none⟩) hlt).trans c2
        clear h1 hown h
        go_enter Tryd.func32, Tryd.ntmps32
        go_wp2
        go_region_o
        all_goals (go_wp2; go_ret; exact ⟨rfl, (Below.drew (Below.refl b w)).alloc hBw _⟩)
      · have hSD : (Builtin.unsafeSliceData_ #[41] 64 #[.slice (some ⟨g, 0, none⟩) 0 cap]).run Tryd.prog w.drew = .ok (.pointer (some ⟨g, 0, none⟩)) w.drew := Lib.run_unsafeSliceData_row _ _ _ _ _ _ hcap
        clear h1 hown h
        go_enter Tryd.func32, Tryd.ntmps32
        go_wp2
        go_region_o
        all_goals (go_wp2; go_ret; exact ⟨rfl, Below.drew (Below.refl b w)⟩)
    · have hln : l.length ≠ 0 := by simpa using hl0
      have hSD : (Builtin.unsafeSliceData_ #[41] 64 #[.slice (some ⟨g, 0, none⟩) l.length cap]).run Tryd.prog w.drew = .ok (.pointer (some ⟨g, 0, none⟩)) w.drew := Lib.run_unsafeSliceData_row _ _ _ _ _ _ (by omega)
      have hUS : (Builtin.unsafeString_ #[64, 3] 9 #[.pointer (some ⟨g, 0, none⟩), .int .i64 l.length]).run Tryd.prog w.drew = .ok (.string ⟨l.toArray⟩) (w.drew.freeze ⟨g, 0, none⟩ l.length) := by
        refine Lib.run_unsafeString_row w.drew _ _ _ 5 Tryd.underlying64 cellsU g cur.size (by have hg' : w.drew.heap[g]? = some (.cells cur 5 fz) := hg; simp [World.shape?, hg']) l hl0 (by omega) (by unfold maxLen at hcm; omega) ?_
        intro j x hx
        exact hown.cells (g := g) rfl j (.int .u8 x.toNat) (by simp [Lib.byteCells, hx])
      clear h1 hown h
      go_enter Tryd.func32, Tryd.ntmps32
      go_wp2
      go_region_o
      all_goals (go_wp2; go_ret; exact ⟨rfl, Lib.below_freeze (Below.drew (Below.refl b w)) (p := ⟨g, 0, none⟩) hbg _⟩)
end BldO
end Go.Proofs.YtbpcoieemkojjaaDoor
/- Go's own errors.As and errors.Is at the errors of one package: a struct of one number, that wraps the package's one sentinel. -/
namespace Go.Proofs.YtbpcoieemkojjaaDoor
set_option linter.unusedSimpArgs false
set_option linter.unusedVariables false
namespace Esc
open Go.RowKit Go.Extern.Stop Go.Stop Go.Extern

/-- the error as a value -/
abbrev werr (n : Int) : Value := .iface 60 (.agg #[.int .i64 n])

theorem valueOfPW (t : Addr) (w : World) : (ReflectliteValue.unpack (.iface 62 (.pointer (some t)))).run Tryd.prog w
    = .ok (.agg #[.pointer (some ⟨7, 62, none⟩), .pointer (some ⟨w.heap.size, 0, none⟩), .int .u64 150]) (w.alloc (.cells #[.pointer (some t)] 62)) := by kernel_rfl
theorem typePW (a : Addr) (w : World) : (ReflectliteValue.methodAny (ReflectliteValue.valueError "reflectlite.Value.Type" 0) (fun t _ _ _ => ReflectliteType.toType t) #[.agg #[.pointer (some ⟨7, 62, none⟩), .pointer (some a), .int .u64 150]]).run Tryd.prog w
    = .ok (.iface 101 (.agg #[.pointer (some ⟨7, 62, none⟩)])) w := by kernel_rfl
theorem kindPW (w : World) : ((ReflectliteType.abiMethod fun t => (fun a : Nat => Value.int IntKind.u8 (a : Int)) <$> Rtype.kind t) #[.pointer (some ⟨7, 62, none⟩)]).run Tryd.prog w = .ok (.int .u8 22) w := by kernel_rfl
theorem kindW (w : World) : ((ReflectliteType.abiMethod fun t => (fun a : Nat => Value.int IntKind.u8 (a : Int)) <$> Rtype.kind t) #[.pointer (some ⟨7, 60, none⟩)]).run Tryd.prog w = .ok (.int .u8 25) w := by kernel_rfl
theorem partsPW (a : Addr) (w : World) : (ReflectliteValue.parts (.agg #[.pointer (some ⟨7, 62, none⟩), .pointer (some a), .int .u64 150])).run Tryd.prog w = .ok (some (62, a, 150)) w := by kernel_rfl
theorem isNilPW (a p : Addr) (W : World) (ha : W.cell? a = some (.pointer (some p))) :
    (ReflectliteValue.method (ReflectliteValue.valueError "reflectlite.Value.IsNil" 0) ReflectliteValue.isNil #[.agg #[.pointer (some ⟨7, 62, none⟩), .pointer (some a), .int .u64 150]]).run Tryd.prog W = .ok (.bool false) W := by
  rw [rlm]
  simp only [Sem.run_bind, partsPW, Result.andThen]
  simp [ReflectliteValue.isNil, loadVar, isAgg, underlying, Tryd.underlying62, ha, Result.andThen]
theorem elemPW (w : World) : (ReflectliteType.method ReflectliteType.elem #[.agg #[.pointer (some ⟨7, 62, none⟩)]]).run Tryd.prog w = .ok (.iface 101 (.agg #[.pointer (some ⟨7, 60, none⟩)])) w := by kernel_rfl
theorem implementsW (w : World) : (ReflectliteType.relation "Implements" ReflectliteType.implements_ #[.agg #[.pointer (some ⟨7, 60, none⟩)], .iface 101 (.agg #[.pointer (some ⟨7, 47, none⟩)])]).run Tryd.prog w = .ok (.bool true) w := by kernel_rfl
theorem typeOfW (v : Value) (w : World) : (ReflectliteType.typeOf #[.iface 60 v]).run Tryd.prog w = .ok (.iface 101 (.agg #[.pointer (some ⟨7, 60, none⟩)])) w := by kernel_rfl
theorem assignableW (w : World) : (ReflectliteType.relation "AssignableTo" ReflectliteType.assignableTo #[.agg #[.pointer (some ⟨7, 60, none⟩)], .iface 101 (.agg #[.pointer (some ⟨7, 60, none⟩)])]).run Tryd.prog w = .ok (.bool true) w := by kernel_rfl
theorem valueOfW (n : Int) (w : World) : (ReflectliteValue.unpack (werr n)).run Tryd.prog w
    = .ok (.agg #[.pointer (some ⟨7, 60, none⟩), .pointer (some ⟨w.heap.size, 0, none⟩), .int .u64 153]) (w.alloc (.cells #[.int .i64 n] 60)) := by kernel_rfl
theorem elemOfPW (w : World) : (Rtype.elem? 62).run Tryd.prog w = .ok (some 60) w := by kernel_rfl
theorem mkW (p : Addr) (w : World) : (ReflectliteValue.mk 60 p ReflectliteValue.flagAddr).run Tryd.prog w = .ok (.agg #[.pointer (some ⟨7, 60, none⟩), .pointer (some p), .int .u64 409]) w := by kernel_rfl
theorem elemVPW (a p : Addr) (W : World) (ha : W.cell? a = some (.pointer (some p))) :
    (ReflectliteValue.method (ReflectliteValue.valueError "reflectlite.Value.Elem" 0) ReflectliteValue.elem #[.agg #[.pointer (some ⟨7, 62, none⟩), .pointer (some a), .int .u64 150]]).run Tryd.prog W
      = .ok (.agg #[.pointer (some ⟨7, 60, none⟩), .pointer (some p), .int .u64 409]) W := by
  rw [rlm]
  simp only [Sem.run_bind, partsPW, Result.andThen]
  simp [ReflectliteValue.elem, loadVar, isAgg, underlying, Tryd.underlying62, ha, Result.andThen, elemOfPW, mkW]
theorem partsWa (a : Addr) (w : World) : (ReflectliteValue.parts (.agg #[.pointer (some ⟨7, 60, none⟩), .pointer (some a), .int .u64 409])).run Tryd.prog w = .ok (some (60, a, 409)) w := by kernel_rfl
theorem partsW (a : Addr) (w : World) : (ReflectliteValue.parts (.agg #[.pointer (some ⟨7, 60, none⟩), .pointer (some a), .int .u64 153])).run Tryd.prog w = .ok (some (60, a, 153)) w := by kernel_rfl
theorem directW (w : World) : (Rtype.directlyAssignable 60 60).run Tryd.prog w = .ok true w := by kernel_rfl
theorem sizeW : (Tryd.prog.info? 60).map (·.size) = some 1 := by kernel_rfl
theorem setW (g gb : Nat) (v0 : Value) (old : Array Value) (W : World) (hb : W.heap[gb]? = some (.cells #[v0] 60 (0, 0))) (ht : W.heap[g]? = some (.cells old 60 (0, 0))) (ho : old.size = 1) (h1 : (#[v0] : Array Value).all (·.oneCell') = true) :
    (ReflectliteValue.set #[.agg #[.pointer (some ⟨7, 60, none⟩), .pointer (some ⟨g, 0, none⟩), .int .u64 409], .agg #[.pointer (some ⟨7, 60, none⟩), .pointer (some ⟨gb, 0, none⟩), .int .u64 153]]).run Tryd.prog W
      = .ok (.tuple #[]) (W.setRow g #[v0]) := by
  rw [rls]
  simp only [Sem.run_bind, partsWa, partsW, Result.andThen]
  simp [ReflectliteValue.flagAddr, run_loadVar_row (P := Tryd.prog) W gb 60 60 #[v0] (0, 0) _ hb Tryd.underlying60 rfl sizeW, Result.andThen, directW, run_storeVar_row (P := Tryd.prog) W g 60 60 old #[v0] ht sizeW ho h1]

set_option maxHeartbeats 4000000 in
theorem as_hit (n : Int) (g : Nat) (old : Array Value) (w : World) (hg : w.cell? ⟨1, 0, none⟩ = some (.iface 101 (.agg #[.pointer (some ⟨7, 47, none⟩)])))
    (ht : w.heap[g]? = some (.cells old 60 (0, 0))) (ho : old.size = 1) :
    Calls Tryd.prog 43 #[werr n, .iface 62 (.pointer (some ⟨g, 0, none⟩))] w fun ev w' => ev = .returned (.bool true) ∧ Below g w w' ∧ w'.heap[g]? = some (.cells #[.int .i64 n] 60 (0, 0)) := by
  have h6 := @run_callFunc_extern Tryd.prog 53 _ (fun args => ReflectliteValue.unpack (args.getD 0 (.tuple #[]))) Tryd.func53 (by kernel_rfl) (by kernel_rfl) (by kernel_rfl) (by kernel_rfl)
  have h7 := @run_callFunc_extern Tryd.prog 54 _ (ReflectliteValue.methodAny (ReflectliteValue.valueError "reflectlite.Value.Type" 0) (fun t _ _ _ => ReflectliteType.toType t)) Tryd.func54 (by kernel_rfl) (by kernel_rfl) (by kernel_rfl) (by kernel_rfl)
  have h8 := @run_callFunc_extern Tryd.prog 55 _ (ReflectliteValue.method (ReflectliteValue.valueError "reflectlite.Value.IsNil" 0) ReflectliteValue.isNil) Tryd.func55 (by kernel_rfl) (by kernel_rfl) (by kernel_rfl) (by kernel_rfl)
  have h27 := @run_callFunc_extern Tryd.prog 92 _ (ReflectliteType.abiMethod fun t => do pure (.int .u8 (← Rtype.kind t))) Tryd.func92 (by kernel_rfl) (by kernel_rfl) (by kernel_rfl) (by kernel_rfl)
  have h37 := @run_callFunc_extern Tryd.prog 104 _ (ReflectliteType.method ReflectliteType.elem) Tryd.func104 (by kernel_rfl) (by kernel_rfl) (by kernel_rfl) (by kernel_rfl)
  have h38 := @run_callFunc_extern Tryd.prog 105 _ (ReflectliteType.relation "Implements" ReflectliteType.implements_) Tryd.func105 (by kernel_rfl) (by kernel_rfl) (by kernel_rfl) (by kernel_rfl)
  have h10 := @run_callFunc_extern Tryd.prog 57 _ ReflectliteType.typeOf Tryd.func57 (by kernel_rfl) (by kernel_rfl) (by kernel_rfl) (by kernel_rfl)
  have h35 := @run_callFunc_extern Tryd.prog 102 _ (ReflectliteType.relation "AssignableTo" ReflectliteType.assignableTo) Tryd.func102 (by kernel_rfl) (by kernel_rfl) (by kernel_rfl) (by kernel_rfl)
  have h11 := @run_callFunc_extern Tryd.prog 67 _ (ReflectliteValue.method (ReflectliteValue.valueError "reflectlite.Value.Elem" 0) ReflectliteValue.elem) Tryd.func67 (by kernel_rfl) (by kernel_rfl) (by kernel_rfl) (by kernel_rfl)
  have h12 := @run_callFunc_extern Tryd.prog 68 _ ReflectliteValue.set Tryd.func68 (by kernel_rfl) (by kernel_rfl) (by kernel_rfl) (by kernel_rfl)
  have tO := typeOfW
  have mA := eMethodAssignableTo
  have a25 := assignableW
  have v25 := valueOfW n
  have f6 := valueOfPW
  have f7 := typePW
  have mK := eMethodKind
  have mE := eMethodElem
  have mI := eMethodImplements
  have k27 := kindPW
  have k25 := kindW
  have e27 := elemPW
  have i25 := implementsW
  obtain ⟨W1, hW1⟩ : ∃ W1, (w.alloc (.cells #[.pointer (some ⟨g, 0, none⟩)] 62)).alloc (.cells #[.pointer (some ⟨7, 62, none⟩), .pointer (some ⟨w.heap.size, 0, none⟩), .int .u64 150] 77) = W1 := ⟨_, rfl⟩
  have n8 := isNilPW ⟨w.heap.size, 0, none⟩ ⟨g, 0, none⟩ ((w.alloc (.cells #[.pointer (some ⟨g, 0, none⟩)] 62)).alloc (.cells #[.pointer (some ⟨7, 62, none⟩), .pointer (some ⟨w.heap.size, 0, none⟩), .int .u64 150] 77)) (by simp)
  have hlt : 1 < w.heap.size := by
    rcases Nat.lt_or_ge 1 w.heap.size with h | h
    · exact h
    · simp [World.cell?, Array.getElem?_eq_none h] at hg
  have hg2 : ((w.alloc (.cells #[.pointer (some ⟨g, 0, none⟩)] 62)).alloc (.cells #[.pointer (some ⟨7, 62, none⟩), .pointer (some ⟨w.heap.size, 0, none⟩), .int .u64 150] 77)).cell? ⟨1, 0, none⟩ = some (.iface 101 (.agg #[.pointer (some ⟨7, 47, none⟩)])) := by
    rw [World.cell?_alloc_lt _ _ ⟨1, 0, none⟩ (by simp; omega), World.cell?_alloc_lt _ _ ⟨1, 0, none⟩ hlt]; exact hg
  have htl : g < w.heap.size := (Array.getElem?_eq_some_iff.1 ht).1
  have el := elemVPW ⟨w.heap.size, 0, none⟩ ⟨g, 0, none⟩ (((w.alloc (.cells #[.pointer (some ⟨g, 0, none⟩)] 62)).alloc (.cells #[.pointer (some ⟨7, 62, none⟩), .pointer (some ⟨w.heap.size, 0, none⟩), .int .u64 150] 77)).alloc (.cells #[.pointer (some ⟨7, 62, none⟩), .pointer (some ⟨w.heap.size, 0, none⟩), .int .u64 150] 77)) (by rw [World.cell?_alloc_lt _ _ ⟨w.heap.size, 0, none⟩ (by simp; omega)]; simp)
  obtain ⟨W4, hW4⟩ : ∃ W4, (((w.alloc (.cells #[.pointer (some ⟨g, 0, none⟩)] 62)).alloc (.cells #[.pointer (some ⟨7, 62, none⟩), .pointer (some ⟨w.heap.size, 0, none⟩), .int .u64 150] 77)).alloc (.cells #[.pointer (some ⟨7, 62, none⟩), .pointer (some ⟨w.heap.size, 0, none⟩), .int .u64 150] 77)).alloc (.cells #[.int .i64 n] 60) = W4 := ⟨_, rfl⟩
  have hB4 : Below (g + 1) w W4 := by rw [← hW4]; exact ((((Below.refl _ w).alloc (by omega) _).alloc (by simp; omega) _).alloc (by simp; omega) _).alloc (by simp; omega) _
  have ht4 : W4.heap[g]? = some (.cells old 60 (0, 0)) := (hB4.block g (by omega)).trans ht
  have hb4 : W4.heap[w.heap.size + 1 + 1 + 1]? = some (.cells #[.int .i64 n] 60 (0, 0)) := by
    rw [← hW4]
    show (Array.push _ _)[_]? = _
    rw [Array.getElem?_push, if_pos (by simp)]
  have st := setW g (w.heap.size + 1 + 1 + 1) (.int .i64 n) old W4 hb4 ht4 ho (by simp [Value.oneCell'])
  have HR := setRow_heap (cs := #[.int .i64 n]) ht4
  have HB := setRow_below (g := g) (hB4.mono (Nat.le_succ g)) (Nat.le_refl _) #[.int .i64 n]
  rw [← hW4] at st HR HB
  have HR' : Hid _ := HR
  have HB' : Hid _ := HB
  clear HR HB hW1 ht4 hb4 hB4 hW4 ht ho
  go_enter Tryd.func43, Tryd.ntmps43
  go_wp2
  refine wp_loop_rounds 1 ?_
  rw [rounds_succ]
  go_wp2
  go_ret
  exact ⟨rfl, HB'.out, HR'.out⟩

/-! errors.Is -/
theorem noIsW (v : Value) (xT : TypeId) (w : World) : (Instr.typeAssert (.iface 60 v) xT 112 true).run Tryd.prog w = .ok (.tuple #[.nilIface, .bool false]) w := run_typeAssert_lacksB Tryd.underlying112 (by kernel_rfl) (by kernel_rfl) v xT w
theorem hasUnwrapW (v : Value) (xT : TypeId) (w : World) : (Instr.typeAssert (.iface 60 v) xT 108 true).run Tryd.prog w = .ok (.tuple #[.iface 60 v, .bool true]) w := run_typeAssert_hasB Tryd.underlying108 (by kernel_rfl) v xT w
theorem methodUnwrapW (v : Value) (w : World) : (Go.method 262 60 v "Unwrap").run Tryd.prog w = .ok (97, v) w := by kernel_rfl

/-- errors.Is(wrong{n}, the package's own sentinel): it is. -/
theorem is_same (n : Int) (b : Addr) (w : World) (hg : w.cell? ⟨0, 0, none⟩ = some (.iface 131 (.pointer (some b)))) :
    Calls Tryd.prog 44 #[werr n, .iface 131 (.pointer (some b))] w fun e w' => e = .returned (.bool true) ∧ Below w.heap.size w w' := by
  obtain ⟨i, hi, hcmp⟩ := Option.map_eq_some_iff.1 eComp
  obtain ⟨j, hj, hjs⟩ := Option.map_eq_some_iff.1 eSize
  have h8 := @run_callFunc_extern Tryd.prog 57 _ Extern.ReflectliteType.typeOf Tryd.func57 (by kernel_rfl) (by kernel_rfl) (by kernel_rfl) (by kernel_rfl)
  have h32 := @run_callFunc_extern Tryd.prog 103 _ cmpE Tryd.func103 (by kernel_rfl) (by kernel_rfl) (by kernel_rfl) (by kernel_rfl)
  have tT := eTypeOfES
  have cT := eComparableES
  have mR := eMethodComparable
  have nE := eNoIs
  have uE := eNoUnwrap
  have vE := eNoUnwraps
  have nW := noIsW
  have uW := hasUnwrapW
  have mU := methodUnwrapW
  have hlt := lt_of_cell hg
  simp only at hlt
  have heq := fun w => run_eql_iface_ptr_same (P := Tryd.prog) w b Tryd.underlying47 Tryd.underlying131 hi hcmp hj
  have hty := fun w => run_eql_iface_types (P := Tryd.prog) 60 131 (.agg #[.int .i64 n]) (.pointer (some b)) Tryd.underlying47 (by decide) w
  go_enter Tryd.func44, Tryd.ntmps44
  go_wp2
  refine wp_loop_rounds 2 ?_
  rw [rounds_succ]
  go_wp2
  rw [rounds_succ]
  go_wp2
  go_ret
  exact ⟨rfl, by repeat (first | exact Below.refl _ _ | refine Below.alloc ?_ (by simp) _)⟩
end Esc
end Go.Proofs.YtbpcoieemkojjaaDoor
/- What the package-level variables of one package hold. -/
namespace Go.Proofs.YtbpcoieemkojjaaDoor
set_option linter.unusedSimpArgs false
set_option linter.unusedVariables false
namespace Esc
open Go.RowKit
structure GA (a0 : Addr) (w : World) : Prop where
  et : w.cell? ⟨1, 0, none⟩ = some (.iface 101 (.agg #[.pointer (some ⟨7, 47, none⟩)]))
  g0 : w.cell? ⟨0, 0, none⟩ = some (.iface 131 (.pointer (some a0)))
  h0 : ∃ c t, w.heap[a0.block]? = some (.cells c t (0, 0))
theorem GA.below {a0 : Addr} {w w' : World} (h : GA a0 w) (hb : Below w.heap.size w w') : GA a0 w' where
  et := (hb.cell (lt_of_cell h.et)).trans h.et
  g0 := (hb.cell (lt_of_cell h.g0)).trans h.g0
  h0 := by obtain ⟨c, t, hc⟩ := h.h0; exact ⟨c, t, (hb.block _ (Array.getElem?_eq_some_iff.1 hc).1).trans hc⟩
end Esc
end Go.Proofs.YtbpcoieemkojjaaDoor
/- utf's Right alone, for a seat whose list does not name errUtf: it asks for utf8's tables only. -/
namespace Go.Proofs.YtbpcoieemkojjaaDoor
set_option linter.unusedSimpArgs false
set_option linter.unusedVariables false
namespace Utf
open Go.RowKit Go.Shelf Go.Proofs.YtbpcoieemkojjaaDoorW.PrintWords
attribute [local go_sem] Oper.semAt_some
/-- the error as a value -/
abbrev werr (n : Int) : Value := .iface 121 (.agg #[.int .i64 n])
theorem tabs_of {A B : World} (h : Lib.Utf8Tabs 4 5 A)
    (h2 : B.heap[(4 : Nat)]? = A.heap[(4 : Nat)]?) (h3 : B.heap[(5 : Nat)]? = A.heap[(5 : Nat)]?) : Lib.Utf8Tabs 4 5 B := by
  have c2 : ∀ c, B.cell? ⟨4, c, none⟩ = A.cell? ⟨4, c, none⟩ := fun c => by simp only [World.cell?, h2]
  have c3 : ∀ c, B.cell? ⟨5, c, none⟩ = A.cell? ⟨5, c, none⟩ := fun c => by simp only [World.cell?, h3]
  refine ⟨fun c hc => ?_, fun i hi => ?_⟩
  · rw [c2]; exact h.1 c hc
  · rw [c3, c3]; exact h.2 i hi
theorem tabs_lt {A : World} (h : Lib.Utf8Tabs 4 5 A) : (4 : Nat) < A.heap.size ∧ (5 : Nat) < A.heap.size :=
  ⟨lt_of_cell (a := ⟨4, 0, none⟩) (h.1 0 (by decide)), lt_of_cell (a := ⟨5, 2 * 0, none⟩) (h.2 0 (by decide)).1⟩
theorem tabs_below {A B : World} (h : Lib.Utf8Tabs 4 5 A) (hb : Below A.heap.size A B) : Lib.Utf8Tabs 4 5 B :=
  tabs_of h (hb.block _ (tabs_lt h).1) (hb.block _ (tabs_lt h).2)
theorem tabs_chg {S : Nat → Prop} {A B : World} (h : Lib.Utf8Tabs 4 5 A) (hc : Chg S A B) (h2 : ¬ S 4) (h3 : ¬ S 5) : Lib.Utf8Tabs 4 5 B :=
  tabs_of h (hc.block _ (tabs_lt h).1 h2) (hc.block _ (tabs_lt h).2 h3)
/-! The iterator. -/
theorem signs_any (s : ByteArray) (g : Nat) (w : World) : Calls Tryd.prog 61 #[.agg #[.string s], .pointer (some ⟨g, 0, none⟩)] w
    fun e w' => e = .returned (.func (.func 71) #[] #[.pointer (some ⟨w.heap.size, 0, none⟩), .pointer (some ⟨w.heap.size + 1, 0, none⟩)]) ∧ w' = (w.alloc (.cells #[.string s] 70)).alloc (.cells #[.pointer (some ⟨g, 0, none⟩)] 94) := by
  go_enter Tryd.func61, Tryd.ntmps61
  go_wp2
  go_ret
  exact ⟨rfl, rfl⟩
theorem decodeGo_at (s : ByteArray) (pos : Nat) (h : pos < s.size) : Lib.decodeGo (s.extract pos s.size) = Utf8.decode s pos := by
  have hsz : (s.extract pos s.size).size = s.size - pos := by simp
  unfold Lib.decodeGo
  rw [if_neg (by omega)]
  have hb : ∀ k : Nat, bt (s.extract pos s.size) (k : Int) = bt s ((pos : Int) + k) := fun k => by
    unfold bt
    by_cases hk : pos + k < s.size
    · rw [dif_pos (by simp; omega), dif_pos (by omega)]
      simp only [ByteArray.getElem_extract]
      congr 2
    · rw [dif_neg (by simp; omega), dif_neg (by omega)]
  have r : ∀ k : Int, ∃ b : Nat, (b : Int) = bt s ((pos : Int) + k) := fun k => ⟨(bt s ((pos : Int) + k)).toNat, by have := bt_range s ((pos : Int) + k); omega⟩
  obtain ⟨b0, h0⟩ := r 0
  obtain ⟨b1, h1⟩ := r 1
  obtain ⟨b2, h2⟩ := r 2
  obtain ⟨b3, h3⟩ := r 3
  rw [decode_bt s pos h b0 b1 b2 b3 (by simpa using h0) h1 h2 h3,
    decode_bt (s.extract pos s.size) 0 (by omega) b0 b1 b2 b3 (by rw [hb 0]; simpa using h0) (by rw [show ((0 : Nat) : Int) + 1 = ((1 : Nat) : Int) by rfl, hb 1]; exact h1) (by rw [show ((0 : Nat) : Int) + 2 = ((2 : Nat) : Int) by rfl, hb 2]; exact h2) (by rw [show ((0 : Nat) : Int) + 3 = ((3 : Nat) : Int) by rfl, hb 3]; exact h3)]
  simp only [hsz, Nat.zero_add, show ∀ k, k < s.size - pos ↔ pos + k < s.size from fun k => by omega]
theorem decode_bounds (s : ByteArray) (pos : Nat) (h : pos < s.size) : 1 ≤ (Utf8.decode s pos).2 ∧ (Utf8.decode s pos).1 ≤ 2147483647 := by
  refine ⟨?_, decode_le s pos⟩
  by_cases ha : (s[pos]'h).toNat < 128
  · rw [decode_ascii s pos h ha]
    exact Nat.le_refl _
  · exact (decode_high s pos h (by omega)).2
theorem iterAt_chg {S : Nat → Prop} (w : World) (k : Nat) (s : ByteArray) (pos : Nat) (h : S k) : Chg S w (w.iterAt k s pos) :=
  ⟨rfl, rfl, rfl, by rw [Lib.iterAt_size]; exact Nat.le_refl _, fun j _ hj => Lib.iterAt_other w k j s pos (fun e => hj (e ▸ h))⟩
/-- What lies behind the iterator where its error was to go. -/
def EndErr (s : ByteArray) (g : Nat) (W : World) : Prop := Boxed W g 47 (if bad s < 0 then .nilIface else werr (bad s))
set_option maxRecDepth 100000 in
set_option maxHeartbeats 4000000 in
theorem signs_it (m : Nat) (hm : 1 ≤ m) (s : ByteArray) (hs : s.size ≤ 4611686018427387904) (B C g : Nat) (Rd : Nat → Prop) (r2 : Rd 4) (r3 : Rd 5) (rg : ¬ Rd g) :
    IterD Fence.wide m Tryd.prog 71 #[.pointer (some ⟨B, 0, none⟩), .pointer (some ⟨C, 0, none⟩)] (fun x : Int × Int => #[.int .i64 x.1, .int .i32 x.2]) (sc s s.size 0).1 Rd
      (fun U W => W.heap[B]? = some (.cells #[.string s] 70 (0, 0)) ∧ W.heap[C]? = some (.cells #[.pointer (some ⟨g, 0, none⟩)] 94 (0, 0)) ∧ Boxed W g 47 .nilIface ∧ ¬ U B ∧ ¬ U C ∧ ¬ U g ∧
        Lib.Utf8Tabs 4 5 W)
      (EndErr s g) := by
  intro l J Jx U0 W ⟨wB, wC, wg, uB, uC, ug, wT⟩ hU hR hJ hJx hY h0
  refine callsIn_of_wp Tryd.func71 rfl trivial ?_ rfl
  simp only [Tryd.ntmps71, List.size_toArray, List.length_cons, List.length_nil, Nat.reduceAdd, Nat.reduceSub, Array.replicate_succ, Array.replicate_zero, List.push_toArray, List.append_toArray, List.nil_append, List.cons_append]
  have c0 := cell_of_row W B 0 _ _ _ wB
  simp at c0
  refine wpIn_wide.2 (wp_scope_straight ((wpIn_wide (n := m)).1 (wpIn_seq (wpIn_label ?_))))
  gi_wp2
  have hB := (Array.getElem?_eq_some_iff.1 wB).1
  have hC := (Array.getElem?_eq_some_iff.1 wC).1
  have hg := (Array.getElem?_eq_some_iff.1 wg).1
  have hgB : g ≠ B := by rintro rfl; exact absurd ((show W.heap[g]? = some _ from wg).symm.trans wB) (by simp)
  have hgC : g ≠ C := by rintro rfl; exact absurd ((show W.heap[g]? = some _ from wg).symm.trans wC) (by simp)
  have hi0 : Chg (fun j => ¬ U0 j ∧ ¬ Rd j) W (W.iter s 0) := (Chg.refl _ W).alloc _
  gi_loopw [] (fun wr => ∃ (pos fuel k : Nat) (U : Nat → Prop), J k U wr ∧ (∀ j, U j → j < wr.heap.size ∧ ¬ Rd j) ∧ ¬ U W.heap.size ∧ ¬ U B ∧ ¬ U C ∧ ¬ U g ∧ W.heap.size < wr.heap.size ∧
      wr.heap[W.heap.size]? = some (.stringIter s pos) ∧ wr.heap[B]? = some (.cells #[.string s] 70 (0, 0)) ∧ wr.heap[C]? = some (.cells #[.pointer (some ⟨g, 0, none⟩)] 94 (0, 0)) ∧ Boxed wr g 47 .nilIface ∧
      Lib.Utf8Tabs 4 5 wr ∧ (sc s s.size 0).1.drop k = (sc s fuel pos).1 ∧ k ≤ (sc s s.size 0).1.length ∧ (sc s s.size 0).2 = (sc s fuel pos).2 ∧ s.size ≤ pos + fuel)
    (fun wr => s.size - wr.iterPos W.heap.size)
  case atStart =>
    have hz : (W.iter s 0).heap.size = W.heap.size + 1 := by simp [World.iter]
    refine ⟨0, s.size, 0, U0, hJ _ _ _ _ h0 hi0, fun j hj => ⟨by have := hU j hj; omega, (hU j hj).2⟩, fun h => by have := hU _ h; omega, uB, uC, ug, by omega, World.iter_heap W s 0, ?_, ?_, ?_, ?_, rfl, Nat.zero_le _, rfl, by omega⟩
    · exact ((Chg.refl (fun _ => False) W).alloc (.stringIter s 0)).heap wB (by simp)
    · exact ((Chg.refl (fun _ => False) W).alloc (.stringIter s 0)).heap wC (by simp)
    · exact ((Chg.refl (fun _ => False) W).alloc (.stringIter s 0)).heap wg (by simp)
    · exact tabs_chg wT ((Chg.refl (fun _ => False) W).alloc (.stringIter s 0)) (by simp) (by simp)
  case round =>
    obtain ⟨pos, fuel, k, U, hJk, hUk, uz, uB, uC, ug, hsz, hit, rB, rC, rg', rT, hdr, hkl, hbd, hfu⟩ := hrel
    have hzR : ¬ Rd W.heap.size := fun h => by have := hR _ h; omega
    have xk : ∀ A : World, Chg (fun j => ¬ U j ∧ ¬ Rd j) wr A → J k U A := fun A h => hJ _ _ _ _ hJk h
    by_cases hp : pos < s.size
    · have hdb := decode_bounds s pos hp
      have hnx0 : ∀ ty, (Instr.next (.pointer (some ⟨W.heap.size, 0, none⟩)) true ty).run Tryd.prog wr = _ := fun ty => Lib.run_next_any_at wr W.heap.size s pos ty hit hp
      have hdg := decodeGo_at s pos hp
      have hs1 : sign1 s pos = if Utf8.decode s pos = (65533, 1) then ((0 : Int), 0) else (((Utf8.decode s pos).1 : Int), (Utf8.decode s pos).2) := rfl
      obtain ⟨⟨c, n⟩, hcn⟩ : ∃ q, Utf8.decode s pos = q := ⟨_, rfl⟩
      rw [hcn] at hdb hdg hs1
      simp only [hcn] at hnx0
      simp only at hdb
      obtain ⟨W2, hW2⟩ : ∃ W2, wr.iterAt W.heap.size s (pos + n) = W2 := ⟨_, rfl⟩
      have hnx : ∀ ty, (Instr.next (.pointer (some ⟨W.heap.size, 0, none⟩)) true ty).run Tryd.prog wr = .ok (.tuple #[.bool true, .int .i64 pos, .int .i32 c]) W2 := fun ty => by rw [hnx0, hW2]
      have cW : Chg (fun j => ¬ U j ∧ ¬ Rd j) wr W2 := by rw [← hW2]; exact iterAt_chg wr _ s _ ⟨uz, hzR⟩
      have cZ : Chg (fun j => j = W.heap.size) wr W2 := by rw [← hW2]; exact iterAt_chg wr _ s _ rfl
      have hit2 : W2.heap[W.heap.size]? = some (.stringIter s (pos + n)) := by rw [← hW2]; exact Lib.iterAt_heap wr _ s pos _ hit
      have rB2 := cZ.heap rB (by omega)
      have rT2 := tabs_chg rT cZ (fun h => by have := hR _ r2; omega) (fun h => by have := hR _ r3; omega)
      have d0 := cell_of_row W2 B 0 _ _ _ rB2
      simp at d0
      have HD := Lib.hid (Tryd.utf8_DecodeRuneInString (s.extract pos s.size) W2 rT2)
      rw [hdg] at HD
      have HY := Lib.hid hY
      have HIT := Lib.hid hit
      have HJ := Lib.hid hJ
      have HX := Lib.hid xk
      obtain ⟨f, rfl⟩ : ∃ f, fuel = f + 1 := ⟨fuel - 1, by omega⟩
      clear hW2 hnx0 hdg hY hJ hJx xk h0 wT rT hi0
      gi_wp2
      refine ⟨trivial, (callsIn_wide.2 HD.out).mono ?_⟩
      rintro e W3 ⟨rfl, hb3⟩
      have c3 : Chg (fun j => j = W.heap.size) wr W3 := cZ.trans (Chg.of_below hb3)
      have cW3 : Chg (fun j => ¬ U j ∧ ¬ Rd j) wr W3 := cW.trans (Chg.of_below hb3)
      have rB3 := c3.heap rB (by omega)
      have rC3 := c3.heap rC (by omega)
      have rg3 : Boxed W3 g 47 .nilIface := c3.heap rg' (by omega)
      have hit3 : W3.heap[W.heap.size]? = some (.stringIter s (pos + n)) := (Chg.of_below (S := fun _ => False) hb3).heap hit2 (by simp)
      have rT3 := tabs_below rT2 hb3
      have e1 := cell_of_row W3 C 0 _ _ _ rC3
      simp at e1
      have e2 := rg3.cell
      have e3 := rg3.frozen
      have hs3 := c3.size
      have hJ3 := HX.out W3 cW3
      have hU3 : ∀ j, U j → j < W3.heap.size ∧ ¬ Rd j := fun j hj => ⟨by have := hUk j hj; omega, (hUk j hj).2⟩
      clear hb3 cZ cW rB2 rT2 d0 hit2 hit rB rC rg' HD hnx
      by_cases hbad : (c, n) = (65533, 1)
      · rw [if_pos hbad] at hs1
        have h1 : (sc s (f + 1) pos).1 = [] ∧ (sc s (f + 1) pos).2 = pos := by simp only [sc, if_pos hp, hs1, if_true]; exact ⟨trivial, trivial⟩
        injection hbad with hc1 hn1
        subst hc1 hn1
        have hkk : k = (sc s s.size 0).1.length := by rw [h1.1] at hdr; have := List.drop_eq_nil_iff.1 hdr; omega
        have hb : bad s = pos := by unfold bad; rw [hbd, h1.2]
        have HE := Lib.hid (show ∀ w', Boxed w' g 47 (werr pos) → EndErr s g w' from fun w' h => by unfold EndErr; rw [hb, if_neg (by omega)]; exact h)
        clear hs1 h1 hdr hbd hb
        gi_wp2
        try rw [Exit.noGoto_normal]
        go_end0
        refine ⟨⟨_, rfl⟩, by simp; omega, .inl ⟨U, fun j hj => by simpa using hU3 j hj, ?_, HE.out _ (rg3.set _)⟩⟩
        rw [← hkk]
        exact HJ.out _ _ _ _ hJ3 ((Chg.refl _ W3).setCell ⟨ug, rg⟩ _)
      · rw [if_neg hbad] at hs1
        have h1 : (sc s (f + 1) pos).1 = ((pos : Int), (c : Int)) :: (sc s f (pos + n)).1 ∧ (sc s (f + 1) pos).2 = (sc s f (pos + n)).2 := by
          simp only [sc, if_pos hp, hs1]
          rw [if_neg (show ¬ n = 0 by omega)]
          exact ⟨rfl, rfl⟩
        have hx : (sc s s.size 0).1[k]? = some ((pos : Int), (c : Int)) := by
          have := congrArg (·[0]?) hdr
          simp only [List.getElem?_drop, Nat.add_zero] at this
          rw [this, h1.1]
          rfl
        have hlk : k < (sc s s.size 0).1.length := (List.getElem?_eq_some_iff.1 hx).1
        have hdr2 : (sc s s.size 0).1.drop (k + 1) = (sc s f (pos + n)).1 := by
          rw [← List.drop_drop, hdr, h1.1]
          rfl
        have hbd2 := hbd.trans h1.2
        obtain ⟨fn, tmps, assign, body, hy, hYR⟩ := HY.out k _ U W3 hx hU3 hJ3
        have hne : ¬ (c = 65533 ∧ n = 1) := fun h => hbad (by rw [h.1, h.2])
        clear hs1 h1 hdr hbd hbad hx
        have fin : ∀ (e : Ending) W4, (e = Ending.returned (.bool true) ∧ ∃ U', UStep U W3 U' W4 ∧ J (k + 1) U' W4) → ∃ U', J (k + 1) U' W4 ∧ (∀ j, U' j → j < W4.heap.size ∧ ¬ Rd j) ∧ ¬ U' W.heap.size ∧ ¬ U' B ∧ ¬ U' C ∧ ¬ U' g ∧ W.heap.size < W4.heap.size ∧
            W4.heap[W.heap.size]? = some (.stringIter s (pos + n)) ∧ W4.heap[B]? = some (.cells #[.string s] 70 (0, 0)) ∧ W4.heap[C]? = some (.cells #[.pointer (some ⟨g, 0, none⟩)] 94 (0, 0)) ∧ Boxed W4 g 47 .nilIface ∧
            Lib.Utf8Tabs 4 5 W4 := by
          rintro e W4 ⟨_, U', hst, hJ4⟩
          have hsz4 := hst.chg.size
          have old : ∀ j, j < W3.heap.size → ¬ U j → ¬ U' j := fun j hj hn h => by
            rcases hst.old j h with h2 | h2
            · exact hn h2
            · omega
          exact ⟨U', hJ4, fun j hj => ⟨hst.lt j hj, fun hr => by
              rcases hst.old j hj with h2 | h2
              · exact (hUk j h2).2 hr
              · have := hR j hr; omega⟩, old _ (by omega) uz, old _ (by omega) uB, old _ (by omega) uC, old _ (by omega) ug, by omega, hst.chg.heap hit3 uz, hst.chg.heap rB3 uB, hst.chg.heap rC3 uC, hst.chg.heap rg3 ug,
            tabs_chg rT3 hst.chg (fun h => (hUk _ h).2 r2) (fun h => (hUk _ h).2 r3)⟩
        have FIN := Lib.hid fin
        clear fin
        by_cases hc1 : c = 65533
        · have hn1 : ¬ ((n : Int) = 1) := fun h => hne ⟨hc1, by omega⟩
          subst hc1
          simp at hy
          gi_wp2
          refine hYR.mono ?_
          rintro e W4 (h4 | ⟨rfl, U', hst, hJx4⟩)
          · obtain ⟨U', q⟩ := FIN.out e W4 h4
            obtain ⟨rfl, _⟩ := h4
            gi_wp2
            go_roundw
            case rel => exact ⟨pos + n, f, k + 1, U', q.1, q.2.1, q.2.2.1, q.2.2.2.1, q.2.2.2.2.1, q.2.2.2.2.2.1, q.2.2.2.2.2.2.1, q.2.2.2.2.2.2.2.1, q.2.2.2.2.2.2.2.2.1, q.2.2.2.2.2.2.2.2.2.1, q.2.2.2.2.2.2.2.2.2.2.1, q.2.2.2.2.2.2.2.2.2.2.2, hdr2, by omega, hbd2, by omega⟩
            case measure => simp only [World.iterPos, q.2.2.2.2.2.2.2.1, HIT.out]; omega
          · gi_wp2
            try rw [Exit.noGoto_normal]
            go_end0
            exact ⟨⟨_, rfl⟩, by have := hst.chg.size; omega, .inr ⟨k + 1, by omega, U', fun j hj => ⟨hst.lt j hj, fun hr => by
              rcases hst.old j hj with h2 | h2
              · exact (hUk j h2).2 hr
              · have := hR j hr; omega⟩, hJx4⟩⟩
        · gi_wp2
          refine hYR.mono ?_
          rintro e W4 (h4 | ⟨rfl, U', hst, hJx4⟩)
          · obtain ⟨U', q⟩ := FIN.out e W4 h4
            obtain ⟨rfl, _⟩ := h4
            gi_wp2
            go_roundw
            case rel => exact ⟨pos + n, f, k + 1, U', q.1, q.2.1, q.2.2.1, q.2.2.2.1, q.2.2.2.2.1, q.2.2.2.2.2.1, q.2.2.2.2.2.2.1, q.2.2.2.2.2.2.2.1, q.2.2.2.2.2.2.2.2.1, q.2.2.2.2.2.2.2.2.2.1, q.2.2.2.2.2.2.2.2.2.2.1, q.2.2.2.2.2.2.2.2.2.2.2, hdr2, by omega, hbd2, by omega⟩
            case measure => simp only [World.iterPos, q.2.2.2.2.2.2.2.1, HIT.out]; omega
          · gi_wp2
            try rw [Exit.noGoto_normal]
            go_end0
            exact ⟨⟨_, rfl⟩, by have := hst.chg.size; omega, .inr ⟨k + 1, by omega, U', fun j hj => ⟨hst.lt j hj, fun hr => by
              rcases hst.old j hj with h2 | h2
              · exact (hUk j h2).2 hr
              · have := hR j hr; omega⟩, hJx4⟩⟩
    · have hnx : ∀ ty, (Instr.next (.pointer (some ⟨W.heap.size, 0, none⟩)) true ty).run Tryd.prog wr = _ := fun ty => Lib.run_next_end_at wr W.heap.size s pos ty hit hp
      have h1 : (sc s fuel pos).1 = [] ∧ (sc s fuel pos).2 = -1 := by
        cases fuel with
        | zero => exact ⟨rfl, rfl⟩
        | succ f => simp only [sc, if_neg hp]; exact ⟨trivial, trivial⟩
      have hkk : k = (sc s s.size 0).1.length := by rw [h1.1] at hdr; have := List.drop_eq_nil_iff.1 hdr; omega
      have hb : bad s = -1 := by unfold bad; rw [hbd, h1.2]
      have HE := Lib.hid (show EndErr s g wr by unfold EndErr; rw [hb, if_pos (by omega)]; exact rg')
      clear h1 hdr hbd hb hY hJ hJx
      gi_wp2
      try rw [Exit.noGoto_normal]
      go_end0
      exact ⟨⟨_, rfl⟩, by omega, .inl ⟨U, hUk, by rw [← hkk]; exact hJk, HE.out⟩⟩
/-- What check answers. -/
def chkV (s : ByteArray) : Value := if bad s < 0 then .nilIface else werr (bad s)
theorem below_chgU {w A B : World} {U : Nat → Prop} (h : Below w.heap.size w A) (hs : w.heap.size ≤ A.heap.size) (hc : Chg (fun j => ¬ U j ∧ ¬ j < w.heap.size) A B) : Below w.heap.size w B :=
  Below.chg h hc hs (fun _ hk => Nat.le_of_not_lt hk.2)
theorem nLZ {z k : Nat} (h : k ≠ z ∧ k ≠ z + 1) : ¬ (False ∨ LZ z k) := by
  rintro (e | e | e)
  · exact e
  · exact h.1 e
  · exact h.2 e
set_option maxRecDepth 100000 in
set_option maxHeartbeats 2000000 in
theorem check_c (s : ByteArray) (hs : s.size ≤ 4611686018427387904) (w : World) (hT : Lib.Utf8Tabs 4 5 w) :
    Calls Tryd.prog 49 #[.agg #[.string s]] w fun e w' => e = .returned (chkV s) ∧ Below w.heap.size w w' := by
  have hit := signs_it (9 - 1) (by decide) s hs (w.heap.size + 2) (w.heap.size + 3) (w.heap.size + 1) (fun j => j < w.heap.size) (tabs_lt hT).1 (tabs_lt hT).2 (by omega)
  refine (callsIn_wide (n := 9)).1 ?_
  refine callsIn_of_wp_marks Tryd.func49 rfl trivial ?_ rfl
  simp only [Tryd.ntmps49, List.size_toArray, List.length_cons, List.length_nil, Nat.reduceAdd, Nat.reduceSub, Array.replicate_succ, Array.replicate_zero, List.push_toArray, List.append_toArray, List.nil_append, List.cons_append]
  have HIT := Lib.hid hit
  have HT := Lib.hid hT
  clear hit hT
  gi_wp2_with fail
  refine ⟨trivial, (callsIn_wide.2 (signs_any s (w.heap.size + 1) _)).mono ?_⟩
  rintro e w2 ⟨rfl, rfl⟩
  gi_wp2_with fail
  have hsz : ((((w.alloc (.cells #[.string s] 72)).alloc (.cells #[.nilIface] 47)).alloc (.cells #[.string s] 70)).alloc (.cells #[.pointer (some ⟨w.heap.size + 1, 0, none⟩)] 94)).heap.size = w.heap.size + 4 := by simp
  have c1 : Chg (fun _ => False) w ((((w.alloc (.cells #[.string s] 72)).alloc (.cells #[.nilIface] 47)).alloc (.cells #[.string s] 70)).alloc (.cells #[.pointer (some ⟨w.heap.size + 1, 0, none⟩)] 94)) := ((((Chg.refl _ w).alloc _).alloc _).alloc _).alloc _
  have k1 : ((((w.alloc (.cells #[.string s] 72)).alloc (.cells #[.nilIface] 47)).alloc (.cells #[.string s] 70)).alloc (.cells #[.pointer (some ⟨w.heap.size + 1, 0, none⟩)] 94)).heap[w.heap.size + 1]? = some (.cells #[.nilIface] 47 (0, 0)) := by
    have := World.alloc_heap_new (w.alloc (.cells #[.string s] 72)) (.cells #[.nilIface] 47)
    exact (((Chg.refl (fun _ => False) _).alloc _).alloc _).heap (by simpa using this) (by simp)
  have k2 : ((((w.alloc (.cells #[.string s] 72)).alloc (.cells #[.nilIface] 47)).alloc (.cells #[.string s] 70)).alloc (.cells #[.pointer (some ⟨w.heap.size + 1, 0, none⟩)] 94)).heap[w.heap.size + 2]? = some (.cells #[.string s] 70 (0, 0)) := by
    have := World.alloc_heap_new ((w.alloc (.cells #[.string s] 72)).alloc (.cells #[.nilIface] 47)) (.cells #[.string s] 70)
    exact ((Chg.refl (fun _ => False) _).alloc _).heap (by simpa using this) (by simp)
  have k3 : ((((w.alloc (.cells #[.string s] 72)).alloc (.cells #[.nilIface] 47)).alloc (.cells #[.string s] 70)).alloc (.cells #[.pointer (some ⟨w.heap.size + 1, 0, none⟩)] 94)).heap[w.heap.size + 3]? = some (.cells #[.pointer (some ⟨w.heap.size + 1, 0, none⟩)] 94 (0, 0)) := by
    have := World.alloc_heap_new (((w.alloc (.cells #[.string s] 72)).alloc (.cells #[.nilIface] 47)).alloc (.cells #[.string s] 70)) (.cells #[.pointer (some ⟨w.heap.size + 1, 0, none⟩)] 94)
    simpa using this
  refine wpIn_range_itD1 rfl (by decide) (gf := 71) (lb := #[.pointer (some ⟨w.heap.size + 2, 0, none⟩), .pointer (some ⟨w.heap.size + 3, 0, none⟩)]) rfl trivial (enters_of Tryd.func71 (by kernel_rfl) rfl)
    HIT.out (fun j hj => by rw [hsz]; omega) (fun _ => False) (fun _ h => h.elim)
    (fun W hc hs2 => ⟨hc.heap k2 (by simp), hc.heap k3 (by simp), hc.heap k1 (by simp), nLZ (by rw [hsz]; omega), nLZ (by rw [hsz]; omega), nLZ (by rw [hsz]; omega), tabs_chg HT.out (c1.trans hc) (by simp) (by simp)⟩) (fun _ => rfl)
    (fun _ _ A => Below w.heap.size w A ∧ w.heap.size ≤ A.heap.size) (fun _ _ _ _ => False)
    (fun k U A B hb _ hc => ⟨below_chgU hb.1 hb.2 hc, Nat.le_trans hb.2 hc.size⟩) (fun _ _ _ _ _ h _ => h) ?hE ⟨bl_alloc (bl_alloc (bl_alloc (bl_alloc (Below.refl _ _) _) _) _) _, by rw [hsz]; omega⟩
    ?a1 ?assign ?body ?done ?stop
  case assign =>
    intro l x A K hK
    gi_wp2
    exact hK
  case stop => rintro c j U B _ h; exact h.elim
  case hE =>
    intro A B hE hc
    exact hc.heap hE (by rw [hsz]; unfold LZ; omega)
  case body =>
    rintro j x U A _ hx hb hU hs2
    gi_wp2
    exact ⟨U, UStep.same (fun j hj => (hU j hj).1) (Chg.refl _ _), hb⟩
  case done =>
    rintro U B ⟨hb, hbs⟩ hE hU hs2 hK
    have hE' : Boxed B (w.heap.size + 1) 47 (chkV s) := hE
    have hc := hE'.cell
    rw [hsz] at hs2
    clear hE hE'
    gi_wp2_with fail
    refine ⟨by simp, .inl ⟨_, _, rfl, run_takeDeferred hK, ?_⟩⟩
    exact ⟨_, results_tmp rfl _ _ _, rfl, Below.chg hb ((Chg.refl (fun z => w.heap.size ≤ z) B).putObj (by rw [hsz]; omega) _) hbs (fun z hz => hz)⟩
set_option maxHeartbeats 1000000 in
theorem Right_c (s : ByteArray) (hs : s.size ≤ 4611686018427387904) (w : World) (h : Lib.Utf8Tabs 4 5 w) :
    Calls Tryd.prog 39 #[.string s] w fun e w' => e = .returned (.bool (decide (bad s < 0))) ∧ Below w.heap.size w w' := by
  have HC := Lib.hid (check_c s hs w h)
  go_enter Tryd.func39, Tryd.ntmps39
  go_wp2_with (go_at_call 49; refine HC.out.mono ?_)
  rintro e w1 ⟨rfl, hb⟩
  by_cases hbad : bad s < 0
  · have hv : chkV s = .nilIface := by unfold chkV; rw [if_pos hbad]
    rw [hv]
    go_wp2_with fail
    go_ret
    exact ⟨by simp [hbad], hb⟩
  · have hv : chkV s = werr (bad s) := by unfold chkV; rw [if_neg hbad]
    rw [hv]
    go_wp2_with fail
    go_ret
    exact ⟨by simp [hbad], hb⟩
end Utf
end Go.Proofs.YtbpcoieemkojjaaDoor
/- esc's reader: told, rest, digits. -/
namespace Go.Proofs.YtbpcoieemkojjaaDoor
set_option linter.unusedSimpArgs false
set_option linter.unusedVariables false
namespace Esc
open Go.RowKit Go.Shelf Go.Proofs.YtbpcoieemkojjaaDoorW.PrintWords Go.Proofs.YtbpcoieemkojjaaDoor.PureB Go.Proofs.YtbpcoieemkojjaaDoor.BldO
open Go.Proofs.YtbpcoieemkojjaaDoor.Code (bl bl_len bl_get bl_byte dv dv_lt unhexL ubT ubN)
attribute [local go_sem] Oper.semAt_some
set_option maxHeartbeats 2000000 in
theorem told_bad (n : Int) (a0 : Addr) (w : World) (h : GA a0 w) : Calls Tryd.prog 31 #[werr n] w fun e w' => e = .returned (.int .i64 60) ∧ Below w.heap.size w w' := by
  have hB0 : Below w.heap.size w (w.alloc (.cells #[.int .i64 0] 60)) := (Below.refl _ _).alloc (Nat.le_refl _) _
  have hr0 := World.alloc_heap_new w (.cells #[.int .i64 0] 60)
  have hG0 := h.below hB0
  have HG := Lib.hid h
  have HB0 := Lib.hid hB0
  clear h hB0
  go_enter Tryd.func31, Tryd.ntmps31
  go_wp2_with (go_at_call 43; refine (as_hit n w.heap.size _ _ hG0.et hr0 rfl).mono ?_)
  rintro e w2 ⟨rfl, hb2, hr2⟩
  have hB2 := HB0.out.trans hb2
  have hG2 := HG.out.below hB2
  have g0 := hG2.g0
  go_wp2_with (go_at_call 44; refine (is_same n a0 _ g0).mono ?_)
  rintro e w3 ⟨rfl, hb3⟩
  go_wp2_with fail
  go_ret
  exact ⟨rfl, bl_trans hB2 hb3⟩
theorem RD.below {b : Nat} {s : ByteArray} {at_ : Int} {nm : Bool} {bs : List Value} {w w' : World} (h : RD b s at_ nm bs w) (hb : Below w.heap.size w w') : RD b s at_ nm bs w' := by
  have key : ∀ p, RDp p b s at_ nm bs w → RDp p b s at_ nm bs w' := by
    rintro p ⟨v, h1, h2, h3⟩
    have hc := Chg.of_below (S := fun _ => False) hb
    refine ⟨v, hc.heap h1 (fun h => h), Bld.ownF_move h2 (fun r hr => hb.block r ?_), h3⟩
    obtain ⟨c, fz, hc⟩ := Lib.ownsRowF_kind h2 r hr
    exact (Array.getElem?_eq_some_iff.1 hc).1
  exact h.elim (fun x => .inl (key _ x)) (fun x => .inr (key _ x))
theorem RD.cells {b : Nat} {s : ByteArray} {at_ : Int} {nm : Bool} {bs : List Value} {w : World} (h : RD b s at_ nm bs w) :
    w.cell? ⟨b, 0, none⟩ = some (.string s) ∧ w.cell? ⟨b, 1, none⟩ = some (.int .i64 at_) ∧ w.cell? ⟨b, 2, none⟩ = some (.bool nm) ∧ w.frozen? ⟨b, 1, none⟩ = false ∧ b < w.heap.size := by
  have key : ∀ p, RDp p b s at_ nm bs w → w.cell? ⟨b, 0, none⟩ = some (.string s) ∧ w.cell? ⟨b, 1, none⟩ = some (.int .i64 at_) ∧ w.cell? ⟨b, 2, none⟩ = some (.bool nm) ∧ w.frozen? ⟨b, 1, none⟩ = false ∧ b < w.heap.size := by
    rintro p ⟨v, h1, h2, h3⟩
    have c0 := cell_of_row w b 0 _ _ _ h1
    have c1 := cell_of_row w b 1 _ _ _ h1
    have c2 := cell_of_row w b 2 _ _ _ h1
    simp at c0 c1 c2
    exact ⟨c0, c1, c2, Lib.frozen_of_heap h1 1, (Array.getElem?_eq_some_iff.1 h1).1⟩
  exact h.elim (key _) (key _)
theorem RD.move {b : Nat} {s : ByteArray} {at_ : Int} {nm : Bool} {bs : List Value} {w : World} (h : RD b s at_ nm bs w) (at2 : Int) : RD b s at2 nm bs (w.setCell ⟨b, 1, none⟩ (.int .i64 at2)) := by
  have key : ∀ p, RDp p b s at_ nm bs w → RDp p b s at2 nm bs (w.setCell ⟨b, 1, none⟩ (.int .i64 at2)) := by
    rintro p ⟨v, h1, h2, h3⟩
    refine ⟨v, ?_, Bld.ownF_move h2 (fun r hr => Below.heap_setCell _ _ _ _ (fun e => h3 (by rw [hr]; exact congrArg some e))), h3⟩
    simp only [World.setCell, Array.getElem?_modify, h1]
    rfl
  exact h.elim (fun x => .inl (key _ x)) (fun x => .inr (key _ x))
set_option maxHeartbeats 2000000 in
theorem rest_c (b : Nat) (s : ByteArray) (at_ : Nat) (w : World) (h0 : w.cell? ⟨b, 0, none⟩ = some (.string s)) (h1 : w.cell? ⟨b, 1, none⟩ = some (.int .i64 at_)) (ha : at_ ≤ s.size) :
    Calls Tryd.prog 51 #[.pointer (some ⟨b, 0, none⟩)] w fun e w' => e = .returned (.string (s.extract at_ s.size)) ∧ Below w.heap.size w w' := by
  have q1 : (at_ : Int) ≤ s.size := by omega
  go_enter Tryd.func51, Tryd.ntmps51
  go_wp2_with fail
  go_region
  all_goals go_wp2_with fail
  all_goals go_ret
  all_goals exact ⟨rfl, by repeat (first | exact Below.refl _ _ | refine Below.drew ?_)⟩
theorem two_unhex (l : List Int) : (∀ x, two l = some x → unhexL (l.take 2) = some [x]) ∧ (two l = none → unhexL (l.take 2) = none ∨ unhexL (l.take 2) = some []) := by
  match l with
  | [] => exact ⟨fun x h => by simp [two] at h, fun _ => .inr rfl⟩
  | [a] => exact ⟨fun x h => by simp [two] at h, fun _ => .inl rfl⟩
  | a :: b :: r =>
    simp only [two, List.take_succ_cons, List.take_zero, unhexL]
    by_cases h : dv a < 0 ∨ dv b < 0
    · rw [if_pos h, if_pos h]
      exact ⟨fun x h => by simp at h, fun _ => .inl rfl⟩
    · rw [if_neg h, if_neg h]
      exact ⟨fun x h => by simp at h; subst h; rfl, fun h => by simp at h⟩
theorem bl_tail (s : ByteArray) (at_ : Nat) : bl (s.extract at_ s.size) = (bl s).drop at_ := by
  rw [Code.bl_extract, List.take_of_length_le (by rw [bl_len]; exact Nat.le_refl _)]
set_option maxRecDepth 100000 in
set_option maxHeartbeats 4000000 in
theorem digits_none (b : Nat) (s : ByteArray) (hs : s.size ≤ 1000000000) (at_ : Nat) (nm : Bool) (bs : List Value) (hbs : bs.length ≤ 1000000000) (a0 : Addr) (w : World) (hG : Code.GA a0 w) (h : RD b s at_ nm bs w) (ha : at_ ≤ s.size) (hv : two ((bl s).drop at_) = none):
    Calls Tryd.prog 52 #[.pointer (some ⟨b, 0, none⟩)] w fun e w' => (∃ n, e = .returned (werr n)) ∧ Below b w w' := by
  obtain ⟨c0, c1, c2, f1, hlt⟩ := RD.cells h
  have ht := two_unhex ((bl s).drop at_)
  obtain ⟨r, hr⟩ : ∃ r, s.extract at_ s.size = r := ⟨_, rfl⟩
  have hrs : r.size ≤ s.size := by rw [← hr, ByteArray.size_extract]; omega
  have hbr : bl r = (bl s).drop at_ := by rw [← hr]; exact bl_tail s at_
  obtain ⟨t, htt⟩ : ∃ t, r.extract 0 (min 2 r.size) = t := ⟨_, rfl⟩
  have hbt : bl t = ((bl s).drop at_).take 2 := by
    rw [← htt, Code.bl_extract, List.drop_zero, hbr]
    have : ((bl s).drop at_).length = r.size := by rw [← hbr, bl_len]
    rw [List.take_eq_take_iff]; omega
  have hts : t.size ≤ 2 := by rw [← htt, ByteArray.size_extract]; omega
  have hsl : ∀ W, (Instr.slice 9 (.string r) none (some (.int .i64 (min 2 (r.size : Int)))) none).run Tryd.prog W = .ok (.string t) W := fun W => by
    rw [run_slice_string_h (P := Tryd.prog) W 9 r Tryd.underlying9 .i64 (min 2 (r.size : Int)) (by omega) (by omega), ← htt]
    congr 3
    omega
  have HREST := Lib.hid (fun (W : World) (hb : Below w.heap.size w W) => rest_c b s at_ W (((hb).cell (p := ⟨b, 0, none⟩) hlt).trans c0) (((hb).cell (p := ⟨b, 1, none⟩) hlt).trans c1) ha)
  rw [hr] at HREST
  have HUN := Lib.hid (fun (W : World) (hb : Below w.heap.size w W) => Code.Unhex_c t (by omega) a0 W (hG.below hb))
  rw [hbt] at HUN
  obtain ⟨o, ho⟩ : ∃ o, unhexL (((bl s).drop at_).take 2) = o := ⟨_, rfl⟩
  rw [ho] at ht HUN
  have HT := Lib.hid ht
  have HH := Lib.hid h
  clear ht ho hbt hbr htt hr h hG
  go_enter Tryd.func52, Tryd.ntmps52
  go_wp2_with fail
  go_region_held3 (fun w' => Below w.heap.size w w') (first | assumption | exact bl_trans (by assumption) (by assumption) | (repeat (first | assumption | exact Below.refl _ _ | refine Below.drew ?_)))
    (first
      | (go_at_call 51; refine (HREST.out _ (by assumption)).mono ?_; rintro e w' ⟨rfl, hb1⟩)
      | (go_at_call 66; refine (HUN.out _ (by assumption)).mono ?_; rintro e w' ⟨rfl, hb1⟩))
  rename_i hHeld
  have hR1 := RD.below HH.out hHeld
  have hov := HT.out.2 hv
  obtain ⟨d0, d1, d2, g1, hlt1⟩ := RD.cells hR1
  have HHELD := Lib.hid hHeld
  clear hR1 hv
  simp only [Exit.then]
  rcases hov with rfl | rfl
  · simp only [ubT, ubN]
    go_wp2_with fail
    go_ret
    exact ⟨⟨at_, rfl⟩, HHELD.out.mono (Nat.le_of_lt hlt)⟩
  · have hne1 : (strOfNums []).toList.isEmpty = true := by rw [ByteArray.toList_eq]; rfl
    have hne2 : ((strOfNums []).toList == ([] : List UInt8)) = true := by rw [ByteArray.toList_eq]; rfl
    simp only [ubT, ubN]
    go_wp2_with fail
    go_ret
    exact ⟨⟨at_, rfl⟩, HHELD.out.mono (Nat.le_of_lt hlt)⟩
set_option maxRecDepth 100000 in
set_option maxHeartbeats 4000000 in
theorem digits_some (b : Nat) (s : ByteArray) (hs : s.size ≤ 1000000000) (at_ : Nat) (nm : Bool) (bs : List Value) (hbs : bs.length ≤ 1000000000) (a0 : Addr) (w : World) (hG : Code.GA a0 w) (h : RD b s at_ nm bs w) (ha : at_ ≤ s.size) (v : Int) (hv : two ((bl s).drop at_) = some v):
    Calls Tryd.prog 52 #[.pointer (some ⟨b, 0, none⟩)] w fun e w' => e = .returned .nilIface ∧ RD b s (at_ + 2 : Nat) nm (bs ++ [.int .u8 v]) w' ∧ Below b w w' := by
  obtain ⟨c0, c1, c2, f1, hlt⟩ := RD.cells h
  have ht := two_unhex ((bl s).drop at_)
  obtain ⟨r, hr⟩ : ∃ r, s.extract at_ s.size = r := ⟨_, rfl⟩
  have hrs : r.size ≤ s.size := by rw [← hr, ByteArray.size_extract]; omega
  have hbr : bl r = (bl s).drop at_ := by rw [← hr]; exact bl_tail s at_
  obtain ⟨t, htt⟩ : ∃ t, r.extract 0 (min 2 r.size) = t := ⟨_, rfl⟩
  have hbt : bl t = ((bl s).drop at_).take 2 := by
    rw [← htt, Code.bl_extract, List.drop_zero, hbr]
    have : ((bl s).drop at_).length = r.size := by rw [← hbr, bl_len]
    rw [List.take_eq_take_iff]; omega
  have hts : t.size ≤ 2 := by rw [← htt, ByteArray.size_extract]; omega
  have hsl : ∀ W, (Instr.slice 9 (.string r) none (some (.int .i64 (min 2 (r.size : Int)))) none).run Tryd.prog W = .ok (.string t) W := fun W => by
    rw [run_slice_string_h (P := Tryd.prog) W 9 r Tryd.underlying9 .i64 (min 2 (r.size : Int)) (by omega) (by omega), ← htt]
    congr 3
    omega
  have HREST := Lib.hid (fun (W : World) (hb : Below w.heap.size w W) => rest_c b s at_ W (((hb).cell (p := ⟨b, 0, none⟩) hlt).trans c0) (((hb).cell (p := ⟨b, 1, none⟩) hlt).trans c1) ha)
  rw [hr] at HREST
  have HUN := Lib.hid (fun (W : World) (hb : Below w.heap.size w W) => Code.Unhex_c t (by omega) a0 W (hG.below hb))
  rw [hbt] at HUN
  obtain ⟨o, ho⟩ : ∃ o, unhexL (((bl s).drop at_).take 2) = o := ⟨_, rfl⟩
  rw [ho] at ht HUN
  have HT := Lib.hid ht
  have HH := Lib.hid h
  clear ht ho hbt hbr htt hr h hG
  go_enter Tryd.func52, Tryd.ntmps52
  go_wp2_with fail
  go_region_held3 (fun w' => Below w.heap.size w w') (first | assumption | exact bl_trans (by assumption) (by assumption) | (repeat (first | assumption | exact Below.refl _ _ | refine Below.drew ?_)))
    (first
      | (go_at_call 51; refine (HREST.out _ (by assumption)).mono ?_; rintro e w' ⟨rfl, hb1⟩)
      | (go_at_call 66; refine (HUN.out _ (by assumption)).mono ?_; rintro e w' ⟨rfl, hb1⟩))
  rename_i hHeld
  have hR1 := RD.below HH.out hHeld
  have hov := HT.out.1 v hv
  have hv8 : 0 ≤ v ∧ v < 256 := by
    revert hv
    cases hd : (bl s).drop at_ with
    | nil => simp [two]
    | cons x r =>
      cases r with
      | nil => simp [two]
      | cons y r =>
        simp only [two]
        split
        · simp
        · rename_i hn
          have h1 := dv_lt x
          have h2 := dv_lt y
          intro e
          have e := Option.some.inj e
          omega
  have hne1 : (strOfNums [v]).toList.isEmpty = false := by rw [ByteArray.toList_eq]; rfl
  have hne2 : ((strOfNums [v]).toList == ([] : List UInt8)) = false := by rw [ByteArray.toList_eq]; rfl
  have e1 : ubT o = strOfNums [v] := by rw [hov]; rfl
  have e2 : ubN o = 0 := by rw [hov]; rfl
  have hw : wrap64 ((at_ : Int) + 2) = at_ + 2 := by unfold wrap64; omega
  obtain ⟨d0, d1, d2, g1, hlt1⟩ := RD.cells hR1
  have hR2 := RD.move hR1 ((at_ : Int) + 2)
  have hw1 := hHeld.size
  have HWS := Lib.hid (WriteString_o b s ((at_ : Int) + 2) nm bs (strOfNums [v]) _ hR2 (by rw [son_size]; simp; omega) (by simp [World.setCell]; omega))
  rw [e1, e2]
  have HHELD := Lib.hid hHeld
  have hvs : Lib.strCells (strOfNums [v]) = [.int .u8 v] := Bld.strCells_son [v] (by intro x hx; simp at hx; omega)
  have HVS := Lib.hid hvs
  clear hR1 hR2 hov hv e1 e2 hvs
  simp only [Exit.then]
  go_wp2_with (go_at_call 37; refine HWS.out.mono ?_)
  rintro e w3 ⟨rfl, hR3, hb3⟩
  go_wp2_with fail
  go_ret
  rw [HVS.out] at hR3
  exact ⟨rfl, .inr (by simpa using hR3), ((HHELD.out.mono (Nat.le_of_lt hlt)).setCell (p := ⟨b, 1, none⟩) (Nat.le_refl _) _).trans hb3⟩
end Esc
end Go.Proofs.YtbpcoieemkojjaaDoor
/- esc's reader: signed, isBarred. -/
namespace Go.Proofs.YtbpcoieemkojjaaDoor
set_option linter.unusedSimpArgs false
set_option linter.unusedVariables false
namespace Esc
open Go.RowKit Go.Shelf Go.Proofs.YtbpcoieemkojjaaDoorW.PrintWords Go.Proofs.YtbpcoieemkojjaaDoor.PureB Go.Proofs.YtbpcoieemkojjaaDoor.BldO
open Go.Proofs.YtbpcoieemkojjaaDoor.Code (bl bl_len bl_get bl_byte dv dv_lt unhexL ubT ubN)
attribute [local go_sem] Oper.semAt_some
theorem drop_cons (s : ByteArray) (i : Nat) (h : i < s.size) : (bl s).drop i = bt s i :: (bl s).drop (i + 1) := by
  have h' : i < (bl s).length := by rw [bl_len]; exact h
  rw [List.drop_eq_getElem_cons h']
  congr 1
  have := bl_get s i h
  rw [List.getElem?_eq_getElem h'] at this
  exact Option.some.inj this
theorem stpF (n at_ : Nat) (r : List Int) : stp false n at_ (92 :: r) = (two r).map fun x => (x, 3) := rfl
theorem stpN_nil (n at_ : Nat) : stp true n at_ [92] = none := rfl
theorem stpN (n at_ : Nat) (c : Int) (r : List Int) : stp true n at_ (92 :: c :: r) = if inE c = true then some (c, 2) else (two (c :: r)).map fun x => (x, 3) := rfl
set_option maxRecDepth 100000 in
set_option maxHeartbeats 4000000 in
theorem signedF_some (b : Nat) (s : ByteArray) (hs : s.size ≤ 1000000000) (at_ : Nat) (bs : List Value) (hbs : bs.length ≤ 1000000000) (a0 : Addr) (w : World) (hG : Code.GA a0 w) (hgb : ∀ w', Below b w w' → Code.GA a0 w') (h : RD b s at_ false bs w) (ha : at_ < s.size) (v : Int) (hv : two ((bl s).drop (at_ + 1)) = some v) :
    Calls Tryd.prog 41 #[.pointer (some ⟨b, 0, none⟩)] w fun e w' => e = .returned .nilIface ∧ RD b s (at_ + 3 : Nat) false (bs ++ [.int .u8 v]) w' ∧ Below b w w' := by
  obtain ⟨c0, c1, c2, f1, hlt⟩ := RD.cells h
  have hw : wrap64 ((at_ : Int) + 1) = at_ + 1 := by unfold wrap64; omega
  have hR2 : RD b s ((at_ + 1 : Nat) : Int) false bs (w.setCell ⟨b, 1, none⟩ (.int .i64 ((at_ : Int) + 1))) := RD.move h ((at_ + 1 : Nat) : Int)
  have hb2 : Below b w (w.setCell ⟨b, 1, none⟩ (.int .i64 ((at_ : Int) + 1))) := (Below.refl b w).setCell (p := ⟨b, 1, none⟩) (Nat.le_refl _) _
  have hG2 := hgb _ hb2
  have HD := Lib.hid (digits_some b s hs (at_ + 1) false bs hbs a0 _ hG2 hR2 (by omega) v hv)
  have d2 : (w.setCell ⟨b, 1, none⟩ (.int .i64 ((at_ : Int) + 1))).cell? ⟨b, 2, none⟩ = some (.bool false) := (RD.cells hR2).2.2.1
  have HB2 := Lib.hid hb2
  clear h hR2 hG2 hv hb2
  go_enter Tryd.func41, Tryd.ntmps41
  go_wp2_with (go_at_call 52; refine HD.out.mono ?_)
  rintro e w3 ⟨rfl, hR3, hb3⟩
  go_wp2_with fail
  go_ret
  exact ⟨rfl, by first | exact hR3 | simpa using hR3, HB2.out.trans hb3⟩
set_option maxRecDepth 100000 in
set_option maxHeartbeats 4000000 in
theorem signedF_none (b : Nat) (s : ByteArray) (hs : s.size ≤ 1000000000) (at_ : Nat) (bs : List Value) (hbs : bs.length ≤ 1000000000) (a0 : Addr) (w : World) (hG : Code.GA a0 w) (hgb : ∀ w', Below b w w' → Code.GA a0 w') (h : RD b s at_ false bs w) (ha : at_ < s.size) (hv : two ((bl s).drop (at_ + 1)) = none) :
    Calls Tryd.prog 41 #[.pointer (some ⟨b, 0, none⟩)] w fun e w' => (∃ n, e = .returned (werr n)) ∧ Below b w w' := by
  obtain ⟨c0, c1, c2, f1, hlt⟩ := RD.cells h
  have hw : wrap64 ((at_ : Int) + 1) = at_ + 1 := by unfold wrap64; omega
  have hR2 : RD b s ((at_ + 1 : Nat) : Int) false bs (w.setCell ⟨b, 1, none⟩ (.int .i64 ((at_ : Int) + 1))) := RD.move h ((at_ + 1 : Nat) : Int)
  have hb2 : Below b w (w.setCell ⟨b, 1, none⟩ (.int .i64 ((at_ : Int) + 1))) := (Below.refl b w).setCell (p := ⟨b, 1, none⟩) (Nat.le_refl _) _
  have hG2 := hgb _ hb2
  have HD := Lib.hid (digits_none b s hs (at_ + 1) false bs hbs a0 _ hG2 hR2 (by omega) hv)
  have d2 : (w.setCell ⟨b, 1, none⟩ (.int .i64 ((at_ : Int) + 1))).cell? ⟨b, 2, none⟩ = some (.bool false) := (RD.cells hR2).2.2.1
  have HB2 := Lib.hid hb2
  clear h hR2 hG2 hv hb2
  go_enter Tryd.func41, Tryd.ntmps41
  go_wp2_with (go_at_call 52; refine HD.out.mono ?_)
  rintro e w3 ⟨⟨n, rfl⟩, hb3⟩
  go_wp2_with fail
  go_ret
  exact ⟨⟨n, rfl⟩, HB2.out.trans hb3⟩
theorem ext_size (s : ByteArray) (at_ : Nat) (h : at_ ≤ s.size) : (s.extract at_ s.size).size = s.size - at_ := by rw [ByteArray.size_extract]; omega
set_option maxRecDepth 100000 in
set_option maxHeartbeats 4000000 in
theorem signedN_end (b : Nat) (s : ByteArray) (hs : s.size ≤ 1000000000) (at_ : Nat) (bs : List Value) (hbs : bs.length ≤ 1000000000) (a0 : Addr) (w : World) (hgb : ∀ w', Below b w w' → Code.GA a0 w') (h : RD b s at_ true bs w) (ha : at_ + 1 = s.size) :
    Calls Tryd.prog 41 #[.pointer (some ⟨b, 0, none⟩)] w fun e w' => (∃ n, e = .returned (werr n)) ∧ Below b w w' := by
  obtain ⟨c0, c1, c2, f1, hlt⟩ := RD.cells h
  have hw : wrap64 ((at_ : Int) + 1) = at_ + 1 := by unfold wrap64; omega
  have hR2 : RD b s ((at_ + 1 : Nat) : Int) true bs (w.setCell ⟨b, 1, none⟩ (.int .i64 ((at_ : Int) + 1))) := RD.move h ((at_ + 1 : Nat) : Int)
  have hb2 : Below b w (w.setCell ⟨b, 1, none⟩ (.int .i64 ((at_ : Int) + 1))) := (Below.refl b w).setCell (p := ⟨b, 1, none⟩) (Nat.le_refl _) _
  have d2 : (w.setCell ⟨b, 1, none⟩ (.int .i64 ((at_ : Int) + 1))).cell? ⟨b, 2, none⟩ = some (.bool true) := (RD.cells hR2).2.2.1
  have HREST := Lib.hid (fun (W : World) (hR : RD b s ((at_ + 1 : Nat) : Int) true bs W) => rest_c b s (at_ + 1) W (RD.cells hR).1 (RD.cells hR).2.1 (by omega))
  have hrs := ext_size s (at_ + 1) (by omega)
  have hbr : bl (s.extract (at_ + 1) s.size) = (bl s).drop (at_ + 1) := bl_tail s (at_ + 1)
  obtain ⟨r, hr⟩ : ∃ r, s.extract (at_ + 1) s.size = r := ⟨_, rfl⟩
  rw [hr] at HREST hrs hbr
  have HR2 := Lib.hid hR2
  have HB2 := Lib.hid hb2
  have hsW : (w.setCell ⟨b, 1, none⟩ (.int .i64 ((at_ : Int) + 1))).heap.size = w.heap.size := by simp [World.setCell]
  have hr0 : r.size = 0 := by omega
  have hre : r = ⟨#[]⟩ := by
    apply ByteArray.ext
    exact Array.eq_empty_of_size_eq_zero hr0
  have hne1 : r.toList.isEmpty = true := by rw [hre, ByteArray.toList_eq]; rfl
  have hne2 : (r.toList == ([] : List UInt8)) = true := by rw [hre, ByteArray.toList_eq]; rfl
  have htn : two ((bl s).drop (at_ + 1)) = none := by rw [← hbr, hre]; rfl
  clear h hR2 hb2 hr hre hbr
  go_enter Tryd.func41, Tryd.ntmps41
  go_wp2_with fail
  refine (HREST.out _ HR2.out).mono ?_
  rintro e w2 ⟨rfl, hb3⟩
  have HR3 := Lib.hid (RD.below HR2.out hb3)
  have HB3 := Lib.hid (HB2.out.trans (hb3.mono (by rw [hsW]; exact Nat.le_of_lt hlt)))
  clear hb3
  have HD := Lib.hid (digits_none b s hs (at_ + 1) true bs hbs a0 w2 (hgb _ HB3.out) HR3.out (by omega) htn)
  go_wp2_with (go_at_call 52; refine HD.out.mono ?_)
  rintro e w3 ⟨⟨n, rfl⟩, hb4⟩
  go_wp2_with fail
  go_ret
  exact ⟨⟨n, rfl⟩, HB3.out.trans hb4⟩
set_option maxRecDepth 100000 in
set_option maxHeartbeats 4000000 in
theorem signedN_some (b : Nat) (s : ByteArray) (hs : s.size ≤ 1000000000) (at_ : Nat) (bs : List Value) (hbs : bs.length ≤ 1000000000) (a0 : Addr) (w : World) (hgb : ∀ w', Below b w w' → Code.GA a0 w') (h : RD b s at_ true bs w) (ha : at_ + 1 < s.size) (c : Int) (hcc : bt s (at_ + 1 : Nat) = c) (hE : inE c = false) (v : Int) (hv : two ((bl s).drop (at_ + 1)) = some v) :
    Calls Tryd.prog 41 #[.pointer (some ⟨b, 0, none⟩)] w fun e w' => e = .returned .nilIface ∧ RD b s (at_ + 3 : Nat) true (bs ++ [.int .u8 v]) w' ∧ Below b w w' := by
  obtain ⟨c0, c1, c2, f1, hlt⟩ := RD.cells h
  have hw : wrap64 ((at_ : Int) + 1) = at_ + 1 := by unfold wrap64; omega
  have hR2 : RD b s ((at_ + 1 : Nat) : Int) true bs (w.setCell ⟨b, 1, none⟩ (.int .i64 ((at_ : Int) + 1))) := RD.move h ((at_ + 1 : Nat) : Int)
  have hb2 : Below b w (w.setCell ⟨b, 1, none⟩ (.int .i64 ((at_ : Int) + 1))) := (Below.refl b w).setCell (p := ⟨b, 1, none⟩) (Nat.le_refl _) _
  have d2 : (w.setCell ⟨b, 1, none⟩ (.int .i64 ((at_ : Int) + 1))).cell? ⟨b, 2, none⟩ = some (.bool true) := (RD.cells hR2).2.2.1
  have HREST := Lib.hid (fun (W : World) (hR : RD b s ((at_ + 1 : Nat) : Int) true bs W) => rest_c b s (at_ + 1) W (RD.cells hR).1 (RD.cells hR).2.1 (by omega))
  have hrs := ext_size s (at_ + 1) (by omega)
  have hbr : bl (s.extract (at_ + 1) s.size) = (bl s).drop (at_ + 1) := bl_tail s (at_ + 1)
  obtain ⟨r, hr⟩ : ∃ r, s.extract (at_ + 1) s.size = r := ⟨_, rfl⟩
  rw [hr] at HREST hrs hbr
  have HR2 := Lib.hid hR2
  have HB2 := Lib.hid hb2
  have hsW : (w.setCell ⟨b, 1, none⟩ (.int .i64 ((at_ : Int) + 1))).heap.size = w.heap.size := by simp [World.setCell]
  have hr1 : 0 < r.size := by omega
  have hne : r ≠ ⟨#[]⟩ := by rintro rfl; exact absurd hr1 (by decide)
  have hne2 : (r.toList == ([] : List UInt8)) = false := by
    rw [beq_eq_false_iff_ne]
    intro e
    rw [ByteArray.toList_eq] at e
    exact hne (ByteArray.ext (Array.toList_inj.1 e))
  have hne1 : r.toList.isEmpty = false := by
    rw [← hne2]
    cases r.toList <;> rfl
  have hc0 : ((r[0]'hr1).toNat : Int) = c := by
    have h1 := Code.bl_get r 0 hr1
    rw [hbr, drop_cons s (at_ + 1) (by omega)] at h1
    have h2 := Option.some.inj h1
    rw [← hcc, h2, bt_nat r 0 hr1]
  simp only [inE, decide_eq_false_iff_not, not_or] at hE
  obtain ⟨n1, n2, n3, n4, n5, n6, n7, n8, n9, n10⟩ := hE
  clear h hR2 hb2 hr hbr hcc hne
  go_enter Tryd.func41, Tryd.ntmps41
  go_wp2_with fail
  refine (HREST.out _ HR2.out).mono ?_
  rintro e w2 ⟨rfl, hb3⟩
  have HR3 := Lib.hid (RD.below HR2.out hb3)
  have HB3 := Lib.hid (HB2.out.trans (hb3.mono (by rw [hsW]; exact Nat.le_of_lt hlt)))
  clear hb3
  go_wp2_with fail
  refine (HREST.out _ HR3.out).mono ?_
  rintro e w4 ⟨rfl, hb4⟩
  have HR4 := Lib.hid (RD.below HR3.out hb4)
  have HB4 := Lib.hid (HB3.out.trans (hb4.mono (by have := (RD.cells HR3.out).2.2.2.2; omega)))
  clear hb4
  have HD := Lib.hid (digits_some b s hs (at_ + 1) true bs hbs a0 w4 (hgb _ HB4.out) HR4.out (by omega) v hv)
  go_wp2_with (go_at_call 52; refine HD.out.mono ?_)
  rintro e w5 ⟨rfl, hR5, hb5⟩
  go_wp2_with fail
  go_ret
  exact ⟨rfl, hR5, HB4.out.trans hb5⟩
set_option maxRecDepth 100000 in
set_option maxHeartbeats 4000000 in
theorem signedN_none (b : Nat) (s : ByteArray) (hs : s.size ≤ 1000000000) (at_ : Nat) (bs : List Value) (hbs : bs.length ≤ 1000000000) (a0 : Addr) (w : World) (hgb : ∀ w', Below b w w' → Code.GA a0 w') (h : RD b s at_ true bs w) (ha : at_ + 1 < s.size) (c : Int) (hcc : bt s (at_ + 1 : Nat) = c) (hE : inE c = false) (hv : two ((bl s).drop (at_ + 1)) = none) :
    Calls Tryd.prog 41 #[.pointer (some ⟨b, 0, none⟩)] w fun e w' => (∃ n, e = .returned (werr n)) ∧ Below b w w' := by
  obtain ⟨c0, c1, c2, f1, hlt⟩ := RD.cells h
  have hw : wrap64 ((at_ : Int) + 1) = at_ + 1 := by unfold wrap64; omega
  have hR2 : RD b s ((at_ + 1 : Nat) : Int) true bs (w.setCell ⟨b, 1, none⟩ (.int .i64 ((at_ : Int) + 1))) := RD.move h ((at_ + 1 : Nat) : Int)
  have hb2 : Below b w (w.setCell ⟨b, 1, none⟩ (.int .i64 ((at_ : Int) + 1))) := (Below.refl b w).setCell (p := ⟨b, 1, none⟩) (Nat.le_refl _) _
  have d2 : (w.setCell ⟨b, 1, none⟩ (.int .i64 ((at_ : Int) + 1))).cell? ⟨b, 2, none⟩ = some (.bool true) := (RD.cells hR2).2.2.1
  have HREST := Lib.hid (fun (W : World) (hR : RD b s ((at_ + 1 : Nat) : Int) true bs W) => rest_c b s (at_ + 1) W (RD.cells hR).1 (RD.cells hR).2.1 (by omega))
  have hrs := ext_size s (at_ + 1) (by omega)
  have hbr : bl (s.extract (at_ + 1) s.size) = (bl s).drop (at_ + 1) := bl_tail s (at_ + 1)
  obtain ⟨r, hr⟩ : ∃ r, s.extract (at_ + 1) s.size = r := ⟨_, rfl⟩
  rw [hr] at HREST hrs hbr
  have HR2 := Lib.hid hR2
  have HB2 := Lib.hid hb2
  have hsW : (w.setCell ⟨b, 1, none⟩ (.int .i64 ((at_ : Int) + 1))).heap.size = w.heap.size := by simp [World.setCell]
  have hr1 : 0 < r.size := by omega
  have hne : r ≠ ⟨#[]⟩ := by rintro rfl; exact absurd hr1 (by decide)
  have hne2 : (r.toList == ([] : List UInt8)) = false := by
    rw [beq_eq_false_iff_ne]
    intro e
    rw [ByteArray.toList_eq] at e
    exact hne (ByteArray.ext (Array.toList_inj.1 e))
  have hne1 : r.toList.isEmpty = false := by
    rw [← hne2]
    cases r.toList <;> rfl
  have hc0 : ((r[0]'hr1).toNat : Int) = c := by
    have h1 := Code.bl_get r 0 hr1
    rw [hbr, drop_cons s (at_ + 1) (by omega)] at h1
    have h2 := Option.some.inj h1
    rw [← hcc, h2, bt_nat r 0 hr1]
  simp only [inE, decide_eq_false_iff_not, not_or] at hE
  obtain ⟨n1, n2, n3, n4, n5, n6, n7, n8, n9, n10⟩ := hE
  clear h hR2 hb2 hr hbr hcc hne
  go_enter Tryd.func41, Tryd.ntmps41
  go_wp2_with fail
  refine (HREST.out _ HR2.out).mono ?_
  rintro e w2 ⟨rfl, hb3⟩
  have HR3 := Lib.hid (RD.below HR2.out hb3)
  have HB3 := Lib.hid (HB2.out.trans (hb3.mono (by rw [hsW]; exact Nat.le_of_lt hlt)))
  clear hb3
  go_wp2_with fail
  refine (HREST.out _ HR3.out).mono ?_
  rintro e w4 ⟨rfl, hb4⟩
  have HR4 := Lib.hid (RD.below HR3.out hb4)
  have HB4 := Lib.hid (HB3.out.trans (hb4.mono (by have := (RD.cells HR3.out).2.2.2.2; omega)))
  clear hb4
  have HD := Lib.hid (digits_none b s hs (at_ + 1) true bs hbs a0 w4 (hgb _ HB4.out) HR4.out (by omega) hv)
  go_wp2_with (go_at_call 52; refine HD.out.mono ?_)
  rintro e w5 ⟨⟨n, rfl⟩, hb5⟩
  go_wp2_with fail
  go_ret
  exact ⟨⟨n, rfl⟩, HB4.out.trans hb5⟩
set_option maxRecDepth 100000 in
set_option maxHeartbeats 4000000 in
theorem signedN_E (b : Nat) (s : ByteArray) (hs : s.size ≤ 1000000000) (at_ : Nat) (bs : List Value) (hbs : bs.length ≤ 1000000000) (a0 : Addr) (w : World) (hgb : ∀ w', Below b w w' → Code.GA a0 w') (h : RD b s at_ true bs w) (ha : at_ + 1 < s.size) (c : Int) (hcc : bt s (at_ + 1 : Nat) = c) (hE : inE c = true) :
    Calls Tryd.prog 41 #[.pointer (some ⟨b, 0, none⟩)] w fun e w' => e = .returned .nilIface ∧ RD b s (at_ + 2 : Nat) true (bs ++ [.int .u8 c]) w' ∧ Below b w w' := by
  obtain ⟨c0, c1, c2, f1, hlt⟩ := RD.cells h
  have hw : wrap64 ((at_ : Int) + 1) = at_ + 1 := by unfold wrap64; omega
  have hR2 : RD b s ((at_ + 1 : Nat) : Int) true bs (w.setCell ⟨b, 1, none⟩ (.int .i64 ((at_ : Int) + 1))) := RD.move h ((at_ + 1 : Nat) : Int)
  have hb2 : Below b w (w.setCell ⟨b, 1, none⟩ (.int .i64 ((at_ : Int) + 1))) := (Below.refl b w).setCell (p := ⟨b, 1, none⟩) (Nat.le_refl _) _
  have d2 : (w.setCell ⟨b, 1, none⟩ (.int .i64 ((at_ : Int) + 1))).cell? ⟨b, 2, none⟩ = some (.bool true) := (RD.cells hR2).2.2.1
  have HREST := Lib.hid (fun (W : World) (hR : RD b s ((at_ + 1 : Nat) : Int) true bs W) => rest_c b s (at_ + 1) W (RD.cells hR).1 (RD.cells hR).2.1 (by omega))
  have hrs := ext_size s (at_ + 1) (by omega)
  have hbr : bl (s.extract (at_ + 1) s.size) = (bl s).drop (at_ + 1) := bl_tail s (at_ + 1)
  obtain ⟨r, hr⟩ : ∃ r, s.extract (at_ + 1) s.size = r := ⟨_, rfl⟩
  rw [hr] at HREST hrs hbr
  have HR2 := Lib.hid hR2
  have HB2 := Lib.hid hb2
  have hsW : (w.setCell ⟨b, 1, none⟩ (.int .i64 ((at_ : Int) + 1))).heap.size = w.heap.size := by simp [World.setCell]
  have hr1 : 0 < r.size := by omega
  have hne : r ≠ ⟨#[]⟩ := by rintro rfl; exact absurd hr1 (by decide)
  have hne2 : (r.toList == ([] : List UInt8)) = false := by
    rw [beq_eq_false_iff_ne]
    intro e
    rw [ByteArray.toList_eq] at e
    exact hne (ByteArray.ext (Array.toList_inj.1 e))
  have hne1 : r.toList.isEmpty = false := by
    rw [← hne2]
    cases r.toList <;> rfl
  have hc0 : ((r[0]'hr1).toNat : Int) = c := by
    have h1 := Code.bl_get r 0 hr1
    rw [hbr, drop_cons s (at_ + 1) (by omega)] at h1
    have h2 := Option.some.inj h1
    rw [← hcc, h2, bt_nat r 0 hr1]
  simp only [inE, decide_eq_true_eq] at hE
  clear h hR2 hb2 hr hbr hcc hne
  go_enter Tryd.func41, Tryd.ntmps41
  go_wp2_with fail
  refine (HREST.out _ HR2.out).mono ?_
  rintro e w2 ⟨rfl, hb3⟩
  have HR3 := Lib.hid (RD.below HR2.out hb3)
  have HB3 := Lib.hid (HB2.out.trans (hb3.mono (by rw [hsW]; exact Nat.le_of_lt hlt)))
  clear hb3
  go_wp2_with fail
  refine (HREST.out _ HR3.out).mono ?_
  rintro e w4 ⟨rfl, hb4⟩
  have HR4 := Lib.hid (RD.below HR3.out hb4)
  have HB4 := Lib.hid (HB3.out.trans (hb4.mono (by have := (RD.cells HR3.out).2.2.2.2; omega)))
  clear hb4
  have HWB := Lib.hid (WriteByte_o b s ((at_ + 1 : Nat) : Int) true bs c w4 HR4.out (by omega) (Nat.le_of_lt (RD.cells HR4.out).2.2.2.2))
  have hw2 : wrap64 ((at_ : Int) + 1 + 1) = at_ + 2 := by unfold wrap64; omega
  rcases hE with rfl | rfl | rfl | rfl | rfl | rfl | rfl | rfl | rfl | rfl
  all_goals
    go_wp2_with (go_at_call 36; refine HWB.out.mono ?_)
    rintro e w5 ⟨rfl, hR5, hb5⟩
    have HR5 := Lib.hid (Or.inr hR5 : RD b s ((at_ + 1 : Nat) : Int) true _ w5)
    obtain ⟨x0, x1, x2, x3, x4⟩ := RD.cells HR5.out
    have x1' : w5.cell? ⟨b, 1, none⟩ = some (.int .i64 ((at_ : Int) + 1)) := x1
    clear x1 hR5
    go_wp2_with fail
    go_ret
    exact ⟨rfl, RD.move HR5.out ((at_ + 2 : Nat) : Int), (HB4.out.trans hb5).setCell (p := ⟨b, 1, none⟩) (Nat.le_refl _) _⟩
end Esc
end Go.Proofs.YtbpcoieemkojjaaDoor
