import Derived.Test.YtmfnenlinhljkaaDoorPrimT
import Derived.Test.YtmfnenlinhljkaaDoorPrimT2
import Derived.Test.YtmfnenlinhljkaaDoorWWords
namespace Go.Proofs.YtmfnenlinhljkaaDoor
set_option linter.unusedSimpArgs false
set_option linter.unusedVariables false
namespace Prim
open Go.RowKit Go.Shelf Go.Proofs.YtmfnenlinhljkaaDoorW.PrintWords
attribute [local go_sem] Oper.semAt_some
/-- How many bytes a number needs; 0: it has none. -/
def wid (n : Int) : Nat := if -128 ≤ n ∧ n < 128 then 1 else if -32768 ≤ n ∧ n < 32768 then 2 else if -8388608 ≤ n ∧ n < 8388608 then 3 else if -2147483648 ≤ n ∧ n < 2147483648 then 4 else 0
/-- Its bytes, k of them. -/
def byts (k : Nat) (n : Int) : List Int := (List.range k).map fun j => n / 2 ^ (8 * (k - 1 - j)) % 256
theorem wid_le (n : Int) : wid n ≤ 4 := by
  unfold wid
  repeat' (first | omega | split)
theorem least_yes (n : Int) (w : World) (h : wid n ≠ 0) :
    Calls Tryd.prog 35 #[.int .i64 n] w fun e w' => e = .returned (.tuple #[.agg #[.int .i64 (wid n), .int .i64 n], .nilIface]) ∧ Below w.heap.size w w' := by
  by_cases c1 : -128 ≤ n ∧ n < 128
  · have : wid n = 1 := by simp [wid, c1]
    rw [this]; exact least1 n w c1.1 c1.2
  by_cases c2 : -32768 ≤ n ∧ n < 32768
  · have : wid n = 2 := by unfold wid; rw [if_neg c1, if_pos c2]
    rw [this]
    by_cases hn : n < 0
    · exact least2n n w c2.1 (by omega)
    · exact least2p n w (by omega) c2.2
  by_cases c3 : -8388608 ≤ n ∧ n < 8388608
  · have : wid n = 3 := by unfold wid; rw [if_neg c1, if_neg c2, if_pos c3]
    rw [this]
    by_cases hn : n < 0
    · exact least3n n w c3.1 (by omega)
    · exact least3p n w (by omega) c3.2
  by_cases c4 : -2147483648 ≤ n ∧ n < 2147483648
  · have : wid n = 4 := by unfold wid; rw [if_neg c1, if_neg c2, if_neg c3, if_pos c4]
    rw [this]
    by_cases hn : n < 0
    · exact least4n n w c4.1 (by omega)
    · exact least4p n w (by omega) c4.2
  · exact absurd (by unfold wid; rw [if_neg c1, if_neg c2, if_neg c3, if_neg c4]) h
theorem wid_zero {n : Int} (h : wid n = 0) : n < -2147483648 ∨ 2147483648 ≤ n := by
  unfold wid at h
  split at h
  · omega
  split at h
  · omega
  split at h
  · omega
  split at h
  · omega
  omega
theorem wid_range {n : Int} (h : wid n ≠ 0) : -2147483648 ≤ n ∧ n < 2147483648 := by
  unfold wid at h
  split at h
  · omega
  split at h
  · omega
  split at h
  · omega
  split at h
  · omega
  omega

theorem Int_no (n : Int) (aN aB : Addr) (w : World) (h : GA aN aB w) (h0 : wid n = 0) :
    Calls Tryd.prog 17 #[.int .i64 n] w fun e w' => e = .returned (.tuple #[.string ByteArray.empty, .int .i64 30]) ∧ Below w.heap.size w w' := by
  refine (callsIn_wide (n := 9)).1 ?_
  refine callsIn_of_wp_marks Tryd.func17 rfl trivial ?_ rfl
  simp only [Tryd.ntmps17, List.size_toArray, List.length_cons, List.length_nil, Nat.reduceAdd, Nat.reduceSub, Array.replicate_succ, Array.replicate_zero, List.push_toArray, List.append_toArray, List.nil_append, List.cons_append]
  have hr := wid_zero h0
  clear h0
  gi_wp2_with (refine ⟨trivial, ?_⟩; gi_at_call 35; refine (callsIn_wide.2 (least_no n aN aB _ h hr)).mono ?_; rintro e w1 ⟨rfl, hb1⟩)
  refine ⟨trivial, (callsIn_wide.2 (told_number ByteArray.empty aN aB _ (h.below (bl_alloc hb1 _)))).mono ?_⟩
  rintro e w2 ⟨rfl, hb2⟩
  gi_wp2
  exact ⟨_, results_tmp2 rfl _ _ _, rfl, bl_trans (bl_alloc hb1 _) hb2⟩

theorem info_u8 : (Tryd.prog.info? 5).map (fun i => (i.zero, i.size, i.bytes)) = some (some (.int .u8 0), 1, 1) := by kernel_rfl
set_option maxHeartbeats 1000000 in
theorem Int_yes (n : Int) (w : World) (h0 : wid n ≠ 0) :
    Calls Tryd.prog 17 #[.int .i64 n] w fun e w' => e = .returned (.tuple #[.string (strOfNums (byts (wid n) n)), .int .i64 0]) ∧ Below w.heap.size w w' := by
  have hk := wid_le n
  have hL := least_yes n
  obtain ⟨k, hk'⟩ : ∃ k, wid n = k := ⟨_, rfl⟩
  simp only [hk'] at hk hL h0 ⊢
  refine (callsIn_wide (n := 9)).1 ?_
  refine callsIn_of_wp_marks Tryd.func17 rfl trivial ?_ rfl
  simp only [Tryd.ntmps17, List.size_toArray, List.length_cons, List.length_nil, Nat.reduceAdd, Nat.reduceSub, Array.replicate_succ, Array.replicate_zero, List.push_toArray, List.append_toArray, List.nil_append, List.cons_append]
  clear hk'
  have HL := Lib.hid (hL w h0)
  clear hL
  gi_wp2_with (refine ⟨trivial, ?_⟩; gi_at_call 35; refine (callsIn_wide.2 HL.out).mono ?_; rintro e w1 ⟨rfl, hb1⟩)
  refine ⟨trivial, (callsIn_wide.2 (bytes_any k n _)).mono ?_⟩
  rintro e w2 ⟨rfl, rfl⟩
  gi_wp2
  have bO : Boxed ((w1.alloc (.cells #[.int .i64 k, .int .i64 n] 46)).alloc (.cells #[.slice none 0 0] 42)) (w1.heap.size + 1) 42 (.slice none 0 0) := by
    have := Boxed.new (w1.alloc (.cells #[.int .i64 k, .int .i64 n] 46)) 42 (.slice none 0 0); simpa using this
  have hN : (((w1.alloc (.cells #[.int .i64 k, .int .i64 n] 46)).alloc (.cells #[.slice none 0 0] 42)).alloc (.cells #[.int .i64 k, .int .i64 n] 46)).heap[w1.heap.size + 2]? = some (.cells #[.int .i64 k, .int .i64 n] 46 (0, 0)) := by
    have := World.alloc_heap_new ((w1.alloc (.cells #[.int .i64 k, .int .i64 n] 46)).alloc (.cells #[.slice none 0 0] 42)) (.cells #[.int .i64 k, .int .i64 n] 46); simpa using this
  have hsz : (((w1.alloc (.cells #[.int .i64 k, .int .i64 n] 46)).alloc (.cells #[.slice none 0 0] 42)).alloc (.cells #[.int .i64 k, .int .i64 n] 46)).heap.size = w1.heap.size + 3 := by simp
  have hB0 : Below w.heap.size w (((w1.alloc (.cells #[.int .i64 k, .int .i64 n] 46)).alloc (.cells #[.slice none 0 0] 42)).alloc (.cells #[.int .i64 k, .int .i64 n] 46)) := bl_alloc (bl_alloc (bl_alloc hb1 _) _) _
  have bO' := bO.alloc (.cells #[.int .i64 k, .int .i64 n] 46)
  have hw1 := hb1.size
  obtain ⟨i0, hi, hz0, hz1, hz2⟩ := info_parts info_u8
  refine wpIn_range_it1 rfl (by decide) (gf := 45) (lb := #[.pointer (some ⟨w1.heap.size + 2, 0, none⟩)]) rfl trivial (enters_of Tryd.func45 (by kernel_rfl) rfl)
    (bytes_it (9 - 1) (by decide) k hk n (w1.heap.size + 2)) (fun W hc => hc.heap hN (by simp)) (fun j e => by subst e; left; simp) (fun _ => rfl)
    (fun j W => (∃ v, Boxed W (w1.heap.size + 1) 42 v ∧ W.ownsRow (w1.heap.size + 5) 5 1 v j (nums .u8 ((byts k n).take j))) ∧ Below w.heap.size w W ∧ w1.heap.size + 3 ≤ W.heap.size)
    (fun _ _ _ => False) ?hI (fun _ _ _ _ h _ => h) ⟨⟨_, bO', World.ownsRow_nil _ _ _ _⟩, hB0, by simp⟩
    ?a1 ?assign ?body ?done ?stop
  case assign =>
    intro l x A K hK
    gi_wp2
    exact hK
  case stop => rintro c j B _ h _; exact h.elim
  case hI =>
    rintro j A B ⟨⟨v, hv, hr⟩, hb, hs⟩ hc
    have h5 : ∀ z, SJ (fun j => j = w1.heap.size + 2) (((w1.alloc (.cells #[.int .i64 k, .int .i64 n] 46)).alloc (.cells #[.slice none 0 0] 42)).alloc (.cells #[.int .i64 k, .int .i64 n] 46)).heap.size z → w1.heap.size + 2 ≤ z ∧ z < w1.heap.size + 5 := by
      intro z hz; unfold SJ at hz; rw [hsz] at hz; omega
    exact ⟨⟨v, Boxed_chg hv hc (fun h => by have := h5 _ h; omega), ownsRow_chg hr hc (fun z hz => (h5 z hz).2)⟩, Below.chg hb hc (by omega) (fun z hz => by have := h5 z hz; omega), by have := hc.size; omega⟩
  case body =>
    rintro j x A ⟨r, hlr⟩ hx ⟨⟨v, hv, hr⟩, hb, hs⟩
    have hAs : w1.heap.size + 5 ≤ A.heap.size := by have := (Array.getElem?_eq_some_iff.1 hlr).1; rw [hsz] at this; omega
    have hjk : j < k := by have := (List.getElem?_eq_some_iff.1 hx).1; simpa [byts] using this
    have hc := hv.cell
    have htk : (byts k n).take (j + 1) = (byts k n).take j ++ [x] := by
      rw [List.take_add_one]; rw [show (byts k n)[j]? = some x from hx]; rfl
    have HTK := Lib.hid htk
    have HX := Lib.hid hx
    clear htk hx hlr
    gi_wp2_with (gi_at_builtin; refine wpListIn_append_own _ rfl _ _ 42 rfl (w1.heap.size + 5) 5 i0 (.int .u8 0) 1 1 Tryd.underlying42 hi hz0 hz1 hz2 rfl (by decide) _ _ _ rfl (hr.alloc _) ⟨A.heap.size, 0, none⟩ 1 1 [.int .u8 x] rfl rfl (cell_one_new _ _ _) (by simp [Value.oneCell']) (by unfold maxLen; omega) (by omega) (by simp; omega) ?_; intro v' w3 hown' hgrow _; obtain ⟨g', cap', rfl⟩ := ownsRow_succ hown'; obtain ⟨hv1, hv2, hr2, hk2⟩ := box_appended hv (by decide) hr hown' hgrow; have hc1 := hv1.cell; have hf1 := hv1.frozen)
    refine ⟨hk2 _ (fun h => ?_) (fun z hz h => ?_), ⟨_, hv2, ?_⟩, Below.chg hb (hk2 (fun z => w1.heap.size ≤ z) (by simp) (fun z hz => by omega)) (by omega) (fun z hz => by omega), ?_⟩
    · unfold SJ at h; rw [hsz] at h; omega
    · unfold SJ at h; rw [hsz] at h; omega
    · rw [HTK.out, nums_append]; exact hr2
    · have := (hk2 (fun z => w1.heap.size ≤ z) (by simp) (fun z hz => by omega)).size; omega
  case done =>
    rintro B ⟨⟨v, hv, hr⟩, hb, hs⟩ hK
    have hlen : (List.map (fun j => n / 2 ^ (8 * (k - 1 - j)) % 256) (List.range k)).length = k := by simp
    rw [hlen, List.take_of_length_le (by simp [byts])] at hr
    obtain ⟨A', c', rfl, hrd⟩ := own_reads hr
    have hle := own_le hr
    have hc := hv.cell
    have hst := string_of_reads (P := Tryd.prog) (w := B) (src := 42) (dst := 9) (c := k) Tryd.underlying42 Tryd.underlying5 Tryd.underlying9 hrd
    clear hlen hrd
    gi_wp2
    refine ⟨by simp, .inl ⟨_, _, rfl, run_takeDeferred hK, ?_⟩⟩
    exact ⟨_, results_tmp2 rfl _ _ _, rfl, Below.chg hb ((Chg.refl (fun z => w1.heap.size ≤ z) B).putObj (by rw [hsz]; omega) _) (by omega) (fun z hz => by omega)⟩
end Prim
end Go.Proofs.YtmfnenlinhljkaaDoor
