/- size's encoded. -/
import Derived.Test.YtmfnenlinhljkaaDoorSizeW4
import Derived.Laws.EntriesVeiled
namespace Go.Proofs.YtmfnenlinhljkaaDoor
set_option linter.unusedSimpArgs false
set_option linter.unusedVariables false
namespace Size
open Go.RowKit Go.Shelf Go.Proofs.YtmfnenlinhljkaaDoorW.PrintWords
attribute [local go_sem] Oper.semAt_some
theorem encoded_no (n : Int) (a0 a1 a2 : Addr) (w : World) (h : GA a0 a1 a2 w) (hn : n < 0 ∨ 16777215 < n) :
    Calls Tryd.prog 39 #[.int .i64 n] w fun e w' => e = .returned (.tuple #[.string ⟨#[]⟩, werr n a2]) ∧ Below w.heap.size w w' := by
  have g2 := h.g2
  refine (callsIn_wide (n := 9)).1 ?_
  refine callsIn_of_wp_marks Tryd.func39 rfl trivial ?_ rfl
  simp only [Tryd.ntmps39, List.size_toArray, List.length_cons, List.length_nil, Nat.reduceAdd, Nat.reduceSub, Array.replicate_succ, Array.replicate_zero, List.push_toArray, List.append_toArray, List.nil_append, List.cons_append]
  have hd : (decide (n < 0) || decide (16777215 < n)) = true := by simpa using hn
  gi_wp2_with fail
  all_goals first | rw [hd] | skip
  all_goals refine ⟨trivial, (callsIn_wide.2 (first_yes n a2 w.heap.size _ (World.alloc_heap_new w _))).mono ?_⟩
  all_goals (rintro e w1 ⟨rfl, hE1⟩; have hb1 := (Below.refl _ (w.alloc (.cells #[.bool true, ese a2] 75))).alloc (Nat.le_refl _) (.cells #[.bool true, ese a2] 75); rw [← hE1] at hb1; clear hE1)
  all_goals gi_wp2
  all_goals exact ⟨_, results_tmp2 rfl _ _ _, rfl, bl_trans ((Below.refl _ _).alloc (Nat.le_refl _) _) hb1⟩

set_option maxRecDepth 100000 in
theorem encoded_1 (n : Int) (a0 a1 a2 : Addr) (w : World) (h : GA a0 a1 a2 w) (hn0 : 0 ≤ n) (hn : n < 128) :
    Calls Tryd.prog 39 #[.int .i64 n] w fun e w' => e = .returned (.tuple #[.string (strOfNums [n]), .nilIface]) ∧ Below w.heap.size w w' := by
  have g2 := h.g2
  refine (callsIn_wide (n := 9)).1 ?_
  refine callsIn_of_wp_marks Tryd.func39 rfl trivial ?_ rfl
  simp only [Tryd.ntmps39, List.size_toArray, List.length_cons, List.length_nil, Nat.reduceAdd, Nat.reduceSub, Array.replicate_succ, Array.replicate_zero, List.push_toArray, List.append_toArray, List.nil_append, List.cons_append]
  have hd : (decide (n < 0) || decide (16777215 < n)) = false := by simp; omega
  gi_wp2_with fail
  refine ⟨trivial, (callsIn_wide.2 (first_no n a2 w.heap.size _ (World.alloc_heap_new w _))).mono ?_⟩
  rintro e w1 ⟨rfl, hE1⟩; have hb1 := (Below.refl _ (w.alloc (.cells #[.bool false, ese a2] 75))).alloc (Nat.le_refl _) (.cells #[.bool false, ese a2] 75); rw [← hE1] at hb1; clear hE1
  have hrow : (w1.alloc (.cells #[.int .u8 n] 5)).ownsRow 0 5 1 (.slice (some ⟨w1.heap.size, 0, none⟩) 1 1) 1 (nums .u8 [n]) := by
    simpa [nums] using own_lit w1 0 5 .u8 [n] (Nat.zero_le _) (by simp)
  have hst := string_of_reads (P := Tryd.prog) (src := 42) (dst := 9) (c := 1) Tryd.underlying42 Tryd.underlying5 Tryd.underlying9 (own_reads' hrow)
  clear hrow
  gi_wp2_with fail
  exact ⟨_, results_tmp2 rfl _ _ _, rfl, bl_alloc (bl_trans ((Below.refl _ _).alloc (Nat.le_refl _) _) hb1) _⟩
/-- a number's bytes, the least part first -/
def lo (n : Int) (k : Nat) : List Int := (List.range k).map fun j => n / 256 ^ j % 256
theorem lo_len (n : Int) (k : Nat) : (lo n k).length = k := by simp [lo]
set_option maxRecDepth 100000 in
set_option maxHeartbeats 2000000 in
theorem encoded_k (n : Int) (k : Nat) (a0 a1 a2 : Addr) (w : World) (h : GA a0 a1 a2 w) (hn0 : 128 ≤ n) (hn : n ≤ 16777215) (hk : k ≤ 3) (hpos : ∀ j, j < k → 0 < n / 256 ^ j) (hend : n / 256 ^ k = 0) :
    Calls Tryd.prog 39 #[.int .i64 n] w fun e w' => e = .returned (.tuple #[.string (strOfNums ((128 + k) :: (lo n k).reverse)), .nilIface]) ∧ Below w.heap.size w w' := by
  have g2 := h.g2
  have hit := parts_it (9 - 1) (by decide) k (fun j => n / 256 ^ j) (fun j => by rw [Int.pow_succ, Int.ediv_ediv_of_nonneg (by exact Int.pow_nonneg (by decide))]) (by simp; omega) (by simp; omega) hpos hend
  refine (callsIn_wide (n := 9)).1 ?_
  refine callsIn_of_wp_marks Tryd.func39 rfl trivial ?_ rfl
  simp only [Tryd.ntmps39, List.size_toArray, List.length_cons, List.length_nil, Nat.reduceAdd, Nat.reduceSub, Array.replicate_succ, Array.replicate_zero, List.push_toArray, List.append_toArray, List.nil_append, List.cons_append]
  have hd : (decide (n < 0) || decide (16777215 < n)) = false := by simp; omega
  have HIT := Lib.hid hit
  clear hpos hend hit
  gi_wp2_with fail
  refine ⟨trivial, (callsIn_wide.2 (first_no n a2 w.heap.size _ (World.alloc_heap_new w _))).mono ?_⟩
  rintro e w1 ⟨rfl, hE1⟩; have hb1 := (Below.refl _ (w.alloc (.cells #[.bool false, ese a2] 75))).alloc (Nat.le_refl _) (.cells #[.bool false, ese a2] 75); rw [← hE1] at hb1; clear hE1
  gi_wp2_with fail
  refine ⟨trivial, (callsIn_wide.2 (parts_any n _)).mono ?_⟩
  rintro e w2 ⟨rfl, rfl⟩
  gi_wp2_with fail
  have bO : Boxed (w1.alloc (.cells #[.slice none 0 0] 42)) w1.heap.size 42 (.slice none 0 0) := Boxed.new w1 _ _
  have bF : Boxed ((w1.alloc (.cells #[.slice none 0 0] 42)).alloc (.cells #[(.func (.func 47) #[] #[.pointer (some ⟨w1.heap.size, 0, none⟩)])] 76)) (w1.heap.size + 1) 76 (.func (.func 47) #[] #[.pointer (some ⟨w1.heap.size, 0, none⟩)]) := by
    have := Boxed.new (w1.alloc (.cells #[.slice none 0 0] 42)) 76 (.func (.func 47) #[] #[.pointer (some ⟨w1.heap.size, 0, none⟩)]); simpa using this
  have bO' := (bO.alloc (.cells #[(.func (.func 47) #[] #[.pointer (some ⟨w1.heap.size, 0, none⟩)])] 76)).alloc (.cells #[.int .i64 n] 3)
  have bF' := bF.alloc (.cells #[.int .i64 n] 3)
  have hN : (((w1.alloc (.cells #[.slice none 0 0] 42)).alloc (.cells #[(.func (.func 47) #[] #[.pointer (some ⟨w1.heap.size, 0, none⟩)])] 76)).alloc (.cells #[.int .i64 n] 3)).heap[w1.heap.size + 2]? = some (.cells #[.int .i64 n] 3) := by
    have := World.alloc_heap_new ((w1.alloc (.cells #[.slice none 0 0] 42)).alloc (.cells #[(.func (.func 47) #[] #[.pointer (some ⟨w1.heap.size, 0, none⟩)])] 76)) (.cells #[.int .i64 n] 3); simpa using this
  have hsz : (((w1.alloc (.cells #[.slice none 0 0] 42)).alloc (.cells #[(.func (.func 47) #[] #[.pointer (some ⟨w1.heap.size, 0, none⟩)])] 76)).alloc (.cells #[.int .i64 n] 3)).heap.size = w1.heap.size + 3 := by simp
  have hB0 : Below w.heap.size w (((w1.alloc (.cells #[.slice none 0 0] 42)).alloc (.cells #[(.func (.func 47) #[] #[.pointer (some ⟨w1.heap.size, 0, none⟩)])] 76)).alloc (.cells #[.int .i64 n] 3)) := bl_alloc (bl_alloc (bl_alloc (bl_trans ((Below.refl _ _).alloc (Nat.le_refl _) _) hb1) _) _) _
  have hw1 := bl_trans ((Below.refl w.heap.size w).alloc (Nat.le_refl _) (.cells #[.bool false, ese a2] 75)) hb1 |>.size
  have h5 : ∀ z, SJ (fun j => j = w1.heap.size + 2) (((w1.alloc (.cells #[.slice none 0 0] 42)).alloc (.cells #[(.func (.func 47) #[] #[.pointer (some ⟨w1.heap.size, 0, none⟩)])] 76)).alloc (.cells #[.int .i64 n] 3)).heap.size z → w1.heap.size + 2 ≤ z ∧ z < w1.heap.size + 5 := by
    intro z hz; unfold SJ at hz; rw [hsz] at hz; omega
  refine wpIn_range_it1 rfl (by decide) (gf := 56) (lb := #[.pointer (some ⟨w1.heap.size + 2, 0, none⟩)]) rfl trivial (enters_of Tryd.func56 (by kernel_rfl) rfl)
    (HIT.out (w1.heap.size + 2)) (fun W hc => by have := hc.heap hN (by simp); simpa using this) (fun j e => by subst e; left; simp) (fun _ => rfl)
    (fun j W => (∃ v, Boxed W w1.heap.size 42 v ∧ W.ownsRow (w1.heap.size + 5) 5 1 v ((lo n k).take j).reverse.length (nums .u8 ((lo n k).take j).reverse)) ∧ Boxed W (w1.heap.size + 1) 76 (.func (.func 47) #[] #[.pointer (some ⟨w1.heap.size, 0, none⟩)]) ∧ Below w.heap.size w W ∧ w1.heap.size + 3 ≤ W.heap.size)
    (fun _ _ _ => False) ?hI (fun _ _ _ _ h _ => h) ⟨⟨_, bO', World.ownsRow_nil _ _ _ _⟩, bF', hB0, by simp⟩
    ?a1 ?assign ?body ?done ?stop
  case assign =>
    intro l x A K hK
    gi_wp2
    exact hK
  case stop => rintro c j B _ h _; exact h.elim
  case hI =>
    rintro j A B ⟨⟨v, hv, hr⟩, hf, hb, hs⟩ hc
    exact ⟨⟨v, Boxed_chg hv hc (fun h => by have := h5 _ h; omega), ownsRow_chg hr hc (fun z hz => (h5 z hz).2)⟩, Boxed_chg hf hc (fun h => by have := h5 _ h; omega), Below.chg hb hc (by omega) (fun z hz => by have := h5 z hz; omega), by have := hc.size; omega⟩
  case body =>
    rintro j x A ⟨r, hlr⟩ hx ⟨⟨v, hv, hr⟩, hf, hb, hs⟩
    have hAs : w1.heap.size + 5 ≤ A.heap.size := by have := (Array.getElem?_eq_some_iff.1 hlr).1; rw [hsz] at this; omega
    have hjk : j < k := by have := (List.getElem?_eq_some_iff.1 hx).1; simpa using this
    have hc := hv.cell
    have hfc := hf.cell
    have htk : ((lo n k).take (j + 1)).reverse = x :: ((lo n k).take j).reverse := by
      rw [List.take_add_one, show (lo n k)[j]? = some x from hx]; simp
    have HTK := Lib.hid htk
    have HC := Lib.hid (lay_c x w1.heap.size (w1.heap.size + 5) v _ A (by omega) hAs hv hr (by simp; omega))
    clear htk hx hlr
    gi_wp2_with fail
    refine ⟨trivial, ((callsIn_wide.2 HC.out).inRound _).mono ?_⟩
    rintro e w3 ⟨⟨r, rfl⟩, v', hv', hr', hc'⟩
    gi_wp2
    refine ⟨hc'.mono (fun z hz h => ?_), ⟨v', hv', by rw [HTK.out]; exact hr'⟩, hc'.heap hf (by simp), Below.chg hb hc' (by omega) (fun z hz => by omega), by have := hc'.size; omega⟩
    have := h5 _ h; omega
  case done =>
    rintro B ⟨⟨v, hv, hr⟩, hf, hb, hs⟩ hK
    have hBs : w1.heap.size + 4 ≤ B.heap.size := by have := (Array.getElem?_eq_some_iff.1 hK).1; rw [hsz] at this; omega
    have hlen : (List.map (fun j => n / 256 ^ j % 256) (List.range k)).length = k := by simp
    rw [hlen, List.take_of_length_le (by simp [lo]), List.length_reverse, lo_len] at hr
    obtain ⟨A', c', rfl, hrd⟩ := own_reads hr
    have hle := own_le hr
    have hc := hv.cell
    have hfc := hf.cell
    have hlk : (lo n k).reverse.length = k := by simp [lo]
    have hr2 : B.ownsRow (w1.heap.size + 4) 5 1 (.slice A' k c') (lo n k).reverse.length (nums .u8 (lo n k).reverse) := by rw [hlk]; exact own_less hr (by omega)
    have HC := Lib.hid (lay_c (128 + k) w1.heap.size (w1.heap.size + 4) _ _ B (by omega) hBs hv hr2 (by simp [lo]; omega))
    have HB := Lib.hid hb
    rw [hsz] at hK
    have HK := Lib.hid hK
    clear hlen hrd hr hr2 hv hf hK hb
    gi_wp2_with fail
    refine ⟨trivial, (callsIn_wide.2 HC.out).mono ?_⟩
    rintro e w3 ⟨⟨r, rfl⟩, v', hv', hr', hc'⟩
    obtain ⟨A3, c3, rfl, hrd3⟩ := own_reads hr'
    have hle3 := own_le hr'
    have hcc := hv'.cell
    have hst := string_of_reads (P := Tryd.prog) (w := w3) (src := 42) (dst := 9) (c := c3) Tryd.underlying42 Tryd.underlying5 Tryd.underlying9 hrd3
    clear hrd3 hr'
    simp only [List.length_cons, hlk] at hst hcc hle3
    have hK3 := hc'.heap HK.out (by omega)
    gi_wp2_with fail
    refine ⟨by simp, .inl ⟨_, _, rfl, run_takeDeferred hK3, ?_⟩⟩
    exact ⟨_, results_tmp2 rfl _ _ _, rfl, Below.chg (Below.chg HB.out hc' (by omega) (fun z hz => by omega)) ((Chg.refl (fun z => w1.heap.size ≤ z) w3).putObj (by simp) _) (by have := hc'.size; omega) (fun z hz => by omega)⟩
end Size
end Go.Proofs.YtmfnenlinhljkaaDoor
