/- utf's functions, walked, first part: told, and the iterator over a text's signs. -/
import Derived.Test.YtkjmabehphgmkaaDoorErrUtf
import Derived.Test.YtkjmabehphgmkaaDoorGAUtf
import Derived.Test.YtkjmabehphgmkaaDoorIterD
import Derived.Test.YtkjmabehphgmkaaDoorUtfP2
import Derived.Test.YtkjmabehphgmkaaDoorShelf
import Derived.Lib.OthersKept
import Derived.Deep.RegionHeld3
import Derived.Maps.OwnIn
namespace Go.Proofs.YtkjmabehphgmkaaDoor
set_option linter.unusedSimpArgs false
set_option linter.unusedVariables false
namespace Utf
open Go.RowKit Go.Shelf Go.Proofs.YtkjmabehphgmkaaDoorW.PrintWords
attribute [local go_sem] Oper.semAt_some
/-- What the package variables hold. -/
structure GU (a0 : Addr) (w : World) : Prop where
  ga : GA a0 w
  tabs : Lib.Utf8Tabs 2 3 w
theorem tabs_of {A B : World} (h : Lib.Utf8Tabs 2 3 A)
    (h2 : B.heap[(2 : Nat)]? = A.heap[(2 : Nat)]?) (h3 : B.heap[(3 : Nat)]? = A.heap[(3 : Nat)]?) : Lib.Utf8Tabs 2 3 B := by
  have c2 : ∀ c, B.cell? ⟨2, c, none⟩ = A.cell? ⟨2, c, none⟩ := fun c => by simp only [World.cell?, h2]
  have c3 : ∀ c, B.cell? ⟨3, c, none⟩ = A.cell? ⟨3, c, none⟩ := fun c => by simp only [World.cell?, h3]
  refine ⟨fun c hc => ?_, fun i hi => ?_⟩
  · rw [c2]; exact h.1 c hc
  · rw [c3, c3]; exact h.2 i hi
theorem tabs_lt {A : World} (h : Lib.Utf8Tabs 2 3 A) : (2 : Nat) < A.heap.size ∧ (3 : Nat) < A.heap.size :=
  ⟨lt_of_cell (a := ⟨2, 0, none⟩) (h.1 0 (by decide)), lt_of_cell (a := ⟨3, 2 * 0, none⟩) (h.2 0 (by decide)).1⟩
theorem tabs_below {A B : World} (h : Lib.Utf8Tabs 2 3 A) (hb : Below A.heap.size A B) : Lib.Utf8Tabs 2 3 B :=
  tabs_of h (hb.block _ (tabs_lt h).1) (hb.block _ (tabs_lt h).2)
theorem tabs_chg {S : Nat → Prop} {A B : World} (h : Lib.Utf8Tabs 2 3 A) (hc : Chg S A B) (h2 : ¬ S 2) (h3 : ¬ S 3) : Lib.Utf8Tabs 2 3 B :=
  tabs_of h (hc.block _ (tabs_lt h).1 h2) (hc.block _ (tabs_lt h).2 h3)
theorem GU.below {a0 : Addr} {w w' : World} (h : GU a0 w) (hb : Below w.heap.size w w') : GU a0 w' := ⟨h.ga.below hb, tabs_below h.tabs hb⟩

theorem told_nil (a0 : Addr) (w : World) (h : GA a0 w) : Calls Tryd.prog 25 #[.nilIface] w fun e w' => e = .returned (.int .i64 0) ∧ Below w.heap.size w w' := by
  have g0 := h.g0
  go_enter Tryd.func25, Tryd.ntmps25
  go_wp2_with (go_at_call 42; refine (is_nil a0 _).mono ?_; rintro e w' ⟨rfl, rfl⟩)
  go_ret
  exact ⟨rfl, Below.refl _ _⟩
theorem told_bad (n : Int) (a0 : Addr) (w : World) (h : GA a0 w) : Calls Tryd.prog 25 #[werr n] w fun e w' => e = .returned (.int .i64 40) ∧ Below w.heap.size w w' := by
  have g0 := h.g0
  go_enter Tryd.func25, Tryd.ntmps25
  go_wp2_with (go_at_call 42; refine (is_same n a0 _ g0).mono ?_; rintro e w' ⟨rfl, hb⟩)
  go_ret
  exact ⟨rfl, hb⟩
/-! The iterator. -/
theorem signs_any (s : ByteArray) (g : Nat) (w : World) : Calls Tryd.prog 24 #[.agg #[.string s], .pointer (some ⟨g, 0, none⟩)] w
    fun e w' => e = .returned (.func (.func 40) #[] #[.pointer (some ⟨w.heap.size, 0, none⟩), .pointer (some ⟨w.heap.size + 1, 0, none⟩)]) ∧ w' = (w.alloc (.cells #[.string s] 43)).alloc (.cells #[.pointer (some ⟨g, 0, none⟩)] 45) := by
  go_enter Tryd.func24, Tryd.ntmps24
  go_wp2
  go_ret
  exact ⟨rfl, rfl⟩
theorem decodeGo_at (s : ByteArray) (pos : Nat) (h : pos < s.size) : Lib.decodeGo (s.extract pos s.size) = Utf8.decode s pos := by
  have hsz : (s.extract pos s.size).size = s.size - pos := by simp
  unfold Lib.decodeGo
  rw [if_neg (by omega)]
  have hb : ∀ k : Nat, bt (s.extract pos s.size) (k : Int) = bt s ((pos : Int) + k) := fun k => by
    unfold bt
    by_cases hk : pos + k < s.size
    · rw [dif_pos (by simp; omega), dif_pos (by omega)]
      simp only [ByteArray.getElem_extract]
      congr 2
    · rw [dif_neg (by simp; omega), dif_neg (by omega)]
  have r : ∀ k : Int, ∃ b : Nat, (b : Int) = bt s ((pos : Int) + k) := fun k => ⟨(bt s ((pos : Int) + k)).toNat, by have := bt_range s ((pos : Int) + k); omega⟩
  obtain ⟨b0, h0⟩ := r 0
  obtain ⟨b1, h1⟩ := r 1
  obtain ⟨b2, h2⟩ := r 2
  obtain ⟨b3, h3⟩ := r 3
  rw [decode_bt s pos h b0 b1 b2 b3 (by simpa using h0) h1 h2 h3,
    decode_bt (s.extract pos s.size) 0 (by omega) b0 b1 b2 b3 (by rw [hb 0]; simpa using h0) (by rw [show ((0 : Nat) : Int) + 1 = ((1 : Nat) : Int) by rfl, hb 1]; exact h1) (by rw [show ((0 : Nat) : Int) + 2 = ((2 : Nat) : Int) by rfl, hb 2]; exact h2) (by rw [show ((0 : Nat) : Int) + 3 = ((3 : Nat) : Int) by rfl, hb 3]; exact h3)]
  simp only [hsz, Nat.zero_add, show ∀ k, k < s.size - pos ↔ pos + k < s.size from fun k => by omega]
theorem decode_bounds (s : ByteArray) (pos : Nat) (h : pos < s.size) : 1 ≤ (Utf8.decode s pos).2 ∧ (Utf8.decode s pos).1 ≤ 2147483647 := by
  refine ⟨?_, decode_le s pos⟩
  by_cases ha : (s[pos]'h).toNat < 128
  · rw [decode_ascii s pos h ha]
    exact Nat.le_refl _
  · exact (decode_high s pos h (by omega)).2
theorem iterAt_chg {S : Nat → Prop} (w : World) (k : Nat) (s : ByteArray) (pos : Nat) (h : S k) : Chg S w (w.iterAt k s pos) :=
  ⟨rfl, rfl, rfl, by rw [Lib.iterAt_size]; exact Nat.le_refl _, fun j _ hj => Lib.iterAt_other w k j s pos (fun e => hj (e ▸ h))⟩
/-- What lies behind the iterator where its error was to go. -/
def EndErr (s : ByteArray) (g : Nat) (W : World) : Prop := Boxed W g 39 (if bad s < 0 then .nilIface else werr (bad s))
set_option maxRecDepth 100000 in
set_option maxHeartbeats 4000000 in
theorem signs_it (m : Nat) (hm : 1 ≤ m) (s : ByteArray) (hs : s.size ≤ 4611686018427387904) (B C g : Nat) (Rd : Nat → Prop) (r2 : Rd 2) (r3 : Rd 3) (rg : ¬ Rd g) :
    IterD Fence.wide m Tryd.prog 40 #[.pointer (some ⟨B, 0, none⟩), .pointer (some ⟨C, 0, none⟩)] (fun x : Int × Int => #[.int .i64 x.1, .int .i32 x.2]) (sc s s.size 0).1 Rd
      (fun U W => W.heap[B]? = some (.cells #[.string s] 43 (0, 0)) ∧ W.heap[C]? = some (.cells #[.pointer (some ⟨g, 0, none⟩)] 45 (0, 0)) ∧ Boxed W g 39 .nilIface ∧ ¬ U B ∧ ¬ U C ∧ ¬ U g ∧
        Lib.Utf8Tabs 2 3 W)
      (EndErr s g) := by
  intro l J Jx U0 W ⟨wB, wC, wg, uB, uC, ug, wT⟩ hU hR hJ hJx hY h0
  refine callsIn_of_wp Tryd.func40 rfl trivial ?_ rfl
  simp only [Tryd.ntmps40, List.size_toArray, List.length_cons, List.length_nil, Nat.reduceAdd, Nat.reduceSub, Array.replicate_succ, Array.replicate_zero, List.push_toArray, List.append_toArray, List.nil_append, List.cons_append]
  have c0 := cell_of_row W B 0 _ _ _ wB
  simp at c0
  refine wpIn_wide.2 (wp_scope_straight ((wpIn_wide (n := m)).1 (wpIn_seq (wpIn_label ?_))))
  gi_wp2
  have hB := (Array.getElem?_eq_some_iff.1 wB).1
  have hC := (Array.getElem?_eq_some_iff.1 wC).1
  have hg := (Array.getElem?_eq_some_iff.1 wg).1
  have hgB : g ≠ B := by rintro rfl; exact absurd ((show W.heap[g]? = some _ from wg).symm.trans wB) (by simp)
  have hgC : g ≠ C := by rintro rfl; exact absurd ((show W.heap[g]? = some _ from wg).symm.trans wC) (by simp)
  have hi0 : Chg (fun j => ¬ U0 j ∧ ¬ Rd j) W (W.iter s 0) := (Chg.refl _ W).alloc _
  gi_loopw [] (fun wr => ∃ (pos fuel k : Nat) (U : Nat → Prop), J k U wr ∧ (∀ j, U j → j < wr.heap.size ∧ ¬ Rd j) ∧ ¬ U W.heap.size ∧ ¬ U B ∧ ¬ U C ∧ ¬ U g ∧ W.heap.size < wr.heap.size ∧
      wr.heap[W.heap.size]? = some (.stringIter s pos) ∧ wr.heap[B]? = some (.cells #[.string s] 43 (0, 0)) ∧ wr.heap[C]? = some (.cells #[.pointer (some ⟨g, 0, none⟩)] 45 (0, 0)) ∧ Boxed wr g 39 .nilIface ∧
      Lib.Utf8Tabs 2 3 wr ∧ (sc s s.size 0).1.drop k = (sc s fuel pos).1 ∧ k ≤ (sc s s.size 0).1.length ∧ (sc s s.size 0).2 = (sc s fuel pos).2 ∧ s.size ≤ pos + fuel)
    (fun wr => s.size - wr.iterPos W.heap.size)
  case atStart =>
    have hz : (W.iter s 0).heap.size = W.heap.size + 1 := by simp [World.iter]
    refine ⟨0, s.size, 0, U0, hJ _ _ _ _ h0 hi0, fun j hj => ⟨by have := hU j hj; omega, (hU j hj).2⟩, fun h => by have := hU _ h; omega, uB, uC, ug, by omega, World.iter_heap W s 0, ?_, ?_, ?_, ?_, rfl, Nat.zero_le _, rfl, by omega⟩
    · exact ((Chg.refl (fun _ => False) W).alloc (.stringIter s 0)).heap wB (by simp)
    · exact ((Chg.refl (fun _ => False) W).alloc (.stringIter s 0)).heap wC (by simp)
    · exact ((Chg.refl (fun _ => False) W).alloc (.stringIter s 0)).heap wg (by simp)
    · exact tabs_chg wT ((Chg.refl (fun _ => False) W).alloc (.stringIter s 0)) (by simp) (by simp)
  case round =>
    obtain ⟨pos, fuel, k, U, hJk, hUk, uz, uB, uC, ug, hsz, hit, rB, rC, rg', rT, hdr, hkl, hbd, hfu⟩ := hrel
    have hzR : ¬ Rd W.heap.size := fun h => by have := hR _ h; omega
    have xk : ∀ A : World, Chg (fun j => ¬ U j ∧ ¬ Rd j) wr A → J k U A := fun A h => hJ _ _ _ _ hJk h
    by_cases hp : pos < s.size
    · have hdb := decode_bounds s pos hp
      have hnx0 : ∀ ty, (Instr.next (.pointer (some ⟨W.heap.size, 0, none⟩)) true ty).run Tryd.prog wr = _ := fun ty => Lib.run_next_any_at wr W.heap.size s pos ty hit hp
      have hdg := decodeGo_at s pos hp
      have hs1 : sign1 s pos = if Utf8.decode s pos = (65533, 1) then ((0 : Int), 0) else (((Utf8.decode s pos).1 : Int), (Utf8.decode s pos).2) := rfl
      obtain ⟨⟨c, n⟩, hcn⟩ : ∃ q, Utf8.decode s pos = q := ⟨_, rfl⟩
      rw [hcn] at hdb hdg hs1
      simp only [hcn] at hnx0
      simp only at hdb
      obtain ⟨W2, hW2⟩ : ∃ W2, wr.iterAt W.heap.size s (pos + n) = W2 := ⟨_, rfl⟩
      have hnx : ∀ ty, (Instr.next (.pointer (some ⟨W.heap.size, 0, none⟩)) true ty).run Tryd.prog wr = .ok (.tuple #[.bool true, .int .i64 pos, .int .i32 c]) W2 := fun ty => by rw [hnx0, hW2]
      have cW : Chg (fun j => ¬ U j ∧ ¬ Rd j) wr W2 := by rw [← hW2]; exact iterAt_chg wr _ s _ ⟨uz, hzR⟩
      have cZ : Chg (fun j => j = W.heap.size) wr W2 := by rw [← hW2]; exact iterAt_chg wr _ s _ rfl
      have hit2 : W2.heap[W.heap.size]? = some (.stringIter s (pos + n)) := by rw [← hW2]; exact Lib.iterAt_heap wr _ s pos _ hit
      have rB2 := cZ.heap rB (by omega)
      have rT2 := tabs_chg rT cZ (fun h => by have := hR _ r2; omega) (fun h => by have := hR _ r3; omega)
      have d0 := cell_of_row W2 B 0 _ _ _ rB2
      simp at d0
      have HD := Lib.hid (Tryd.utf8_DecodeRuneInString (s.extract pos s.size) W2 rT2)
      rw [hdg] at HD
      have HY := Lib.hid hY
      have HIT := Lib.hid hit
      have HJ := Lib.hid hJ
      have HX := Lib.hid xk
      obtain ⟨f, rfl⟩ : ∃ f, fuel = f + 1 := ⟨fuel - 1, by omega⟩
      clear hW2 hnx0 hdg hY hJ hJx xk h0 wT rT hi0
      gi_wp2
      refine ⟨trivial, (callsIn_wide.2 HD.out).mono ?_⟩
      rintro e W3 ⟨rfl, hb3⟩
      have c3 : Chg (fun j => j = W.heap.size) wr W3 := cZ.trans (Chg.of_below hb3)
      have cW3 : Chg (fun j => ¬ U j ∧ ¬ Rd j) wr W3 := cW.trans (Chg.of_below hb3)
      have rB3 := c3.heap rB (by omega)
      have rC3 := c3.heap rC (by omega)
      have rg3 : Boxed W3 g 39 .nilIface := c3.heap rg' (by omega)
      have hit3 : W3.heap[W.heap.size]? = some (.stringIter s (pos + n)) := (Chg.of_below (S := fun _ => False) hb3).heap hit2 (by simp)
      have rT3 := tabs_below rT2 hb3
      have e1 := cell_of_row W3 C 0 _ _ _ rC3
      simp at e1
      have e2 := rg3.cell
      have e3 := rg3.frozen
      have hs3 := c3.size
      have hJ3 := HX.out W3 cW3
      have hU3 : ∀ j, U j → j < W3.heap.size ∧ ¬ Rd j := fun j hj => ⟨by have := hUk j hj; omega, (hUk j hj).2⟩
      clear hb3 cZ cW rB2 rT2 d0 hit2 hit rB rC rg' HD hnx
      by_cases hbad : (c, n) = (65533, 1)
      · rw [if_pos hbad] at hs1
        have h1 : (sc s (f + 1) pos).1 = [] ∧ (sc s (f + 1) pos).2 = pos := by simp only [sc, if_pos hp, hs1, if_true]; exact ⟨trivial, trivial⟩
        injection hbad with hc1 hn1
        subst hc1 hn1
        have hkk : k = (sc s s.size 0).1.length := by rw [h1.1] at hdr; have := List.drop_eq_nil_iff.1 hdr; omega
        have hb : bad s = pos := by unfold bad; rw [hbd, h1.2]
        have HE := Lib.hid (show ∀ w', Boxed w' g 39 (werr pos) → EndErr s g w' from fun w' h => by unfold EndErr; rw [hb, if_neg (by omega)]; exact h)
        clear hs1 h1 hdr hbd hb
        gi_wp2
        try rw [Exit.noGoto_normal]
        go_end0
        refine ⟨⟨_, rfl⟩, by simp; omega, .inl ⟨U, fun j hj => by simpa using hU3 j hj, ?_, HE.out _ (rg3.set _)⟩⟩
        rw [← hkk]
        exact HJ.out _ _ _ _ hJ3 ((Chg.refl _ W3).setCell ⟨ug, rg⟩ _)
      · rw [if_neg hbad] at hs1
        have h1 : (sc s (f + 1) pos).1 = ((pos : Int), (c : Int)) :: (sc s f (pos + n)).1 ∧ (sc s (f + 1) pos).2 = (sc s f (pos + n)).2 := by
          simp only [sc, if_pos hp, hs1]
          rw [if_neg (show ¬ n = 0 by omega)]
          exact ⟨rfl, rfl⟩
        have hx : (sc s s.size 0).1[k]? = some ((pos : Int), (c : Int)) := by
          have := congrArg (·[0]?) hdr
          simp only [List.getElem?_drop, Nat.add_zero] at this
          rw [this, h1.1]
          rfl
        have hlk : k < (sc s s.size 0).1.length := (List.getElem?_eq_some_iff.1 hx).1
        have hdr2 : (sc s s.size 0).1.drop (k + 1) = (sc s f (pos + n)).1 := by
          rw [← List.drop_drop, hdr, h1.1]
          rfl
        have hbd2 := hbd.trans h1.2
        obtain ⟨fn, tmps, assign, body, hy, hYR⟩ := HY.out k _ U W3 hx hU3 hJ3
        have hne : ¬ (c = 65533 ∧ n = 1) := fun h => hbad (by rw [h.1, h.2])
        clear hs1 h1 hdr hbd hbad hx
        have fin : ∀ (e : Ending) W4, (e = Ending.returned (.bool true) ∧ ∃ U', UStep U W3 U' W4 ∧ J (k + 1) U' W4) → ∃ U', J (k + 1) U' W4 ∧ (∀ j, U' j → j < W4.heap.size ∧ ¬ Rd j) ∧ ¬ U' W.heap.size ∧ ¬ U' B ∧ ¬ U' C ∧ ¬ U' g ∧ W.heap.size < W4.heap.size ∧
            W4.heap[W.heap.size]? = some (.stringIter s (pos + n)) ∧ W4.heap[B]? = some (.cells #[.string s] 43 (0, 0)) ∧ W4.heap[C]? = some (.cells #[.pointer (some ⟨g, 0, none⟩)] 45 (0, 0)) ∧ Boxed W4 g 39 .nilIface ∧
            Lib.Utf8Tabs 2 3 W4 := by
          rintro e W4 ⟨_, U', hst, hJ4⟩
          have hsz4 := hst.chg.size
          have old : ∀ j, j < W3.heap.size → ¬ U j → ¬ U' j := fun j hj hn h => by
            rcases hst.old j h with h2 | h2
            · exact hn h2
            · omega
          exact ⟨U', hJ4, fun j hj => ⟨hst.lt j hj, fun hr => by
              rcases hst.old j hj with h2 | h2
              · exact (hUk j h2).2 hr
              · have := hR j hr; omega⟩, old _ (by omega) uz, old _ (by omega) uB, old _ (by omega) uC, old _ (by omega) ug, by omega, hst.chg.heap hit3 uz, hst.chg.heap rB3 uB, hst.chg.heap rC3 uC, hst.chg.heap rg3 ug,
            tabs_chg rT3 hst.chg (fun h => (hUk _ h).2 r2) (fun h => (hUk _ h).2 r3)⟩
        have FIN := Lib.hid fin
        clear fin
        by_cases hc1 : c = 65533
        · have hn1 : ¬ ((n : Int) = 1) := fun h => hne ⟨hc1, by omega⟩
          subst hc1
          simp at hy
          gi_wp2
          refine hYR.mono ?_
          rintro e W4 (h4 | ⟨rfl, U', hst, hJx4⟩)
          · obtain ⟨U', q⟩ := FIN.out e W4 h4
            obtain ⟨rfl, _⟩ := h4
            gi_wp2
            go_roundw
            case rel => exact ⟨pos + n, f, k + 1, U', q.1, q.2.1, q.2.2.1, q.2.2.2.1, q.2.2.2.2.1, q.2.2.2.2.2.1, q.2.2.2.2.2.2.1, q.2.2.2.2.2.2.2.1, q.2.2.2.2.2.2.2.2.1, q.2.2.2.2.2.2.2.2.2.1, q.2.2.2.2.2.2.2.2.2.2.1, q.2.2.2.2.2.2.2.2.2.2.2, hdr2, by omega, hbd2, by omega⟩
            case measure => simp only [World.iterPos, q.2.2.2.2.2.2.2.1, HIT.out]; omega
          · gi_wp2
            try rw [Exit.noGoto_normal]
            go_end0
            exact ⟨⟨_, rfl⟩, by have := hst.chg.size; omega, .inr ⟨k + 1, by omega, U', fun j hj => ⟨hst.lt j hj, fun hr => by
              rcases hst.old j hj with h2 | h2
              · exact (hUk j h2).2 hr
              · have := hR j hr; omega⟩, hJx4⟩⟩
        · gi_wp2
          refine hYR.mono ?_
          rintro e W4 (h4 | ⟨rfl, U', hst, hJx4⟩)
          · obtain ⟨U', q⟩ := FIN.out e W4 h4
            obtain ⟨rfl, _⟩ := h4
            gi_wp2
            go_roundw
            case rel => exact ⟨pos + n, f, k + 1, U', q.1, q.2.1, q.2.2.1, q.2.2.2.1, q.2.2.2.2.1, q.2.2.2.2.2.1, q.2.2.2.2.2.2.1, q.2.2.2.2.2.2.2.1, q.2.2.2.2.2.2.2.2.1, q.2.2.2.2.2.2.2.2.2.1, q.2.2.2.2.2.2.2.2.2.2.1, q.2.2.2.2.2.2.2.2.2.2.2, hdr2, by omega, hbd2, by omega⟩
            case measure => simp only [World.iterPos, q.2.2.2.2.2.2.2.1, HIT.out]; omega
          · gi_wp2
            try rw [Exit.noGoto_normal]
            go_end0
            exact ⟨⟨_, rfl⟩, by have := hst.chg.size; omega, .inr ⟨k + 1, by omega, U', fun j hj => ⟨hst.lt j hj, fun hr => by
              rcases hst.old j hj with h2 | h2
              · exact (hUk j h2).2 hr
              · have := hR j hr; omega⟩, hJx4⟩⟩
    · have hnx : ∀ ty, (Instr.next (.pointer (some ⟨W.heap.size, 0, none⟩)) true ty).run Tryd.prog wr = _ := fun ty => Lib.run_next_end_at wr W.heap.size s pos ty hit hp
      have h1 : (sc s fuel pos).1 = [] ∧ (sc s fuel pos).2 = -1 := by
        cases fuel with
        | zero => exact ⟨rfl, rfl⟩
        | succ f => simp only [sc, if_neg hp]; exact ⟨trivial, trivial⟩
      have hkk : k = (sc s s.size 0).1.length := by rw [h1.1] at hdr; have := List.drop_eq_nil_iff.1 hdr; omega
      have hb : bad s = -1 := by unfold bad; rw [hbd, h1.2]
      have HE := Lib.hid (show EndErr s g wr by unfold EndErr; rw [hb, if_pos (by omega)]; exact rg')
      clear h1 hdr hbd hb hY hJ hJx
      gi_wp2
      try rw [Exit.noGoto_normal]
      go_end0
      exact ⟨⟨_, rfl⟩, by omega, .inl ⟨U, hUk, by rw [← hkk]; exact hJk, HE.out⟩⟩
end Utf
end Go.Proofs.YtkjmabehphgmkaaDoor
