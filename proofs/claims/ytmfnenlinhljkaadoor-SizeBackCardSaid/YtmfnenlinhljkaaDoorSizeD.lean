/- size's Decode. -/
import Derived.Test.YtmfnenlinhljkaaDoorSizeW8
import Derived.Test.YtmfnenlinhljkaaDoorSizeW9
import Derived.Test.YtmfnenlinhljkaaDoorSizeE
namespace Go.Proofs.YtmfnenlinhljkaaDoor
set_option linter.unusedSimpArgs false
set_option linter.unusedVariables false
namespace Size
open Go.RowKit Go.Shelf Go.Proofs.YtmfnenlinhljkaaDoorW.PrintWords
attribute [local go_sem] Oper.semAt_some
/-- What Decode answers. -/
def decS (s : ByteArray) (i : Int) : Int × Int × Int :=
  if 0 ≤ i ∧ i < s.size then
    if bt s i < 128 then (bt s i, i + 1, 0)
    else if bt s i = 128 ∨ 132 < bt s i then (0, 0, 11)
    else if (s.size : Int) < i + 1 + (bt s i - 128) then (0, 0, 10)
    else if 16777215 < vl s (i + 1) (bt s i - 128).toNat then (0, 0, 12)
    else (vl s (i + 1) (bt s i - 128).toNat, i + 1 + (bt s i - 128), 0)
  else (0, 0, 10)
def DPost (s : ByteArray) (i : Int) (R : Nat) (a0 a1 a2 : Addr) (w : World) : Ending → World → Prop := fun e w' => Chg (fun z => z = R) w w' ∧
  (((decS s i).2.2 = 0 ∧ e = .returned .nilIface ∧ Cells3 s (decS s i).2.1 (decS s i).1 R w') ∨
   (decS s i = (0, 0, 10) ∧ ∃ m, e = .returned (werr m a0)) ∨
   (decS s i = (0, 0, 11) ∧ ∃ m, e = .returned (werr m a1)) ∨
   (decS s i = (0, 0, 12) ∧ ∃ m, e = .returned (werr m a2)))
theorem read_all (s : ByteArray) (i : Int) (R : Nat) (a0 a1 a2 : Addr) (w : World) (h : GA a0 a1 a2 w) (hR : Cells3 s i 0 R w) (hs : s.size ≤ 1000) :
    Calls Tryd.prog 41 #[.pointer (some ⟨R, 0, none⟩)] w (DPost s i R a0 a1 a2 w) := by
  by_cases h0 : 0 ≤ i ∧ i < s.size
  · have hin : ∀ e w', RdPost s i R a0 a1 a2 w e w' → DPost s i R a0 a1 a2 w e w' := by
      rintro e w' ⟨hc, H⟩
      refine ⟨hc, ?_⟩
      unfold decS
      rw [if_pos h0]
      rcases H with ⟨k1, he, hc3⟩ | ⟨k1, he⟩ | ⟨k1, k2, k3, he⟩ | ⟨k1, k2, k3, k4, he⟩ | ⟨k1, k2, k3, k4, he, hc3⟩
      · rw [if_pos k1]; exact .inl ⟨rfl, he, hc3⟩
      · rw [if_neg (by omega), if_pos k1]; exact .inr (.inr (.inl ⟨rfl, _, he⟩))
      · rw [if_neg (by omega), if_neg (by omega), if_pos k3]; exact .inr (.inl ⟨rfl, _, he⟩)
      · rw [if_neg (by omega), if_neg (by omega), if_neg (by omega), if_pos k4]; exact .inr (.inr (.inr ⟨rfl, _, he⟩))
      · rw [if_neg (by omega), if_neg (by omega), if_neg (by omega), if_neg (by omega)]; exact .inl ⟨rfl, he, hc3⟩
    by_cases k1 : bt s i < 129 ∨ 132 < bt s i
    · exact (read_in_a s i R a0 a1 a2 w h hR hs h0.1 h0.2 k1).mono hin
    by_cases k2 : (s.size : Int) < i + 1 + (bt s i - 128)
    · exact (read_in_b s i R a0 a1 a2 w h hR hs h0.1 h0.2 (by omega) (by omega) k2).mono hin
    · exact (read_in_c s i R a0 a1 a2 w h hR hs h0.1 h0.2 (by omega) (by omega) (by omega)).mono hin
  · refine (read_short1 s i R a0 a1 a2 w h hR hs h0).mono ?_
    rintro e w' ⟨he, hb⟩
    refine ⟨Chg.of_below hb, .inr (.inl ⟨?_, _, he⟩)⟩
    unfold decS; rw [if_neg h0]
theorem Decode_c (s : ByteArray) (i : Int) (a0 a1 a2 : Addr) (w : World) (h : GA a0 a1 a2 w) (hs : s.size ≤ 1000) :
    Calls Tryd.prog 29 #[.string s, .int .i64 i] w fun e w' => e = .returned (.tuple #[.int .i64 (decS s i).1, .int .i64 (decS s i).2.1, .int .i64 (decS s i).2.2]) ∧ Below w.heap.size w w' := by
  go_enter Tryd.func29, Tryd.ntmps29
  have hB0 : Below w.heap.size w (w.alloc (.cells #[.string s, .int .i64 i, .int .i64 0] 65)) := (Below.refl _ _).alloc (Nat.le_refl _) _
  have HR := Lib.hid (read_all s i w.heap.size a0 a1 a2 _ (h.below hB0) (World.alloc_heap_new w _) hs)
  go_wp2_with fail
  refine HR.out.mono ?_
  rintro e w1 ⟨hc, H⟩
  have hB1 : Below w.heap.size w w1 := Below.chg hB0 hc (by simp) (fun k hk => by omega)
  have hG1 := h.below hB1
  clear HR
  rcases H with ⟨hd, rfl, hc3⟩ | ⟨hd, m, rfl⟩ | ⟨hd, m, rfl⟩ | ⟨hd, m, rfl⟩
  · obtain ⟨x, hx⟩ : ∃ x, (decS s i).1 = x := ⟨_, rfl⟩
    obtain ⟨y, hy⟩ : ∃ y, (decS s i).2.1 = y := ⟨_, rfl⟩
    rw [hx, hy] at hc3
    have HX := Lib.hid hx
    have HY := Lib.hid hy
    have HD := Lib.hid hd
    clear hx hy
    have c0 := cell_of_row w1 w.heap.size 0 _ _ _ hc3
    have c1 := cell_of_row w1 w.heap.size 1 _ _ _ hc3
    have c2 := cell_of_row w1 w.heap.size 2 _ _ _ hc3
    simp at c0 c1 c2
    clear hd hc hc3
    go_wp2_with fail
    go_region
    go_wp2_with fail
    refine bodyPost_ret (v := .tuple #[.int .i64 x, .int .i64 y, .int .i64 0]) (by simp [results, Tryd.results29, go_sem]) rfl ⟨by rw [HX.out, HY.out, HD.out], hB1.drew⟩
  · have HD := Lib.hid hd
    have HT := Lib.hid (told_short m a0 a1 a2 w1 hG1)
    clear hd hc
    go_wp2_with fail
    refine HT.out.mono ?_
    rintro e w2 ⟨rfl, hb2⟩
    go_wp2_with fail
    refine bodyPost_ret (v := .tuple #[.int .i64 0, .int .i64 0, .int .i64 10]) (by simp [results, Tryd.results29, go_sem]) rfl ⟨by rw [HD.out], bl_trans hB1 hb2⟩
  · have HD := Lib.hid hd
    have HT := Lib.hid (told_form m a0 a1 a2 w1 hG1)
    clear hd hc
    go_wp2_with fail
    refine HT.out.mono ?_
    rintro e w2 ⟨rfl, hb2⟩
    go_wp2_with fail
    refine bodyPost_ret (v := .tuple #[.int .i64 0, .int .i64 0, .int .i64 11]) (by simp [results, Tryd.results29, go_sem]) rfl ⟨by rw [HD.out], bl_trans hB1 hb2⟩
  · have HD := Lib.hid hd
    have HT := Lib.hid (told_size m a0 a1 a2 w1 hG1)
    clear hd hc
    go_wp2_with fail
    refine HT.out.mono ?_
    rintro e w2 ⟨rfl, hb2⟩
    go_wp2_with fail
    refine bodyPost_ret (v := .tuple #[.int .i64 0, .int .i64 0, .int .i64 12]) (by simp [results, Tryd.results29, go_sem]) rfl ⟨by rw [HD.out], bl_trans hB1 hb2⟩
end Size
end Go.Proofs.YtmfnenlinhljkaaDoor
