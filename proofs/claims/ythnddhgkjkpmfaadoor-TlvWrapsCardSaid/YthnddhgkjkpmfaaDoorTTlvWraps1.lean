/- What is in a right tree is right; a tree in another one has so many bytes more as its tag and its length. The card of the statement, out of the walk and the plain law. Conditions: none beyond the card's own (the listed package variables as the program's text lays them).
-/
import Derived.Test.YthnddhgkjkpmfaaDoorCTlv7
-- Written by this repo's own program over the kit's printer: YthnddhgkjkpmfaaDoor.LTlvC
namespace Go.Proofs.YthnddhgkjkpmfaaDoor.LTlvC
open Go.Proofs.YthnddhgkjkpmfaaDoor.ExtTlvC
open Go.Proofs.YthnddhgkjkpmfaaDoor.KTlv
open Go.RowKit Go.Proofs.YthnddhgkjkpmfaaDoorW.PrintWords Go.Proofs.YthnddhgkjkpmfaaDoorW.PrintLast Go.Proofs.YthnddhgkjkpmfaaDoorW.PrintMore
attribute [local go_sem] max2_int min2_int max_two min_two max_three min_three max_four min_four   -- for this text's walks alone
attribute [local go_sem] some_set
set_option linter.unusedVariables false
set_option linter.unusedSimpArgs false
variable {G : Gl}
end Go.Proofs.YthnddhgkjkpmfaaDoor.LTlvC
-- Written by this repo's own program over the kit's printer: YthnddhgkjkpmfaaDoor.LTlvC
namespace Go.Proofs.YthnddhgkjkpmfaaDoor.LTlvC
open Go.Proofs.YthnddhgkjkpmfaaDoor.ExtTlvC
open Go.Proofs.YthnddhgkjkpmfaaDoor.KTlv
open Go.RowKit Go.Proofs.YthnddhgkjkpmfaaDoorW.PrintWords Go.Proofs.YthnddhgkjkpmfaaDoorW.PrintLast Go.Proofs.YthnddhgkjkpmfaaDoorW.PrintMore
attribute [local go_sem] max2_int min2_int max_two min_two max_three min_three max_four min_four   -- for this text's walks alone
attribute [local go_sem] some_set
set_option linter.unusedVariables false
set_option linter.unusedSimpArgs false
variable {G : Gl}
end Go.Proofs.YthnddhgkjkpmfaaDoor.LTlvC
-- Written by this repo's own program over the kit's printer: YthnddhgkjkpmfaaDoor.LTlvC
namespace Go.Proofs.YthnddhgkjkpmfaaDoor.LTlvC
open Go.Proofs.YthnddhgkjkpmfaaDoor.ExtTlvC
open Go.Proofs.YthnddhgkjkpmfaaDoor.KTlv
open Go.RowKit Go.Proofs.YthnddhgkjkpmfaaDoorW.PrintWords Go.Proofs.YthnddhgkjkpmfaaDoorW.PrintLast Go.Proofs.YthnddhgkjkpmfaaDoorW.PrintMore
attribute [local go_sem] max2_int min2_int max_two min_two max_three min_three max_four min_four   -- for this text's walks alone
attribute [local go_sem] some_set
set_option linter.unusedVariables false
set_option linter.unusedSimpArgs false
variable {G : Gl}
end Go.Proofs.YthnddhgkjkpmfaaDoor.LTlvC
/- The reference's lengths, plainly: as the program's. -/
namespace Go.Proofs.YthnddhgkjkpmfaaDoor.SizeQ
set_option linter.unusedSimpArgs false
set_option linter.unusedVariables false
open Go.RowKit Go.Proofs.YthnddhgkjkpmfaaDoor.Size Go.Proofs.YthnddhgkjkpmfaaDoorW.PrintWords Go.Proofs.YthnddhgkjkpmfaaDoorW.PrintLast Go.Proofs.YthnddhgkjkpmfaaDoor.LTlvC
end Go.Proofs.YthnddhgkjkpmfaaDoor.SizeQ
-- Written by this repo's own program over the kit's printer: YthnddhgkjkpmfaaDoor.LTlvC
namespace Go.Proofs.YthnddhgkjkpmfaaDoor.LTlvC
open Go.Proofs.YthnddhgkjkpmfaaDoor.ExtTlvC
open Go.Proofs.YthnddhgkjkpmfaaDoor.KTlv
open Go.RowKit Go.Proofs.YthnddhgkjkpmfaaDoorW.PrintWords Go.Proofs.YthnddhgkjkpmfaaDoorW.PrintLast Go.Proofs.YthnddhgkjkpmfaaDoorW.PrintMore
attribute [local go_sem] max2_int min2_int max_two min_two max_three min_three max_four min_four   -- for this text's walks alone
attribute [local go_sem] some_set
set_option linter.unusedVariables false
set_option linter.unusedSimpArgs false
variable {G : Gl}
end Go.Proofs.YthnddhgkjkpmfaaDoor.LTlvC
/- The reference's trees, plainly: which are right, their bytes, which are the same: as the program's. -/
namespace Go.Proofs.YthnddhgkjkpmfaaDoor
set_option linter.unusedSimpArgs false
set_option linter.unusedVariables false
namespace Tlv
open Go.RowKit Go.Proofs.YthnddhgkjkpmfaaDoorW.PrintWords Go.Proofs.YthnddhgkjkpmfaaDoorW.PrintMore Go.Proofs.YthnddhgkjkpmfaaDoor.PureB Go.Proofs.YthnddhgkjkpmfaaDoor.KTlv Go.Proofs.YthnddhgkjkpmfaaDoor.ExtTlvC Go.Proofs.YthnddhgkjkpmfaaDoor.LTlvC
theorem mem_size {t : Int} {b : ByteArray} {ks : List Nd} {m : Nat} (hx : SizeOf.sizeOf (⟨t, b, ks⟩ : Nd) < m + 1) {y : Nd} (hy : y ∈ ks) : SizeOf.sizeOf y < m := by
  have := List.sizeOf_lt_of_mem hy
  simp only [S24.mk.sizeOf_spec] at hx
  omega
theorem pre_snd : ∀ (m : Nat) (x : Nd), SizeOf.sizeOf x < m → ∀ d d', (pre d x).map (·.2) = (pre d' x).map (·.2) := by
  intro m
  induction m with
  | zero => intro x h; exact absurd h (Nat.not_lt_zero _)
  | succ m ih =>
    rintro ⟨t, b, ks⟩ hx d d'
    have hl : ∀ l : List Nd, (∀ y ∈ l, y ∈ ks) → (preL (d + 1) l).map (·.2) = (preL (d' + 1) l).map (·.2) := by
      intro l
      induction l with
      | nil => intro _; rfl
      | cons y l ihl =>
        intro h
        rw [preL, preL, List.map_append, List.map_append, ihl (fun z hz => h z (List.mem_cons_of_mem _ hz)), ih y (mem_size hx (h y (List.mem_cons_self ..))) (d + 1) (d' + 1)]
    rw [pre, pre, List.map_cons, List.map_cons, hl ks (fun _ h => h)]
end Tlv
end Go.Proofs.YthnddhgkjkpmfaaDoor
/- TlvWraps: its walk. -/
namespace Go.Proofs.YthnddhgkjkpmfaaDoor
set_option linter.unusedSimpArgs false
set_option linter.unusedVariables false
namespace Tlv
open Go.RowKit Go.Shelf Go.Proofs.YthnddhgkjkpmfaaDoorW.PrintWords Go.Proofs.YthnddhgkjkpmfaaDoor.KTlv Go.Proofs.YthnddhgkjkpmfaaDoor.PureB Go.Proofs.YthnddhgkjkpmfaaDoor.ExtTlvC Go.Proofs.YthnddhgkjkpmfaaDoor.LTlvC
attribute [local go_sem] Oper.semAt_some
theorem one_row {W : World} {g : Nat} {x : Nd} {A : Option Addr} {c : Nat} (h0 : W.cell? ⟨g, 0, none⟩ = some (.int .i64 x.f0)) (h1 : W.cell? ⟨g, 1, none⟩ = some (.string x.f1)) (h2 : W.cell? ⟨g, 2, none⟩ = some (.slice A x.f2.length c)) (hc : x.f2.length ≤ c)
    (hC : Kd.C k24 W A x.f2.length x.f2) : Kd.C k24 W (some ⟨g, 0, none⟩) ([x] : List Nd).length [x] := by
  refine ⟨rfl, by simp, fun _ => ⟨⟨g, 0, none⟩, rfl, ?_⟩⟩
  intro j p hp
  cases j with
  | succ j => simp at hp
  | zero =>
    obtain rfl : x = p := by simpa using hp
    refine ⟨_, rfl, k24_mk W x hc hC, ?_⟩
    intro i u hu
    match i, hu with
    | 0, hu => obtain rfl : _ = u := Option.some.inj hu; simpa [Addr.add] using h0
    | 1, hu => obtain rfl : _ = u := Option.some.inj hu; simpa [Addr.add] using h1
    | 2, hu => obtain rfl : _ = u := Option.some.inj hu; simpa [Addr.add] using h2
theorem lits {w2 : World} {g n2 co : Nat} {A2 : Option Addr} {y : Nd} :
    Chg (fun j => j = g) w2 (((((w2.setCell ⟨g, 0, none⟩ (.int .i64 y.f0)).setCell ⟨g, 1, none⟩ (.string y.f1)).setCell ⟨g, 2, none⟩ (.slice A2 n2 co)).alloc (.cells #[.int .i64 y.f0, .string y.f1, .slice A2 n2 co] 24)).alloc (.cells #[.int .i64 48, .string ⟨#[]⟩, .slice (some ⟨w2.heap.size, 0, none⟩) 1 1] 24)) ∧
    (((((w2.setCell ⟨g, 0, none⟩ (.int .i64 y.f0)).setCell ⟨g, 1, none⟩ (.string y.f1)).setCell ⟨g, 2, none⟩ (.slice A2 n2 co)).alloc (.cells #[.int .i64 y.f0, .string y.f1, .slice A2 n2 co] 24)).alloc (.cells #[.int .i64 48, .string ⟨#[]⟩, .slice (some ⟨w2.heap.size, 0, none⟩) 1 1] 24)).heap[w2.heap.size]? = some (.cells #[.int .i64 y.f0, .string y.f1, .slice A2 n2 co] 24 (0, 0)) ∧
    (((((w2.setCell ⟨g, 0, none⟩ (.int .i64 y.f0)).setCell ⟨g, 1, none⟩ (.string y.f1)).setCell ⟨g, 2, none⟩ (.slice A2 n2 co)).alloc (.cells #[.int .i64 y.f0, .string y.f1, .slice A2 n2 co] 24)).alloc (.cells #[.int .i64 48, .string ⟨#[]⟩, .slice (some ⟨w2.heap.size, 0, none⟩) 1 1] 24)).heap[w2.heap.size + 1]? = some (.cells #[.int .i64 48, .string ⟨#[]⟩, .slice (some ⟨w2.heap.size, 0, none⟩) 1 1] 24 (0, 0)) := by
  have c0 := (Chg.refl (fun j => j = g) w2).setCell (p := ⟨g, 0, none⟩) rfl (.int .i64 y.f0)
  have c1 := c0.setCell (p := ⟨g, 1, none⟩) rfl (.string y.f1)
  have c2 := c1.setCell (p := ⟨g, 2, none⟩) rfl (.slice A2 n2 co)
  have e0 : (((w2.setCell ⟨g, 0, none⟩ (.int .i64 y.f0)).setCell ⟨g, 1, none⟩ (.string y.f1)).setCell ⟨g, 2, none⟩ (.slice A2 n2 co)).heap.size = w2.heap.size := by simp
  generalize ((w2.setCell ⟨g, 0, none⟩ (.int .i64 y.f0)).setCell ⟨g, 1, none⟩ (.string y.f1)).setCell ⟨g, 2, none⟩ (.slice A2 n2 co) = W at c2 e0
  refine ⟨(c2.alloc _).alloc _, ?_, ?_⟩
  · rw [← e0]; exact blk_alloc (blk_new W _) _
  · have := blk_new (W.alloc (.cells #[.int .i64 y.f0, .string y.f1, .slice A2 n2 co] 24)) (.cells #[.int .i64 48, .string ⟨#[]⟩, .slice (some ⟨w2.heap.size, 0, none⟩) 1 1] 24)
    rw [show (W.alloc (.cells #[.int .i64 y.f0, .string y.f1, .slice A2 n2 co] 24)).heap.size = w2.heap.size + 1 by simp [e0]] at this
    exact this
set_option maxHeartbeats 4000000 in
set_option maxRecDepth 100000 in
theorem wraps_w (x : Nd) (A : Option Addr) (c : Nat) (y : Nd) (s t : ByteArray) (e f k1 g : Int) (b : Bool) (k : Nat) (G : Gl) (w : World)
    (hC : Kd.C k24 w A x.f2.length x.f2) (hc : x.f2.length ≤ c) (hG : GW G w) (hS : latinerlaw02_shown.f k = some true) (hY : latinerlaw02_Cut.f k x.f0 x.f1 x.f2 = some (y.f0, y.f1, y.f2))
    (hE : tlv_Encode.f y.f0 y.f1 y.f2 = some (s, e)) (hT : tlv_Encode.f 48 ⟨#[]⟩ [y] = some (t, f)) (hR : tlv_Right.f 48 ⟨#[]⟩ [y] = some b) (hZ : size_Size.f s.size = some (k1, g))
    (hA : f ≠ 0 → t = ⟨#[]⟩ ∧ b = false) (hB : f = 0 → e = 0 ∧ g = 0 ∧ (t.size : Int) = 1 + k1 + s.size ∧ s.size ≤ t.size ∧ t.size ≤ 4000 ∧ 0 ≤ k1 ∧ k1 ≤ 10 ∧ t.extract (t.size - s.size) t.size = s) :
    Calls Tryd.prog 11 #[.agg #[.int .i64 x.f0, .string x.f1, .slice A x.f2.length c]] w fun r w' => r = .returned (.bool true) ∧ Below w.heap.size w w' := by
  have H1 := Lib.hid (fun W (hW : Below w.heap.size w W) => latinerlaw02_shown.calls (G := G) k true W (hG.below hW) hS)
  have H2 := Lib.hid (fun W (hW : Below w.heap.size w W) => latinerlaw02_Cut.calls k x.f0 x.f1 A c x.f2 y.f0 y.f1 y.f2 W (Kd.C_below hC hW) hc hY)
  have H3 := Lib.hid (fun W (hW : Below w.heap.size w W) A' c' hC' hc' => tlv_Encode.calls (G := G) y.f0 y.f1 A' c' y.f2 s e W hC' hc' (hG.below hW) hE)
  have H4 := Lib.hid (fun W (hW : Below w.heap.size w W) A' c' hC' hc' => tlv_Encode.calls (G := G) 48 ⟨#[]⟩ A' c' [y] t f W hC' hc' (hG.below hW) hT)
  have H5 := Lib.hid (fun W (hW : Below w.heap.size w W) A' c' hC' hc' => tlv_Right.calls (G := G) 48 ⟨#[]⟩ A' c' [y] b W hC' hc' (hG.below hW) hR)
  have H6 := Lib.hid (fun W (hW : Below w.heap.size w W) => size_Size.calls (G := G) s.size k1 g W (hG.below hW) hZ)
  have HA := Lib.hid hA
  have HBB := Lib.hid hB
  obtain ⟨n0, hn0⟩ : ∃ n, x.f2.length = n := ⟨_, rfl⟩
  clear hC hG hS hY hE hT hR hZ hA hB hc
  rw [hn0] at H2 ⊢
  clear hn0
  go_enter Tryd.func11, Tryd.ntmps11
  go_wp2_with (go_at_call 12; refine (H1.out _ (bl_alloc (Below.refl _ _) _)).mono ?_)
  rintro r w1 ⟨rfl, hb1⟩
  have B1 : Below w.heap.size w w1 := bl_trans (bl_alloc (Below.refl _ _) _) hb1
  have R1 : w1.heap[w.heap.size]? = some (.cells #[.int .i64 x.f0, .string x.f1, .slice A n0 c] 24 (0, 0)) := (hb1.block _ (by simp)).trans (World.alloc_heap_new w _)
  have c0 := cell_of_row w1 w.heap.size 0 _ _ _ R1
  have c1 := cell_of_row w1 w.heap.size 1 _ _ _ R1
  have c2 := cell_of_row w1 w.heap.size 2 _ _ _ R1
  simp at c0 c1 c2
  have HB1 := Lib.hid B1
  have HR1 := Lib.hid R1
  clear hb1 B1 R1
  go_wp2_with (go_at_call 13; refine (H2.out _ HB1.out).mono ?_)
  rintro r w2 ⟨v2, rfl, ho, hb2⟩
  obtain ⟨A2, co, rfl⟩ := Kd.R_slice ho
  have ho' := Kd.R_newB ho (g := w.heap.size) (o := .cells #[.int .i64 x.f0, .string x.f1, .slice A n0 c] 24 (0, 0)) HR1.out
  obtain ⟨_, hl2, _⟩ := Kd.R_reads' ho
  have B2 : Below w.heap.size w w2 := bl_trans HB1.out hb2
  have R2 : w2.heap[w.heap.size]? = some (.cells #[.int .i64 x.f0, .string x.f1, .slice A n0 c] 24 (0, 0)) := (hb2.block _ (Array.getElem?_eq_some_iff.1 HR1.out).1).trans HR1.out
  clear c0 c1 c2
  have hlt : w.heap.size < w2.heap.size := (Array.getElem?_eq_some_iff.1 R2).1
  -- the world behind the two literals
  obtain ⟨n2, hn2⟩ : ∃ n, y.f2.length = n := ⟨_, rfl⟩
  obtain ⟨hch, UZ, VZ⟩ := lits (w2 := w2) (g := w.heap.size) (n2 := n2) (co := co) (A2 := A2) (y := y)
  have hRZ := Kd.R_alloc (Kd.R_alloc (Kd.R_far (p := ⟨w.heap.size, 2, none⟩) (Kd.R_far (p := ⟨w.heap.size, 1, none⟩) (Kd.R_far (p := ⟨w.heap.size, 0, none⟩) ho' (fun _ hk => hk.2) (.int .i64 y.f0)) (fun _ hk => hk.2) (.string y.f1)) (fun _ hk => hk.2) (.slice A2 n2 co)) (.cells #[.int .i64 y.f0, .string y.f1, .slice A2 n2 co] 24)) (.cells #[.int .i64 48, .string ⟨#[]⟩, .slice (some ⟨w2.heap.size, 0, none⟩) 1 1] 24)
  have BZ : Below w.heap.size w _ := Below.chg B2 hch (by omega) (fun j hj => by omega)
  have hCZ := (Kd.R_reads' hRZ).2.2
  rw [hn2] at hCZ hl2 H3 ⊢
  have HBZ := Lib.hid BZ
  have HCZ := Lib.hid hCZ
  have HL2 := Lib.hid hl2
  have HRZ := Lib.hid hRZ
  have HUZ := Lib.hid UZ
  have HVZ := Lib.hid VZ
  have HN2 := Lib.hid hn2
  have c0 := cell_of_row w2 w.heap.size 0 _ _ _ R2
  have c1 := cell_of_row w2 w.heap.size 1 _ _ _ R2
  have c2 := cell_of_row w2 w.heap.size 2 _ _ _ R2
  simp at c0 c1 c2
  have f0 := blk_frozen R2 0
  have f1 := blk_frozen R2 1
  have f2 := blk_frozen R2 2
  have hlt1 : w.heap.size < w2.heap.size + 1 := by omega
  have hne : w.heap.size ≠ w2.heap.size := by omega
  have hne1 : w.heap.size ≠ w2.heap.size + 1 := by omega
  have hne2 : w2.heap.size ≠ w.heap.size := by omega
  have hne3 : w2.heap.size + 1 ≠ w.heap.size := by omega
  clear hb2 B2 ho ho' hl2 HB1 HR1 hn2 R2 hch hRZ UZ VZ BZ hCZ
  go_wp2_with (go_at_call 15; refine (H3.out _ HBZ.out A2 co HCZ.out HL2.out).mono ?_)
  rintro r w3 ⟨rfl, hb3⟩
  have B3 : Below w.heap.size w w3 := bl_trans HBZ.out hb3
  have U3 := (hb3.block _ (Array.getElem?_eq_some_iff.1 HUZ.out).1).trans HUZ.out
  have V3 := (hb3.block _ (Array.getElem?_eq_some_iff.1 HVZ.out).1).trans HVZ.out
  have C3 := Kd.C_below HCZ.out hb3
  clear c0 c1 c2 f0 f1 f2 hne hne1 hne2 hne3 hlt hlt1 hb3 HCZ HUZ HVZ HRZ HBZ
  have c0 := cell_of_row w3 _ 0 _ _ _ V3
  have c1 := cell_of_row w3 _ 1 _ _ _ V3
  have c2 := cell_of_row w3 _ 2 _ _ _ V3
  have u0 := cell_of_row w3 _ 0 _ _ _ U3
  have u1 := cell_of_row w3 _ 1 _ _ _ U3
  have u2 := cell_of_row w3 _ 2 _ _ _ U3
  simp at c0 c1 c2 u0 u1 u2
  have hone := one_row (x := y) (A := A2) (c := co) u0 u1 (by rw [HN2.out]; exact u2) (by rw [HN2.out]; exact HL2.out) (by rw [HN2.out]; exact C3)
  have HO := Lib.hid hone
  have HB3 := Lib.hid B3
  have HV3 := Lib.hid V3
  simp only [List.length_singleton] at H4 H5 HO
  clear u0 u1 u2 U3 V3 C3 B3 hone
  go_wp2_with (go_at_call 15; refine (H4.out _ HB3.out _ 1 HO.out (Nat.le_refl _)).mono ?_)
  rintro r w4 ⟨rfl, hb4⟩
  have B4 : Below w.heap.size w w4 := bl_trans HB3.out hb4
  have V4 := (hb4.block _ (Array.getElem?_eq_some_iff.1 HV3.out).1).trans HV3.out
  have O4 := Kd.C_below HO.out hb4
  clear c0 c1 c2 hb4
  have c0 := cell_of_row w4 _ 0 _ _ _ V4
  have c1 := cell_of_row w4 _ 1 _ _ _ V4
  have c2 := cell_of_row w4 _ 2 _ _ _ V4
  simp at c0 c1 c2
  have HB4 := Lib.hid B4
  have HO4 := Lib.hid O4
  clear V4 O4 B4 HB3 HO HV3
  by_cases hf : f = 0
  case neg =>
    obtain ⟨rfl, rfl⟩ := HA.out hf
    by_cases he : e = 0
    case neg =>
      go_wp2_with fail
      go_ret
      exact ⟨rfl, HB4.out⟩
    subst he
    by_cases hs : 3900 < (s.size : Int)
    · go_wp2_with fail
      go_ret
      exact ⟨rfl, HB4.out⟩
    · go_wp2_with (go_at_call 21; refine (H5.out _ HB4.out _ 1 HO4.out (Nat.le_refl _)).mono ?_)
      rintro r w5 ⟨rfl, hb5⟩
      go_wp2_with fail
      go_ret
      exact ⟨rfl, bl_trans HB4.out hb5⟩
  subst hf
  obtain ⟨rfl, rfl, h1, h2, h3, h4, h5, h6⟩ := HBB.out rfl
  clear HA HBB
  have H6' := H6.out _ HB4.out
  have HS6 := Lib.hid H6'
  have hq : wrap64 ((t.size : Int) - s.size) = (t.size : Int) - s.size := by unfold wrap64; omega
  have hq2 : wrap64 (1 + k1) = 1 + k1 := by unfold wrap64; omega
  have hq3 : wrap64 (1 + k1 + s.size) = 1 + k1 + s.size := by unfold wrap64; omega
  have H6c := Lib.hid h6
  have hm : ((t.size : Int) - s.size).toNat = t.size - s.size := by omega
  have hm0 : 0 ≤ (t.size : Int) - s.size := by omega
  have hm1 : (t.size : Int) - s.size ≤ t.size := by omega
  clear H6' h6
  go_wp2_with (go_at_call 26; refine HS6.out.mono ?_)
  rintro r w5 ⟨rfl, hb5⟩
  have HB5 := Lib.hid (bl_trans HB4.out hb5)
  clear hb5
  go_wp2_with fail
  go_ret
  exact ⟨by rw [show (1 + k1).toNat = t.size - s.size by omega, H6c.out]; simp, HB5.out⟩
end Tlv
end Go.Proofs.YthnddhgkjkpmfaaDoor
/- TlvWraps, out of its walk and the plain laws. -/
namespace Go.Proofs.YthnddhgkjkpmfaaDoor
set_option linter.unusedSimpArgs false
set_option linter.unusedVariables false
namespace Tlv
open Go.RowKit Go.Proofs.YthnddhgkjkpmfaaDoorW.PrintWords Go.Proofs.YthnddhgkjkpmfaaDoorW.PrintMore Go.Proofs.YthnddhgkjkpmfaaDoor.PureB Go.Proofs.YthnddhgkjkpmfaaDoor.KTlv Go.Proofs.YthnddhgkjkpmfaaDoor.ExtTlvC Go.Proofs.YthnddhgkjkpmfaaDoor.LTlvC
theorem few_one {y : Nd} (h : few y = true) : few ⟨48, ⟨#[]⟩, [y]⟩ = true := by
  rw [few_iff] at h ⊢
  intro p hp
  rw [pre, List.mem_cons, preL, preL, List.append_nil] at hp
  rcases hp with rfl | hp
  · show 1 ≤ 1000
    omega
  · have h1 : p.2 ∈ (pre (1 + 1) y).map (·.2) := List.mem_map.2 ⟨p, hp, rfl⟩
    rw [← pre_snd _ y (Nat.lt_succ_self _) 1 (1 + 1)] at h1
    obtain ⟨q, hq, hqp⟩ := List.mem_map.1 h1
    rw [← hqp]
    exact h q hq
theorem tail_joined (t : Int) (b : ByteArray) : (joined t b).extract ((joined t b).size - b.size) (joined t b).size = b := by
  have hs := sits_mid (strOfNums [t] ++ Size.encS (b.size : Int)) b ⟨#[]⟩
  rw [app_nil] at hs
  have := sits_eq hs rfl
  have hz := joined_size t b
  have hp : (strOfNums [t] ++ Size.encS (b.size : Int)).size = 1 + (Size.encS (b.size : Int)).size := by rw [ByteArray.size_append, son_size]; rfl
  rw [hp, show (((1 + (Size.encS (b.size : Int)).size : Nat) : Int)).toNat = (joined t b).size - b.size by omega, show (((1 + (Size.encS (b.size : Int)).size : Nat) : Int) + (b.size : Int)).toNat = (joined t b).size by omega] at this
  exact this
theorem TlvWraps_k (_ : Nd) : ∃ k : Nat, 4000 ≤ k := ⟨4000, Nat.le_refl _⟩
theorem TlvWraps.calls {G : Gl} (k : Nat) (t : Int) (b : ByteArray) (A : Option Addr) (c : Nat) (l : List Nd) (_ : Bool) (w : World) (hr : Kd.C k24 w A l.length l) (hc : l.length ≤ c) (hG : GW G w) (h : 4000 ≤ k) :
    Calls Tryd.prog 11 #[.agg #[.int .i64 t, .string b, .slice A l.length c]] w fun e w' => e = .returned (.bool true) ∧ Below w.heap.size w w' := by
  have hf := cut_few ⟨t, b, l⟩
  have hcut := cut_f ⟨t, b, l⟩ k (by omega)
  obtain ⟨y, hy⟩ : ∃ y, cutT 13 ⟨t, b, l⟩ = y := ⟨_, rfl⟩
  rw [hy] at hf hcut
  obtain ⟨Y, hY⟩ : ∃ Y : Nd, ⟨48, ⟨#[]⟩, [y]⟩ = Y := ⟨_, rfl⟩
  have hfY : few Y = true := hY ▸ few_one hf
  have e1 := enc_f Y hfY
  have e2 := right_f Y hfY
  rw [← hY] at e1 e2
  refine wraps_w ⟨t, b, l⟩ A c y (enc y).1 (enc Y).1 (enc y).2 (enc Y).2 ((Size.encS ((enc y).1.size : Int)).size : Nat) (Size.encE ((enc y).1.size : Int)) (right Y) k G w hr hc hG (shown_f k (by omega)) hcut (enc_f y hf) (hY ▸ e1) (hY ▸ e2) rfl ?_ ?_
  · intro hn
    obtain ⟨h1, h2⟩ := enc_no hn
    exact ⟨by rw [h2], h1⟩
  · intro hn
    obtain ⟨h1, h2⟩ := enc_ok hn
    have h3 := (right_parts h1).2.2
    have hry : right y = true := by
      rw [← hY] at h1
      exact (right_kid h1 (List.mem_singleton.2 rfl)).1
    have h4 : enc y = (laid y, 0) := by unfold enc; rw [if_pos hry]
    have h5 := (right_parts hry).2.2
    have h6 : laid Y = joined 48 (laid y) := by rw [← hY, laid, laidL, laidL, app_nil, app_nil]
    have hz := joined_size 48 (laid y)
    have hle := enc_le ((laid y).size : Int)
    rw [h2, h4]
    dsimp only
    rw [h6] at h3 ⊢
    refine ⟨rfl, SizeQ.encE_ok (by omega), by omega, by omega, h3, by omega, by omega, tail_joined 48 (laid y)⟩
end Tlv
end Go.Proofs.YthnddhgkjkpmfaaDoor
namespace Go.Proofs.YthnddhgkjkpmfaaDoor.tlvWraps
set_option linter.unusedSimpArgs false
open Go.ChangeShapes Go.WideShapes Go.ChangeAt Go.RowKit
open Go.ChangeMaps (open_string shut_string)
open Go.Proofs.YthnddhgkjkpmfaaDoor.KTlv
open Go.Proofs.YthnddhgkjkpmfaaDoor.TlvL (laid ga_of_laid door_met own rowStart rowStart_os rowStart_shaped)
set_option linter.unusedVariables false
theorem laidOut : laidOutB Tryd.prog = true := by kernel_rfl
set_option maxRecDepth 100000 in
theorem lifted (os : Os) (started : os.Started) (H : Type) (enc : TypeId × Value → H) :
    ReturnsInHanded {} Tryd.checked os 11 .any (fun w args => (Rows.tlvWrapsSpec.pre enc Tryd.prog Tryd.f11 [] false w args ∧ laidMetH Tryd.prog laid w) ∧ sizedMet enc Tryd.prog Tryd.f11 (OpenSpec.ofChange Rows.tlvWrapsSpec) false w args)
      (Rows.tlvWrapsSpec.post enc Tryd.prog Tryd.f11 false true false false) := by
  refine returnsInHanded_of_change_and (C := Tryd.checked) (X := fun w _ => laidMetH Tryd.prog laid w) (fun _ _ _ hh h => h.of_heap hh) own started (by kernel_rfl) Tryd.func11
    (ChangeSpec.witness_shaped (enc := enc) (C := Tryd.checked) (os := os) (X := fun w _ => laidMetH Tryd.prog laid w) false (rowStart os) #[.agg #[.int .i64 0, .string ByteArray.empty, .slice none 0 0]] 8 (rowStart_os os) (rowStart_shaped os _) (by kernel_rfl) (by kernel_rfl) (by kernel_rfl) (door_met os _)) ?_
  intro W base args ds gs before hval0 hW _ hsz0 hL _
  have hsz : (DataW.weightsEach Tryd.prog (Tryd.f11.params.toList ++ Rows.tlvWrapsSpec.plain.varTypes Tryd.prog) (ds ++ gs)).all (· ≤ reachBytes) = true := hsz0
  have hval : ∀ (j : Nat) t v, Tryd.f11.params[j]? = some t → args[j]? = some v → Value.okWide Tryd.prog W .any base t v := hval0
  have hW' := hW
  obtain ⟨p, q, hA0, hV, rfl, hfz, hnd⟩ := hW
  have hA : DataW.TrodAll enc Tryd.prog W 0 (fun _ => true) true Tryd.f11.params.toList args.toList ds p := hA0
  rw [Tryd.params11] at hA hval hsz
  obtain ⟨v0, vs0, d0, ds0, p0, q0, hargs, rfl, rfl, h0, r0⟩ := trodAll_cons hA
  obtain ⟨rfl, rfl, rfl⟩ := trodAll_nil r0
  obtain rfl : args = #[v0] := by cases args; simp_all
  obtain ⟨rfl, rfl⟩ := trodVars_none hV
  obtain ⟨cs0, rfl, sz0⟩ := okWide_struct Tryd.underlying24 (hval 0 24 v0 rfl rfl)
  have k0 := h0
  have lt0 : ∀ x ∈ p0, x.block < W.heap.size := by obtain ⟨m, hm⟩ := k0; exact DataW.trod_lt m _ _ _ hm
  obtain ⟨a0, K0⟩ : ∃ x, k24.K W x cs0.toList := by obtain ⟨fuel, hf⟩ := h0; exact TreeRow.tree_of (fuel + 1) fuel (Nat.lt_succ_self _) _ _ hf
  obtain ⟨A0, c0, e0, HC0, HR0⟩ := k24_open K0
  obtain rfl : cs0 = #[.int .i64 a0.f0, .string a0.f1, .slice A0 a0.f2.length c0] := Array.toList_inj.1 e0
  clear hA0 hval0 hsz0 hsz
  obtain ⟨G, hG⟩ := ga_of_laid hL
  obtain ⟨k, hk⟩ := Tlv.TlvWraps_k a0
  refine (Tlv.TlvWraps.calls (G := G) k a0.f0 a0.f1 A0 c0 a0.f2 true W HR0 HC0 hG hk).mono fun e W' ⟨he, bel⟩ => ?_
  subst he
  exact ⟨_, rfl, _, _, _, [], _, [], hW', trodAll_mk1 (shut_bool Tryd.underlying4 _), (trodAll_cons_mk (Below.trod laidOut (by kernel_rfl) (of_decide_eq_true (by kernel_rfl)) k0 bel lt0) trodAll_mk0), rfl, bel.frame _, fun h => by cases h⟩
theorem said : Rows.TlvWrapsSaid :=
  OpenClaim.holds_of_wide 11 Tryd.f11 rfl rfl rfl rfl rfl rfl rfl ⟨rfl, rfl, rfl, rfl, rfl⟩ rfl rfl rfl rfl rfl (by kernel_rfl) Tryd.func11 (by kernel_rfl)
    (of_decide_eq_true (by kernel_rfl)) (by unfold Func.isWrapper; first | (rw [if_pos (by decide +kernel)]; kernel_rfl) | (rw [if_neg (by decide +kernel)]; exact ⟨rfl, rfl⟩))
    (fun os started H enc _ => lifted os started H enc)
theorem plain (f : FuncId) (fn : Func) (hf : Tryd.pinned.checked.prog.funcNamed "latiner/latinerlaw02.TlvWraps" = some f) (hfn : Tryd.pinned.checked.prog.funcs[f]? = some fn) :
    true = Tryd.pinned.checked.prog.looks [] ∧ ∀ (j : Nat) t, fn.params[j]? = some t → Tryd.pinned.checked.prog.wantsStandIn t = false := by
  obtain rfl : f = 11 := Option.some.inj ((show Tryd.prog.funcNamed "latiner/latinerlaw02.TlvWraps" = some 11 by kernel_rfl).symm.trans hf) |>.symm
  obtain rfl : fn = Tryd.f11 := (Option.some.inj (Tryd.func11.symm.trans hfn)).symm
  refine ⟨by kernel_rfl, fun j t ht => ?_⟩
  rw [Tryd.params11] at ht
  have s_tree : Tryd.prog.wantsStandIn 24 = false := by kernel_rfl
  have hm := Array.mem_of_getElem? ht
  simp at hm
  have hm2 : t = 24 := by omega
  clear hm
  subst hm2
  exact s_tree
theorem card : Rows.TlvWrapsCardSaid :=
  Claim7.holds_tied_plain_at .later [] _ _ _ _ said (fun _ h => by cases h) (by kernel_rfl) (fun _ h => by cases h) tlvWraps_row_tie rfl ⟨rfl, rfl⟩ (by kernel_rfl) rfl plain (by kernel_rfl)
end Go.Proofs.YthnddhgkjkpmfaaDoor.tlvWraps
namespace Go.Proofs.YthnddhgkjkpmfaaDoor
theorem tlvWraps_holds : Rows.TlvWrapsCardSaid := tlvWraps.card
end Go.Proofs.YthnddhgkjkpmfaaDoor
