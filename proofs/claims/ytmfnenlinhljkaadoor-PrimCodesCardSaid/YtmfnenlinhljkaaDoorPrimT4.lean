import Derived.Test.YtmfnenlinhljkaaDoorPrimT3
import Derived.BigQuiet
import Derived.Deep.QuietTactic
namespace Go.Proofs.YtmfnenlinhljkaaDoor
set_option linter.unusedSimpArgs false
set_option linter.unusedVariables false
namespace Prim
open Go.RowKit Go.Shelf Go.Proofs.YtmfnenlinhljkaaDoorW.PrintWords
/-- A first byte, as a number with a sign. -/
def sx (b : Int) : Int := if b < 128 then b else b - 256
theorem sx_fin : ∀ c : Fin 256, IntKind.i8.wrap (c.val : Int) = sx (c.val : Int) := by decide +kernel
theorem sx_eq (b : Int) (h0 : 0 ≤ b) (h1 : b ≤ 255) : IntKind.i8.wrap b = sx b := by
  have := sx_fin ⟨b.toNat, by omega⟩
  simp only [Int.toNat_of_nonneg h0] at this
  exact this
theorem sx_bd (b : Int) (h0 : 0 ≤ b) (h1 : b ≤ 255) : -128 ≤ sx b ∧ sx b ≤ 127 := by unfold sx; split <;> omega
/-- What some bytes say. -/
def rdv (s : ByteArray) : Int := (List.range (s.size - 1)).foldl (fun n (i : Nat) => n * 256 + bt s ((i : Int) + 1)) (sx (bt s 0))
theorem w64 {n : Int} (h : -9223372036854775808 ≤ n) (h2 : n ≤ 9223372036854775807) : wrap64 n = n := by unfold wrap64; omega
theorem step1 {e m b c : Int} (he : e = m) (hb : c = b) (h0 : 0 ≤ b) (h1 : b ≤ 255) (hm : -2147483648 ≤ m) (hm2 : m ≤ 2147483647) : bits .or .i64 (wrap64 (e * 256)) (wrap64 c) = m * 256 + b := by
  rw [he, hb, w64 (by omega) (by omega), w64 (by omega) (by omega)]; exact or_byte m b h0 h1 (by omega) (by omega)
theorem bt_ext (s : ByteArray) (j : Nat) (h : 1 ≤ s.size) : bt (s.extract 1 s.size) (j : Int) = bt s ((j : Int) + 1) := by
  unfold bt
  have e1 : ((j : Int)).toNat = j := by omega
  have e2 : ((j : Int) + 1).toNat = j + 1 := by omega
  by_cases hj : j + 1 < s.size
  · rw [dif_pos (by rw [e1]; simp; omega), dif_pos (by rw [e2]; exact hj)]
    simp only [e1, e2]
    rw [ByteArray.getElem_extract]
    simp only [Nat.add_comm]
  · rw [dif_neg (by rw [e1]; simp; omega), dif_neg (by rw [e2]; exact hj)]
set_option maxRecDepth 100000 in
set_option maxHeartbeats 2000000 in
theorem read1y (s : ByteArray) (w : World) (hs : s.size = 1) (hw : wid (rdv s) = 1) :
    Calls Tryd.prog 38 #[.string s] w fun e w' => e = .returned (.tuple #[.int .i64 (rdv s), .nilIface]) ∧ Below w.heap.size w w' := by
  have h0 : 0 < s.size := by omega
  have hd0 := sx_bd _ (bt_range s 0).1 (bt_range s 0).2
  have hX0 : wrap64 (IntKind.i8.wrap (((s[0]'h0).toNat : Nat) : Int)) = sx (bt s 0) := by rw [show (((s[0]'h0).toNat : Nat) : Int) = bt s 0 from bt_at s 0 h0, sx_eq _ (bt_range s 0).1 (bt_range s 0).2]; exact w64 (by have := sx_bd _ (bt_range s 0).1 (bt_range s 0).2; omega) (by have := sx_bd _ (bt_range s 0).1 (bt_range s 0).2; omega)
  have hR : wrap64 (IntKind.i8.wrap (((s[0]'h0).toNat : Nat) : Int)) = rdv s := by rw [hX0]; unfold rdv; rw [hs]; rfl
  have hb : -2147483648 ≤ rdv s ∧ rdv s ≤ 2147483647 := by rw [← hR, hX0]; omega
  have hL := least_yes (rdv s)
  have hw0 : wid (rdv s) ≠ 0 := fun e => by have := wid_zero e; omega
  generalize rdv s = v at *
  have hb1 : ((s.size : Int) == 1) = true := by simp [hs]
  have hq : (((wid v : Nat) : Int) != (s.size : Int)) = false := by rw [hs]; simp [hw]
  obtain ⟨W1, cap, hcv, hB1, hz1, hcap, hcells⟩ := conv_sb w 9 42 5 (s.extract 1 s.size) Tryd.underlying9 Tryd.underlying42 Tryd.underlying5
  have hsz : (s.extract 1 s.size).size = s.size - 1 := by simp
  rw [hsz] at hcv hcells
  have hl1 : s.size - 1 = 0 := by omega
  have HR := Lib.hid hR
  have HL := Lib.hid (hL W1 hw0)
  have HB := Lib.hid hB1
  rw [hl1] at hcv
  clear hs hcells hl1 hsz hcap hz1 hR hL hb hd0 hB1 hw hw0 hX0 
  go_enter Tryd.func38, Tryd.ntmps38
  go_wp2_with fail
  refine wp_loop_rounds 1 ?_
  rw [rounds_succ]
  go_wp2_with fail
  rw [HR.out]
  refine HL.out.mono ?_
  rintro e w2 ⟨rfl, hb2⟩
  go_wp2_with fail
  go_ret2
  exact ⟨rfl, bl_alloc (bl_trans HB.out hb2) _⟩
set_option maxRecDepth 100000 in
set_option maxHeartbeats 2000000 in
theorem read1n (s : ByteArray) (aN aB : Addr) (w : World) (h : GA aN aB w) (hs : s.size = 1) (hw : wid (rdv s) ≠ 1) :
    Calls Tryd.prog 38 #[.string s] w fun e w' => e = .returned (.tuple #[.int .i64 0, werr s aN]) ∧ Below w.heap.size w w' := by
  have h0 : 0 < s.size := by omega
  have hd0 := sx_bd _ (bt_range s 0).1 (bt_range s 0).2
  have hX0 : wrap64 (IntKind.i8.wrap (((s[0]'h0).toNat : Nat) : Int)) = sx (bt s 0) := by rw [show (((s[0]'h0).toNat : Nat) : Int) = bt s 0 from bt_at s 0 h0, sx_eq _ (bt_range s 0).1 (bt_range s 0).2]; exact w64 (by have := sx_bd _ (bt_range s 0).1 (bt_range s 0).2; omega) (by have := sx_bd _ (bt_range s 0).1 (bt_range s 0).2; omega)
  have hR : wrap64 (IntKind.i8.wrap (((s[0]'h0).toNat : Nat) : Int)) = rdv s := by rw [hX0]; unfold rdv; rw [hs]; rfl
  have hb : -2147483648 ≤ rdv s ∧ rdv s ≤ 2147483647 := by rw [← hR, hX0]; omega
  have hL := least_yes (rdv s)
  have hw0 : wid (rdv s) ≠ 0 := fun e => by have := wid_zero e; omega
  generalize rdv s = v at *
  have hb1 : ((s.size : Int) == 1) = true := by simp [hs]
  have hq : (((wid v : Nat) : Int) != (s.size : Int)) = true := by rw [hs]; simpa using (fun e => hw (by omega))
  obtain ⟨W1, cap, hcv, hB1, hz1, hcap, hcells⟩ := conv_sb w 9 42 5 (s.extract 1 s.size) Tryd.underlying9 Tryd.underlying42 Tryd.underlying5
  have hsz : (s.extract 1 s.size).size = s.size - 1 := by simp
  rw [hsz] at hcv hcells
  have hl1 : s.size - 1 = 0 := by omega
  have HR := Lib.hid hR
  have HL := Lib.hid (hL W1 hw0)
  have HB := Lib.hid hB1
  have hg := (h.below hB1).g0
  have hg1 : ∀ W, Below W1.heap.size W1 W → W.cell? ⟨1, 0, none⟩ = some (.iface 111 (.pointer (some aN))) := fun W hb => (hb.cell (lt_of_cell hg)).trans hg
  rw [hl1] at hcv
  clear hs hcells hl1 hsz hcap hz1 hR hL hb hd0 hB1 hw hw0 hX0 
  go_enter Tryd.func38, Tryd.ntmps38
  go_wp2_with fail
  refine wp_loop_rounds 1 ?_
  rw [rounds_succ]
  go_wp2_with fail
  rw [HR.out]
  refine HL.out.mono ?_
  rintro e w2 ⟨rfl, hb2⟩
  go_wp2_with fail
  have hg2 := hg1 _ (bl_alloc hb2 (.cells #[.int .i64 ((wid v : Nat) : Int), .int .i64 v] 46))
  go_quiet (fail)
  go_wp2
  go_ret2
  exact ⟨rfl, (bl_alloc (bl_trans HB.out hb2) _).trans ⟨rfl, rfl, rfl, Nat.le_refl _, fun _ _ => rfl⟩⟩
set_option maxRecDepth 100000 in
set_option maxHeartbeats 2000000 in
theorem read2y (s : ByteArray) (w : World) (hs : s.size = 2) (hw : wid (rdv s) = 2) :
    Calls Tryd.prog 38 #[.string s] w fun e w' => e = .returned (.tuple #[.int .i64 (rdv s), .nilIface]) ∧ Below w.heap.size w w' := by
  have h0 : 0 < s.size := by omega
  have hd0 := sx_bd _ (bt_range s 0).1 (bt_range s 0).2
  have hX0 : wrap64 (IntKind.i8.wrap (((s[0]'h0).toNat : Nat) : Int)) = sx (bt s 0) := by rw [show (((s[0]'h0).toNat : Nat) : Int) = bt s 0 from bt_at s 0 h0, sx_eq _ (bt_range s 0).1 (bt_range s 0).2]; exact w64 (by have := sx_bd _ (bt_range s 0).1 (bt_range s 0).2; omega) (by have := sx_bd _ (bt_range s 0).1 (bt_range s 0).2; omega)
  have hr1 := bt_range s 1
  have hX1 : bits .or .i64 (wrap64 (wrap64 (IntKind.i8.wrap (((s[0]'h0).toNat : Nat) : Int)) * 256)) (wrap64 (bt (s.extract 1 s.size) 0)) = (sx (bt s 0)) * 256 + bt s 1 := step1 hX0 (bt_ext s 0 (by omega)) hr1.1 hr1.2 (by omega) (by omega)
  have hR : bits .or .i64 (wrap64 (wrap64 (IntKind.i8.wrap (((s[0]'h0).toNat : Nat) : Int)) * 256)) (wrap64 (bt (s.extract 1 s.size) 0)) = rdv s := by rw [hX1]; unfold rdv; rw [hs]; rfl
  have hb : -2147483648 ≤ rdv s ∧ rdv s ≤ 2147483647 := by rw [← hR, hX1]; omega
  have hL := least_yes (rdv s)
  have hw0 : wid (rdv s) ≠ 0 := fun e => by have := wid_zero e; omega
  generalize rdv s = v at *
  have hb1 : ((s.size : Int) == 1) = false := by simp [hs]
  have hb2 : ((s.size : Int) == 2) = true := by simp [hs]
  have hq : (((wid v : Nat) : Int) != (s.size : Int)) = false := by rw [hs]; simp [hw]
  obtain ⟨W1, cap, hcv, hB1, hz1, hcap, hcells⟩ := conv_sb w 9 42 5 (s.extract 1 s.size) Tryd.underlying9 Tryd.underlying42 Tryd.underlying5
  have hsz : (s.extract 1 s.size).size = s.size - 1 := by simp
  rw [hsz] at hcv hcells
  have hc1 : W1.cell? ⟨w.heap.size, 0, none⟩ = some (.int .u8 (bt (s.extract 1 s.size) 0)) := hcells 0 (by omega)
  have hl1 : s.size - 1 = 1 := by omega
  have HR := Lib.hid hR
  have HL := Lib.hid (hL W1 hw0)
  have HB := Lib.hid hB1
  rw [hl1] at hcv
  clear hs hcells hl1 hsz hcap hz1 hR hL hb hd0 hB1 hw hw0 hX0 hX1 hr1
  go_enter Tryd.func38, Tryd.ntmps38
  go_wp2_with fail
  refine wp_loop_rounds 2 ?_
  rw [rounds_succ]
  go_wp2_with fail
  rw [rounds_succ]
  go_wp2_with fail
  rw [HR.out]
  refine HL.out.mono ?_
  rintro e w2 ⟨rfl, hb2⟩
  go_wp2_with fail
  go_ret2
  exact ⟨rfl, bl_alloc (bl_trans HB.out hb2) _⟩
set_option maxRecDepth 100000 in
set_option maxHeartbeats 2000000 in
theorem read2n (s : ByteArray) (aN aB : Addr) (w : World) (h : GA aN aB w) (hs : s.size = 2) (hw : wid (rdv s) ≠ 2) :
    Calls Tryd.prog 38 #[.string s] w fun e w' => e = .returned (.tuple #[.int .i64 0, werr s aN]) ∧ Below w.heap.size w w' := by
  have h0 : 0 < s.size := by omega
  have hd0 := sx_bd _ (bt_range s 0).1 (bt_range s 0).2
  have hX0 : wrap64 (IntKind.i8.wrap (((s[0]'h0).toNat : Nat) : Int)) = sx (bt s 0) := by rw [show (((s[0]'h0).toNat : Nat) : Int) = bt s 0 from bt_at s 0 h0, sx_eq _ (bt_range s 0).1 (bt_range s 0).2]; exact w64 (by have := sx_bd _ (bt_range s 0).1 (bt_range s 0).2; omega) (by have := sx_bd _ (bt_range s 0).1 (bt_range s 0).2; omega)
  have hr1 := bt_range s 1
  have hX1 : bits .or .i64 (wrap64 (wrap64 (IntKind.i8.wrap (((s[0]'h0).toNat : Nat) : Int)) * 256)) (wrap64 (bt (s.extract 1 s.size) 0)) = (sx (bt s 0)) * 256 + bt s 1 := step1 hX0 (bt_ext s 0 (by omega)) hr1.1 hr1.2 (by omega) (by omega)
  have hR : bits .or .i64 (wrap64 (wrap64 (IntKind.i8.wrap (((s[0]'h0).toNat : Nat) : Int)) * 256)) (wrap64 (bt (s.extract 1 s.size) 0)) = rdv s := by rw [hX1]; unfold rdv; rw [hs]; rfl
  have hb : -2147483648 ≤ rdv s ∧ rdv s ≤ 2147483647 := by rw [← hR, hX1]; omega
  have hL := least_yes (rdv s)
  have hw0 : wid (rdv s) ≠ 0 := fun e => by have := wid_zero e; omega
  generalize rdv s = v at *
  have hb1 : ((s.size : Int) == 1) = false := by simp [hs]
  have hb2 : ((s.size : Int) == 2) = true := by simp [hs]
  have hq : (((wid v : Nat) : Int) != (s.size : Int)) = true := by rw [hs]; simpa using (fun e => hw (by omega))
  obtain ⟨W1, cap, hcv, hB1, hz1, hcap, hcells⟩ := conv_sb w 9 42 5 (s.extract 1 s.size) Tryd.underlying9 Tryd.underlying42 Tryd.underlying5
  have hsz : (s.extract 1 s.size).size = s.size - 1 := by simp
  rw [hsz] at hcv hcells
  have hc1 : W1.cell? ⟨w.heap.size, 0, none⟩ = some (.int .u8 (bt (s.extract 1 s.size) 0)) := hcells 0 (by omega)
  have hl1 : s.size - 1 = 1 := by omega
  have HR := Lib.hid hR
  have HL := Lib.hid (hL W1 hw0)
  have HB := Lib.hid hB1
  have hg := (h.below hB1).g0
  have hg1 : ∀ W, Below W1.heap.size W1 W → W.cell? ⟨1, 0, none⟩ = some (.iface 111 (.pointer (some aN))) := fun W hb => (hb.cell (lt_of_cell hg)).trans hg
  rw [hl1] at hcv
  clear hs hcells hl1 hsz hcap hz1 hR hL hb hd0 hB1 hw hw0 hX0 hX1 hr1
  go_enter Tryd.func38, Tryd.ntmps38
  go_wp2_with fail
  refine wp_loop_rounds 2 ?_
  rw [rounds_succ]
  go_wp2_with fail
  rw [rounds_succ]
  go_wp2_with fail
  rw [HR.out]
  refine HL.out.mono ?_
  rintro e w2 ⟨rfl, hb2⟩
  go_wp2_with fail
  have hg2 := hg1 _ (bl_alloc hb2 (.cells #[.int .i64 ((wid v : Nat) : Int), .int .i64 v] 46))
  go_quiet (fail)
  go_wp2
  go_ret2
  exact ⟨rfl, (bl_alloc (bl_trans HB.out hb2) _).trans ⟨rfl, rfl, rfl, Nat.le_refl _, fun _ _ => rfl⟩⟩
set_option maxRecDepth 100000 in
set_option maxHeartbeats 2000000 in
theorem read3y (s : ByteArray) (w : World) (hs : s.size = 3) (hw : wid (rdv s) = 3) :
    Calls Tryd.prog 38 #[.string s] w fun e w' => e = .returned (.tuple #[.int .i64 (rdv s), .nilIface]) ∧ Below w.heap.size w w' := by
  have h0 : 0 < s.size := by omega
  have hd0 := sx_bd _ (bt_range s 0).1 (bt_range s 0).2
  have hX0 : wrap64 (IntKind.i8.wrap (((s[0]'h0).toNat : Nat) : Int)) = sx (bt s 0) := by rw [show (((s[0]'h0).toNat : Nat) : Int) = bt s 0 from bt_at s 0 h0, sx_eq _ (bt_range s 0).1 (bt_range s 0).2]; exact w64 (by have := sx_bd _ (bt_range s 0).1 (bt_range s 0).2; omega) (by have := sx_bd _ (bt_range s 0).1 (bt_range s 0).2; omega)
  have hr1 := bt_range s 1
  have hX1 : bits .or .i64 (wrap64 (wrap64 (IntKind.i8.wrap (((s[0]'h0).toNat : Nat) : Int)) * 256)) (wrap64 (bt (s.extract 1 s.size) 0)) = (sx (bt s 0)) * 256 + bt s 1 := step1 hX0 (bt_ext s 0 (by omega)) hr1.1 hr1.2 (by omega) (by omega)
  have hr2 := bt_range s 2
  have hX2 : bits .or .i64 (wrap64 ((bits .or .i64 (wrap64 (wrap64 (IntKind.i8.wrap (((s[0]'h0).toNat : Nat) : Int)) * 256)) (wrap64 (bt (s.extract 1 s.size) 0))) * 256)) (wrap64 (bt (s.extract 1 s.size) 1)) = ((sx (bt s 0)) * 256 + bt s 1) * 256 + bt s 2 := step1 hX1 (bt_ext s 1 (by omega)) hr2.1 hr2.2 (by omega) (by omega)
  have hR : bits .or .i64 (wrap64 ((bits .or .i64 (wrap64 (wrap64 (IntKind.i8.wrap (((s[0]'h0).toNat : Nat) : Int)) * 256)) (wrap64 (bt (s.extract 1 s.size) 0))) * 256)) (wrap64 (bt (s.extract 1 s.size) 1)) = rdv s := by rw [hX2]; unfold rdv; rw [hs]; rfl
  have hb : -2147483648 ≤ rdv s ∧ rdv s ≤ 2147483647 := by rw [← hR, hX2]; omega
  have hL := least_yes (rdv s)
  have hw0 : wid (rdv s) ≠ 0 := fun e => by have := wid_zero e; omega
  generalize rdv s = v at *
  have hb1 : ((s.size : Int) == 1) = false := by simp [hs]
  have hb2 : ((s.size : Int) == 2) = false := by simp [hs]
  have hb3 : ((s.size : Int) == 3) = true := by simp [hs]
  have hq : (((wid v : Nat) : Int) != (s.size : Int)) = false := by rw [hs]; simp [hw]
  obtain ⟨W1, cap, hcv, hB1, hz1, hcap, hcells⟩ := conv_sb w 9 42 5 (s.extract 1 s.size) Tryd.underlying9 Tryd.underlying42 Tryd.underlying5
  have hsz : (s.extract 1 s.size).size = s.size - 1 := by simp
  rw [hsz] at hcv hcells
  have hc1 : W1.cell? ⟨w.heap.size, 0, none⟩ = some (.int .u8 (bt (s.extract 1 s.size) 0)) := hcells 0 (by omega)
  have hc2 : W1.cell? ⟨w.heap.size, 1, none⟩ = some (.int .u8 (bt (s.extract 1 s.size) 1)) := hcells 1 (by omega)
  have hl1 : s.size - 1 = 2 := by omega
  have HR := Lib.hid hR
  have HL := Lib.hid (hL W1 hw0)
  have HB := Lib.hid hB1
  rw [hl1] at hcv
  clear hs hcells hl1 hsz hcap hz1 hR hL hb hd0 hB1 hw hw0 hX0 hX1 hX2 hr1 hr2
  go_enter Tryd.func38, Tryd.ntmps38
  go_wp2_with fail
  refine wp_loop_rounds 3 ?_
  rw [rounds_succ]
  go_wp2_with fail
  rw [rounds_succ]
  go_wp2_with fail
  rw [rounds_succ]
  go_wp2_with fail
  rw [HR.out]
  refine HL.out.mono ?_
  rintro e w2 ⟨rfl, hb2⟩
  go_wp2_with fail
  go_ret2
  exact ⟨rfl, bl_alloc (bl_trans HB.out hb2) _⟩
set_option maxRecDepth 100000 in
set_option maxHeartbeats 2000000 in
theorem read3n (s : ByteArray) (aN aB : Addr) (w : World) (h : GA aN aB w) (hs : s.size = 3) (hw : wid (rdv s) ≠ 3) :
    Calls Tryd.prog 38 #[.string s] w fun e w' => e = .returned (.tuple #[.int .i64 0, werr s aN]) ∧ Below w.heap.size w w' := by
  have h0 : 0 < s.size := by omega
  have hd0 := sx_bd _ (bt_range s 0).1 (bt_range s 0).2
  have hX0 : wrap64 (IntKind.i8.wrap (((s[0]'h0).toNat : Nat) : Int)) = sx (bt s 0) := by rw [show (((s[0]'h0).toNat : Nat) : Int) = bt s 0 from bt_at s 0 h0, sx_eq _ (bt_range s 0).1 (bt_range s 0).2]; exact w64 (by have := sx_bd _ (bt_range s 0).1 (bt_range s 0).2; omega) (by have := sx_bd _ (bt_range s 0).1 (bt_range s 0).2; omega)
  have hr1 := bt_range s 1
  have hX1 : bits .or .i64 (wrap64 (wrap64 (IntKind.i8.wrap (((s[0]'h0).toNat : Nat) : Int)) * 256)) (wrap64 (bt (s.extract 1 s.size) 0)) = (sx (bt s 0)) * 256 + bt s 1 := step1 hX0 (bt_ext s 0 (by omega)) hr1.1 hr1.2 (by omega) (by omega)
  have hr2 := bt_range s 2
  have hX2 : bits .or .i64 (wrap64 ((bits .or .i64 (wrap64 (wrap64 (IntKind.i8.wrap (((s[0]'h0).toNat : Nat) : Int)) * 256)) (wrap64 (bt (s.extract 1 s.size) 0))) * 256)) (wrap64 (bt (s.extract 1 s.size) 1)) = ((sx (bt s 0)) * 256 + bt s 1) * 256 + bt s 2 := step1 hX1 (bt_ext s 1 (by omega)) hr2.1 hr2.2 (by omega) (by omega)
  have hR : bits .or .i64 (wrap64 ((bits .or .i64 (wrap64 (wrap64 (IntKind.i8.wrap (((s[0]'h0).toNat : Nat) : Int)) * 256)) (wrap64 (bt (s.extract 1 s.size) 0))) * 256)) (wrap64 (bt (s.extract 1 s.size) 1)) = rdv s := by rw [hX2]; unfold rdv; rw [hs]; rfl
  have hb : -2147483648 ≤ rdv s ∧ rdv s ≤ 2147483647 := by rw [← hR, hX2]; omega
  have hL := least_yes (rdv s)
  have hw0 : wid (rdv s) ≠ 0 := fun e => by have := wid_zero e; omega
  generalize rdv s = v at *
  have hb1 : ((s.size : Int) == 1) = false := by simp [hs]
  have hb2 : ((s.size : Int) == 2) = false := by simp [hs]
  have hb3 : ((s.size : Int) == 3) = true := by simp [hs]
  have hq : (((wid v : Nat) : Int) != (s.size : Int)) = true := by rw [hs]; simpa using (fun e => hw (by omega))
  obtain ⟨W1, cap, hcv, hB1, hz1, hcap, hcells⟩ := conv_sb w 9 42 5 (s.extract 1 s.size) Tryd.underlying9 Tryd.underlying42 Tryd.underlying5
  have hsz : (s.extract 1 s.size).size = s.size - 1 := by simp
  rw [hsz] at hcv hcells
  have hc1 : W1.cell? ⟨w.heap.size, 0, none⟩ = some (.int .u8 (bt (s.extract 1 s.size) 0)) := hcells 0 (by omega)
  have hc2 : W1.cell? ⟨w.heap.size, 1, none⟩ = some (.int .u8 (bt (s.extract 1 s.size) 1)) := hcells 1 (by omega)
  have hl1 : s.size - 1 = 2 := by omega
  have HR := Lib.hid hR
  have HL := Lib.hid (hL W1 hw0)
  have HB := Lib.hid hB1
  have hg := (h.below hB1).g0
  have hg1 : ∀ W, Below W1.heap.size W1 W → W.cell? ⟨1, 0, none⟩ = some (.iface 111 (.pointer (some aN))) := fun W hb => (hb.cell (lt_of_cell hg)).trans hg
  rw [hl1] at hcv
  clear hs hcells hl1 hsz hcap hz1 hR hL hb hd0 hB1 hw hw0 hX0 hX1 hX2 hr1 hr2
  go_enter Tryd.func38, Tryd.ntmps38
  go_wp2_with fail
  refine wp_loop_rounds 3 ?_
  rw [rounds_succ]
  go_wp2_with fail
  rw [rounds_succ]
  go_wp2_with fail
  rw [rounds_succ]
  go_wp2_with fail
  rw [HR.out]
  refine HL.out.mono ?_
  rintro e w2 ⟨rfl, hb2⟩
  go_wp2_with fail
  have hg2 := hg1 _ (bl_alloc hb2 (.cells #[.int .i64 ((wid v : Nat) : Int), .int .i64 v] 46))
  go_quiet (fail)
  go_wp2
  go_ret2
  exact ⟨rfl, (bl_alloc (bl_trans HB.out hb2) _).trans ⟨rfl, rfl, rfl, Nat.le_refl _, fun _ _ => rfl⟩⟩
set_option maxRecDepth 100000 in
set_option maxHeartbeats 2000000 in
theorem read4y (s : ByteArray) (w : World) (hs : s.size = 4) (hw : wid (rdv s) = 4) :
    Calls Tryd.prog 38 #[.string s] w fun e w' => e = .returned (.tuple #[.int .i64 (rdv s), .nilIface]) ∧ Below w.heap.size w w' := by
  have h0 : 0 < s.size := by omega
  have hd0 := sx_bd _ (bt_range s 0).1 (bt_range s 0).2
  have hX0 : wrap64 (IntKind.i8.wrap (((s[0]'h0).toNat : Nat) : Int)) = sx (bt s 0) := by rw [show (((s[0]'h0).toNat : Nat) : Int) = bt s 0 from bt_at s 0 h0, sx_eq _ (bt_range s 0).1 (bt_range s 0).2]; exact w64 (by have := sx_bd _ (bt_range s 0).1 (bt_range s 0).2; omega) (by have := sx_bd _ (bt_range s 0).1 (bt_range s 0).2; omega)
  have hr1 := bt_range s 1
  have hX1 : bits .or .i64 (wrap64 (wrap64 (IntKind.i8.wrap (((s[0]'h0).toNat : Nat) : Int)) * 256)) (wrap64 (bt (s.extract 1 s.size) 0)) = (sx (bt s 0)) * 256 + bt s 1 := step1 hX0 (bt_ext s 0 (by omega)) hr1.1 hr1.2 (by omega) (by omega)
  have hr2 := bt_range s 2
  have hX2 : bits .or .i64 (wrap64 ((bits .or .i64 (wrap64 (wrap64 (IntKind.i8.wrap (((s[0]'h0).toNat : Nat) : Int)) * 256)) (wrap64 (bt (s.extract 1 s.size) 0))) * 256)) (wrap64 (bt (s.extract 1 s.size) 1)) = ((sx (bt s 0)) * 256 + bt s 1) * 256 + bt s 2 := step1 hX1 (bt_ext s 1 (by omega)) hr2.1 hr2.2 (by omega) (by omega)
  have hr3 := bt_range s 3
  have hX3 : bits .or .i64 (wrap64 ((bits .or .i64 (wrap64 ((bits .or .i64 (wrap64 (wrap64 (IntKind.i8.wrap (((s[0]'h0).toNat : Nat) : Int)) * 256)) (wrap64 (bt (s.extract 1 s.size) 0))) * 256)) (wrap64 (bt (s.extract 1 s.size) 1))) * 256)) (wrap64 (bt (s.extract 1 s.size) 2)) = (((sx (bt s 0)) * 256 + bt s 1) * 256 + bt s 2) * 256 + bt s 3 := step1 hX2 (bt_ext s 2 (by omega)) hr3.1 hr3.2 (by omega) (by omega)
  have hR : bits .or .i64 (wrap64 ((bits .or .i64 (wrap64 ((bits .or .i64 (wrap64 (wrap64 (IntKind.i8.wrap (((s[0]'h0).toNat : Nat) : Int)) * 256)) (wrap64 (bt (s.extract 1 s.size) 0))) * 256)) (wrap64 (bt (s.extract 1 s.size) 1))) * 256)) (wrap64 (bt (s.extract 1 s.size) 2)) = rdv s := by rw [hX3]; unfold rdv; rw [hs]; rfl
  have hb : -2147483648 ≤ rdv s ∧ rdv s ≤ 2147483647 := by rw [← hR, hX3]; omega
  have hL := least_yes (rdv s)
  have hw0 : wid (rdv s) ≠ 0 := fun e => by have := wid_zero e; omega
  generalize rdv s = v at *
  have hb1 : ((s.size : Int) == 1) = false := by simp [hs]
  have hb2 : ((s.size : Int) == 2) = false := by simp [hs]
  have hb3 : ((s.size : Int) == 3) = false := by simp [hs]
  have hb4 : ((s.size : Int) == 4) = true := by simp [hs]
  have hq : (((wid v : Nat) : Int) != (s.size : Int)) = false := by rw [hs]; simp [hw]
  obtain ⟨W1, cap, hcv, hB1, hz1, hcap, hcells⟩ := conv_sb w 9 42 5 (s.extract 1 s.size) Tryd.underlying9 Tryd.underlying42 Tryd.underlying5
  have hsz : (s.extract 1 s.size).size = s.size - 1 := by simp
  rw [hsz] at hcv hcells
  have hc1 : W1.cell? ⟨w.heap.size, 0, none⟩ = some (.int .u8 (bt (s.extract 1 s.size) 0)) := hcells 0 (by omega)
  have hc2 : W1.cell? ⟨w.heap.size, 1, none⟩ = some (.int .u8 (bt (s.extract 1 s.size) 1)) := hcells 1 (by omega)
  have hc3 : W1.cell? ⟨w.heap.size, 2, none⟩ = some (.int .u8 (bt (s.extract 1 s.size) 2)) := hcells 2 (by omega)
  have hl1 : s.size - 1 = 3 := by omega
  have HR := Lib.hid hR
  have HL := Lib.hid (hL W1 hw0)
  have HB := Lib.hid hB1
  rw [hl1] at hcv
  clear hs hcells hl1 hsz hcap hz1 hR hL hb hd0 hB1 hw hw0 hX0 hX1 hX2 hX3 hr1 hr2 hr3
  go_enter Tryd.func38, Tryd.ntmps38
  go_wp2_with fail
  refine wp_loop_rounds 4 ?_
  rw [rounds_succ]
  go_wp2_with fail
  rw [rounds_succ]
  go_wp2_with fail
  rw [rounds_succ]
  go_wp2_with fail
  rw [rounds_succ]
  go_wp2_with fail
  rw [HR.out]
  refine HL.out.mono ?_
  rintro e w2 ⟨rfl, hb2⟩
  go_wp2_with fail
  go_ret2
  exact ⟨rfl, bl_alloc (bl_trans HB.out hb2) _⟩
set_option maxRecDepth 100000 in
set_option maxHeartbeats 2000000 in
theorem read4n (s : ByteArray) (aN aB : Addr) (w : World) (h : GA aN aB w) (hs : s.size = 4) (hw : wid (rdv s) ≠ 4) :
    Calls Tryd.prog 38 #[.string s] w fun e w' => e = .returned (.tuple #[.int .i64 0, werr s aN]) ∧ Below w.heap.size w w' := by
  have h0 : 0 < s.size := by omega
  have hd0 := sx_bd _ (bt_range s 0).1 (bt_range s 0).2
  have hX0 : wrap64 (IntKind.i8.wrap (((s[0]'h0).toNat : Nat) : Int)) = sx (bt s 0) := by rw [show (((s[0]'h0).toNat : Nat) : Int) = bt s 0 from bt_at s 0 h0, sx_eq _ (bt_range s 0).1 (bt_range s 0).2]; exact w64 (by have := sx_bd _ (bt_range s 0).1 (bt_range s 0).2; omega) (by have := sx_bd _ (bt_range s 0).1 (bt_range s 0).2; omega)
  have hr1 := bt_range s 1
  have hX1 : bits .or .i64 (wrap64 (wrap64 (IntKind.i8.wrap (((s[0]'h0).toNat : Nat) : Int)) * 256)) (wrap64 (bt (s.extract 1 s.size) 0)) = (sx (bt s 0)) * 256 + bt s 1 := step1 hX0 (bt_ext s 0 (by omega)) hr1.1 hr1.2 (by omega) (by omega)
  have hr2 := bt_range s 2
  have hX2 : bits .or .i64 (wrap64 ((bits .or .i64 (wrap64 (wrap64 (IntKind.i8.wrap (((s[0]'h0).toNat : Nat) : Int)) * 256)) (wrap64 (bt (s.extract 1 s.size) 0))) * 256)) (wrap64 (bt (s.extract 1 s.size) 1)) = ((sx (bt s 0)) * 256 + bt s 1) * 256 + bt s 2 := step1 hX1 (bt_ext s 1 (by omega)) hr2.1 hr2.2 (by omega) (by omega)
  have hr3 := bt_range s 3
  have hX3 : bits .or .i64 (wrap64 ((bits .or .i64 (wrap64 ((bits .or .i64 (wrap64 (wrap64 (IntKind.i8.wrap (((s[0]'h0).toNat : Nat) : Int)) * 256)) (wrap64 (bt (s.extract 1 s.size) 0))) * 256)) (wrap64 (bt (s.extract 1 s.size) 1))) * 256)) (wrap64 (bt (s.extract 1 s.size) 2)) = (((sx (bt s 0)) * 256 + bt s 1) * 256 + bt s 2) * 256 + bt s 3 := step1 hX2 (bt_ext s 2 (by omega)) hr3.1 hr3.2 (by omega) (by omega)
  have hR : bits .or .i64 (wrap64 ((bits .or .i64 (wrap64 ((bits .or .i64 (wrap64 (wrap64 (IntKind.i8.wrap (((s[0]'h0).toNat : Nat) : Int)) * 256)) (wrap64 (bt (s.extract 1 s.size) 0))) * 256)) (wrap64 (bt (s.extract 1 s.size) 1))) * 256)) (wrap64 (bt (s.extract 1 s.size) 2)) = rdv s := by rw [hX3]; unfold rdv; rw [hs]; rfl
  have hb : -2147483648 ≤ rdv s ∧ rdv s ≤ 2147483647 := by rw [← hR, hX3]; omega
  have hL := least_yes (rdv s)
  have hw0 : wid (rdv s) ≠ 0 := fun e => by have := wid_zero e; omega
  generalize rdv s = v at *
  have hb1 : ((s.size : Int) == 1) = false := by simp [hs]
  have hb2 : ((s.size : Int) == 2) = false := by simp [hs]
  have hb3 : ((s.size : Int) == 3) = false := by simp [hs]
  have hb4 : ((s.size : Int) == 4) = true := by simp [hs]
  have hq : (((wid v : Nat) : Int) != (s.size : Int)) = true := by rw [hs]; simpa using (fun e => hw (by omega))
  obtain ⟨W1, cap, hcv, hB1, hz1, hcap, hcells⟩ := conv_sb w 9 42 5 (s.extract 1 s.size) Tryd.underlying9 Tryd.underlying42 Tryd.underlying5
  have hsz : (s.extract 1 s.size).size = s.size - 1 := by simp
  rw [hsz] at hcv hcells
  have hc1 : W1.cell? ⟨w.heap.size, 0, none⟩ = some (.int .u8 (bt (s.extract 1 s.size) 0)) := hcells 0 (by omega)
  have hc2 : W1.cell? ⟨w.heap.size, 1, none⟩ = some (.int .u8 (bt (s.extract 1 s.size) 1)) := hcells 1 (by omega)
  have hc3 : W1.cell? ⟨w.heap.size, 2, none⟩ = some (.int .u8 (bt (s.extract 1 s.size) 2)) := hcells 2 (by omega)
  have hl1 : s.size - 1 = 3 := by omega
  have HR := Lib.hid hR
  have HL := Lib.hid (hL W1 hw0)
  have HB := Lib.hid hB1
  have hg := (h.below hB1).g0
  have hg1 : ∀ W, Below W1.heap.size W1 W → W.cell? ⟨1, 0, none⟩ = some (.iface 111 (.pointer (some aN))) := fun W hb => (hb.cell (lt_of_cell hg)).trans hg
  rw [hl1] at hcv
  clear hs hcells hl1 hsz hcap hz1 hR hL hb hd0 hB1 hw hw0 hX0 hX1 hX2 hX3 hr1 hr2 hr3
  go_enter Tryd.func38, Tryd.ntmps38
  go_wp2_with fail
  refine wp_loop_rounds 4 ?_
  rw [rounds_succ]
  go_wp2_with fail
  rw [rounds_succ]
  go_wp2_with fail
  rw [rounds_succ]
  go_wp2_with fail
  rw [rounds_succ]
  go_wp2_with fail
  rw [HR.out]
  refine HL.out.mono ?_
  rintro e w2 ⟨rfl, hb2⟩
  go_wp2_with fail
  have hg2 := hg1 _ (bl_alloc hb2 (.cells #[.int .i64 ((wid v : Nat) : Int), .int .i64 v] 46))
  go_quiet (fail)
  go_wp2
  go_ret2
  exact ⟨rfl, (bl_alloc (bl_trans HB.out hb2) _).trans ⟨rfl, rfl, rfl, Nat.le_refl _, fun _ _ => rfl⟩⟩
set_option maxRecDepth 100000 in
set_option maxHeartbeats 2000000 in
theorem read0 (s : ByteArray) (aN aB : Addr) (w : World) (h : GA aN aB w) (hs : s.size = 0) :
    Calls Tryd.prog 38 #[.string s] w fun e w' => e = .returned (.tuple #[.int .i64 0, werr s aN]) ∧ Below w.heap.size w w' := by
  have hb1 : ((s.size : Int) == 1) = false := by simp; omega
  have hb2 : ((s.size : Int) == 2) = false := by simp; omega
  have hb3 : ((s.size : Int) == 3) = false := by simp; omega
  have hb4 : ((s.size : Int) == 4) = false := by simp; omega
  have hg := h.g0
  clear hs
  go_enter Tryd.func38, Tryd.ntmps38
  go_wp2_with fail
  go_quiet (fail)
  go_wp2
  go_ret2
  exact ⟨rfl, ⟨rfl, rfl, rfl, Nat.le_refl _, fun _ _ => rfl⟩⟩
set_option maxRecDepth 100000 in
set_option maxHeartbeats 2000000 in
theorem read5 (s : ByteArray) (aN aB : Addr) (w : World) (h : GA aN aB w) (hs : 5 ≤ s.size) :
    Calls Tryd.prog 38 #[.string s] w fun e w' => e = .returned (.tuple #[.int .i64 0, werr s aN]) ∧ Below w.heap.size w w' := by
  have hb1 : ((s.size : Int) == 1) = false := by simp; omega
  have hb2 : ((s.size : Int) == 2) = false := by simp; omega
  have hb3 : ((s.size : Int) == 3) = false := by simp; omega
  have hb4 : ((s.size : Int) == 4) = false := by simp; omega
  have hg := h.g0
  clear hs
  go_enter Tryd.func38, Tryd.ntmps38
  go_wp2_with fail
  go_quiet (fail)
  go_wp2
  go_ret2
  exact ⟨rfl, ⟨rfl, rfl, rfl, Nat.le_refl _, fun _ _ => rfl⟩⟩
/-- ReadInt, as a function. -/
def okInt (s : ByteArray) : Bool := decide (1 ≤ s.size ∧ s.size ≤ 4 ∧ wid (rdv s) = s.size)
theorem ReadInt_yes (s : ByteArray) (w : World) (h : okInt s = true) :
    Calls Tryd.prog 19 #[.string s] w fun e w' => e = .returned (.tuple #[.int .i64 (rdv s), .int .i64 0]) ∧ Below w.heap.size w w' := by
  have hc : Calls Tryd.prog 38 #[.string s] w fun e w' => e = .returned (.tuple #[.int .i64 (rdv s), .nilIface]) ∧ Below w.heap.size w w' := by
    obtain ⟨h1, h2, h3⟩ := of_decide_eq_true h
    rcases (show s.size = 1 ∨ s.size = 2 ∨ s.size = 3 ∨ s.size = 4 by omega) with e | e | e | e
    · exact read1y s w e (by omega)
    · exact read2y s w e (by omega)
    · exact read3y s w e (by omega)
    · exact read4y s w e (by omega)
  clear h
  go_enter Tryd.func19, Tryd.ntmps19
  go_wp2_with fail
  refine hc.mono ?_
  clear hc
  rintro e w1 ⟨rfl, hb1⟩
  go_wp2_with fail
  refine (told_nil _).mono ?_
  rintro e w2 ⟨rfl, hb2⟩
  go_wp2_with fail
  go_ret2
  exact ⟨rfl, bl_trans hb1 hb2⟩
theorem ReadInt_no (s : ByteArray) (aN aB : Addr) (w : World) (hG : GA aN aB w) (h : okInt s = false) :
    Calls Tryd.prog 19 #[.string s] w fun e w' => e = .returned (.tuple #[.int .i64 0, .int .i64 30]) ∧ Below w.heap.size w w' := by
  have hc : Calls Tryd.prog 38 #[.string s] w fun e w' => e = .returned (.tuple #[.int .i64 0, werr s aN]) ∧ Below w.heap.size w w' := by
    have h := of_decide_eq_false h
    rcases (show s.size = 0 ∨ 5 ≤ s.size ∨ s.size = 1 ∨ s.size = 2 ∨ s.size = 3 ∨ s.size = 4 by omega) with e | e | e | e | e | e
    · exact read0 s aN aB w hG e
    · exact read5 s aN aB w hG e
    · exact read1n s aN aB w hG e (fun e2 => h (by omega))
    · exact read2n s aN aB w hG e (fun e2 => h (by omega))
    · exact read3n s aN aB w hG e (fun e2 => h (by omega))
    · exact read4n s aN aB w hG e (fun e2 => h (by omega))
  clear h
  go_enter Tryd.func19, Tryd.ntmps19
  go_wp2_with fail
  refine hc.mono ?_
  clear hc
  rintro e w1 ⟨rfl, hb1⟩
  go_wp2_with fail
  refine (told_number s aN aB _ (hG.below hb1)).mono ?_
  rintro e w2 ⟨rfl, hb2⟩
  go_wp2_with fail
  go_ret2
  exact ⟨rfl, bl_trans hb1 hb2⟩
theorem ReadBool_yes (s : ByteArray) (w : World) (h : s.size = 1) :
    Calls Tryd.prog 21 #[.string s] w fun e w' => e = .returned (.tuple #[.bool (bt s 0 != 0), .int .i64 0]) ∧ Below w.heap.size w w' := by
  have hb : ((s.size : Int) != 1) = false := by simp [h]
  have h0 : 0 < s.size := by omega
  have hq := bt_at s 0 h0
  have hq2 : (((s[0]'h0).toNat : Nat) : Int) = bt s 0 := hq
  clear h hq
  go_enter Tryd.func21, Tryd.ntmps21
  go_wp2_with fail
  go_ret2
  exact ⟨by simp [hq2], Below.refl _ _⟩
theorem ReadBool_no (s : ByteArray) (aN aB : Addr) (w : World) (hG : GA aN aB w) (h : s.size ≠ 1) :
    Calls Tryd.prog 21 #[.string s] w fun e w' => e = .returned (.tuple #[.bool false, .int .i64 31]) ∧ Below w.heap.size w w' := by
  have hb : ((s.size : Int) != 1) = true := by simp; omega
  have hg := hG.g1
  clear h
  go_enter Tryd.func21, Tryd.ntmps21
  go_wp2_with fail
  refine (told_bool s aN aB _ hG).mono ?_
  rintro e w1 ⟨rfl, hb1⟩
  go_wp2_with fail
  go_ret2
  exact ⟨rfl, hb1⟩
end Prim
end Go.Proofs.YtmfnenlinhljkaaDoor
