/- Lines folded, texts unfolded: as the reference. The card of the statement, out of the walk and the plain law. Conditions: none beyond the card's own (the listed package variables as the program's text lays them).
-/
import Derived.Test.YtjnfoocmilbdlaaGreatDoorTFoldLines3
-- Written by this repo's own program over the kit's printer: YtjnfoocmilbdlaaGreatDoor.LFold
namespace Go.Proofs.YtjnfoocmilbdlaaGreatDoor.LFold
open Go.Proofs.YtjnfoocmilbdlaaGreatDoor.ExtFold
open Go.RowKit Go.Proofs.YtjnfoocmilbdlaaGreatDoorW.PrintWords Go.Proofs.YtjnfoocmilbdlaaGreatDoorW.PrintLast Go.Proofs.YtjnfoocmilbdlaaGreatDoorW2
attribute [local go_sem] own_max2 own_min2 own_maxs own_mins
set_option linter.unusedVariables false
set_option linter.unusedSimpArgs false

/-! ### latinerref15_Unfold: function 16 -/
mutual
def latinerref15_Unfold.l0 : Nat → List ByteArray → List ByteArray → Int → Option (List ByteArray × Int)
  | 0, _, _, _ => none
  | k + 1, x4, x5, x6 => if x6 < (x5.length : Int) then (latinerref15_Unfold.l1 k x4 x5 x6 0) else (latinerref15_Unfold.l2 k x4 ([] : List ByteArray) 0)
def latinerref15_Unfold.l1 : Nat → List ByteArray → List ByteArray → Int → Int → Option (List ByteArray × Int)
  | 0, _, _, _, _ => none
  | k + 1, x4, x5, x6, x7 => if 0 ≤ x6 then (if x6 < (x5.length : Int) then (if x7 < ((rdOf ByteArray.empty x5 x6).size : Int) then (if 0 ≤ x7 then (if (bt (rdOf ByteArray.empty x5 x6) x7) = 0 then (some (([] : List ByteArray), 150)) else (if (bt (rdOf ByteArray.empty x5 x6) x7) > 127 then (some (([] : List ByteArray), 150)) else (if (bt (rdOf ByteArray.empty x5 x6) x7) = 13 then (some (([] : List ByteArray), 150)) else (latinerref15_Unfold.l1 k x4 x5 x6 (wrap64 (x7 + 1)))))) else (none)) else (if (rdOf ByteArray.empty x5 x6).toList = ([] : List UInt8) then (latinerref15_Unfold.j2 k x4 x5 x6 true) else (if 0 < ((rdOf ByteArray.empty x5 x6).size : Int) then (latinerref15_Unfold.j2 k x4 x5 x6 ((bt (rdOf ByteArray.empty x5 x6) 0) != 32)) else (none)))) else (none)) else (none)
def latinerref15_Unfold.j2 : Nat → List ByteArray → List ByteArray → Int → Bool → Option (List ByteArray × Int)
  | 0, _, _, _, _ => none
  | k + 1, x4, x5, x6, x67 => if x67 = true then (if 0 ≤ x6 then (if x6 < (x5.length : Int) then (if x4.length < 8796093022208 then (latinerref15_Unfold.l0 k (x4 ++ [rdOf ByteArray.empty x5 x6]) x5 (wrap64 (x6 + 1))) else (none)) else (none)) else (none)) else (if x6 = 0 then (some (([] : List ByteArray), 150)) else (if 0 ≤ (wrap64 (x6 - 1)) then (if (wrap64 (x6 - 1)) < (x5.length : Int) then (if (rdOf ByteArray.empty x5 (wrap64 (x6 - 1))).toList = ([] : List UInt8) then (some (([] : List ByteArray), 150)) else (if 0 ≤ (wrap64 ((x4.length : Int) - 1)) then (if (wrap64 ((x4.length : Int) - 1)) < (x4.length : Int) then (if 0 ≤ x6 then (if x6 < (x5.length : Int) then (if 1 ≤ ((rdOf ByteArray.empty x5 x6).size : Int) then (if (rdOf ByteArray.empty x4 (wrap64 ((x4.length : Int) - 1))).size + ((rdOf ByteArray.empty x5 x6).extract 1 (rdOf ByteArray.empty x5 x6).size).size ≤ 9223372036854775807 then (latinerref15_Unfold.l0 k (x4.set ((wrap64 ((x4.length : Int) - 1)) : Int).toNat ((rdOf ByteArray.empty x4 (wrap64 ((x4.length : Int) - 1))) ++ ((rdOf ByteArray.empty x5 x6).extract 1 (rdOf ByteArray.empty x5 x6).size))) x5 (wrap64 (x6 + 1))) else (none)) else (none)) else (none)) else (none)) else (none)) else (none))) else (none)) else (none)))
def latinerref15_Unfold.l2 : Nat → List ByteArray → List ByteArray → Int → Option (List ByteArray × Int)
  | 0, _, _, _ => none
  | k + 1, x4, x8, x9 => if x9 < (x4.length : Int) then (if 0 ≤ x9 then (if (rdOf ByteArray.empty x4 x9).toList = ([] : List UInt8) then (if x8.length < 8796093022208 then (latinerref15_Unfold.l2 k x4 (x8 ++ [rdOf ByteArray.empty x4 x9]) (wrap64 (x9 + 1))) else (none)) else (if 0 < ((rdOf ByteArray.empty x4 x9).size : Int) then (if (bt (rdOf ByteArray.empty x4 x9) 0) = 35 then (latinerref15_Unfold.l2 k x4 x8 (wrap64 (x9 + 1))) else (if x8.length < 8796093022208 then (latinerref15_Unfold.l2 k x4 (x8 ++ [rdOf ByteArray.empty x4 x9]) (wrap64 (x9 + 1))) else (none))) else (none))) else (none)) else (some (x8, 0))
end
def latinerref15_Unfold.f (k : Nat) (a0 : ByteArray) : Option (List ByteArray × Int) := if (a0.size : Int) > 8000 then (some (([] : List ByteArray), 131)) else ((latinerref15_rows.f k a0).bind fun t139 => (latinerref15_Unfold.l0 k ([] : List ByteArray) t139 0))
def latinerref15_Unfold.T17 : Bool × List (List Nat × List Nat) := (true, [([], []), ([], []), ([1], [1]), ([2], [2]), ([], []), ([], []), ([5], [5]), ([6], [6]), ([4, 7], [4, 7]), ([8], [8]), ([], []), ([], []), ([10, 11], [10, 11]), ([12], [12]), ([13], [13]), ([9, 14], [9, 14]), ([0, 3, 0, 1, 2, 3, 4, 5, 6, 7, 8, 9, 10, 11, 12, 13, 14, 15], [0, 3]), ([16, 15, 0, 1, 2, 3, 4, 5, 6, 7, 8, 9, 10, 11, 12, 13, 14, 15], [15, 16])])
def latinerref15_Unfold.B17 : List Nat := [0, 0, 2, 6, 0, 0, 32, 96, 240, 496, 0, 0, 3072, 7168, 15360, 32752, 65535, 131071]
theorem latinerref15_Unfold.tab17 : rtab .any (opsOf Tryz.f16 17) = latinerref15_Unfold.T17 := by kernel_rfl
theorem latinerref15_Unfold.bits17 : waitsOk latinerref15_Unfold.T17.2 latinerref15_Unfold.B17 = true := by kernel_rfl
set_option maxHeartbeats 8000000 in
set_option maxRecDepth 100000 in
theorem latinerref15_Unfold.calls (k : Nat) (a0 : ByteArray) (r1 : List ByteArray) (r2 : Int) (w : World) (h : latinerref15_Unfold.f k a0 = some (r1, r2)) :
    Calls Tryz.prog 16 #[.string a0] w fun e w' => ∃ v0_ : Value, e = .returned (.tuple #[v0_, .int .i64 r2]) ∧ Kd.R Kd.string 9 w' w.heap.size (fun _ => True) v0_ r1 ∧ Below w.heap.size w w' := by
  have HB := Aside0.mk (Below.refl w.heap.size w)
  have H : (if (a0.size : Int) > 8000 then (some (([] : List ByteArray), 131)) else ((latinerref15_rows.f k a0).bind fun t139 => (latinerref15_Unfold.l0 k ([] : List ByteArray) t139 0))) = some (r1, r2) := h
  clear h
  by_cases c2 : (a0.size : Int) > 8000
  · rw [if_pos c2] at H
    have c2b0 : decide (8000 < (a0.size : Int)) = true := decide_eq_true c2
    have c2b1 : decide (8000 < a0.size) = true := decide_eq_true (by omega)
    clear c2
    simp only [Option.some.injEq, Prod.mk.injEq] at H
    obtain ⟨rfl, rfl⟩ := H
    go_enter Tryz.func16, Tryz.ntmps16
    go_wp2
    go_ret2
    exact ⟨_, by first | rfl | (simp [errW_none, errW_some] <;> rfl) | (simp [*, errW_none, errW_some] <;> rfl), by first | exact Kd.R_nil _ _ _ _ _ | exact Kd.N_nil _ _ _ _ _ | exact Kd.V_nil _ _ _ _ _ | exact Kd.Q_nil _ _ _ _ _ | exact Kd.S_nil _ _ _ _ _, by repeat (first | (with_reducible first | exact HB.out | apply below_alloc | apply pw_below_drewN | apply below_drew1) | exact HB.out)⟩
  · rw [if_neg c2] at H
    have c2b0 : decide (8000 < (a0.size : Int)) = false := decide_eq_false c2
    have c2b1 : decide (8000 < a0.size) = false := decide_eq_false (by omega)
    clear c2
    replace H := Option.bind_eq_some_iff.mp H
    obtain ⟨t139, A30, H⟩ := H
    replace H : (latinerref15_Unfold.l0 k ([] : List ByteArray) t139 0) = some (r1, r2) := H
    have A3 := Aside0.mk A30
    clear A30
    have H' := Aside0.mk H
    clear H
    go_enter Tryz.func16, Tryz.ntmps16
    go_wp2_with (first | ((with_reducible refine own_gate (f := 32) rfl ?_); refine goesL_ (some 14) rfl rfl Tryz.func32 (by kernel_rfl) rfl #[.string a0] rfl (by (try simp only [List.map_toArray, List.map_cons, List.map_nil]); first | done | rfl | (simp only [List.length_drop, List.length_take]; rfl)) ?_; (with_reducible refine (latinerref15_rows.calls k a0 t139 _ A3.out).mono ?_); rintro e w4 ⟨v140, rfl, ho0, hb⟩; refine ⟨_, rfl, ?_⟩; have n0_ := Aside0.mk (Kd.R_lower ho0 (below_size (by repeat (first | (with_reducible first | exact HB.out | apply below_alloc | apply pw_below_drewN | apply below_drew1) | exact HB.out)))); have n1_ := Aside0.mk (below_step (by repeat (first | (with_reducible first | exact HB.out | apply below_alloc | apply pw_below_drewN | apply below_drew1) | exact HB.out)) hb); clear HB; have HO141 := n0_; have HB := n1_; clear n0_ n1_; (try clear hb); (try clear hb2); (try clear hk); (try clear hi); (try clear ho0)))
    go_loopg [4, 6] k (fun kq v4 v6 w' => ∃ (x4_1 : List ByteArray) (x5_1 : List ByteArray) (x6_1 : Int), v6 = .int .i64 x6_1 ∧ Aside0 (latinerref15_Unfold.l0 kq x4_1 x5_1 x6_1 = some (r1, r2)) ∧ Aside0 (kq ≤ k) ∧ Aside0 (Kd.R Kd.string 9 w' w.heap.size (fun k_ => some k_ ≠ (v140 : Value).ownBlock) v4 x4_1) ∧ Aside0 (Kd.R Kd.string 9 w' w.heap.size (fun k_ => some k_ ≠ (v4 : Value).ownBlock) v140 x5_1) ∧ Aside0 (Below w.heap.size w w'))
    case atStart => exact ⟨(([] : List ByteArray)), (t139), (0), (by first | rfl | (simp; done) | (simp [*]; done)), H', ⟨Nat.le_refl _⟩, ⟨by first | exact Kd.R_nil _ _ _ _ _ | exact Kd.N_nil _ _ _ _ _ | exact Kd.V_nil _ _ _ _ _ | exact Kd.Q_nil _ _ _ _ _ | exact Kd.S_nil _ _ _ _ _⟩, ⟨by (with_reducible repeat (first | apply Kd.R_alloc | apply Kd.R_drewN | apply Kd.R_drew)); exact Kd.R_mono HO141.out (fun _ hk => (by simp [Value.ownBlock]))⟩, ⟨by repeat (first | (with_reducible first | exact HB.out | apply below_alloc | apply pw_below_drewN | apply below_drew1) | exact HB.out)⟩⟩
    case round =>
      clear H'
      try clear c1
      try clear c2
      try clear c2b0
      try clear c2b1
      try clear p2
      try clear c3
      obtain ⟨x4_1, x5_1, x6_1, rfl, HA, HK1, HO_4, HO_5, HB⟩ := hrel
      cases gk with
      | zero => exact absurd HA.out (by simp [latinerref15_Unfold.l0])
      | succ k1 =>
        have H := HA.out
        clear HA
        simp only [latinerref15_Unfold.l0] at H
        by_cases c5 : x6_1 < (x5_1.length : Int)
        · rw [if_pos c5] at H
          have c5b0 : decide (x6_1 < (x5_1.length : Int)) = true := decide_eq_true c5
          clear c5
          have H' := Aside0.mk H
          clear H
          obtain ⟨Ao6, co6, eo6⟩ := Kd.R_slice HO_5.out
          subst eo6
          go_wp2
          go_loopg [7] k1 (fun kq v7 w' => ∃ (x7_2 : Int), v7 = .int .i64 x7_2 ∧ Aside0 (latinerref15_Unfold.l1 kq x4_1 x5_1 x6_1 x7_2 = some (r1, r2)) ∧ Aside0 (kq ≤ k1) ∧ Aside0 (Kd.R Kd.string 9 w' w.heap.size (fun k_ => some k_ ≠ ((.slice Ao6 x5_1.length co6) : Value).ownBlock) u4 x4_1) ∧ Aside0 (Kd.R Kd.string 9 w' w.heap.size (fun k_ => some k_ ≠ (u4 : Value).ownBlock) (.slice Ao6 x5_1.length co6) x5_1) ∧ Aside0 (Below w.heap.size w w'))
          case atStart => exact ⟨(0), (by first | rfl | (simp; done) | (simp [*]; done)), H', ⟨Nat.le_refl _⟩, ⟨by (with_reducible repeat (first | apply Kd.R_alloc | apply Kd.R_drewN | apply Kd.R_drew)); exact HO_4.out⟩, ⟨by (with_reducible repeat (first | apply Kd.R_alloc | apply Kd.R_drewN | apply Kd.R_drew)); exact HO_5.out⟩, ⟨by repeat (first | (with_reducible first | exact HB.out | apply below_alloc | apply pw_below_drewN | apply below_drew1) | exact HB.out)⟩⟩
          case round =>
            clear H'
            try clear c1
            try clear c2
            try clear c2b0
            try clear c2b1
            try clear p2
            try clear c3
            try clear c5
            try clear c5b0
            try clear p2
            obtain ⟨x7_2, rfl, HA, HK2, HO_4, HO_5, HB⟩ := hrel
            cases gk with
            | zero => exact absurd HA.out (by simp [latinerref15_Unfold.l1])
            | succ k2 =>
              have H := HA.out
              clear HA
              simp only [latinerref15_Unfold.l1] at H
              by_cases c7 : 0 ≤ x6_1
              · rw [if_pos c7] at H
                have c7b0 : decide (0 ≤ x6_1) = true := decide_eq_true c7
                clear c7
                by_cases c8 : x6_1 < (x5_1.length : Int)
                · rw [if_pos c8] at H
                  have c8b0 : decide (x6_1 < (x5_1.length : Int)) = true := decide_eq_true c8
                  clear c8
                  by_cases c9 : x7_2 < ((rdOf ByteArray.empty x5_1 x6_1).size : Int)
                  · rw [if_pos c9] at H
                    have c9b0 : decide (x7_2 < ((rdOf ByteArray.empty x5_1 x6_1).size : Int)) = true := decide_eq_true c9
                    clear c9
                    by_cases c10 : 0 ≤ x7_2
                    · rw [if_pos c10] at H
                      have c10b0 : decide (0 ≤ x7_2) = true := decide_eq_true c10
                      clear c10
                      by_cases c12 : (bt (rdOf ByteArray.empty x5_1 x6_1) x7_2) = 0
                      · rw [if_pos c12] at H
                        have c12b0 : ((bt (rdOf ByteArray.empty x5_1 x6_1) x7_2) == 0) = true := beq_iff_eq.mpr c12
                        have c12b1 : ((bt (rdOf ByteArray.empty x5_1 x6_1) x7_2) != 0) = false := bne_eq_false_iff_eq.mpr c12
                        clear c12
                        simp only [Option.some.injEq, Prod.mk.injEq] at H
                        obtain ⟨rfl, rfl⟩ := H
                        have p142 : 0 ≤ (x6_1 : Int) := of_decide_eq_true (by first | (with_reducible assumption) | assumption)
                        have q142 : x6_1 < (x5_1.length : Int) := of_decide_eq_true (by first | (with_reducible assumption) | assumption)
                        obtain ⟨ad142, e142, hx142_0⟩ := Kd.at_string (Kd.R_reads' HO_5.out).2.2 x6_1 p142 q142
                        cases e142
                        replace p142 := eq_true p142
                        replace q142 := eq_true q142
                        have p143 : 0 ≤ (x6_1 : Int) := of_decide_eq_true (by first | (with_reducible assumption) | assumption)
                        have q143 : x6_1 < (x5_1.length : Int) := of_decide_eq_true (by first | (with_reducible assumption) | assumption)
                        obtain ⟨ad143, e143, hx143_0⟩ := Kd.at_string (Kd.R_reads' HO_5.out).2.2 x6_1 p143 q143
                        obtain rfl : ad142 = ad143 := (by injection e143)
                        replace p143 := eq_true p143
                        replace q143 := eq_true q143
                        have p11 : 0 ≤ (x7_2 : Int) := of_decide_eq_true (by first | (with_reducible assumption) | assumption)
                        have q11 : x7_2 < ((rdOf ByteArray.empty x5_1 x6_1).size : Int) := of_decide_eq_true (by first | (with_reducible assumption) | assumption)
                        have hx11 := bt_at (rdOf ByteArray.empty x5_1 x6_1) x7_2
                        replace p11 := eq_true p11
                        replace q11 := eq_true q11
                        go_wp2
                        go_ret2
                        exact ⟨_, by first | rfl | (simp [errW_none, errW_some] <;> rfl) | (simp [*, errW_none, errW_some] <;> rfl), by first | exact Kd.R_nil _ _ _ _ _ | exact Kd.N_nil _ _ _ _ _ | exact Kd.V_nil _ _ _ _ _ | exact Kd.Q_nil _ _ _ _ _ | exact Kd.S_nil _ _ _ _ _, by repeat (first | (with_reducible first | exact HB.out | apply below_alloc | apply pw_below_drewN | apply below_drew1) | exact HB.out)⟩
                      · rw [if_neg c12] at H
                        have c12b0 : ((bt (rdOf ByteArray.empty x5_1 x6_1) x7_2) == 0) = false := beq_eq_false_iff_ne.mpr c12
                        have c12b1 : ((bt (rdOf ByteArray.empty x5_1 x6_1) x7_2) != 0) = true := bne_iff_ne.mpr c12
                        by_cases c14 : (bt (rdOf ByteArray.empty x5_1 x6_1) x7_2) > 127
                        · rw [if_pos c14] at H
                          have c14b0 : decide (127 < (bt (rdOf ByteArray.empty x5_1 x6_1) x7_2)) = true := decide_eq_true c14
                          clear c14
                          simp only [Option.some.injEq, Prod.mk.injEq] at H
                          obtain ⟨rfl, rfl⟩ := H
                          have p142 : 0 ≤ (x6_1 : Int) := of_decide_eq_true (by first | (with_reducible assumption) | assumption)
                          have q142 : x6_1 < (x5_1.length : Int) := of_decide_eq_true (by first | (with_reducible assumption) | assumption)
                          obtain ⟨ad142, e142, hx142_0⟩ := Kd.at_string (Kd.R_reads' HO_5.out).2.2 x6_1 p142 q142
                          cases e142
                          replace p142 := eq_true p142
                          replace q142 := eq_true q142
                          have p143 : 0 ≤ (x6_1 : Int) := of_decide_eq_true (by first | (with_reducible assumption) | assumption)
                          have q143 : x6_1 < (x5_1.length : Int) := of_decide_eq_true (by first | (with_reducible assumption) | assumption)
                          obtain ⟨ad143, e143, hx143_0⟩ := Kd.at_string (Kd.R_reads' HO_5.out).2.2 x6_1 p143 q143
                          obtain rfl : ad142 = ad143 := (by injection e143)
                          replace p143 := eq_true p143
                          replace q143 := eq_true q143
                          have p11 : 0 ≤ (x7_2 : Int) := of_decide_eq_true (by first | (with_reducible assumption) | assumption)
                          have q11 : x7_2 < ((rdOf ByteArray.empty x5_1 x6_1).size : Int) := of_decide_eq_true (by first | (with_reducible assumption) | assumption)
                          have hx11 := bt_at (rdOf ByteArray.empty x5_1 x6_1) x7_2
                          replace p11 := eq_true p11
                          replace q11 := eq_true q11
                          have p144 : 0 ≤ (x6_1 : Int) := of_decide_eq_true (by first | (with_reducible assumption) | assumption)
                          have q144 : x6_1 < (x5_1.length : Int) := of_decide_eq_true (by first | (with_reducible assumption) | assumption)
                          obtain ⟨ad144, e144, hx144_0⟩ := Kd.at_string (Kd.R_reads' HO_5.out).2.2 x6_1 p144 q144
                          obtain rfl : ad142 = ad144 := (by injection e144)
                          replace p144 := eq_true p144
                          replace q144 := eq_true q144
                          have p13 : 0 ≤ (x7_2 : Int) := of_decide_eq_true (by first | (with_reducible assumption) | assumption)
                          have q13 : x7_2 < ((rdOf ByteArray.empty x5_1 x6_1).size : Int) := of_decide_eq_true (by first | (with_reducible assumption) | assumption)
                          have hx13 := bt_at (rdOf ByteArray.empty x5_1 x6_1) x7_2
                          replace p13 := eq_true p13
                          replace q13 := eq_true q13
                          go_wp2
                          go_ret2
                          exact ⟨_, by first | rfl | (simp [errW_none, errW_some] <;> rfl) | (simp [*, errW_none, errW_some] <;> rfl), by first | exact Kd.R_nil _ _ _ _ _ | exact Kd.N_nil _ _ _ _ _ | exact Kd.V_nil _ _ _ _ _ | exact Kd.Q_nil _ _ _ _ _ | exact Kd.S_nil _ _ _ _ _, by repeat (first | (with_reducible first | exact HB.out | apply below_alloc | apply pw_below_drewN | apply below_drew1) | exact HB.out)⟩
                        · rw [if_neg c14] at H
                          have c14b0 : decide (127 < (bt (rdOf ByteArray.empty x5_1 x6_1) x7_2)) = false := decide_eq_false c14
                          clear c14
                          by_cases c16 : (bt (rdOf ByteArray.empty x5_1 x6_1) x7_2) = 13
                          · rw [if_pos c16] at H
                            have c16b0 : ((bt (rdOf ByteArray.empty x5_1 x6_1) x7_2) == 13) = true := beq_iff_eq.mpr c16
                            have c16b1 : ((bt (rdOf ByteArray.empty x5_1 x6_1) x7_2) != 13) = false := bne_eq_false_iff_eq.mpr c16
                            clear c16
                            simp only [Option.some.injEq, Prod.mk.injEq] at H
                            obtain ⟨rfl, rfl⟩ := H
                            have p142 : 0 ≤ (x6_1 : Int) := of_decide_eq_true (by first | (with_reducible assumption) | assumption)
                            have q142 : x6_1 < (x5_1.length : Int) := of_decide_eq_true (by first | (with_reducible assumption) | assumption)
                            obtain ⟨ad142, e142, hx142_0⟩ := Kd.at_string (Kd.R_reads' HO_5.out).2.2 x6_1 p142 q142
                            cases e142
                            replace p142 := eq_true p142
                            replace q142 := eq_true q142
                            have p143 : 0 ≤ (x6_1 : Int) := of_decide_eq_true (by first | (with_reducible assumption) | assumption)
                            have q143 : x6_1 < (x5_1.length : Int) := of_decide_eq_true (by first | (with_reducible assumption) | assumption)
                            obtain ⟨ad143, e143, hx143_0⟩ := Kd.at_string (Kd.R_reads' HO_5.out).2.2 x6_1 p143 q143
                            obtain rfl : ad142 = ad143 := (by injection e143)
                            replace p143 := eq_true p143
                            replace q143 := eq_true q143
                            have p11 : 0 ≤ (x7_2 : Int) := of_decide_eq_true (by first | (with_reducible assumption) | assumption)
                            have q11 : x7_2 < ((rdOf ByteArray.empty x5_1 x6_1).size : Int) := of_decide_eq_true (by first | (with_reducible assumption) | assumption)
                            have hx11 := bt_at (rdOf ByteArray.empty x5_1 x6_1) x7_2
                            replace p11 := eq_true p11
                            replace q11 := eq_true q11
                            have p144 : 0 ≤ (x6_1 : Int) := of_decide_eq_true (by first | (with_reducible assumption) | assumption)
                            have q144 : x6_1 < (x5_1.length : Int) := of_decide_eq_true (by first | (with_reducible assumption) | assumption)
                            obtain ⟨ad144, e144, hx144_0⟩ := Kd.at_string (Kd.R_reads' HO_5.out).2.2 x6_1 p144 q144
                            obtain rfl : ad142 = ad144 := (by injection e144)
                            replace p144 := eq_true p144
                            replace q144 := eq_true q144
                            have p13 : 0 ≤ (x7_2 : Int) := of_decide_eq_true (by first | (with_reducible assumption) | assumption)
                            have q13 : x7_2 < ((rdOf ByteArray.empty x5_1 x6_1).size : Int) := of_decide_eq_true (by first | (with_reducible assumption) | assumption)
                            have hx13 := bt_at (rdOf ByteArray.empty x5_1 x6_1) x7_2
                            replace p13 := eq_true p13
                            replace q13 := eq_true q13
                            have p145 : 0 ≤ (x6_1 : Int) := of_decide_eq_true (by first | (with_reducible assumption) | assumption)
                            have q145 : x6_1 < (x5_1.length : Int) := of_decide_eq_true (by first | (with_reducible assumption) | assumption)
                            obtain ⟨ad145, e145, hx145_0⟩ := Kd.at_string (Kd.R_reads' HO_5.out).2.2 x6_1 p145 q145
                            obtain rfl : ad142 = ad145 := (by injection e145)
                            replace p145 := eq_true p145
                            replace q145 := eq_true q145
                            have p15 : 0 ≤ (x7_2 : Int) := of_decide_eq_true (by first | (with_reducible assumption) | assumption)
                            have q15 : x7_2 < ((rdOf ByteArray.empty x5_1 x6_1).size : Int) := of_decide_eq_true (by first | (with_reducible assumption) | assumption)
                            have hx15 := bt_at (rdOf ByteArray.empty x5_1 x6_1) x7_2
                            replace p15 := eq_true p15
                            replace q15 := eq_true q15
                            go_wp2
                            go_ret2
                            exact ⟨_, by first | rfl | (simp [errW_none, errW_some] <;> rfl) | (simp [*, errW_none, errW_some] <;> rfl), by first | exact Kd.R_nil _ _ _ _ _ | exact Kd.N_nil _ _ _ _ _ | exact Kd.V_nil _ _ _ _ _ | exact Kd.Q_nil _ _ _ _ _ | exact Kd.S_nil _ _ _ _ _, by repeat (first | (with_reducible first | exact HB.out | apply below_alloc | apply pw_below_drewN | apply below_drew1) | exact HB.out)⟩
                          · rw [if_neg c16] at H
                            have c16b0 : ((bt (rdOf ByteArray.empty x5_1 x6_1) x7_2) == 13) = false := beq_eq_false_iff_ne.mpr c16
                            have c16b1 : ((bt (rdOf ByteArray.empty x5_1 x6_1) x7_2) != 13) = true := bne_iff_ne.mpr c16
                            have H' := Aside0.mk H
                            clear H
                            have p142 : 0 ≤ (x6_1 : Int) := of_decide_eq_true (by first | (with_reducible assumption) | assumption)
                            have q142 : x6_1 < (x5_1.length : Int) := of_decide_eq_true (by first | (with_reducible assumption) | assumption)
                            obtain ⟨ad142, e142, hx142_0⟩ := Kd.at_string (Kd.R_reads' HO_5.out).2.2 x6_1 p142 q142
                            cases e142
                            replace p142 := eq_true p142
                            replace q142 := eq_true q142
                            have p143 : 0 ≤ (x6_1 : Int) := of_decide_eq_true (by first | (with_reducible assumption) | assumption)
                            have q143 : x6_1 < (x5_1.length : Int) := of_decide_eq_true (by first | (with_reducible assumption) | assumption)
                            obtain ⟨ad143, e143, hx143_0⟩ := Kd.at_string (Kd.R_reads' HO_5.out).2.2 x6_1 p143 q143
                            obtain rfl : ad142 = ad143 := (by injection e143)
                            replace p143 := eq_true p143
                            replace q143 := eq_true q143
                            have p11 : 0 ≤ (x7_2 : Int) := of_decide_eq_true (by first | (with_reducible assumption) | assumption)
                            have q11 : x7_2 < ((rdOf ByteArray.empty x5_1 x6_1).size : Int) := of_decide_eq_true (by first | (with_reducible assumption) | assumption)
                            have hx11 := bt_at (rdOf ByteArray.empty x5_1 x6_1) x7_2
                            replace p11 := eq_true p11
                            replace q11 := eq_true q11
                            have p144 : 0 ≤ (x6_1 : Int) := of_decide_eq_true (by first | (with_reducible assumption) | assumption)
                            have q144 : x6_1 < (x5_1.length : Int) := of_decide_eq_true (by first | (with_reducible assumption) | assumption)
                            obtain ⟨ad144, e144, hx144_0⟩ := Kd.at_string (Kd.R_reads' HO_5.out).2.2 x6_1 p144 q144
                            obtain rfl : ad142 = ad144 := (by injection e144)
                            replace p144 := eq_true p144
                            replace q144 := eq_true q144
                            have p13 : 0 ≤ (x7_2 : Int) := of_decide_eq_true (by first | (with_reducible assumption) | assumption)
                            have q13 : x7_2 < ((rdOf ByteArray.empty x5_1 x6_1).size : Int) := of_decide_eq_true (by first | (with_reducible assumption) | assumption)
                            have hx13 := bt_at (rdOf ByteArray.empty x5_1 x6_1) x7_2
                            replace p13 := eq_true p13
                            replace q13 := eq_true q13
                            have p145 : 0 ≤ (x6_1 : Int) := of_decide_eq_true (by first | (with_reducible assumption) | assumption)
                            have q145 : x6_1 < (x5_1.length : Int) := of_decide_eq_true (by first | (with_reducible assumption) | assumption)
                            obtain ⟨ad145, e145, hx145_0⟩ := Kd.at_string (Kd.R_reads' HO_5.out).2.2 x6_1 p145 q145
                            obtain rfl : ad142 = ad145 := (by injection e145)
                            replace p145 := eq_true p145
                            replace q145 := eq_true q145
                            have p15 : 0 ≤ (x7_2 : Int) := of_decide_eq_true (by first | (with_reducible assumption) | assumption)
                            have q15 : x7_2 < ((rdOf ByteArray.empty x5_1 x6_1).size : Int) := of_decide_eq_true (by first | (with_reducible assumption) | assumption)
                            have hx15 := bt_at (rdOf ByteArray.empty x5_1 x6_1) x7_2
                            replace p15 := eq_true p15
                            replace q15 := eq_true q15
                            go_wp2
                            go_roundg k2
                            case measure => have := HK1.out; have := HK2.out; omega
                            case rel => exact ⟨(wrap64 (x7_2 + 1)), (by first | rfl | (simp; done) | (simp [*]; done)), H', ⟨by have := HK1.out; have := HK2.out; omega⟩, ⟨by (with_reducible repeat (first | apply Kd.R_alloc | apply Kd.R_drewN | apply Kd.R_drew)); exact HO_4.out⟩, ⟨by (with_reducible repeat (first | apply Kd.R_alloc | apply Kd.R_drewN | apply Kd.R_drew)); exact HO_5.out⟩, ⟨by repeat (first | (with_reducible first | exact HB.out | apply below_alloc | apply pw_below_drewN | apply below_drew1) | exact HB.out)⟩⟩
                    · rw [if_neg c10] at H
                      exact absurd H (by simp)
                  · rw [if_neg c9] at H
                    have c9b0 : decide (x7_2 < ((rdOf ByteArray.empty x5_1 x6_1).size : Int)) = false := decide_eq_false c9
                    clear c9
                    have HC17 := Aside0.mk H
                    clear H
                    have p142 : 0 ≤ (x6_1 : Int) := of_decide_eq_true (by first | (with_reducible assumption) | assumption)
                    have q142 : x6_1 < (x5_1.length : Int) := of_decide_eq_true (by first | (with_reducible assumption) | assumption)
                    obtain ⟨ad142, e142, hx142_0⟩ := Kd.at_string (Kd.R_reads' HO_5.out).2.2 x6_1 p142 q142
                    cases e142
                    replace p142 := eq_true p142
                    replace q142 := eq_true q142
                    go_upto_region 13 with (fail)
                    go_cut [67] (fun v67 wc => ∃ (kq : Nat) (x67_16 : Bool), v67 = .bool x67_16 ∧ Aside0 (latinerref15_Unfold.j2 kq x4_1 x5_1 x6_1 x67_16 = some (r1, r2)) ∧ Aside0 (kq ≤ k2) ∧ Aside0 (Kd.R Kd.string 9 wc w.heap.size (fun k_ => some k_ ≠ ((.slice (some ad142) x5_1.length co6) : Value).ownBlock) u4 x4_1) ∧ Aside0 (Kd.R Kd.string 9 wc w.heap.size (fun k_ => some k_ ≠ (u4 : Value).ownBlock) (.slice (some ad142) x5_1.length co6) x5_1) ∧ Aside0 (Below w.heap.size w wc))
                    case first =>
                      have H := HC17.out
                      clear HC17
                      by_cases c18 : (rdOf ByteArray.empty x5_1 x6_1).toList = ([] : List UInt8)
                      · rw [if_pos c18] at H
                        have c18b0 : ((rdOf ByteArray.empty x5_1 x6_1).toList == ([] : List UInt8)) = true := beq_iff_eq.mpr c18
                        have c18b1 : ((rdOf ByteArray.empty x5_1 x6_1).toList != ([] : List UInt8)) = false := bne_eq_false_iff_eq.mpr c18
                        clear c18
                        (first | rw [c18b0] | (simp only [i64_w, i32_w]; rw [c18b0]) | skip)
                        have H' := Aside0.mk H
                        clear H
                        have p146 : 0 ≤ (x6_1 : Int) := of_decide_eq_true (by first | (with_reducible assumption) | assumption)
                        have q146 : x6_1 < (x5_1.length : Int) := of_decide_eq_true (by first | (with_reducible assumption) | assumption)
                        obtain ⟨ad146, e146, hx146_0⟩ := Kd.at_string (Kd.R_reads' HO_5.out).2.2 x6_1 p146 q146
                        obtain rfl : ad142 = ad146 := (by injection e146)
                        replace p146 := eq_true p146
                        replace q146 := eq_true q146
                        go_wp2
                        go_meet
                        case rel => exact ⟨_, (true), (by first | rfl | (simp; done) | (simp [*]; done)), H', ⟨by have := HK1.out; have := HK2.out; first | omega | exact Nat.le_refl _⟩, ⟨by (with_reducible repeat (first | apply Kd.R_alloc | apply Kd.R_drewN | apply Kd.R_drew)); exact HO_4.out⟩, ⟨by (with_reducible repeat (first | apply Kd.R_alloc | apply Kd.R_drewN | apply Kd.R_drew)); exact HO_5.out⟩, ⟨by repeat (first | (with_reducible first | exact HB.out | apply below_alloc | apply pw_below_drewN | apply below_drew1) | exact HB.out)⟩⟩
                      · rw [if_neg c18] at H
                        have c18b0 : ((rdOf ByteArray.empty x5_1 x6_1).toList == ([] : List UInt8)) = false := beq_eq_false_iff_ne.mpr c18
                        have c18b1 : ((rdOf ByteArray.empty x5_1 x6_1).toList != ([] : List UInt8)) = true := bne_iff_ne.mpr c18
                        (first | rw [c18b0] | (simp only [i64_w, i32_w]; rw [c18b0]) | skip)
                        by_cases c19 : 0 < ((rdOf ByteArray.empty x5_1 x6_1).size : Int)
                        · rw [if_pos c19] at H
                          have c19b0 : decide (0 < ((rdOf ByteArray.empty x5_1 x6_1).size : Int)) = true := decide_eq_true c19
                          have c19b1 : decide (0 < (rdOf ByteArray.empty x5_1 x6_1).size) = true := decide_eq_true (by omega)
                          clear c19
                          have H' := Aside0.mk H
                          clear H
                          have p146 : 0 ≤ (x6_1 : Int) := of_decide_eq_true (by first | (with_reducible assumption) | assumption)
                          have q146 : x6_1 < (x5_1.length : Int) := of_decide_eq_true (by first | (with_reducible assumption) | assumption)
                          obtain ⟨ad146, e146, hx146_0⟩ := Kd.at_string (Kd.R_reads' HO_5.out).2.2 x6_1 p146 q146
                          obtain rfl : ad142 = ad146 := (by injection e146)
                          replace p146 := eq_true p146
                          replace q146 := eq_true q146
                          have p147 : 0 ≤ (x6_1 : Int) := of_decide_eq_true (by first | (with_reducible assumption) | assumption)
                          have q147 : x6_1 < (x5_1.length : Int) := of_decide_eq_true (by first | (with_reducible assumption) | assumption)
                          obtain ⟨ad147, e147, hx147_0⟩ := Kd.at_string (Kd.R_reads' HO_5.out).2.2 x6_1 p147 q147
                          obtain rfl : ad142 = ad147 := (by injection e147)
                          replace p147 := eq_true p147
                          replace q147 := eq_true q147
                          have p20 : 0 ≤ (0 : Int) := (by omega)
                          have q20 : 0 < (rdOf ByteArray.empty x5_1 x6_1).size := (by have : (0 : Int) < ((rdOf ByteArray.empty x5_1 x6_1).size : Int) := of_decide_eq_true (by first | (with_reducible assumption) | assumption); omega)
                          have hx20 : ∀ h : 0 < (rdOf ByteArray.empty x5_1 x6_1).size, (((rdOf ByteArray.empty x5_1 x6_1)[0]'h).toNat : Int) = bt (rdOf ByteArray.empty x5_1 x6_1) 0 := bt_at (rdOf ByteArray.empty x5_1 x6_1) 0
                          clear p20
                          have qi20 : (0 < ((rdOf ByteArray.empty x5_1 x6_1).size : Int)) = True := eq_true (of_decide_eq_true (by first | (with_reducible assumption) | assumption))
                          replace q20 := eq_true q20
                          go_wp2
                          go_meet
                          case rel => exact ⟨_, (((bt (rdOf ByteArray.empty x5_1 x6_1) 0) != 32)), (by first | rfl | (simp; done) | (simp [*]; done)), H', ⟨by have := HK1.out; have := HK2.out; first | omega | exact Nat.le_refl _⟩, ⟨by (with_reducible repeat (first | apply Kd.R_alloc | apply Kd.R_drewN | apply Kd.R_drew)); exact HO_4.out⟩, ⟨by (with_reducible repeat (first | apply Kd.R_alloc | apply Kd.R_drewN | apply Kd.R_drew)); exact HO_5.out⟩, ⟨by repeat (first | (with_reducible first | exact HB.out | apply below_alloc | apply pw_below_drewN | apply below_drew1) | exact HB.out)⟩⟩
                        · rw [if_neg c19] at H
                          exact absurd H (by simp)
                    case rest =>
                      clear HC17
                      try clear c1
                      try clear p1
                      try clear q1
                      try clear hx1
                      try clear c2
                      try clear c2b0
                      try clear c2b1
                      try clear p2
                      try clear q2
                      try clear hx2
                      try clear qi2
                      try clear c3
                      try clear c5
                      try clear c5b0
                      try clear p6
                      try clear c7
                      try clear c7b0
                      try clear c8
                      try clear c8b0
                      try clear c9
                      try clear c9b0
                      try clear c10
                      try clear c10b0
                      try clear p11
                      try clear q11
                      try clear hx11
                      try clear c12
                      try clear c12b0
                      try clear c12b1
                      try clear p13
                      try clear q13
                      try clear hx13
                      try clear c14
                      try clear c14b0
                      try clear p14
                      try clear q14
                      try clear hx14
                      try clear p15
                      try clear q15
                      try clear hx15
                      try clear c16
                      try clear c16b0
                      try clear c16b1
                      try clear c18
                      try clear c18b0
                      try clear c18b1
                      try clear c19
                      try clear c19b0
                      try clear c19b1
                      try clear p20
                      try clear q20
                      try clear hx20
                      try clear qi20
                      try clear hx142_0
                      try clear hx143_0
                      try clear hx144_0
                      try clear hx145_0
                      try clear hx146_0
                      try clear hx147_0
                      try clear p11
                      try clear p13
                      try clear p142
                      try clear p143
                      try clear p144
                      try clear p145
                      try clear p146
                      try clear p147
                      try clear p15
                      try clear p2
                      try clear p20
                      try clear q11
                      try clear q13
                      try clear q142
                      try clear q143
                      try clear q144
                      try clear q145
                      try clear q146
                      try clear q147
                      try clear q15
                      try clear q20
                      obtain ⟨kq, x67_16, rfl, HA, HJ16, HO_4, HO_5, HB⟩ := hcut
                      cases kq with
                      | zero => exact absurd HA.out (by simp [latinerref15_Unfold.j2])
                      | succ kj16 =>
                        have H := HA.out
                        clear HA
                        simp only [latinerref15_Unfold.j2] at H
                        by_cases c21 : x67_16 = true
                        · subst c21
                          have H1 : (if 0 ≤ x6_1 then (if x6_1 < (x5_1.length : Int) then (if x4_1.length < 8796093022208 then (latinerref15_Unfold.l0 kj16 (x4_1 ++ [rdOf ByteArray.empty x5_1 x6_1]) x5_1 (wrap64 (x6_1 + 1))) else (none)) else (none)) else (none)) = some (r1, r2) := by rw [if_pos rfl] at H; exact H
                          clear H
                          have H := H1
                          clear H1
                          by_cases c22 : 0 ≤ x6_1
                          · rw [if_pos c22] at H
                            have c22b0 : decide (0 ≤ x6_1) = true := decide_eq_true c22
                            clear c22
                            by_cases c23 : x6_1 < (x5_1.length : Int)
                            · rw [if_pos c23] at H
                              have c23b0 : decide (x6_1 < (x5_1.length : Int)) = true := decide_eq_true c23
                              clear c23
                              by_cases c24 : x4_1.length < 8796093022208
                              · rw [if_pos c24] at H
                                have LMc24 := Aside0.mk c24
                                clear c24
                                obtain ⟨y149, hy149⟩ : ∃ y_ : List ByteArray, y_ = (x4_1 ++ [rdOf ByteArray.empty x5_1 x6_1]) := ⟨_, rfl⟩
                                replace H : (latinerref15_Unfold.l0 kj16 y149 x5_1 (wrap64 (x6_1 + 1))) = some (r1, r2) := by first | (rw [hy149]; with_reducible exact H) | (have H2_ := (Option.bind_some _ _).symm.trans H; rw [hy149]; with_reducible exact H2_) | (have H2_ := (Option.bind_some _ _).symm.trans H; with_reducible exact H2_) | with_reducible exact H | (rw [hy149]; exact H) | exact H
                                have Ny149 := Aside0.mk hy149
                                clear hy149
                                have H' := Aside0.mk H
                                clear H
                                have p148 : 0 ≤ (x6_1 : Int) := of_decide_eq_true (by first | (with_reducible assumption) | assumption)
                                have q148 : x6_1 < (x5_1.length : Int) := of_decide_eq_true (by first | (with_reducible assumption) | assumption)
                                obtain ⟨ad148, e148, hx148_0⟩ := Kd.at_string (Kd.R_reads' HO_5.out).2.2 x6_1 p148 q148
                                obtain rfl : ad142 = ad148 := (by injection e148)
                                replace p148 := eq_true p148
                                replace q148 := eq_true q148
                                go_wp2_with (first | ((with_reducible refine own_gateB (b := .append) (xs := #[.tmp 68, .tmp 73]) rfl ?_); at_builtin; refine Kd.R_append Kd.string (w0 := w) w.heap.size rfl (.tmp 68) (.tmp 73) 27 9 (.string ⟨#[]⟩) 16 rfl Tryz.underlying27 info9 rfl (by decide) (by omega) u4 x4_1 (rdOf ByteArray.empty x5_1 x6_1) [.string (rdOf ByteArray.empty x5_1 x6_1)] (fun k_ => some k_ ≠ (.slice (some ad142) x5_1.length co6 : Value).ownBlock) (fun _ => False) rfl rfl ?aP (fun _ hk => hk.elim) ?aF ?aO ?aB ?aS ?aL ?_; (case aP => exact rfl); (case aB => exact (by repeat (first | (with_reducible first | exact HB.out | apply below_alloc | apply pw_below_drewN | apply below_drew1) | exact HB.out))); (case aF => exact (fun k_ hk => Kd.fresh' (Kd.R_lt (by (with_reducible repeat (first | apply Kd.R_alloc | apply Kd.R_drewN | apply Kd.R_drew)); exact HO_5.out)) k_ hk)); (case aO => exact (by (with_reducible repeat (first | apply Kd.R_alloc | apply Kd.R_drewN | apply Kd.R_drew)); exact HO_4.out)); (case aS => exact (below_size (by repeat (first | (with_reducible first | exact HB.out | apply below_alloc | apply pw_below_drewN | apply below_drew1) | exact HB.out)))); (case aL => have := LMc24.out; omega); intro v150 w25 ho hb hg hat; rw [← Ny149.out] at ho; have n0_ := Aside0.mk (Kd.R_after (ok := (fun _ => True)) (by (with_reducible repeat (first | apply Kd.R_alloc | apply Kd.R_drewN | apply Kd.R_drew)); exact Kd.R_mono HO_5.out (fun _ hk => ⟨trivial, hk⟩)) hg hat); have n1_ := Aside0.mk (hb); have n2_ := Aside0.mk (ho); clear HO_5; clear HB; clear HO_4; have HO_5 := n0_; have HB := n1_; have HO151 := n2_; clear n0_ n1_ n2_; clear ho hb hg hat))
                                go_roundg kj16
                                case measure => have := HK1.out; have := HK2.out; have := HJ16.out; omega
                                case rel => exact ⟨(y149), (x5_1), (wrap64 (x6_1 + 1)), (by first | rfl | (simp; done) | (simp [*]; done)), H', ⟨by have := HK1.out; have := HK2.out; have := HJ16.out; omega⟩, ⟨by (with_reducible repeat (first | apply Kd.R_alloc | apply Kd.R_drewN | apply Kd.R_drew)); exact HO151.out⟩, ⟨by (with_reducible repeat (first | apply Kd.R_alloc | apply Kd.R_drewN | apply Kd.R_drew)); exact Kd.R_mono HO_5.out (fun _ hk => hk.2)⟩, ⟨by repeat (first | (with_reducible first | exact HB.out | apply below_alloc | apply pw_below_drewN | apply below_drew1) | exact HB.out)⟩⟩
                              · rw [if_neg c24] at H
                                exact absurd H (by simp)
                            · rw [if_neg c23] at H
                              exact absurd H (by simp)
                          · rw [if_neg c22] at H
                            exact absurd H (by simp)
                        · replace c21 := Bool.eq_false_iff.mpr c21
                          subst c21
                          have H1 : (if x6_1 = 0 then (some (([] : List ByteArray), 150)) else (if 0 ≤ (wrap64 (x6_1 - 1)) then (if (wrap64 (x6_1 - 1)) < (x5_1.length : Int) then (if (rdOf ByteArray.empty x5_1 (wrap64 (x6_1 - 1))).toList = ([] : List UInt8) then (some (([] : List ByteArray), 150)) else (if 0 ≤ (wrap64 ((x4_1.length : Int) - 1)) then (if (wrap64 ((x4_1.length : Int) - 1)) < (x4_1.length : Int) then (if 0 ≤ x6_1 then (if x6_1 < (x5_1.length : Int) then (if 1 ≤ ((rdOf ByteArray.empty x5_1 x6_1).size : Int) then (if (rdOf ByteArray.empty x4_1 (wrap64 ((x4_1.length : Int) - 1))).size + ((rdOf ByteArray.empty x5_1 x6_1).extract 1 (rdOf ByteArray.empty x5_1 x6_1).size).size ≤ 9223372036854775807 then (latinerref15_Unfold.l0 kj16 (x4_1.set ((wrap64 ((x4_1.length : Int) - 1)) : Int).toNat ((rdOf ByteArray.empty x4_1 (wrap64 ((x4_1.length : Int) - 1))) ++ ((rdOf ByteArray.empty x5_1 x6_1).extract 1 (rdOf ByteArray.empty x5_1 x6_1).size))) x5_1 (wrap64 (x6_1 + 1))) else (none)) else (none)) else (none)) else (none)) else (none)) else (none))) else (none)) else (none))) = some (r1, r2) := by rw [if_neg (show ¬ (false = true) by decide)] at H; exact H
                          clear H
                          have H := H1
                          clear H1
                          by_cases c26 : x6_1 = 0
                          · rw [if_pos c26] at H
                            have c26b0 : (x6_1 == 0) = true := beq_iff_eq.mpr c26
                            have c26b1 : (x6_1 != 0) = false := bne_eq_false_iff_eq.mpr c26
                            clear c26
                            simp only [Option.some.injEq, Prod.mk.injEq] at H
                            obtain ⟨rfl, rfl⟩ := H
                            go_wp2
                            go_ret2
                            exact ⟨_, by first | rfl | (simp [errW_none, errW_some] <;> rfl) | (simp [*, errW_none, errW_some] <;> rfl), by first | exact Kd.R_nil _ _ _ _ _ | exact Kd.N_nil _ _ _ _ _ | exact Kd.V_nil _ _ _ _ _ | exact Kd.Q_nil _ _ _ _ _ | exact Kd.S_nil _ _ _ _ _, by repeat (first | (with_reducible first | exact HB.out | apply below_alloc | apply pw_below_drewN | apply below_drew1) | exact HB.out)⟩
                          · rw [if_neg c26] at H
                            have c26b0 : (x6_1 == 0) = false := beq_eq_false_iff_ne.mpr c26
                            have c26b1 : (x6_1 != 0) = true := bne_iff_ne.mpr c26
                            obtain ⟨ji27, hji27⟩ : ∃ j_ : Int, (wrap64 (x6_1 - 1)) = j_ := ⟨_, rfl⟩
                            replace H : (if 0 ≤ (ji27) then (if (ji27) < (x5_1.length : Int) then (if (rdOf ByteArray.empty x5_1 (ji27)).toList = ([] : List UInt8) then (some (([] : List ByteArray), 150)) else (if 0 ≤ (wrap64 ((x4_1.length : Int) - 1)) then (if (wrap64 ((x4_1.length : Int) - 1)) < (x4_1.length : Int) then (if 0 ≤ x6_1 then (if x6_1 < (x5_1.length : Int) then (if 1 ≤ ((rdOf ByteArray.empty x5_1 x6_1).size : Int) then (if (rdOf ByteArray.empty x4_1 (wrap64 ((x4_1.length : Int) - 1))).size + ((rdOf ByteArray.empty x5_1 x6_1).extract 1 (rdOf ByteArray.empty x5_1 x6_1).size).size ≤ 9223372036854775807 then (latinerref15_Unfold.l0 kj16 (x4_1.set ((wrap64 ((x4_1.length : Int) - 1)) : Int).toNat ((rdOf ByteArray.empty x4_1 (wrap64 ((x4_1.length : Int) - 1))) ++ ((rdOf ByteArray.empty x5_1 x6_1).extract 1 (rdOf ByteArray.empty x5_1 x6_1).size))) x5_1 (wrap64 (x6_1 + 1))) else (none)) else (none)) else (none)) else (none)) else (none)) else (none))) else (none)) else (none)) = some (r1, r2) := by first | (rw [hji27] at H; exact H) | (simp only [hji27] at H ⊢; exact H)
                            have hji27w : (IntKind.i64.wrap (x6_1 - 1)) = ji27 := (i64_w _).trans hji27
                            by_cases c28 : 0 ≤ (ji27)
                            · rw [if_pos c28] at H
                              have c28b0 : decide (0 ≤ (ji27)) = true := decide_eq_true c28
                              clear c28
                              by_cases c29 : (ji27) < (x5_1.length : Int)
                              · rw [if_pos c29] at H
                                have c29b0 : decide ((ji27) < (x5_1.length : Int)) = true := decide_eq_true c29
                                clear c29
                                by_cases c30 : (rdOf ByteArray.empty x5_1 (ji27)).toList = ([] : List UInt8)
                                · rw [if_pos c30] at H
                                  have c30b0 : ((rdOf ByteArray.empty x5_1 (ji27)).toList == ([] : List UInt8)) = true := beq_iff_eq.mpr c30
                                  have c30b1 : ((rdOf ByteArray.empty x5_1 (ji27)).toList != ([] : List UInt8)) = false := bne_eq_false_iff_eq.mpr c30
                                  clear c30
                                  simp only [Option.some.injEq, Prod.mk.injEq] at H
                                  obtain ⟨rfl, rfl⟩ := H
                                  have p152 : 0 ≤ ((ji27) : Int) := of_decide_eq_true (by first | (with_reducible assumption) | assumption)
                                  have q152 : (ji27) < (x5_1.length : Int) := of_decide_eq_true (by first | (with_reducible assumption) | assumption)
                                  obtain ⟨ad152, e152, hx152_0⟩ := Kd.at_string (Kd.R_reads' HO_5.out).2.2 (ji27) p152 q152
                                  obtain rfl : ad142 = ad152 := (by injection e152)
                                  replace p152 := eq_true p152
                                  replace q152 := eq_true q152
                                  go_wp2
                                  go_ret2
                                  exact ⟨_, by first | rfl | (simp [errW_none, errW_some] <;> rfl) | (simp only [← hji27]; first | rfl | (simp [errW_none, errW_some] <;> rfl)) | (simp [*, errW_none, errW_some] <;> rfl), by first | exact Kd.R_nil _ _ _ _ _ | exact Kd.N_nil _ _ _ _ _ | exact Kd.V_nil _ _ _ _ _ | exact Kd.Q_nil _ _ _ _ _ | exact Kd.S_nil _ _ _ _ _, by repeat (first | (with_reducible first | exact HB.out | apply below_alloc | apply pw_below_drewN | apply below_drew1) | exact HB.out)⟩
                                · rw [if_neg c30] at H
                                  have c30b0 : ((rdOf ByteArray.empty x5_1 (ji27)).toList == ([] : List UInt8)) = false := beq_eq_false_iff_ne.mpr c30
                                  have c30b1 : ((rdOf ByteArray.empty x5_1 (ji27)).toList != ([] : List UInt8)) = true := bne_iff_ne.mpr c30
                                  obtain ⟨ji31, hji31⟩ : ∃ j_ : Int, (wrap64 ((x4_1.length : Int) - 1)) = j_ := ⟨_, rfl⟩
                                  replace H : (if 0 ≤ (ji31) then (if (ji31) < (x4_1.length : Int) then (if 0 ≤ x6_1 then (if x6_1 < (x5_1.length : Int) then (if 1 ≤ ((rdOf ByteArray.empty x5_1 x6_1).size : Int) then (if (rdOf ByteArray.empty x4_1 (ji31)).size + ((rdOf ByteArray.empty x5_1 x6_1).extract 1 (rdOf ByteArray.empty x5_1 x6_1).size).size ≤ 9223372036854775807 then (latinerref15_Unfold.l0 kj16 (x4_1.set ((ji31) : Int).toNat ((rdOf ByteArray.empty x4_1 (ji31)) ++ ((rdOf ByteArray.empty x5_1 x6_1).extract 1 (rdOf ByteArray.empty x5_1 x6_1).size))) x5_1 (wrap64 (x6_1 + 1))) else (none)) else (none)) else (none)) else (none)) else (none)) else (none)) = some (r1, r2) := by first | (rw [hji31] at H; exact H) | (simp only [hji31] at H ⊢; exact H)
                                  have hji31w : (IntKind.i64.wrap ((x4_1.length : Int) - 1)) = ji31 := (i64_w _).trans hji31
                                  by_cases c32 : 0 ≤ (ji31)
                                  · rw [if_pos c32] at H
                                    have c32b0 : decide (0 ≤ (ji31)) = true := decide_eq_true c32
                                    clear c32
                                    by_cases c33 : (ji31) < (x4_1.length : Int)
                                    · rw [if_pos c33] at H
                                      have c33b0 : decide ((ji31) < (x4_1.length : Int)) = true := decide_eq_true c33
                                      clear c33
                                      by_cases c34 : 0 ≤ x6_1
                                      · rw [if_pos c34] at H
                                        have c34b0 : decide (0 ≤ x6_1) = true := decide_eq_true c34
                                        clear c34
                                        by_cases c35 : x6_1 < (x5_1.length : Int)
                                        · rw [if_pos c35] at H
                                          have c35b0 : decide (x6_1 < (x5_1.length : Int)) = true := decide_eq_true c35
                                          clear c35
                                          by_cases c36 : 1 ≤ ((rdOf ByteArray.empty x5_1 x6_1).size : Int)
                                          · rw [if_pos c36] at H
                                            have c36b0 := eq_true c36
                                            have c36b1 : decide (1 ≤ ((rdOf ByteArray.empty x5_1 x6_1).size : Int)) = true := decide_eq_true c36
                                            clear c36
                                            by_cases c37 : (rdOf ByteArray.empty x4_1 (ji31)).size + ((rdOf ByteArray.empty x5_1 x6_1).extract 1 (rdOf ByteArray.empty x5_1 x6_1).size).size ≤ 9223372036854775807
                                            · rw [if_pos c37] at H
                                              have c37b0 := eq_true c37
                                              have c37b1 : decide ((rdOf ByteArray.empty x4_1 (ji31)).size + ((rdOf ByteArray.empty x5_1 x6_1).extract 1 (rdOf ByteArray.empty x5_1 x6_1).size).size ≤ 9223372036854775807) = true := decide_eq_true c37
                                              try have c37b2 : (9223372036854775807 < (rdOf ByteArray.empty x4_1 (ji31)).size + ((rdOf ByteArray.empty x5_1 x6_1).extract 1 (rdOf ByteArray.empty x5_1 x6_1).size).size) = False := eq_false (Nat.not_lt.2 c37)
                                              obtain ⟨y155, hy155⟩ : ∃ y_ : List ByteArray, y_ = (x4_1.set ((ji31) : Int).toNat ((rdOf ByteArray.empty x4_1 (ji31)) ++ ((rdOf ByteArray.empty x5_1 x6_1).extract 1 (rdOf ByteArray.empty x5_1 x6_1).size))) := ⟨_, rfl⟩
                                              replace H : (latinerref15_Unfold.l0 kj16 y155 x5_1 (wrap64 (x6_1 + 1))) = some (r1, r2) := by first | (rw [hy155]; with_reducible exact H) | (have H2_ := (Option.bind_some _ _).symm.trans H; rw [hy155]; with_reducible exact H2_) | (have H2_ := (Option.bind_some _ _).symm.trans H; with_reducible exact H2_) | with_reducible exact H | (rw [hy155]; exact H) | exact H
                                              have Ny155 := Aside0.mk hy155
                                              clear hy155
                                              have H' := Aside0.mk H
                                              clear H
                                              have p152 : 0 ≤ ((ji27) : Int) := of_decide_eq_true (by first | (with_reducible assumption) | assumption)
                                              have q152 : (ji27) < (x5_1.length : Int) := of_decide_eq_true (by first | (with_reducible assumption) | assumption)
                                              obtain ⟨ad152, e152, hx152_0⟩ := Kd.at_string (Kd.R_reads' HO_5.out).2.2 (ji27) p152 q152
                                              obtain rfl : ad142 = ad152 := (by injection e152)
                                              replace p152 := eq_true p152
                                              replace q152 := eq_true q152
                                              try go_wp2
                                              have n0_ := Aside0.mk (Kd.R_drew HO_4.out)
                                              have n1_ := Aside0.mk (Kd.R_drew HO_5.out)
                                              have n2_ := Aside0.mk (below_drew1 HB.out)
                                              clear HO_4
                                              clear HO_5
                                              clear HB
                                              have HO_4 := n0_
                                              have HO_5 := n1_
                                              have HB := n2_
                                              clear n0_ n1_ n2_
                                              obtain ⟨Ao40, co40, eo40⟩ := Kd.R_slice HO_4.out
                                              (first | subst eo40 | (injection eo40 with f1_ f2_ f3_; have f4_ := f1_.symm; have f5_ := f3_.symm; clear f1_ f2_ f3_; subst f4_; subst f5_))
                                              have p153 : 0 ≤ ((ji31) : Int) := of_decide_eq_true (by first | (with_reducible assumption) | assumption)
                                              have q153 : (ji31) < (x4_1.length : Int) := of_decide_eq_true (by first | (with_reducible assumption) | assumption)
                                              obtain ⟨ad153, e153, hx153_0⟩ := Kd.at_string (Kd.R_reads' HO_4.out).2.2 (ji31) p153 q153
                                              cases e153
                                              replace p153 := eq_true p153
                                              replace q153 := eq_true q153
                                              have p154 : 0 ≤ (x6_1 : Int) := of_decide_eq_true (by first | (with_reducible assumption) | assumption)
                                              have q154 : x6_1 < (x5_1.length : Int) := of_decide_eq_true (by first | (with_reducible assumption) | assumption)
                                              obtain ⟨ad154, e154, hx154_0⟩ := Kd.at_string (Kd.R_reads' HO_5.out).2.2 x6_1 p154 q154
                                              obtain rfl : ad142 = ad154 := (by injection e154)
                                              replace p154 := eq_true p154
                                              replace q154 := eq_true q154
                                              have p38 : 0 ≤ ((ji31) : Int) := of_decide_eq_true (by first | (with_reducible assumption) | assumption)
                                              have q38 : ((ji31) : Int) < ((x4_1.length : Int) : Int) := of_decide_eq_true (by first | (with_reducible assumption) | assumption)
                                              obtain ⟨go38, co38, eo38, gb38, gl38, cl38, HG38⟩ := Kd.R_form HO_4.out (by omega)
                                              (first | cases eo38 | (injection eo38 with ea_ en_ ec_; (first | subst ea_ | (injection ea_ with ea_; subst ea_)); subst ec_; clear en_))
                                              have GB38 := Aside0.mk gb38
                                              have GG38 := Aside0.mk HG38
                                              clear gb38 gl38 HG38
                                              (first | simp only [add_plain] at hx153_0 | skip)
                                              obtain ⟨hx38_0, hf38_0⟩ := Kd.R_celln (⟨#[]⟩ : ByteArray) HO_4.out ((ji31) : Int) p38 q38
                                              replace p38 := eq_true p38
                                              replace q38 := eq_true q38
                                              have HP41 := Kd.R_putn HO_4.out ((ji31) : Int) ((rdOf ByteArray.empty x4_1 (ji31)) ++ ((rdOf ByteArray.empty x5_1 x6_1).extract 1 (rdOf ByteArray.empty x5_1 x6_1).size))
                                              rw [← Ny155.out] at HP41
                                              have HQ41 := Aside0.mk HP41
                                              clear HP41
                                              refine start_ (n := 18) (S := fun w' => w'.cell? ⟨go38, ((ji31)).toNat, none⟩ = some (.string (rdOf ByteArray.empty x4_1 (ji31))) ∧ w'.cell? (ad142.add (x6_1).toNat) = some (.string (rdOf ByteArray.empty x5_1 x6_1))) (ds := [17]) #[false, false, false, false, false, false, false, false, false, false, false, false, false, false, false, false, false, false] (by kernel_rfl) rfl rfl ⟨hx153_0, hx154_0⟩ (fun hHeld => ?_); refine with_tabW latinerref15_Unfold.tab17 latinerref15_Unfold.bits17 (fun HT_ HW_ => ?_)
                                              generalize wc.drew = w39 at HO_4 HO_5 HB GG38 HQ41 hf38_0 hx153_0 hx154_0 hx38_0 hHeld ⊢
                                              refine pure_ (i := 0) (N := some 85) (v := ?_) (a' := ?_) #[true, false, false, false, false, false, false, false, false, false, false, false, false, false, false, false, false, false] rfl rfl (any_of HT_.out (by kernel_rfl)) (fun _ _ _ h => h) (Or.inl ⟨by rfl, ?_⟩) ?_ ?_
                                              rotate_left
                                              · intro w'
                                                go_simp
                                                first | with_reducible rfl | (rw [if_neg (by have q_ := c37; simp at q_; omega)]; done) | (rw [if_neg (by have q_ := c37; simp at q_; omega)]; rfl)
                                              rotate_left
                                              · simp only [Act.put, List.setIfInBounds_toArray, List.set_cons_zero, List.set_cons_succ, i64_w, i32_w]
                                                rfl
                                              refine pure_ (i := 1) (N := some 86) (v := ?_) (a' := ?_) #[true, true, false, false, false, false, false, false, false, false, false, false, false, false, false, false, false, false] rfl rfl (any_of HT_.out (by kernel_rfl)) (fun _ _ _ h => h) (Or.inl ⟨by rfl, ?_⟩) ?_ ?_
                                              rotate_left
                                              · intro w'
                                                go_simp
                                                first | with_reducible rfl | (rw [if_neg (by have q_ := c37; simp at q_; omega)]; done) | (rw [if_neg (by have q_ := c37; simp at q_; omega)]; rfl)
                                              rotate_left
                                              · simp only [Act.put, List.setIfInBounds_toArray, List.set_cons_zero, List.set_cons_succ, i64_w, i32_w]
                                                rfl
                                              refine pure_ (i := 2) (N := some 87) (v := ?_) (a' := ?_) #[true, true, true, false, false, false, false, false, false, false, false, false, false, false, false, false, false, false] rfl rfl (any_of HT_.out (by kernel_rfl)) (fun _ _ _ h => h) (Or.inl ⟨by rfl, ?_⟩) ?_ ?_
                                              rotate_left
                                              · intro w'
                                                go_simp
                                                first | with_reducible rfl | (rw [if_neg (by have q_ := c37; simp at q_; omega)]; done) | (rw [if_neg (by have q_ := c37; simp at q_; omega)]; rfl)
                                              rotate_left
                                              · simp only [Act.put, List.setIfInBounds_toArray, List.set_cons_zero, List.set_cons_succ, i64_w, i32_w]
                                                rfl
                                              refine pure_ (i := 3) (N := some 88) (v := ?_) (a' := ?_) #[true, true, true, true, false, false, false, false, false, false, false, false, false, false, false, false, false, false] rfl rfl (any_of HT_.out (by kernel_rfl)) (fun _ _ _ h => h) (Or.inl ⟨by rfl, ?_⟩) ?_ ?_
                                              rotate_left
                                              · intro w'
                                                go_simp
                                                first | with_reducible rfl | (rw [if_neg (by have q_ := c37; simp at q_; omega)]; done) | (rw [if_neg (by have q_ := c37; simp at q_; omega)]; rfl)
                                              rotate_left
                                              · simp only [Act.put, List.setIfInBounds_toArray, List.set_cons_zero, List.set_cons_succ, i64_w, i32_w]
                                                rfl
                                              refine pure_ (i := 4) (N := some 89) (v := ?_) (a' := ?_) #[true, true, true, true, true, false, false, false, false, false, false, false, false, false, false, false, false, false] rfl rfl (any_of HT_.out (by kernel_rfl)) (fun _ _ _ h => h) (Or.inl ⟨by rfl, ?_⟩) ?_ ?_
                                              rotate_left
                                              · intro w'
                                                go_simp
                                                first | with_reducible rfl | (rw [if_neg (by have q_ := c37; simp at q_; omega)]; done) | (rw [if_neg (by have q_ := c37; simp at q_; omega)]; rfl)
                                              rotate_left
                                              · simp only [Act.put, List.setIfInBounds_toArray, List.set_cons_zero, List.set_cons_succ, i64_w, i32_w]
                                                rfl
                                              refine pure_ (i := 5) (N := some 90) (v := ?_) (a' := ?_) #[true, true, true, true, true, true, false, false, false, false, false, false, false, false, false, false, false, false] rfl rfl (any_of HT_.out (by kernel_rfl)) (fun _ _ _ h => h) (Or.inl ⟨by rfl, ?_⟩) ?_ ?_
                                              rotate_left
                                              · intro w'
                                                go_simp
                                                first | with_reducible rfl | (rw [if_neg (by have q_ := c37; simp at q_; omega)]; done) | (rw [if_neg (by have q_ := c37; simp at q_; omega)]; rfl)
                                              rotate_left
                                              · simp only [Act.put, List.setIfInBounds_toArray, List.set_cons_zero, List.set_cons_succ, i64_w, i32_w]
                                                rfl
                                              refine pure_ (i := 6) (N := some 91) (v := ?_) (a' := ?_) #[true, true, true, true, true, true, true, false, false, false, false, false, false, false, false, false, false, false] rfl rfl (any_of HT_.out (by kernel_rfl)) (fun _ _ _ h => h) (Or.inl ⟨by rfl, ?_⟩) ?_ ?_
                                              rotate_left
                                              · intro w'
                                                go_simp
                                                first | with_reducible rfl | (rw [if_neg (by have q_ := c37; simp at q_; omega)]; done) | (rw [if_neg (by have q_ := c37; simp at q_; omega)]; rfl)
                                              rotate_left
                                              · simp only [Act.put, List.setIfInBounds_toArray, List.set_cons_zero, List.set_cons_succ, i64_w, i32_w]
                                                rfl
                                              refine pure_ (i := 7) (N := some 92) (v := ?_) (a' := ?_) #[true, true, true, true, true, true, true, true, false, false, false, false, false, false, false, false, false, false] rfl rfl (any_of HT_.out (by kernel_rfl)) (fun _ _ _ h => h) (Or.inl ⟨by rfl, ?_⟩) ?_ ?_
                                              rotate_left
                                              · intro w'
                                                go_simp
                                                first | with_reducible rfl | (rw [if_neg (by have q_ := c37; simp at q_; omega)]; done) | (rw [if_neg (by have q_ := c37; simp at q_; omega)]; rfl)
                                              rotate_left
                                              · simp only [Act.put, List.setIfInBounds_toArray, List.set_cons_zero, List.set_cons_succ, i64_w, i32_w]
                                                rfl
                                              refine pure_ (i := 8) (N := some 93) (v := ?_) (a' := ?_) #[true, true, true, true, true, true, true, true, true, false, false, false, false, false, false, false, false, false] rfl rfl (any_of HT_.out (by kernel_rfl)) (fun _ _ _ h => h) (Or.inl ⟨by rfl, ?_⟩) ?_ ?_
                                              rotate_left
                                              · intro w'
                                                go_simp
                                                first | with_reducible rfl | (rw [if_neg (by have q_ := c37; simp at q_; omega)]; done) | (rw [if_neg (by have q_ := c37; simp at q_; omega)]; rfl)
                                              rotate_left
                                              · simp only [Act.put, List.setIfInBounds_toArray, List.set_cons_zero, List.set_cons_succ, i64_w, i32_w]
                                                rfl
                                              refine pure_ (i := 10) (N := some 95) (v := ?_) (a' := ?_) #[true, true, true, true, true, true, true, true, true, false, true, false, false, false, false, false, false, false] rfl rfl (any_of HT_.out (by kernel_rfl)) (fun _ _ _ h => h) (Or.inl ⟨by rfl, ?_⟩) ?_ ?_
                                              rotate_left
                                              · intro w'
                                                go_simp
                                                first | with_reducible rfl | (rw [if_neg (by have q_ := c37; simp at q_; omega)]; done) | (rw [if_neg (by have q_ := c37; simp at q_; omega)]; rfl)
                                              rotate_left
                                              · simp only [Act.put, List.setIfInBounds_toArray, List.set_cons_zero, List.set_cons_succ, i64_w, i32_w]
                                                rfl
                                              refine pure_ (i := 11) (N := some 96) (v := ?_) (a' := ?_) #[true, true, true, true, true, true, true, true, true, false, true, true, false, false, false, false, false, false] rfl rfl (any_of HT_.out (by kernel_rfl)) (fun _ _ _ h => h) (Or.inl ⟨by rfl, ?_⟩) ?_ ?_
                                              rotate_left
                                              · intro w'
                                                go_simp
                                                first | with_reducible rfl | (rw [if_neg (by have q_ := c37; simp at q_; omega)]; done) | (rw [if_neg (by have q_ := c37; simp at q_; omega)]; rfl)
                                              rotate_left
                                              · simp only [Act.put, List.setIfInBounds_toArray, List.set_cons_zero, List.set_cons_succ, i64_w, i32_w]
                                                rfl
                                              refine pure_ (i := 12) (N := some 97) (v := ?_) (a' := ?_) #[true, true, true, true, true, true, true, true, true, false, true, true, true, false, false, false, false, false] rfl rfl (any_of HT_.out (by kernel_rfl)) (fun _ _ _ h => h) (Or.inl ⟨by rfl, ?_⟩) ?_ ?_
                                              rotate_left
                                              · intro w'
                                                go_simp
                                                first | with_reducible rfl | (rw [if_neg (by have q_ := c37; simp at q_; omega)]; done) | (rw [if_neg (by have q_ := c37; simp at q_; omega)]; rfl)
                                              rotate_left
                                              · simp only [Act.put, List.setIfInBounds_toArray, List.set_cons_zero, List.set_cons_succ, i64_w, i32_w]
                                                rfl
                                              refine take_ (i := 9) (N := some 94) (v := ?_) (a' := ?_) #[true, true, true, true, true, true, true, true, true, true, true, true, true, false, false, false, false, false] rfl rfl (take_ofW HT_.out HW_.out (by kernel_rfl)) (fun _ _ _ h => h) (Or.inl ⟨by rfl, ?_⟩) hHeld ?_ ?_
                                              rotate_left
                                              · rintro w' ⟨s0, s1⟩
                                                go_simp
                                                first | with_reducible rfl | (rw [if_neg (by have q_ := c37; simp at q_; omega)]; done) | (rw [if_neg (by have q_ := c37; simp at q_; omega)]; rfl)
                                              rotate_left
                                              · simp only [Act.put, List.setIfInBounds_toArray, List.set_cons_zero, List.set_cons_succ, i64_w, i32_w]
                                                rfl
                                              refine take_ (i := 13) (N := some 98) (v := ?_) (a' := ?_) #[true, true, true, true, true, true, true, true, true, true, true, true, true, true, false, false, false, false] rfl rfl (take_ofW HT_.out HW_.out (by kernel_rfl)) (fun _ _ _ h => h) (Or.inl ⟨by rfl, ?_⟩) hHeld ?_ ?_
                                              rotate_left
                                              · rintro w' ⟨s0, s1⟩
                                                go_simp
                                                first | with_reducible rfl | (rw [if_neg (by have q_ := c37; simp at q_; omega)]; done) | (rw [if_neg (by have q_ := c37; simp at q_; omega)]; rfl)
                                              rotate_left
                                              · simp only [Act.put, List.setIfInBounds_toArray, List.set_cons_zero, List.set_cons_succ, i64_w, i32_w]
                                                rfl
                                              refine pure_ (i := 14) (N := some 99) (v := ?_) (a' := ?_) #[true, true, true, true, true, true, true, true, true, true, true, true, true, true, true, false, false, false] rfl rfl (any_of HT_.out (by kernel_rfl)) (fun _ _ _ h => h) (Or.inl ⟨by rfl, ?_⟩) ?_ ?_
                                              rotate_left
                                              · intro w'
                                                go_simp
                                                first | with_reducible rfl | (rw [if_neg (by have q_ := c37; simp at q_; omega)]; done) | (rw [if_neg (by have q_ := c37; simp at q_; omega)]; rfl)
                                              rotate_left
                                              · simp only [Act.put, List.setIfInBounds_toArray, List.set_cons_zero, List.set_cons_succ, i64_w, i32_w]
                                                rfl
                                              refine pure_ (i := 15) (N := some 100) (v := ?_) (a' := ?_) #[true, true, true, true, true, true, true, true, true, true, true, true, true, true, true, true, false, false] rfl rfl (any_of HT_.out (by kernel_rfl)) (fun _ _ _ h => h) (Or.inl ⟨by rfl, ?_⟩) ?_ ?_
                                              rotate_left
                                              · intro w'
                                                go_simp
                                                first | with_reducible rfl | (rw [if_neg (by have q_ := c37; simp at q_; omega)]; done) | (rw [if_neg (by have q_ := c37; simp at q_; omega)]; rfl)
                                              rotate_left
                                              · simp only [Act.put, List.setIfInBounds_toArray, List.set_cons_zero, List.set_cons_succ, i64_w, i32_w]
                                                rfl
                                              refine pure_ (i := 16) (N := some 101) (v := ?_) (a' := ?_) #[true, true, true, true, true, true, true, true, true, true, true, true, true, true, true, true, true, false] rfl rfl (any_of HT_.out (by kernel_rfl)) (fun _ _ _ h => h) (Or.inl ⟨by rfl, ?_⟩) ?_ ?_
                                              rotate_left
                                              · intro w'
                                                go_simp
                                                first | with_reducible rfl | (rw [if_neg (by have q_ := c37; simp at q_; omega)]; done) | (rw [if_neg (by have q_ := c37; simp at q_; omega)]; rfl)
                                              rotate_left
                                              · simp only [Act.put, List.setIfInBounds_toArray, List.set_cons_zero, List.set_cons_succ, i64_w, i32_w]
                                                rfl
                                              refine last_ (i := 17) (N := none) #[true, true, true, true, true, true, true, true, true, true, true, true, true, true, true, true, true, true] rfl rfl (one_of HT_.out (by kernel_rfl)) (by decide) (fun K hK => ?_)
                                              refine skip_ (w1 := ?_) (by rfl) rfl ?_ ?_
                                              rotate_left
                                              · go_simp
                                                rfl
                                              refine hK.out _ _ ?_
                                              clear hK K
                                              refine done_ (done_of HT_.out (by kernel_rfl)) ?_
                                              try go_wp2
                                              go_roundg kj16
                                              case measure => have := HK1.out; have := HK2.out; have := HJ16.out; omega
                                              case rel => exact ⟨(y155), (x5_1), (wrap64 (x6_1 + 1)), (by first | rfl | (simp; done) | (simp [*]; done)), H', ⟨by have := HK1.out; have := HK2.out; have := HJ16.out; omega⟩, ⟨by (with_reducible repeat (first | apply Kd.R_alloc | apply Kd.R_drewN | apply Kd.R_drew)); exact HQ41.out⟩, ⟨by (with_reducible repeat (first | apply Kd.R_alloc | apply Kd.R_drewN | apply Kd.R_drew)); exact Kd.R_mono (Kd.R_far (p := ⟨go38, ((ji31) : Int).toNat, none⟩) (Kd.R_mono HO_5.out (fun k_ hk => (⟨hk, fun e_ => hk (by rw [e_]; rfl)⟩ : _ ∧ k_ ≠ go38))) (fun _ hk => hk.2) (.string ((rdOf ByteArray.empty x4_1 (ji31)) ++ ((rdOf ByteArray.empty x5_1 x6_1).extract 1 (rdOf ByteArray.empty x5_1 x6_1).size)))) (fun _ hk => hk.1)⟩, ⟨by repeat (first | (with_reducible first | exact HB.out | apply below_alloc | apply pw_below_drewN | apply below_drew1 | refine below_set ?_ GB38.out) | exact HB.out)⟩⟩
                                            · rw [if_neg c37] at H
                                              exact absurd H (by simp)
                                          · rw [if_neg c36] at H
                                            exact absurd H (by simp)
                                        · rw [if_neg c35] at H
                                          exact absurd H (by simp)
                                      · rw [if_neg c34] at H
                                        exact absurd H (by simp)
                                    · rw [if_neg c33] at H
                                      exact absurd H (by simp)
                                  · rw [if_neg c32] at H
                                    exact absurd H (by simp)
                              · rw [if_neg c29] at H
                                exact absurd H (by simp)
                            · rw [if_neg c28] at H
                              exact absurd H (by simp)
                · rw [if_neg c8] at H
                  exact absurd H (by simp)
              · rw [if_neg c7] at H
                exact absurd H (by simp)
        · rw [if_neg c5] at H
          have c5b0 : decide (x6_1 < (x5_1.length : Int)) = false := decide_eq_false c5
          clear c5
          have H' := Aside0.mk H
          clear H
          obtain ⟨Ao42, co42, eo42⟩ := Kd.R_slice HO_5.out
          subst eo42
          go_wp2
          all_goals first | (exfalso; have q_ := c37; simp at q_; omega) | skip
          go_loopg [8, 9] k1 (fun kq v8 v9 w' => ∃ (x8_2 : List ByteArray) (x9_2 : Int), v9 = .int .i64 x9_2 ∧ Aside0 (latinerref15_Unfold.l2 kq x4_1 x8_2 x9_2 = some (r1, r2)) ∧ Aside0 (kq ≤ k1) ∧ Aside0 (Kd.R Kd.string 9 w' w.heap.size (fun k_ => some k_ ≠ (v8 : Value).ownBlock) u4 x4_1) ∧ Aside0 (Kd.R Kd.string 9 w' w.heap.size (fun k_ => some k_ ≠ (u4 : Value).ownBlock) v8 x8_2) ∧ Aside0 (Below w.heap.size w w'))
          case atStart => exact ⟨(([] : List ByteArray)), (0), (by first | rfl | (simp; done) | (simp [*]; done)), H', ⟨Nat.le_refl _⟩, ⟨by (with_reducible repeat (first | apply Kd.R_alloc | apply Kd.R_drewN | apply Kd.R_drew)); exact Kd.R_mono HO_4.out (fun _ hk => (by simp [Value.ownBlock]))⟩, ⟨by first | exact Kd.R_nil _ _ _ _ _ | exact Kd.N_nil _ _ _ _ _ | exact Kd.V_nil _ _ _ _ _ | exact Kd.Q_nil _ _ _ _ _ | exact Kd.S_nil _ _ _ _ _⟩, ⟨by repeat (first | (with_reducible first | exact HB.out | apply below_alloc | apply pw_below_drewN | apply below_drew1) | exact HB.out)⟩⟩
          case round =>
            clear H'
            try clear c1
            try clear p1
            try clear q1
            try clear hx1
            try clear c2
            try clear c2b0
            try clear c2b1
            try clear p2
            try clear q2
            try clear hx2
            try clear qi2
            try clear c3
            try clear p3
            try clear q3
            try clear hx3
            try clear hf3
            try clear c5
            try clear c5b0
            try clear p6
            try clear c7
            try clear c7b0
            try clear c8
            try clear c8b0
            try clear c9
            try clear c9b0
            try clear c10
            try clear c10b0
            try clear p11
            try clear q11
            try clear hx11
            try clear c12
            try clear c12b0
            try clear c12b1
            try clear p13
            try clear q13
            try clear hx13
            try clear c14
            try clear c14b0
            try clear p14
            try clear q14
            try clear hx14
            try clear p15
            try clear q15
            try clear hx15
            try clear c16
            try clear c16b0
            try clear c16b1
            try clear c18
            try clear c18b0
            try clear c18b1
            try clear c19
            try clear c19b0
            try clear c19b1
            try clear p20
            try clear q20
            try clear hx20
            try clear qi20
            try clear c21
            try clear c22
            try clear c22b0
            try clear c23
            try clear c23b0
            try clear c24
            try clear c26
            try clear c26b0
            try clear c26b1
            try clear c28
            try clear c28b0
            try clear c29
            try clear c29b0
            try clear c30
            try clear c30b0
            try clear c30b1
            try clear c32
            try clear c32b0
            try clear c33
            try clear c33b0
            try clear c34
            try clear c34b0
            try clear c35
            try clear c35b0
            try clear c36
            try clear c36b0
            try clear c36b1
            try clear c37
            try clear c37b0
            try clear c37b1
            try clear c37b2
            try clear p38
            try clear q38
            try clear hx38
            try clear hf38
            try clear hx142_0
            try clear hx143_0
            try clear hx144_0
            try clear hx145_0
            try clear hx146_0
            try clear hx147_0
            try clear hx148_0
            try clear hx152_0
            try clear hx153_0
            try clear hx154_0
            try clear hx38_0
            try clear p1
            try clear p11
            try clear p13
            try clear p14
            try clear p142
            try clear p143
            try clear p144
            try clear p145
            try clear p146
            try clear p147
            try clear p148
            try clear p15
            try clear p152
            try clear p153
            try clear p154
            try clear p2
            try clear p20
            try clear p38
            try clear p6
            try clear q1
            try clear q11
            try clear q13
            try clear q14
            try clear q142
            try clear q143
            try clear q144
            try clear q145
            try clear q146
            try clear q147
            try clear q148
            try clear q15
            try clear q152
            try clear q153
            try clear q154
            try clear q2
            try clear q20
            try clear q38
            obtain ⟨x8_2, x9_2, rfl, HA, HK2, HO_4, HO_8, HB⟩ := hrel
            cases gk with
            | zero => exact absurd HA.out (by simp [latinerref15_Unfold.l2])
            | succ k2 =>
              have H := HA.out
              clear HA
              simp only [latinerref15_Unfold.l2] at H
              by_cases c43 : x9_2 < (x4_1.length : Int)
              · rw [if_pos c43] at H
                have c43b0 : decide (x9_2 < (x4_1.length : Int)) = true := decide_eq_true c43
                clear c43
                by_cases c44 : 0 ≤ x9_2
                · rw [if_pos c44] at H
                  have c44b0 : decide (0 ≤ x9_2) = true := decide_eq_true c44
                  clear c44
                  by_cases c45 : (rdOf ByteArray.empty x4_1 x9_2).toList = ([] : List UInt8)
                  · rw [if_pos c45] at H
                    have c45b0 : ((rdOf ByteArray.empty x4_1 x9_2).toList == ([] : List UInt8)) = true := beq_iff_eq.mpr c45
                    have c45b1 : ((rdOf ByteArray.empty x4_1 x9_2).toList != ([] : List UInt8)) = false := bne_eq_false_iff_eq.mpr c45
                    clear c45
                    by_cases c46 : x8_2.length < 8796093022208
                    · rw [if_pos c46] at H
                      have LMc46 := Aside0.mk c46
                      clear c46
                      obtain ⟨y158, hy158⟩ : ∃ y_ : List ByteArray, y_ = (x8_2 ++ [rdOf ByteArray.empty x4_1 x9_2]) := ⟨_, rfl⟩
                      replace H : (latinerref15_Unfold.l2 k2 x4_1 y158 (wrap64 (x9_2 + 1))) = some (r1, r2) := by first | (rw [hy158]; with_reducible exact H) | (have H2_ := (Option.bind_some _ _).symm.trans H; rw [hy158]; with_reducible exact H2_) | (have H2_ := (Option.bind_some _ _).symm.trans H; with_reducible exact H2_) | with_reducible exact H | (rw [hy158]; exact H) | exact H
                      have Ny158 := Aside0.mk hy158
                      clear hy158
                      have H' := Aside0.mk H
                      clear H
                      obtain ⟨Ao47, co47, eo47⟩ := Kd.R_slice HO_4.out
                      subst eo47
                      have p156 : 0 ≤ (x9_2 : Int) := of_decide_eq_true (by first | (with_reducible assumption) | assumption)
                      have q156 : x9_2 < (x4_1.length : Int) := of_decide_eq_true (by first | (with_reducible assumption) | assumption)
                      obtain ⟨ad156, e156, hx156_0⟩ := Kd.at_string (Kd.R_reads' HO_4.out).2.2 x9_2 p156 q156
                      cases e156
                      replace p156 := eq_true p156
                      replace q156 := eq_true q156
                      have p157 : 0 ≤ (x9_2 : Int) := of_decide_eq_true (by first | (with_reducible assumption) | assumption)
                      have q157 : x9_2 < (x4_1.length : Int) := of_decide_eq_true (by first | (with_reducible assumption) | assumption)
                      obtain ⟨ad157, e157, hx157_0⟩ := Kd.at_string (Kd.R_reads' HO_4.out).2.2 x9_2 p157 q157
                      obtain rfl : ad156 = ad157 := (by injection e157)
                      replace p157 := eq_true p157
                      replace q157 := eq_true q157
                      go_wp2_with (first | ((with_reducible refine own_gateB (b := .append) (xs := #[.tmp 121, .tmp 126]) rfl ?_); at_builtin; refine Kd.R_append Kd.string (w0 := w) w.heap.size rfl (.tmp 121) (.tmp 126) 27 9 (.string ⟨#[]⟩) 16 rfl Tryz.underlying27 info9 rfl (by decide) (by omega) u8 x8_2 (rdOf ByteArray.empty x4_1 x9_2) [.string (rdOf ByteArray.empty x4_1 x9_2)] (fun k_ => some k_ ≠ (.slice (some ad156) x4_1.length co47 : Value).ownBlock) (fun _ => False) rfl rfl ?aP (fun _ hk => hk.elim) ?aF ?aO ?aB ?aS ?aL ?_; (case aP => exact rfl); (case aB => exact (by repeat (first | (with_reducible first | exact HB.out | apply below_alloc | apply pw_below_drewN | apply below_drew1) | exact HB.out))); (case aF => exact (fun k_ hk => Kd.fresh' (Kd.R_lt (by (with_reducible repeat (first | apply Kd.R_alloc | apply Kd.R_drewN | apply Kd.R_drew)); exact HO_4.out)) k_ hk)); (case aO => exact (by (with_reducible repeat (first | apply Kd.R_alloc | apply Kd.R_drewN | apply Kd.R_drew)); exact HO_8.out)); (case aS => exact (below_size (by repeat (first | (with_reducible first | exact HB.out | apply below_alloc | apply pw_below_drewN | apply below_drew1) | exact HB.out)))); (case aL => have := LMc46.out; omega); intro v159 w48 ho hb hg hat; rw [← Ny158.out] at ho; have n0_ := Aside0.mk (Kd.R_after (ok := (fun _ => True)) (by (with_reducible repeat (first | apply Kd.R_alloc | apply Kd.R_drewN | apply Kd.R_drew)); exact Kd.R_mono HO_4.out (fun _ hk => ⟨trivial, hk⟩)) hg hat); have n1_ := Aside0.mk (hb); have n2_ := Aside0.mk (ho); clear HO_4; clear HB; clear HO_8; have HO_4 := n0_; have HB := n1_; have HO160 := n2_; clear n0_ n1_ n2_; clear ho hb hg hat))
                      all_goals first | (exfalso; have q_ := c37; simp at q_; omega) | skip
                      go_roundg k2
                      case measure => have := HK1.out; have := HK2.out; omega
                      case rel => exact ⟨(y158), (wrap64 (x9_2 + 1)), (by first | rfl | (simp; done) | (simp [*]; done)), H', ⟨by have := HK1.out; have := HK2.out; omega⟩, ⟨by (with_reducible repeat (first | apply Kd.R_alloc | apply Kd.R_drewN | apply Kd.R_drew)); exact Kd.R_mono HO_4.out (fun _ hk => hk.2)⟩, ⟨by (with_reducible repeat (first | apply Kd.R_alloc | apply Kd.R_drewN | apply Kd.R_drew)); exact HO160.out⟩, ⟨by repeat (first | (with_reducible first | exact HB.out | apply below_alloc | apply pw_below_drewN | apply below_drew1) | exact HB.out)⟩⟩
                    · rw [if_neg c46] at H
                      exact absurd H (by simp)
                  · rw [if_neg c45] at H
                    have c45b0 : ((rdOf ByteArray.empty x4_1 x9_2).toList == ([] : List UInt8)) = false := beq_eq_false_iff_ne.mpr c45
                    have c45b1 : ((rdOf ByteArray.empty x4_1 x9_2).toList != ([] : List UInt8)) = true := bne_iff_ne.mpr c45
                    by_cases c49 : 0 < ((rdOf ByteArray.empty x4_1 x9_2).size : Int)
                    · rw [if_pos c49] at H
                      have c49b0 : decide (0 < ((rdOf ByteArray.empty x4_1 x9_2).size : Int)) = true := decide_eq_true c49
                      have c49b1 : decide (0 < (rdOf ByteArray.empty x4_1 x9_2).size) = true := decide_eq_true (by omega)
                      clear c49
                      by_cases c51 : (bt (rdOf ByteArray.empty x4_1 x9_2) 0) = 35
                      · rw [if_pos c51] at H
                        have c51b0 : ((bt (rdOf ByteArray.empty x4_1 x9_2) 0) == 35) = true := beq_iff_eq.mpr c51
                        have c51b1 : ((bt (rdOf ByteArray.empty x4_1 x9_2) 0) != 35) = false := bne_eq_false_iff_eq.mpr c51
                        clear c51
                        have H' := Aside0.mk H
                        clear H
                        obtain ⟨Ao52, co52, eo52⟩ := Kd.R_slice HO_4.out
                        subst eo52
                        have p156 : 0 ≤ (x9_2 : Int) := of_decide_eq_true (by first | (with_reducible assumption) | assumption)
                        have q156 : x9_2 < (x4_1.length : Int) := of_decide_eq_true (by first | (with_reducible assumption) | assumption)
                        obtain ⟨ad156, e156, hx156_0⟩ := Kd.at_string (Kd.R_reads' HO_4.out).2.2 x9_2 p156 q156
                        cases e156
                        replace p156 := eq_true p156
                        replace q156 := eq_true q156
                        have p161 : 0 ≤ (x9_2 : Int) := of_decide_eq_true (by first | (with_reducible assumption) | assumption)
                        have q161 : x9_2 < (x4_1.length : Int) := of_decide_eq_true (by first | (with_reducible assumption) | assumption)
                        obtain ⟨ad161, e161, hx161_0⟩ := Kd.at_string (Kd.R_reads' HO_4.out).2.2 x9_2 p161 q161
                        obtain rfl : ad156 = ad161 := (by injection e161)
                        replace p161 := eq_true p161
                        replace q161 := eq_true q161
                        have p50 : 0 ≤ (0 : Int) := (by omega)
                        have q50 : 0 < (rdOf ByteArray.empty x4_1 x9_2).size := (by have : (0 : Int) < ((rdOf ByteArray.empty x4_1 x9_2).size : Int) := of_decide_eq_true (by first | (with_reducible assumption) | assumption); omega)
                        have hx50 : ∀ h : 0 < (rdOf ByteArray.empty x4_1 x9_2).size, (((rdOf ByteArray.empty x4_1 x9_2)[0]'h).toNat : Int) = bt (rdOf ByteArray.empty x4_1 x9_2) 0 := bt_at (rdOf ByteArray.empty x4_1 x9_2) 0
                        clear p50
                        have qi50 : (0 < ((rdOf ByteArray.empty x4_1 x9_2).size : Int)) = True := eq_true (of_decide_eq_true (by first | (with_reducible assumption) | assumption))
                        replace q50 := eq_true q50
                        go_wp2
                        all_goals first | (exfalso; have q_ := c37; simp at q_; omega) | skip
                        go_roundg k2
                        case measure => have := HK1.out; have := HK2.out; omega
                        case rel => exact ⟨(x8_2), (wrap64 (x9_2 + 1)), (by first | rfl | (simp; done) | (simp [*]; done)), H', ⟨by have := HK1.out; have := HK2.out; omega⟩, ⟨by (with_reducible repeat (first | apply Kd.R_alloc | apply Kd.R_drewN | apply Kd.R_drew)); exact HO_4.out⟩, ⟨by (with_reducible repeat (first | apply Kd.R_alloc | apply Kd.R_drewN | apply Kd.R_drew)); exact HO_8.out⟩, ⟨by repeat (first | (with_reducible first | exact HB.out | apply below_alloc | apply pw_below_drewN | apply below_drew1) | exact HB.out)⟩⟩
                      · rw [if_neg c51] at H
                        have c51b0 : ((bt (rdOf ByteArray.empty x4_1 x9_2) 0) == 35) = false := beq_eq_false_iff_ne.mpr c51
                        have c51b1 : ((bt (rdOf ByteArray.empty x4_1 x9_2) 0) != 35) = true := bne_iff_ne.mpr c51
                        by_cases c53 : x8_2.length < 8796093022208
                        · rw [if_pos c53] at H
                          have LMc53 := Aside0.mk c53
                          clear c53
                          obtain ⟨y163, hy163⟩ : ∃ y_ : List ByteArray, y_ = (x8_2 ++ [rdOf ByteArray.empty x4_1 x9_2]) := ⟨_, rfl⟩
                          replace H : (latinerref15_Unfold.l2 k2 x4_1 y163 (wrap64 (x9_2 + 1))) = some (r1, r2) := by first | (rw [hy163]; with_reducible exact H) | (have H2_ := (Option.bind_some _ _).symm.trans H; rw [hy163]; with_reducible exact H2_) | (have H2_ := (Option.bind_some _ _).symm.trans H; with_reducible exact H2_) | with_reducible exact H | (rw [hy163]; exact H) | exact H
                          have Ny163 := Aside0.mk hy163
                          clear hy163
                          have H' := Aside0.mk H
                          clear H
                          obtain ⟨Ao54, co54, eo54⟩ := Kd.R_slice HO_4.out
                          subst eo54
                          have p156 : 0 ≤ (x9_2 : Int) := of_decide_eq_true (by first | (with_reducible assumption) | assumption)
                          have q156 : x9_2 < (x4_1.length : Int) := of_decide_eq_true (by first | (with_reducible assumption) | assumption)
                          obtain ⟨ad156, e156, hx156_0⟩ := Kd.at_string (Kd.R_reads' HO_4.out).2.2 x9_2 p156 q156
                          cases e156
                          replace p156 := eq_true p156
                          replace q156 := eq_true q156
                          have p161 : 0 ≤ (x9_2 : Int) := of_decide_eq_true (by first | (with_reducible assumption) | assumption)
                          have q161 : x9_2 < (x4_1.length : Int) := of_decide_eq_true (by first | (with_reducible assumption) | assumption)
                          obtain ⟨ad161, e161, hx161_0⟩ := Kd.at_string (Kd.R_reads' HO_4.out).2.2 x9_2 p161 q161
                          obtain rfl : ad156 = ad161 := (by injection e161)
                          replace p161 := eq_true p161
                          replace q161 := eq_true q161
                          have p50 : 0 ≤ (0 : Int) := (by omega)
                          have q50 : 0 < (rdOf ByteArray.empty x4_1 x9_2).size := (by have : (0 : Int) < ((rdOf ByteArray.empty x4_1 x9_2).size : Int) := of_decide_eq_true (by first | (with_reducible assumption) | assumption); omega)
                          have hx50 : ∀ h : 0 < (rdOf ByteArray.empty x4_1 x9_2).size, (((rdOf ByteArray.empty x4_1 x9_2)[0]'h).toNat : Int) = bt (rdOf ByteArray.empty x4_1 x9_2) 0 := bt_at (rdOf ByteArray.empty x4_1 x9_2) 0
                          clear p50
                          have qi50 : (0 < ((rdOf ByteArray.empty x4_1 x9_2).size : Int)) = True := eq_true (of_decide_eq_true (by first | (with_reducible assumption) | assumption))
                          replace q50 := eq_true q50
                          have p162 : 0 ≤ (x9_2 : Int) := of_decide_eq_true (by first | (with_reducible assumption) | assumption)
                          have q162 : x9_2 < (x4_1.length : Int) := of_decide_eq_true (by first | (with_reducible assumption) | assumption)
                          obtain ⟨ad162, e162, hx162_0⟩ := Kd.at_string (Kd.R_reads' HO_4.out).2.2 x9_2 p162 q162
                          obtain rfl : ad156 = ad162 := (by injection e162)
                          replace p162 := eq_true p162
                          replace q162 := eq_true q162
                          go_wp2_with (first | ((with_reducible refine own_gateB (b := .append) (xs := #[.tmp 121, .tmp 126]) rfl ?_); at_builtin; refine Kd.R_append Kd.string (w0 := w) w.heap.size rfl (.tmp 121) (.tmp 126) 27 9 (.string ⟨#[]⟩) 16 rfl Tryz.underlying27 info9 rfl (by decide) (by omega) u8 x8_2 (rdOf ByteArray.empty x4_1 x9_2) [.string (rdOf ByteArray.empty x4_1 x9_2)] (fun k_ => some k_ ≠ (.slice (some ad156) x4_1.length co54 : Value).ownBlock) (fun _ => False) rfl rfl ?aP (fun _ hk => hk.elim) ?aF ?aO ?aB ?aS ?aL ?_; (case aP => exact rfl); (case aB => exact (by repeat (first | (with_reducible first | exact HB.out | apply below_alloc | apply pw_below_drewN | apply below_drew1) | exact HB.out))); (case aF => exact (fun k_ hk => Kd.fresh' (Kd.R_lt (by (with_reducible repeat (first | apply Kd.R_alloc | apply Kd.R_drewN | apply Kd.R_drew)); exact HO_4.out)) k_ hk)); (case aO => exact (by (with_reducible repeat (first | apply Kd.R_alloc | apply Kd.R_drewN | apply Kd.R_drew)); exact HO_8.out)); (case aS => exact (below_size (by repeat (first | (with_reducible first | exact HB.out | apply below_alloc | apply pw_below_drewN | apply below_drew1) | exact HB.out)))); (case aL => have := LMc53.out; omega); intro v164 w55 ho hb hg hat; rw [← Ny163.out] at ho; have n0_ := Aside0.mk (Kd.R_after (ok := (fun _ => True)) (by (with_reducible repeat (first | apply Kd.R_alloc | apply Kd.R_drewN | apply Kd.R_drew)); exact Kd.R_mono HO_4.out (fun _ hk => ⟨trivial, hk⟩)) hg hat); have n1_ := Aside0.mk (hb); have n2_ := Aside0.mk (ho); clear HO_4; clear HB; clear HO_8; have HO_4 := n0_; have HB := n1_; have HO165 := n2_; clear n0_ n1_ n2_; clear ho hb hg hat))
                          all_goals first | (exfalso; have q_ := c37; simp at q_; omega) | skip
                          go_roundg k2
                          case measure => have := HK1.out; have := HK2.out; omega
                          case rel => exact ⟨(y163), (wrap64 (x9_2 + 1)), (by first | rfl | (simp; done) | (simp [*]; done)), H', ⟨by have := HK1.out; have := HK2.out; omega⟩, ⟨by (with_reducible repeat (first | apply Kd.R_alloc | apply Kd.R_drewN | apply Kd.R_drew)); exact Kd.R_mono HO_4.out (fun _ hk => hk.2)⟩, ⟨by (with_reducible repeat (first | apply Kd.R_alloc | apply Kd.R_drewN | apply Kd.R_drew)); exact HO165.out⟩, ⟨by repeat (first | (with_reducible first | exact HB.out | apply below_alloc | apply pw_below_drewN | apply below_drew1) | exact HB.out)⟩⟩
                        · rw [if_neg c53] at H
                          exact absurd H (by simp)
                    · rw [if_neg c49] at H
                      exact absurd H (by simp)
                · rw [if_neg c44] at H
                  exact absurd H (by simp)
              · rw [if_neg c43] at H
                have c43b0 : decide (x9_2 < (x4_1.length : Int)) = false := decide_eq_false c43
                clear c43
                simp only [Option.some.injEq, Prod.mk.injEq] at H
                obtain ⟨rfl, rfl⟩ := H
                obtain ⟨Ao56, co56, eo56⟩ := Kd.R_slice HO_4.out
                subst eo56
                go_wp2
                all_goals first | (exfalso; have q_ := c37; simp at q_; omega) | skip
                go_ret2
                exact ⟨_, by first | rfl | (simp [errW_none, errW_some] <;> rfl) | (simp [*, errW_none, errW_some] <;> rfl), by (with_reducible repeat (first | apply Kd.R_alloc | apply Kd.R_drewN | apply Kd.R_drew)); exact Kd.R_mono HO_8.out (fun _ hk => trivial), by repeat (first | (with_reducible first | exact HB.out | apply below_alloc | apply pw_below_drewN | apply below_drew1) | exact HB.out)⟩

end Go.Proofs.YtjnfoocmilbdlaaGreatDoor.LFold
-- Written by this repo's own program over the kit's printer: YtjnfoocmilbdlaaGreatDoor.LFold
namespace Go.Proofs.YtjnfoocmilbdlaaGreatDoor.LFold
open Go.Proofs.YtjnfoocmilbdlaaGreatDoor.ExtFold
open Go.RowKit Go.Proofs.YtjnfoocmilbdlaaGreatDoorW.PrintWords Go.Proofs.YtjnfoocmilbdlaaGreatDoorW.PrintLast Go.Proofs.YtjnfoocmilbdlaaGreatDoorW2
attribute [local go_sem] own_max2 own_min2 own_maxs own_mins
set_option linter.unusedVariables false
set_option linter.unusedSimpArgs false

/-! ### latinerlaw15_FoldLines: function 3 -/
def latinerlaw15_FoldLines.f (k : Nat) (a0 : ByteArray) (a1 : ByteArray) : Option (Bool) := (latinerlaw15_shown.f k).bind fun t166 => ((latinerlaw15_cut.f a0).bind fun t167 => ((latinerlaw15_cut.f a1).bind fun t168 => ((fold_Fold.f t167).bind fun bt169 => ((latinerref15_Fold.f k t167).bind fun bt171 => ((fold_Unfold.f t168).bind fun bt173 => ((latinerref15_Unfold.f k t168).bind fun bt177 => (if t166 = true then (if bt169.1.toList = bt171.1.toList then (if bt169.2 = bt171.2 then ((latinerref08_Texts.f k bt173.1 bt177.1).bind fun t181 => (if t181 = true then (some (bt173.2 == bt177.2)) else (some false))) else (some false)) else (some false)) else (some false))))))))
set_option maxHeartbeats 8000000 in
set_option maxRecDepth 100000 in
theorem latinerlaw15_FoldLines.calls (k : Nat) (a0 : ByteArray) (a1 : ByteArray) (r : Bool) (w : World) (hG : GW w) (h : latinerlaw15_FoldLines.f k a0 a1 = some r) :
    Calls Tryz.prog 3 #[.string a0, .string a1] w fun e w' => e = .returned (.bool r) ∧ Below w.heap.size w w' := by
  have HB := Aside0.mk (Below.refl w.heap.size w)
  have H : ((latinerlaw15_shown.f k).bind fun t166 => ((latinerlaw15_cut.f a0).bind fun t167 => ((latinerlaw15_cut.f a1).bind fun t168 => ((fold_Fold.f t167).bind fun bt169 => ((latinerref15_Fold.f k t167).bind fun bt171 => ((fold_Unfold.f t168).bind fun bt173 => ((latinerref15_Unfold.f k t168).bind fun bt177 => (if t166 = true then (if bt169.1.toList = bt171.1.toList then (if bt169.2 = bt171.2 then ((latinerref08_Texts.f k bt173.1 bt177.1).bind fun t181 => (if t181 = true then (some (bt173.2 == bt177.2)) else (some false))) else (some false)) else (some false)) else (some false))))))))) = some r := h
  clear h
  replace H := Option.bind_eq_some_iff.mp H
  obtain ⟨t166, A30, H⟩ := H
  replace H : ((latinerlaw15_cut.f a0).bind fun t167 => ((latinerlaw15_cut.f a1).bind fun t168 => ((fold_Fold.f t167).bind fun bt169 => ((latinerref15_Fold.f k t167).bind fun bt171 => ((fold_Unfold.f t168).bind fun bt173 => ((latinerref15_Unfold.f k t168).bind fun bt177 => (if t166 = true then (if bt169.1.toList = bt171.1.toList then (if bt169.2 = bt171.2 then ((latinerref08_Texts.f k bt173.1 bt177.1).bind fun t181 => (if t181 = true then (some (bt173.2 == bt177.2)) else (some false))) else (some false)) else (some false)) else (some false)))))))) = some r := H
  have A3 := Aside0.mk A30
  clear A30
  replace H := Option.bind_eq_some_iff.mp H
  obtain ⟨t167, A40, H⟩ := H
  replace H : ((latinerlaw15_cut.f a1).bind fun t168 => ((fold_Fold.f t167).bind fun bt169 => ((latinerref15_Fold.f k t167).bind fun bt171 => ((fold_Unfold.f t168).bind fun bt173 => ((latinerref15_Unfold.f k t168).bind fun bt177 => (if t166 = true then (if bt169.1.toList = bt171.1.toList then (if bt169.2 = bt171.2 then ((latinerref08_Texts.f k bt173.1 bt177.1).bind fun t181 => (if t181 = true then (some (bt173.2 == bt177.2)) else (some false))) else (some false)) else (some false)) else (some false))))))) = some r := H
  have A4 := Aside0.mk A40
  clear A40
  replace H := Option.bind_eq_some_iff.mp H
  obtain ⟨t168, A50, H⟩ := H
  replace H : ((fold_Fold.f t167).bind fun bt169 => ((latinerref15_Fold.f k t167).bind fun bt171 => ((fold_Unfold.f t168).bind fun bt173 => ((latinerref15_Unfold.f k t168).bind fun bt177 => (if t166 = true then (if bt169.1.toList = bt171.1.toList then (if bt169.2 = bt171.2 then ((latinerref08_Texts.f k bt173.1 bt177.1).bind fun t181 => (if t181 = true then (some (bt173.2 == bt177.2)) else (some false))) else (some false)) else (some false)) else (some false)))))) = some r := H
  have A5 := Aside0.mk A50
  clear A50
  replace H := Option.bind_eq_some_iff.mp H
  obtain ⟨⟨t169, t170⟩, A60, H⟩ := H
  replace H : ((latinerref15_Fold.f k t167).bind fun bt171 => ((fold_Unfold.f t168).bind fun bt173 => ((latinerref15_Unfold.f k t168).bind fun bt177 => (if t166 = true then (if t169.toList = bt171.1.toList then (if t170 = bt171.2 then ((latinerref08_Texts.f k bt173.1 bt177.1).bind fun t181 => (if t181 = true then (some (bt173.2 == bt177.2)) else (some false))) else (some false)) else (some false)) else (some false))))) = some r := H
  have A6 := Aside0.mk A60
  clear A60
  replace H := Option.bind_eq_some_iff.mp H
  obtain ⟨⟨t171, t172⟩, A70, H⟩ := H
  replace H : ((fold_Unfold.f t168).bind fun bt173 => ((latinerref15_Unfold.f k t168).bind fun bt177 => (if t166 = true then (if t169.toList = t171.toList then (if t170 = t172 then ((latinerref08_Texts.f k bt173.1 bt177.1).bind fun t181 => (if t181 = true then (some (bt173.2 == bt177.2)) else (some false))) else (some false)) else (some false)) else (some false)))) = some r := H
  have A7 := Aside0.mk A70
  clear A70
  replace H := Option.bind_eq_some_iff.mp H
  obtain ⟨⟨t173, t174⟩, A80, H⟩ := H
  replace H : ((latinerref15_Unfold.f k t168).bind fun bt177 => (if t166 = true then (if t169.toList = t171.toList then (if t170 = t172 then ((latinerref08_Texts.f k t173 bt177.1).bind fun t181 => (if t181 = true then (some (t174 == bt177.2)) else (some false))) else (some false)) else (some false)) else (some false))) = some r := H
  have A8 := Aside0.mk A80
  clear A80
  replace H := Option.bind_eq_some_iff.mp H
  obtain ⟨⟨t177, t178⟩, A90, H⟩ := H
  replace H : (if t166 = true then (if t169.toList = t171.toList then (if t170 = t172 then ((latinerref08_Texts.f k t173 t177).bind fun t181 => (if t181 = true then (some (t174 == t178)) else (some false))) else (some false)) else (some false)) else (some false)) = some r := H
  have A9 := Aside0.mk A90
  clear A90
  by_cases c10 : t166 = true
  · subst c10
    have H1 : (if t169.toList = t171.toList then (if t170 = t172 then ((latinerref08_Texts.f k t173 t177).bind fun t181 => (if t181 = true then (some (t174 == t178)) else (some false))) else (some false)) else (some false)) = some r := by rw [if_pos rfl] at H; exact H
    clear H
    have H := H1
    clear H1
    by_cases c11 : t169.toList = t171.toList
    · rw [if_pos c11] at H
      have c11b0 : (t169.toList == t171.toList) = true := beq_iff_eq.mpr c11
      have c11b1 : (t169.toList != t171.toList) = false := bne_eq_false_iff_eq.mpr c11
      clear c11
      by_cases c12 : t170 = t172
      · rw [if_pos c12] at H
        have c12b0 : (t170 == t172) = true := beq_iff_eq.mpr c12
        have c12b1 : (t170 != t172) = false := bne_eq_false_iff_eq.mpr c12
        clear c12
        replace H := Option.bind_eq_some_iff.mp H
        obtain ⟨t181, A130, H⟩ := H
        replace H : (if t181 = true then (some (t174 == t178)) else (some false)) = some r := H
        have A13 := Aside0.mk A130
        clear A130
        by_cases c14 : t181 = true
        · subst c14
          have H1 : (some (t174 == t178)) = some r := by rw [if_pos rfl] at H; exact H
          clear H
          have H := H1
          clear H1
          obtain rfl := Option.some.inj H
          go_enter Tryz.func3, Tryz.ntmps3
          go_wp2_with (first | ((with_reducible refine own_gate (f := 11) rfl ?_); refine goesL_ (some 14) rfl rfl Tryz.func11 (by kernel_rfl) rfl #[] rfl (by (try simp only [List.map_toArray, List.map_cons, List.map_nil]); first | done | rfl | (simp only [List.length_drop, List.length_take]; rfl)) ?_; (with_reducible refine (latinerlaw15_shown.calls k  true _ ?side1 A3.out).mono ?_); (case side1 => exact GW.below hG (by repeat (first | (with_reducible first | exact HB.out | apply below_alloc | apply pw_below_drewN | apply below_drew1) | exact HB.out))); rintro e w15 ⟨rfl, hb⟩; refine ⟨_, rfl, ?_⟩; have n0_ := Aside0.mk (below_step (by repeat (first | (with_reducible first | exact HB.out | apply below_alloc | apply pw_below_drewN | apply below_drew1) | exact HB.out)) hb); clear HB; have HB := n0_; clear n0_; (try clear hb); (try clear hb2); (try clear hk); (try clear hi)) | ((with_reducible refine own_gate (f := 12) rfl ?_); refine goesL_ (some 16) rfl rfl Tryz.func12 (by kernel_rfl) rfl #[.string a0] rfl (by (try simp only [List.map_toArray, List.map_cons, List.map_nil]); first | done | rfl | (simp only [List.length_drop, List.length_take]; rfl)) ?_; (with_reducible refine (latinerlaw15_cut.calls a0 t167 _ A4.out).mono ?_); rintro e w16 ⟨rfl, hb⟩; refine ⟨_, rfl, ?_⟩; have n0_ := Aside0.mk (below_step (by repeat (first | (with_reducible first | exact HB.out | apply below_alloc | apply pw_below_drewN | apply below_drew1) | exact HB.out)) hb); clear HB; have HB := n0_; clear n0_; (try clear hb); (try clear hb2); (try clear hk); (try clear hi)) | ((with_reducible refine own_gate (f := 12) rfl ?_); refine goesL_ (some 18) rfl rfl Tryz.func12 (by kernel_rfl) rfl #[.string a1] rfl (by (try simp only [List.map_toArray, List.map_cons, List.map_nil]); first | done | rfl | (simp only [List.length_drop, List.length_take]; rfl)) ?_; (with_reducible refine (latinerlaw15_cut.calls a1 t168 _ A5.out).mono ?_); rintro e w17 ⟨rfl, hb⟩; refine ⟨_, rfl, ?_⟩; have n0_ := Aside0.mk (below_step (by repeat (first | (with_reducible first | exact HB.out | apply below_alloc | apply pw_below_drewN | apply below_drew1) | exact HB.out)) hb); clear HB; have HB := n0_; clear n0_; (try clear hb); (try clear hb2); (try clear hk); (try clear hi)) | ((with_reducible refine own_gate (f := 13) rfl ?_); refine goesL_ (some 21) rfl rfl Tryz.func13 (by kernel_rfl) rfl #[.string t167] rfl (by (try simp only [List.map_toArray, List.map_cons, List.map_nil]); first | done | rfl | (simp only [List.length_drop, List.length_take]; rfl)) ?_; (with_reducible refine (fold_Fold.calls t167 t169 t170 _ ?side1 A6.out).mono ?_); (case side1 => exact GW.below hG (by repeat (first | (with_reducible first | exact HB.out | apply below_alloc | apply pw_below_drewN | apply below_drew1) | exact HB.out))); rintro e w18 ⟨rfl, hb⟩; refine ⟨_, rfl, ?_⟩; have n0_ := Aside0.mk (below_step (by repeat (first | (with_reducible first | exact HB.out | apply below_alloc | apply pw_below_drewN | apply below_drew1) | exact HB.out)) hb); clear HB; have HB := n0_; clear n0_; (try clear hb); (try clear hb2); (try clear hk); (try clear hi)) | ((with_reducible refine own_gate (f := 14) rfl ?_); refine goesL_ (some 26) rfl rfl Tryz.func14 (by kernel_rfl) rfl #[.string t167] rfl (by (try simp only [List.map_toArray, List.map_cons, List.map_nil]); first | done | rfl | (simp only [List.length_drop, List.length_take]; rfl)) ?_; (with_reducible refine (latinerref15_Fold.calls k t167 t171 t172 _ A7.out).mono ?_); rintro e w19 ⟨rfl, hb⟩; refine ⟨_, rfl, ?_⟩; have n0_ := Aside0.mk (below_step (by repeat (first | (with_reducible first | exact HB.out | apply below_alloc | apply pw_below_drewN | apply below_drew1) | exact HB.out)) hb); clear HB; have HB := n0_; clear n0_; (try clear hb); (try clear hb2); (try clear hk); (try clear hi)) | ((with_reducible refine own_gate (f := 15) rfl ?_); refine goesL_ (some 31) rfl rfl Tryz.func15 (by kernel_rfl) rfl #[.string t168] rfl (by (try simp only [List.map_toArray, List.map_cons, List.map_nil]); first | done | rfl | (simp only [List.length_drop, List.length_take]; rfl)) ?_; (with_reducible refine (fold_Unfold.calls t168 t173 t174 _ ?side1 A8.out).mono ?_); (case side1 => exact GW.below hG (by repeat (first | (with_reducible first | exact HB.out | apply below_alloc | apply pw_below_drewN | apply below_drew1) | exact HB.out))); rintro e w20 ⟨v175, rfl, ho0, hb⟩; refine ⟨_, rfl, ?_⟩; have n0_ := Aside0.mk (Kd.R_lower ho0 (below_size (by repeat (first | (with_reducible first | exact HB.out | apply below_alloc | apply pw_below_drewN | apply below_drew1) | exact HB.out)))); have n1_ := Aside0.mk (below_step (by repeat (first | (with_reducible first | exact HB.out | apply below_alloc | apply pw_below_drewN | apply below_drew1) | exact HB.out)) hb); clear HB; have HO176 := n0_; have HB := n1_; clear n0_ n1_; (try clear hb); (try clear hb2); (try clear hk); (try clear hi); (try clear ho0)) | ((with_reducible refine own_gate (f := 16) rfl ?_); refine goesL_ (some 36) rfl rfl Tryz.func16 (by kernel_rfl) rfl #[.string t168] rfl (by (try simp only [List.map_toArray, List.map_cons, List.map_nil]); first | done | rfl | (simp only [List.length_drop, List.length_take]; rfl)) ?_; (with_reducible refine (latinerref15_Unfold.calls k t168 t177 t178 _ A9.out).mono ?_); rintro e w21 ⟨v179, rfl, ho0, hb⟩; refine ⟨_, rfl, ?_⟩; have n0_ := Aside0.mk (Kd.R_elder' (by (with_reducible repeat (first | apply Kd.R_alloc | apply Kd.R_drewN | apply Kd.R_drew)); exact HO176.out) (Kd.R_base ho0) hb); have n1_ := Aside0.mk (Kd.R_lower (Kd.R_new' ho0 (Kd.R_lt (by (with_reducible repeat (first | apply Kd.R_alloc | apply Kd.R_drewN | apply Kd.R_drew)); exact HO176.out))) (below_size (by repeat (first | (with_reducible first | exact HB.out | apply below_alloc | apply pw_below_drewN | apply below_drew1) | exact HB.out)))); have n2_ := Aside0.mk (below_step (by repeat (first | (with_reducible first | exact HB.out | apply below_alloc | apply pw_below_drewN | apply below_drew1) | exact HB.out)) hb); clear HO176; clear HB; have HO176 := n0_; have HO180 := n1_; have HB := n2_; clear n0_ n1_ n2_; (try clear hb); (try clear hb2); (try clear hk); (try clear hi); (try clear ho0); obtain ⟨Ao22, co22, eo22⟩ := Kd.R_slice HO176.out; subst eo22; obtain ⟨Ao23, co23, eo23⟩ := Kd.R_slice HO180.out; subst eo23) | (go_at_call 17; (with_reducible refine (latinerref08_Texts.calls k _ _ t173 _ _ t177 true _ ?side1 ?side2 ?side3 ?side4 A13.out).mono ?_); (case side1 => repeat (first | exact (Kd.R_reads' HO176.out).2.2 | (with_reducible refine Kd.C_alloc ?_ _) | (with_reducible refine Kd.C_drewN ?_ _) | (with_reducible refine Kd.C_drew ?_))); (case side2 => exact (Kd.R_reads' HO176.out).2.1); (case side3 => repeat (first | exact (Kd.R_reads' HO180.out).2.2 | (with_reducible refine Kd.C_alloc ?_ _) | (with_reducible refine Kd.C_drewN ?_ _) | (with_reducible refine Kd.C_drew ?_))); (case side4 => exact (Kd.R_reads' HO180.out).2.1); rintro e w' ⟨rfl, ⟨nd, rfl⟩⟩))
          go_ret
          exact ⟨by first | rfl | (simp [errW_none, errW_some] <;> rfl) | (simp [*, errW_none, errW_some] <;> rfl), by repeat (first | (with_reducible first | exact HB.out | apply below_alloc | apply pw_below_drewN | apply below_drew1) | exact HB.out)⟩
        · replace c14 := Bool.eq_false_iff.mpr c14
          subst c14
          have H1 : (some false) = some r := by rw [if_neg (show ¬ (false = true) by decide)] at H; exact H
          clear H
          have H := H1
          clear H1
          obtain rfl := Option.some.inj H
          go_enter Tryz.func3, Tryz.ntmps3
          go_wp2_with (first | ((with_reducible refine own_gate (f := 11) rfl ?_); refine goesL_ (some 14) rfl rfl Tryz.func11 (by kernel_rfl) rfl #[] rfl (by (try simp only [List.map_toArray, List.map_cons, List.map_nil]); first | done | rfl | (simp only [List.length_drop, List.length_take]; rfl)) ?_; (with_reducible refine (latinerlaw15_shown.calls k  true _ ?side1 A3.out).mono ?_); (case side1 => exact GW.below hG (by repeat (first | (with_reducible first | exact HB.out | apply below_alloc | apply pw_below_drewN | apply below_drew1) | exact HB.out))); rintro e w24 ⟨rfl, hb⟩; refine ⟨_, rfl, ?_⟩; have n0_ := Aside0.mk (below_step (by repeat (first | (with_reducible first | exact HB.out | apply below_alloc | apply pw_below_drewN | apply below_drew1) | exact HB.out)) hb); clear HB; have HB := n0_; clear n0_; (try clear hb); (try clear hb2); (try clear hk); (try clear hi)) | ((with_reducible refine own_gate (f := 12) rfl ?_); refine goesL_ (some 16) rfl rfl Tryz.func12 (by kernel_rfl) rfl #[.string a0] rfl (by (try simp only [List.map_toArray, List.map_cons, List.map_nil]); first | done | rfl | (simp only [List.length_drop, List.length_take]; rfl)) ?_; (with_reducible refine (latinerlaw15_cut.calls a0 t167 _ A4.out).mono ?_); rintro e w25 ⟨rfl, hb⟩; refine ⟨_, rfl, ?_⟩; have n0_ := Aside0.mk (below_step (by repeat (first | (with_reducible first | exact HB.out | apply below_alloc | apply pw_below_drewN | apply below_drew1) | exact HB.out)) hb); clear HB; have HB := n0_; clear n0_; (try clear hb); (try clear hb2); (try clear hk); (try clear hi)) | ((with_reducible refine own_gate (f := 12) rfl ?_); refine goesL_ (some 18) rfl rfl Tryz.func12 (by kernel_rfl) rfl #[.string a1] rfl (by (try simp only [List.map_toArray, List.map_cons, List.map_nil]); first | done | rfl | (simp only [List.length_drop, List.length_take]; rfl)) ?_; (with_reducible refine (latinerlaw15_cut.calls a1 t168 _ A5.out).mono ?_); rintro e w26 ⟨rfl, hb⟩; refine ⟨_, rfl, ?_⟩; have n0_ := Aside0.mk (below_step (by repeat (first | (with_reducible first | exact HB.out | apply below_alloc | apply pw_below_drewN | apply below_drew1) | exact HB.out)) hb); clear HB; have HB := n0_; clear n0_; (try clear hb); (try clear hb2); (try clear hk); (try clear hi)) | ((with_reducible refine own_gate (f := 13) rfl ?_); refine goesL_ (some 21) rfl rfl Tryz.func13 (by kernel_rfl) rfl #[.string t167] rfl (by (try simp only [List.map_toArray, List.map_cons, List.map_nil]); first | done | rfl | (simp only [List.length_drop, List.length_take]; rfl)) ?_; (with_reducible refine (fold_Fold.calls t167 t169 t170 _ ?side1 A6.out).mono ?_); (case side1 => exact GW.below hG (by repeat (first | (with_reducible first | exact HB.out | apply below_alloc | apply pw_below_drewN | apply below_drew1) | exact HB.out))); rintro e w27 ⟨rfl, hb⟩; refine ⟨_, rfl, ?_⟩; have n0_ := Aside0.mk (below_step (by repeat (first | (with_reducible first | exact HB.out | apply below_alloc | apply pw_below_drewN | apply below_drew1) | exact HB.out)) hb); clear HB; have HB := n0_; clear n0_; (try clear hb); (try clear hb2); (try clear hk); (try clear hi)) | ((with_reducible refine own_gate (f := 14) rfl ?_); refine goesL_ (some 26) rfl rfl Tryz.func14 (by kernel_rfl) rfl #[.string t167] rfl (by (try simp only [List.map_toArray, List.map_cons, List.map_nil]); first | done | rfl | (simp only [List.length_drop, List.length_take]; rfl)) ?_; (with_reducible refine (latinerref15_Fold.calls k t167 t171 t172 _ A7.out).mono ?_); rintro e w28 ⟨rfl, hb⟩; refine ⟨_, rfl, ?_⟩; have n0_ := Aside0.mk (below_step (by repeat (first | (with_reducible first | exact HB.out | apply below_alloc | apply pw_below_drewN | apply below_drew1) | exact HB.out)) hb); clear HB; have HB := n0_; clear n0_; (try clear hb); (try clear hb2); (try clear hk); (try clear hi)) | ((with_reducible refine own_gate (f := 15) rfl ?_); refine goesL_ (some 31) rfl rfl Tryz.func15 (by kernel_rfl) rfl #[.string t168] rfl (by (try simp only [List.map_toArray, List.map_cons, List.map_nil]); first | done | rfl | (simp only [List.length_drop, List.length_take]; rfl)) ?_; (with_reducible refine (fold_Unfold.calls t168 t173 t174 _ ?side1 A8.out).mono ?_); (case side1 => exact GW.below hG (by repeat (first | (with_reducible first | exact HB.out | apply below_alloc | apply pw_below_drewN | apply below_drew1) | exact HB.out))); rintro e w29 ⟨v175, rfl, ho0, hb⟩; refine ⟨_, rfl, ?_⟩; have n0_ := Aside0.mk (Kd.R_lower ho0 (below_size (by repeat (first | (with_reducible first | exact HB.out | apply below_alloc | apply pw_below_drewN | apply below_drew1) | exact HB.out)))); have n1_ := Aside0.mk (below_step (by repeat (first | (with_reducible first | exact HB.out | apply below_alloc | apply pw_below_drewN | apply below_drew1) | exact HB.out)) hb); clear HB; have HO176 := n0_; have HB := n1_; clear n0_ n1_; (try clear hb); (try clear hb2); (try clear hk); (try clear hi); (try clear ho0)) | ((with_reducible refine own_gate (f := 16) rfl ?_); refine goesL_ (some 36) rfl rfl Tryz.func16 (by kernel_rfl) rfl #[.string t168] rfl (by (try simp only [List.map_toArray, List.map_cons, List.map_nil]); first | done | rfl | (simp only [List.length_drop, List.length_take]; rfl)) ?_; (with_reducible refine (latinerref15_Unfold.calls k t168 t177 t178 _ A9.out).mono ?_); rintro e w30 ⟨v179, rfl, ho0, hb⟩; refine ⟨_, rfl, ?_⟩; have n0_ := Aside0.mk (Kd.R_elder' (by (with_reducible repeat (first | apply Kd.R_alloc | apply Kd.R_drewN | apply Kd.R_drew)); exact HO176.out) (Kd.R_base ho0) hb); have n1_ := Aside0.mk (Kd.R_lower (Kd.R_new' ho0 (Kd.R_lt (by (with_reducible repeat (first | apply Kd.R_alloc | apply Kd.R_drewN | apply Kd.R_drew)); exact HO176.out))) (below_size (by repeat (first | (with_reducible first | exact HB.out | apply below_alloc | apply pw_below_drewN | apply below_drew1) | exact HB.out)))); have n2_ := Aside0.mk (below_step (by repeat (first | (with_reducible first | exact HB.out | apply below_alloc | apply pw_below_drewN | apply below_drew1) | exact HB.out)) hb); clear HO176; clear HB; have HO176 := n0_; have HO180 := n1_; have HB := n2_; clear n0_ n1_ n2_; (try clear hb); (try clear hb2); (try clear hk); (try clear hi); (try clear ho0); obtain ⟨Ao31, co31, eo31⟩ := Kd.R_slice HO176.out; subst eo31; obtain ⟨Ao32, co32, eo32⟩ := Kd.R_slice HO180.out; subst eo32) | (go_at_call 17; (with_reducible refine (latinerref08_Texts.calls k _ _ t173 _ _ t177 false _ ?side1 ?side2 ?side3 ?side4 A13.out).mono ?_); (case side1 => repeat (first | exact (Kd.R_reads' HO176.out).2.2 | (with_reducible refine Kd.C_alloc ?_ _) | (with_reducible refine Kd.C_drewN ?_ _) | (with_reducible refine Kd.C_drew ?_))); (case side2 => exact (Kd.R_reads' HO176.out).2.1); (case side3 => repeat (first | exact (Kd.R_reads' HO180.out).2.2 | (with_reducible refine Kd.C_alloc ?_ _) | (with_reducible refine Kd.C_drewN ?_ _) | (with_reducible refine Kd.C_drew ?_))); (case side4 => exact (Kd.R_reads' HO180.out).2.1); rintro e w' ⟨rfl, ⟨nd, rfl⟩⟩))
          go_ret
          exact ⟨by first | rfl | (simp [errW_none, errW_some] <;> rfl) | (simp [*, errW_none, errW_some] <;> rfl), by repeat (first | (with_reducible first | exact HB.out | apply below_alloc | apply pw_below_drewN | apply below_drew1) | exact HB.out)⟩
      · rw [if_neg c12] at H
        have c12b0 : (t170 == t172) = false := beq_eq_false_iff_ne.mpr c12
        have c12b1 : (t170 != t172) = true := bne_iff_ne.mpr c12
        obtain rfl := Option.some.inj H
        go_enter Tryz.func3, Tryz.ntmps3
        go_wp2_with (first | ((with_reducible refine own_gate (f := 11) rfl ?_); refine goesL_ (some 14) rfl rfl Tryz.func11 (by kernel_rfl) rfl #[] rfl (by (try simp only [List.map_toArray, List.map_cons, List.map_nil]); first | done | rfl | (simp only [List.length_drop, List.length_take]; rfl)) ?_; (with_reducible refine (latinerlaw15_shown.calls k  true _ ?side1 A3.out).mono ?_); (case side1 => exact GW.below hG (by repeat (first | (with_reducible first | exact HB.out | apply below_alloc | apply pw_below_drewN | apply below_drew1) | exact HB.out))); rintro e w33 ⟨rfl, hb⟩; refine ⟨_, rfl, ?_⟩; have n0_ := Aside0.mk (below_step (by repeat (first | (with_reducible first | exact HB.out | apply below_alloc | apply pw_below_drewN | apply below_drew1) | exact HB.out)) hb); clear HB; have HB := n0_; clear n0_; (try clear hb); (try clear hb2); (try clear hk); (try clear hi)) | ((with_reducible refine own_gate (f := 12) rfl ?_); refine goesL_ (some 16) rfl rfl Tryz.func12 (by kernel_rfl) rfl #[.string a0] rfl (by (try simp only [List.map_toArray, List.map_cons, List.map_nil]); first | done | rfl | (simp only [List.length_drop, List.length_take]; rfl)) ?_; (with_reducible refine (latinerlaw15_cut.calls a0 t167 _ A4.out).mono ?_); rintro e w34 ⟨rfl, hb⟩; refine ⟨_, rfl, ?_⟩; have n0_ := Aside0.mk (below_step (by repeat (first | (with_reducible first | exact HB.out | apply below_alloc | apply pw_below_drewN | apply below_drew1) | exact HB.out)) hb); clear HB; have HB := n0_; clear n0_; (try clear hb); (try clear hb2); (try clear hk); (try clear hi)) | ((with_reducible refine own_gate (f := 12) rfl ?_); refine goesL_ (some 18) rfl rfl Tryz.func12 (by kernel_rfl) rfl #[.string a1] rfl (by (try simp only [List.map_toArray, List.map_cons, List.map_nil]); first | done | rfl | (simp only [List.length_drop, List.length_take]; rfl)) ?_; (with_reducible refine (latinerlaw15_cut.calls a1 t168 _ A5.out).mono ?_); rintro e w35 ⟨rfl, hb⟩; refine ⟨_, rfl, ?_⟩; have n0_ := Aside0.mk (below_step (by repeat (first | (with_reducible first | exact HB.out | apply below_alloc | apply pw_below_drewN | apply below_drew1) | exact HB.out)) hb); clear HB; have HB := n0_; clear n0_; (try clear hb); (try clear hb2); (try clear hk); (try clear hi)) | ((with_reducible refine own_gate (f := 13) rfl ?_); refine goesL_ (some 21) rfl rfl Tryz.func13 (by kernel_rfl) rfl #[.string t167] rfl (by (try simp only [List.map_toArray, List.map_cons, List.map_nil]); first | done | rfl | (simp only [List.length_drop, List.length_take]; rfl)) ?_; (with_reducible refine (fold_Fold.calls t167 t169 t170 _ ?side1 A6.out).mono ?_); (case side1 => exact GW.below hG (by repeat (first | (with_reducible first | exact HB.out | apply below_alloc | apply pw_below_drewN | apply below_drew1) | exact HB.out))); rintro e w36 ⟨rfl, hb⟩; refine ⟨_, rfl, ?_⟩; have n0_ := Aside0.mk (below_step (by repeat (first | (with_reducible first | exact HB.out | apply below_alloc | apply pw_below_drewN | apply below_drew1) | exact HB.out)) hb); clear HB; have HB := n0_; clear n0_; (try clear hb); (try clear hb2); (try clear hk); (try clear hi)) | ((with_reducible refine own_gate (f := 14) rfl ?_); refine goesL_ (some 26) rfl rfl Tryz.func14 (by kernel_rfl) rfl #[.string t167] rfl (by (try simp only [List.map_toArray, List.map_cons, List.map_nil]); first | done | rfl | (simp only [List.length_drop, List.length_take]; rfl)) ?_; (with_reducible refine (latinerref15_Fold.calls k t167 t171 t172 _ A7.out).mono ?_); rintro e w37 ⟨rfl, hb⟩; refine ⟨_, rfl, ?_⟩; have n0_ := Aside0.mk (below_step (by repeat (first | (with_reducible first | exact HB.out | apply below_alloc | apply pw_below_drewN | apply below_drew1) | exact HB.out)) hb); clear HB; have HB := n0_; clear n0_; (try clear hb); (try clear hb2); (try clear hk); (try clear hi)) | ((with_reducible refine own_gate (f := 15) rfl ?_); refine goesL_ (some 31) rfl rfl Tryz.func15 (by kernel_rfl) rfl #[.string t168] rfl (by (try simp only [List.map_toArray, List.map_cons, List.map_nil]); first | done | rfl | (simp only [List.length_drop, List.length_take]; rfl)) ?_; (with_reducible refine (fold_Unfold.calls t168 t173 t174 _ ?side1 A8.out).mono ?_); (case side1 => exact GW.below hG (by repeat (first | (with_reducible first | exact HB.out | apply below_alloc | apply pw_below_drewN | apply below_drew1) | exact HB.out))); rintro e w38 ⟨v175, rfl, ho0, hb⟩; refine ⟨_, rfl, ?_⟩; have n0_ := Aside0.mk (Kd.R_lower ho0 (below_size (by repeat (first | (with_reducible first | exact HB.out | apply below_alloc | apply pw_below_drewN | apply below_drew1) | exact HB.out)))); have n1_ := Aside0.mk (below_step (by repeat (first | (with_reducible first | exact HB.out | apply below_alloc | apply pw_below_drewN | apply below_drew1) | exact HB.out)) hb); clear HB; have HO176 := n0_; have HB := n1_; clear n0_ n1_; (try clear hb); (try clear hb2); (try clear hk); (try clear hi); (try clear ho0)) | ((with_reducible refine own_gate (f := 16) rfl ?_); refine goesL_ (some 36) rfl rfl Tryz.func16 (by kernel_rfl) rfl #[.string t168] rfl (by (try simp only [List.map_toArray, List.map_cons, List.map_nil]); first | done | rfl | (simp only [List.length_drop, List.length_take]; rfl)) ?_; (with_reducible refine (latinerref15_Unfold.calls k t168 t177 t178 _ A9.out).mono ?_); rintro e w39 ⟨v179, rfl, ho0, hb⟩; refine ⟨_, rfl, ?_⟩; have n0_ := Aside0.mk (Kd.R_elder' (by (with_reducible repeat (first | apply Kd.R_alloc | apply Kd.R_drewN | apply Kd.R_drew)); exact HO176.out) (Kd.R_base ho0) hb); have n1_ := Aside0.mk (Kd.R_lower (Kd.R_new' ho0 (Kd.R_lt (by (with_reducible repeat (first | apply Kd.R_alloc | apply Kd.R_drewN | apply Kd.R_drew)); exact HO176.out))) (below_size (by repeat (first | (with_reducible first | exact HB.out | apply below_alloc | apply pw_below_drewN | apply below_drew1) | exact HB.out)))); have n2_ := Aside0.mk (below_step (by repeat (first | (with_reducible first | exact HB.out | apply below_alloc | apply pw_below_drewN | apply below_drew1) | exact HB.out)) hb); clear HO176; clear HB; have HO176 := n0_; have HO180 := n1_; have HB := n2_; clear n0_ n1_ n2_; (try clear hb); (try clear hb2); (try clear hk); (try clear hi); (try clear ho0)))
        go_ret
        exact ⟨by first | rfl | (simp [errW_none, errW_some] <;> rfl) | (simp [*, errW_none, errW_some] <;> rfl), by repeat (first | (with_reducible first | exact HB.out | apply below_alloc | apply pw_below_drewN | apply below_drew1) | exact HB.out)⟩
    · rw [if_neg c11] at H
      have c11b0 : (t169.toList == t171.toList) = false := beq_eq_false_iff_ne.mpr c11
      have c11b1 : (t169.toList != t171.toList) = true := bne_iff_ne.mpr c11
      obtain rfl := Option.some.inj H
      go_enter Tryz.func3, Tryz.ntmps3
      go_wp2_with (first | ((with_reducible refine own_gate (f := 11) rfl ?_); refine goesL_ (some 14) rfl rfl Tryz.func11 (by kernel_rfl) rfl #[] rfl (by (try simp only [List.map_toArray, List.map_cons, List.map_nil]); first | done | rfl | (simp only [List.length_drop, List.length_take]; rfl)) ?_; (with_reducible refine (latinerlaw15_shown.calls k  true _ ?side1 A3.out).mono ?_); (case side1 => exact GW.below hG (by repeat (first | (with_reducible first | exact HB.out | apply below_alloc | apply pw_below_drewN | apply below_drew1) | exact HB.out))); rintro e w40 ⟨rfl, hb⟩; refine ⟨_, rfl, ?_⟩; have n0_ := Aside0.mk (below_step (by repeat (first | (with_reducible first | exact HB.out | apply below_alloc | apply pw_below_drewN | apply below_drew1) | exact HB.out)) hb); clear HB; have HB := n0_; clear n0_; (try clear hb); (try clear hb2); (try clear hk); (try clear hi)) | ((with_reducible refine own_gate (f := 12) rfl ?_); refine goesL_ (some 16) rfl rfl Tryz.func12 (by kernel_rfl) rfl #[.string a0] rfl (by (try simp only [List.map_toArray, List.map_cons, List.map_nil]); first | done | rfl | (simp only [List.length_drop, List.length_take]; rfl)) ?_; (with_reducible refine (latinerlaw15_cut.calls a0 t167 _ A4.out).mono ?_); rintro e w41 ⟨rfl, hb⟩; refine ⟨_, rfl, ?_⟩; have n0_ := Aside0.mk (below_step (by repeat (first | (with_reducible first | exact HB.out | apply below_alloc | apply pw_below_drewN | apply below_drew1) | exact HB.out)) hb); clear HB; have HB := n0_; clear n0_; (try clear hb); (try clear hb2); (try clear hk); (try clear hi)) | ((with_reducible refine own_gate (f := 12) rfl ?_); refine goesL_ (some 18) rfl rfl Tryz.func12 (by kernel_rfl) rfl #[.string a1] rfl (by (try simp only [List.map_toArray, List.map_cons, List.map_nil]); first | done | rfl | (simp only [List.length_drop, List.length_take]; rfl)) ?_; (with_reducible refine (latinerlaw15_cut.calls a1 t168 _ A5.out).mono ?_); rintro e w42 ⟨rfl, hb⟩; refine ⟨_, rfl, ?_⟩; have n0_ := Aside0.mk (below_step (by repeat (first | (with_reducible first | exact HB.out | apply below_alloc | apply pw_below_drewN | apply below_drew1) | exact HB.out)) hb); clear HB; have HB := n0_; clear n0_; (try clear hb); (try clear hb2); (try clear hk); (try clear hi)) | ((with_reducible refine own_gate (f := 13) rfl ?_); refine goesL_ (some 21) rfl rfl Tryz.func13 (by kernel_rfl) rfl #[.string t167] rfl (by (try simp only [List.map_toArray, List.map_cons, List.map_nil]); first | done | rfl | (simp only [List.length_drop, List.length_take]; rfl)) ?_; (with_reducible refine (fold_Fold.calls t167 t169 t170 _ ?side1 A6.out).mono ?_); (case side1 => exact GW.below hG (by repeat (first | (with_reducible first | exact HB.out | apply below_alloc | apply pw_below_drewN | apply below_drew1) | exact HB.out))); rintro e w43 ⟨rfl, hb⟩; refine ⟨_, rfl, ?_⟩; have n0_ := Aside0.mk (below_step (by repeat (first | (with_reducible first | exact HB.out | apply below_alloc | apply pw_below_drewN | apply below_drew1) | exact HB.out)) hb); clear HB; have HB := n0_; clear n0_; (try clear hb); (try clear hb2); (try clear hk); (try clear hi)) | ((with_reducible refine own_gate (f := 14) rfl ?_); refine goesL_ (some 26) rfl rfl Tryz.func14 (by kernel_rfl) rfl #[.string t167] rfl (by (try simp only [List.map_toArray, List.map_cons, List.map_nil]); first | done | rfl | (simp only [List.length_drop, List.length_take]; rfl)) ?_; (with_reducible refine (latinerref15_Fold.calls k t167 t171 t172 _ A7.out).mono ?_); rintro e w44 ⟨rfl, hb⟩; refine ⟨_, rfl, ?_⟩; have n0_ := Aside0.mk (below_step (by repeat (first | (with_reducible first | exact HB.out | apply below_alloc | apply pw_below_drewN | apply below_drew1) | exact HB.out)) hb); clear HB; have HB := n0_; clear n0_; (try clear hb); (try clear hb2); (try clear hk); (try clear hi)) | ((with_reducible refine own_gate (f := 15) rfl ?_); refine goesL_ (some 31) rfl rfl Tryz.func15 (by kernel_rfl) rfl #[.string t168] rfl (by (try simp only [List.map_toArray, List.map_cons, List.map_nil]); first | done | rfl | (simp only [List.length_drop, List.length_take]; rfl)) ?_; (with_reducible refine (fold_Unfold.calls t168 t173 t174 _ ?side1 A8.out).mono ?_); (case side1 => exact GW.below hG (by repeat (first | (with_reducible first | exact HB.out | apply below_alloc | apply pw_below_drewN | apply below_drew1) | exact HB.out))); rintro e w45 ⟨v175, rfl, ho0, hb⟩; refine ⟨_, rfl, ?_⟩; have n0_ := Aside0.mk (Kd.R_lower ho0 (below_size (by repeat (first | (with_reducible first | exact HB.out | apply below_alloc | apply pw_below_drewN | apply below_drew1) | exact HB.out)))); have n1_ := Aside0.mk (below_step (by repeat (first | (with_reducible first | exact HB.out | apply below_alloc | apply pw_below_drewN | apply below_drew1) | exact HB.out)) hb); clear HB; have HO176 := n0_; have HB := n1_; clear n0_ n1_; (try clear hb); (try clear hb2); (try clear hk); (try clear hi); (try clear ho0)) | ((with_reducible refine own_gate (f := 16) rfl ?_); refine goesL_ (some 36) rfl rfl Tryz.func16 (by kernel_rfl) rfl #[.string t168] rfl (by (try simp only [List.map_toArray, List.map_cons, List.map_nil]); first | done | rfl | (simp only [List.length_drop, List.length_take]; rfl)) ?_; (with_reducible refine (latinerref15_Unfold.calls k t168 t177 t178 _ A9.out).mono ?_); rintro e w46 ⟨v179, rfl, ho0, hb⟩; refine ⟨_, rfl, ?_⟩; have n0_ := Aside0.mk (Kd.R_elder' (by (with_reducible repeat (first | apply Kd.R_alloc | apply Kd.R_drewN | apply Kd.R_drew)); exact HO176.out) (Kd.R_base ho0) hb); have n1_ := Aside0.mk (Kd.R_lower (Kd.R_new' ho0 (Kd.R_lt (by (with_reducible repeat (first | apply Kd.R_alloc | apply Kd.R_drewN | apply Kd.R_drew)); exact HO176.out))) (below_size (by repeat (first | (with_reducible first | exact HB.out | apply below_alloc | apply pw_below_drewN | apply below_drew1) | exact HB.out)))); have n2_ := Aside0.mk (below_step (by repeat (first | (with_reducible first | exact HB.out | apply below_alloc | apply pw_below_drewN | apply below_drew1) | exact HB.out)) hb); clear HO176; clear HB; have HO176 := n0_; have HO180 := n1_; have HB := n2_; clear n0_ n1_ n2_; (try clear hb); (try clear hb2); (try clear hk); (try clear hi); (try clear ho0)))
      go_ret
      exact ⟨by first | rfl | (simp [errW_none, errW_some] <;> rfl) | (simp [*, errW_none, errW_some] <;> rfl), by repeat (first | (with_reducible first | exact HB.out | apply below_alloc | apply pw_below_drewN | apply below_drew1) | exact HB.out)⟩
  · replace c10 := Bool.eq_false_iff.mpr c10
    subst c10
    have H1 : (some false) = some r := by rw [if_neg (show ¬ (false = true) by decide)] at H; exact H
    clear H
    have H := H1
    clear H1
    obtain rfl := Option.some.inj H
    go_enter Tryz.func3, Tryz.ntmps3
    go_wp2_with (first | ((with_reducible refine own_gate (f := 11) rfl ?_); refine goesL_ (some 14) rfl rfl Tryz.func11 (by kernel_rfl) rfl #[] rfl (by (try simp only [List.map_toArray, List.map_cons, List.map_nil]); first | done | rfl | (simp only [List.length_drop, List.length_take]; rfl)) ?_; (with_reducible refine (latinerlaw15_shown.calls k  false _ ?side1 A3.out).mono ?_); (case side1 => exact GW.below hG (by repeat (first | (with_reducible first | exact HB.out | apply below_alloc | apply pw_below_drewN | apply below_drew1) | exact HB.out))); rintro e w47 ⟨rfl, hb⟩; refine ⟨_, rfl, ?_⟩; have n0_ := Aside0.mk (below_step (by repeat (first | (with_reducible first | exact HB.out | apply below_alloc | apply pw_below_drewN | apply below_drew1) | exact HB.out)) hb); clear HB; have HB := n0_; clear n0_; (try clear hb); (try clear hb2); (try clear hk); (try clear hi)) | ((with_reducible refine own_gate (f := 12) rfl ?_); refine goesL_ (some 16) rfl rfl Tryz.func12 (by kernel_rfl) rfl #[.string a0] rfl (by (try simp only [List.map_toArray, List.map_cons, List.map_nil]); first | done | rfl | (simp only [List.length_drop, List.length_take]; rfl)) ?_; (with_reducible refine (latinerlaw15_cut.calls a0 t167 _ A4.out).mono ?_); rintro e w48 ⟨rfl, hb⟩; refine ⟨_, rfl, ?_⟩; have n0_ := Aside0.mk (below_step (by repeat (first | (with_reducible first | exact HB.out | apply below_alloc | apply pw_below_drewN | apply below_drew1) | exact HB.out)) hb); clear HB; have HB := n0_; clear n0_; (try clear hb); (try clear hb2); (try clear hk); (try clear hi)) | ((with_reducible refine own_gate (f := 12) rfl ?_); refine goesL_ (some 18) rfl rfl Tryz.func12 (by kernel_rfl) rfl #[.string a1] rfl (by (try simp only [List.map_toArray, List.map_cons, List.map_nil]); first | done | rfl | (simp only [List.length_drop, List.length_take]; rfl)) ?_; (with_reducible refine (latinerlaw15_cut.calls a1 t168 _ A5.out).mono ?_); rintro e w49 ⟨rfl, hb⟩; refine ⟨_, rfl, ?_⟩; have n0_ := Aside0.mk (below_step (by repeat (first | (with_reducible first | exact HB.out | apply below_alloc | apply pw_below_drewN | apply below_drew1) | exact HB.out)) hb); clear HB; have HB := n0_; clear n0_; (try clear hb); (try clear hb2); (try clear hk); (try clear hi)) | ((with_reducible refine own_gate (f := 13) rfl ?_); refine goesL_ (some 21) rfl rfl Tryz.func13 (by kernel_rfl) rfl #[.string t167] rfl (by (try simp only [List.map_toArray, List.map_cons, List.map_nil]); first | done | rfl | (simp only [List.length_drop, List.length_take]; rfl)) ?_; (with_reducible refine (fold_Fold.calls t167 t169 t170 _ ?side1 A6.out).mono ?_); (case side1 => exact GW.below hG (by repeat (first | (with_reducible first | exact HB.out | apply below_alloc | apply pw_below_drewN | apply below_drew1) | exact HB.out))); rintro e w50 ⟨rfl, hb⟩; refine ⟨_, rfl, ?_⟩; have n0_ := Aside0.mk (below_step (by repeat (first | (with_reducible first | exact HB.out | apply below_alloc | apply pw_below_drewN | apply below_drew1) | exact HB.out)) hb); clear HB; have HB := n0_; clear n0_; (try clear hb); (try clear hb2); (try clear hk); (try clear hi)) | ((with_reducible refine own_gate (f := 14) rfl ?_); refine goesL_ (some 26) rfl rfl Tryz.func14 (by kernel_rfl) rfl #[.string t167] rfl (by (try simp only [List.map_toArray, List.map_cons, List.map_nil]); first | done | rfl | (simp only [List.length_drop, List.length_take]; rfl)) ?_; (with_reducible refine (latinerref15_Fold.calls k t167 t171 t172 _ A7.out).mono ?_); rintro e w51 ⟨rfl, hb⟩; refine ⟨_, rfl, ?_⟩; have n0_ := Aside0.mk (below_step (by repeat (first | (with_reducible first | exact HB.out | apply below_alloc | apply pw_below_drewN | apply below_drew1) | exact HB.out)) hb); clear HB; have HB := n0_; clear n0_; (try clear hb); (try clear hb2); (try clear hk); (try clear hi)) | ((with_reducible refine own_gate (f := 15) rfl ?_); refine goesL_ (some 31) rfl rfl Tryz.func15 (by kernel_rfl) rfl #[.string t168] rfl (by (try simp only [List.map_toArray, List.map_cons, List.map_nil]); first | done | rfl | (simp only [List.length_drop, List.length_take]; rfl)) ?_; (with_reducible refine (fold_Unfold.calls t168 t173 t174 _ ?side1 A8.out).mono ?_); (case side1 => exact GW.below hG (by repeat (first | (with_reducible first | exact HB.out | apply below_alloc | apply pw_below_drewN | apply below_drew1) | exact HB.out))); rintro e w52 ⟨v175, rfl, ho0, hb⟩; refine ⟨_, rfl, ?_⟩; have n0_ := Aside0.mk (Kd.R_lower ho0 (below_size (by repeat (first | (with_reducible first | exact HB.out | apply below_alloc | apply pw_below_drewN | apply below_drew1) | exact HB.out)))); have n1_ := Aside0.mk (below_step (by repeat (first | (with_reducible first | exact HB.out | apply below_alloc | apply pw_below_drewN | apply below_drew1) | exact HB.out)) hb); clear HB; have HO176 := n0_; have HB := n1_; clear n0_ n1_; (try clear hb); (try clear hb2); (try clear hk); (try clear hi); (try clear ho0)) | ((with_reducible refine own_gate (f := 16) rfl ?_); refine goesL_ (some 36) rfl rfl Tryz.func16 (by kernel_rfl) rfl #[.string t168] rfl (by (try simp only [List.map_toArray, List.map_cons, List.map_nil]); first | done | rfl | (simp only [List.length_drop, List.length_take]; rfl)) ?_; (with_reducible refine (latinerref15_Unfold.calls k t168 t177 t178 _ A9.out).mono ?_); rintro e w53 ⟨v179, rfl, ho0, hb⟩; refine ⟨_, rfl, ?_⟩; have n0_ := Aside0.mk (Kd.R_elder' (by (with_reducible repeat (first | apply Kd.R_alloc | apply Kd.R_drewN | apply Kd.R_drew)); exact HO176.out) (Kd.R_base ho0) hb); have n1_ := Aside0.mk (Kd.R_lower (Kd.R_new' ho0 (Kd.R_lt (by (with_reducible repeat (first | apply Kd.R_alloc | apply Kd.R_drewN | apply Kd.R_drew)); exact HO176.out))) (below_size (by repeat (first | (with_reducible first | exact HB.out | apply below_alloc | apply pw_below_drewN | apply below_drew1) | exact HB.out)))); have n2_ := Aside0.mk (below_step (by repeat (first | (with_reducible first | exact HB.out | apply below_alloc | apply pw_below_drewN | apply below_drew1) | exact HB.out)) hb); clear HO176; clear HB; have HO176 := n0_; have HO180 := n1_; have HB := n2_; clear n0_ n1_ n2_; (try clear hb); (try clear hb2); (try clear hk); (try clear hi); (try clear ho0)))
    go_ret
    exact ⟨by first | rfl | (simp [errW_none, errW_some] <;> rfl) | (simp [*, errW_none, errW_some] <;> rfl), by repeat (first | (with_reducible first | exact HB.out | apply below_alloc | apply pw_below_drewN | apply below_drew1) | exact HB.out)⟩

/-- THE ONE PURE STATEMENT of latinerlaw15_FoldLines: yours. -/
def latinerlaw15_FoldLines.Pure : Prop := ∀ (a0 : ByteArray) (a1 : ByteArray), a0.size ≤ 140737488351232 → a1.size ≤ 140737488351232 → ∃ k, latinerlaw15_FoldLines.f k a0 a1 = some true
theorem latinerlaw15_FoldLines.walk (P : latinerlaw15_FoldLines.Pure) (a0 : ByteArray) (a1 : ByteArray) (w : World) (w0 : a0.size ≤ 140737488351232) (w1 : a1.size ≤ 140737488351232) (hG : GW w) :
    Calls Tryz.prog 3 #[.string a0, .string a1] w fun e w' => e = .returned (.bool true) ∧ Below w.heap.size w w' := by
  obtain ⟨k, h⟩ := P a0 a1 w0 w1
  refine (latinerlaw15_FoldLines.calls k a0 a1 true w hG h).mono ?_
  rintro e w' ⟨rfl, hd⟩
  exact ⟨rfl, hd⟩

/-! ### latinerlaw15_short: function 18 -/
/-! ### latinerref15_name: function 35 -/
/-! ### latinerref04_IsSafe: function 36 -/
end Go.Proofs.YtjnfoocmilbdlaaGreatDoor.LFold
/- What is unfolded of what is folded, of two texts, of a text behind a note, of one whose rows end with 0d 0a. No program in sight. -/
namespace Go.Proofs.YtjnfoocmilbdlaaGreatDoor
set_option linter.unusedSimpArgs false
set_option linter.unusedVariables false
namespace Fold
open Go.Proofs.YtjnfoocmilbdlaaGreatDoor.Code (Byt)
theorem rows_cons (a b : List Int) (h : (10 : Int) ∉ a) (g : Nat) (hg : (a ++ 10 :: b).length < g) : rowsL g (a ++ 10 :: b) = stripR a :: rowsL (b.length + 1) b := by
  obtain ⟨g, rfl⟩ : ∃ m, g = m + 1 := ⟨g - 1, by omega⟩
  have hc := cutL_app 10 a b h
  have hl : (a ++ 10 :: b).length = a.length + (b.length + 1) := by simp
  obtain ⟨c, r, hr⟩ : ∃ c r, a ++ 10 :: b = c :: r := by cases a <;> exact ⟨_, _, rfl⟩
  rw [hr] at hc ⊢
  simp only [rowsL, hc, if_true]
  rw [rowsL_more g (b.length + 1) b (by omega) (by omega)]
theorem rows_last (a : List Int) (h : (10 : Int) ∉ a) (h0 : a ≠ []) (g : Nat) (hg : a.length < g) : rowsL g a = [a] := by
  obtain ⟨g, rfl⟩ : ∃ m, g = m + 1 := ⟨g - 1, by omega⟩
  have hc := cutL_none 10 a h
  cases a with
  | nil => exact absurd rfl h0
  | cons c r => simp only [rowsL, hc, Bool.false_eq_true, if_false, rowsL_nil]
/-- a text's rows -/
def rw_ (l : List Int) : List (List Int) := rowsL (l.length + 1) l
theorem rw_nil : rw_ [] = [] := rfl
theorem rw_cons (a b : List Int) (h : (10 : Int) ∉ a) : rw_ (a ++ 10 :: b) = stripR a :: rw_ b := rows_cons a b h _ (Nat.lt_succ_self _)
theorem rw_last (a : List Int) (h : (10 : Int) ∉ a) (h0 : a ≠ []) : rw_ a = [a] := rows_last a h h0 _ (Nat.lt_succ_self _)
/-! Folded and unfolded. -/
theorem foldR_more : ∀ (f g w : Nat) (l : List Int), 1 ≤ w → l.length < f → l.length < g → foldR f w l = foldR g w l
  | 0, _, _, _, _, h, _ => absurd h (Nat.not_lt_zero _)
  | _, 0, _, _, _, _, h => absurd h (Nat.not_lt_zero _)
  | f + 1, g + 1, w, l, hw, h1, h2 => by
    simp only [foldR]
    by_cases hd : l.drop w = []
    · rw [if_pos hd, if_pos hd]
    · have hl : (l.drop w).length = l.length - w := List.length_drop
      have h3 : 0 < (l.drop w).length := List.length_pos_iff.2 hd
      rw [if_neg hd, if_neg hd, foldR_more f g 75 (l.drop w) (by omega) (by omega) (by omega)]
theorem uAll_cons (r : List Int) (rs ls : List (List Int)) (op : Bool) : uAll (r :: rs) ls op = (uStep ls op r).bind fun p => uAll rs p.1 p.2 := rfl
/-! A line kept apart from what follows it. -/
/-- does the first row begin with a blank? -/
def st32 : List Int → Bool | c :: _ => decide (c = 32) | [] => false
theorem unfO_rw (l : List Int) : unfO l = (uAll (rw_ l) [] false).map fun p => p.1.filter fun x => !noteB x := rfl
/-! Rows that end with 0d 0a. -/
end Fold
end Go.Proofs.YtjnfoocmilbdlaaGreatDoor
namespace Go.Proofs.YtjnfoocmilbdlaaGreatDoor.Pure
set_option linter.unusedSimpArgs false
set_option linter.unusedVariables false
open Go.RowKit Go.Proofs.YtjnfoocmilbdlaaGreatDoor.LFold Go.Proofs.YtjnfoocmilbdlaaGreatDoor.ExtFold Go.Proofs.YtjnfoocmilbdlaaGreatDoor.Fold Go.Proofs.YtjnfoocmilbdlaaGreatDoorW.PrintWords Go.Proofs.YtjnfoocmilbdlaaGreatDoorW2 Go.Proofs.YtjnfoocmilbdlaaGreatDoorW.PrintLast Go.Proofs.YtjnfoocmilbdlaaGreatDoor.PureB
open Go.Proofs.YtjnfoocmilbdlaaGreatDoor.Code (bl bl_len bl_get bl_byte Byt bl_son son_bl bl_append)
set_option maxRecDepth 100000 in
theorem shown_10 : latinerlaw15_shown.f 10 = some true := by decide +kernel
theorem shown_true : ∀ n : Nat, latinerlaw15_shown.f (10 + n) = some true
  | 0 => shown_10
  | n + 1 => latinerlaw15_shown.mono (10 + n) _ (shown_true n)
theorem shown_k (k : Nat) (h : 10 ≤ k) : latinerlaw15_shown.f k = some true := by
  have := shown_true (k - 10)
  rwa [show 10 + (k - 10) = k by omega] at this
theorem texts_go (l : List ByteArray) (hl : l.length ≤ 1000000) (d : Nat) : ∀ (k j : Nat), l.length = j + d → d < k → latinerref08_Texts.l0 k l l (j : Int) = some true := by
  induction d with
  | zero =>
    intro k j hj hk
    obtain ⟨k, rfl⟩ : ∃ m, k = m + 1 := ⟨k - 1, by omega⟩
    conv => lhs; rw [latinerref08_Texts.l0]
    rw [if_neg (by omega)]
  | succ d ih =>
    intro k j hj hk
    obtain ⟨k, rfl⟩ : ∃ m, k = m + 1 := ⟨k - 1, by omega⟩
    conv => lhs; rw [latinerref08_Texts.l0]
    rw [if_pos (by omega), if_pos (by omega), if_pos (by omega), if_pos rfl, w64 (by omega) (by omega)]
    exact ih k (j + 1) (by omega) (by omega)
theorem texts_refl (l : List ByteArray) (hl : l.length ≤ 1000000) (k : Nat) (hk : l.length < k) : latinerref08_Texts.f k l l = some true := by
  unfold latinerref08_Texts.f
  rw [if_pos rfl]
  exact texts_go l hl l.length k 0 (by omega) hk
theorem fold_f (s : ByteArray) (h : s.size ≤ 100000) : fold_Fold.f s = some (strOfNums (fdV (bl s)), fdE (bl s)) := if_pos h
theorem unfold_f (s : ByteArray) (h : s.size ≤ 100000) : fold_Unfold.f s = some ((unfL (bl s)).map strOfNums, unfE (bl s)) := if_pos h
theorem cut_of (s : ByteArray) (m : Int) (h0 : 0 ≤ m) : 0 ≤ lesser (s.size : Int) m ∧ lesser (s.size : Int) m ≤ s.size ∧ lesser (s.size : Int) m ≤ m := by
  unfold lesser; split <;> omega
theorem cut_sz (s : ByteArray) (m : Nat) : (s.extract 0 (lesser (s.size : Int) m).toNat).size ≤ m := by
  have := cut_of s m (by omega)
  rw [ByteArray.size_extract]
  omega
theorem unf_small (l : List Int) (h : l.length ≤ 8000) : unfL l = (unfO l).getD [] ∧ unfE l = if (unfO l).isSome then 0 else 150 := by
  unfold unfL unfE
  rw [if_neg (by omega), if_neg (by omega)]
  exact ⟨rfl, rfl⟩
theorem unf_len (l : List Int) (h : l.length ≤ 8000) : (unfL l).length ≤ 8000 := by
  have h1 := (unf_small l h).1
  rw [h1]
  cases ho : unfO l with
  | none => exact Nat.zero_le _
  | some o =>
    rw [unfO_rw] at ho
    cases hu : uAll (rw_ l) [] false with
    | none => rw [hu] at ho; cases ho
    | some p =>
      rw [hu] at ho
      have h2 := (uAll_ok _ _ _ _ (fun e => by cases e) hu).1
      have h3 := (rowsL_len (l.length + 1) l).1
      have h4 : (rw_ l).length ≤ l.length := h3
      obtain rfl := Option.some.inj ho
      have h5 := List.length_filter_le (fun x => !noteB x) p.1
      simp only [List.length_nil] at h2
      show (p.1.filter fun x => !noteB x).length ≤ 8000
      omega
end Go.Proofs.YtjnfoocmilbdlaaGreatDoor.Pure
/- The reference's Fold. -/
namespace Go.Proofs.YtjnfoocmilbdlaaGreatDoor.Pure
set_option linter.unusedSimpArgs false
set_option linter.unusedVariables false
open Go.RowKit Go.Proofs.YtjnfoocmilbdlaaGreatDoor.LFold Go.Proofs.YtjnfoocmilbdlaaGreatDoor.ExtFold Go.Proofs.YtjnfoocmilbdlaaGreatDoor.Fold Go.Proofs.YtjnfoocmilbdlaaGreatDoorW.PrintWords Go.Proofs.YtjnfoocmilbdlaaGreatDoorW2 Go.Proofs.YtjnfoocmilbdlaaGreatDoorW.PrintLast Go.Proofs.YtjnfoocmilbdlaaGreatDoor.PureB
open Go.Proofs.YtjnfoocmilbdlaaGreatDoor.Code (bl bl_len bl_get bl_byte Byt bl_son son_bl bl_append bl_extract)
theorem drop_at (s : ByteArray) (j : Nat) (h : j < s.size) : (bl s).drop j = bt s (j : Int) :: (bl s).drop (j + 1) := by
  have hg := bl_get s j h
  rw [List.drop_eq_getElem_cons (by rw [bl_len]; omega)]
  congr 1
  exact (List.getElem?_eq_some_iff.1 hg).2
theorem among_go (c : Int) (s : ByteArray) (hs : s.size ≤ 10000) (d : Nat) : ∀ (k j : Nat), s.size = j + d → d < k → latinerref06_Among.l0 k c s (j : Int) = some (((bl s).drop j).any fun x => decide (x = c)) := by
  induction d with
  | zero =>
    intro k j hj hk
    obtain ⟨k, rfl⟩ : ∃ m, k = m + 1 := ⟨k - 1, by omega⟩
    conv => lhs; rw [latinerref06_Among.l0]
    rw [if_neg (by omega), List.drop_eq_nil_of_le (by rw [bl_len]; omega)]
    rfl
  | succ d ih =>
    intro k j hj hk
    obtain ⟨k, rfl⟩ : ∃ m, k = m + 1 := ⟨k - 1, by omega⟩
    conv => lhs; rw [latinerref06_Among.l0]
    rw [if_pos (by omega), if_pos (by omega), drop_at s j (by omega), List.any_cons]
    by_cases h : bt s (j : Int) = c
    · rw [if_pos h, decide_eq_true h]; rfl
    · rw [if_neg h, decide_eq_false h, w64 (by omega) (by omega), Bool.false_or]
      exact ih k (j + 1) (by omega) (by omega)
theorem among_f (c : Int) (s : ByteArray) (hs : s.size ≤ 10000) (k : Nat) (hk : s.size < k) : latinerref06_Among.f k c s = some ((bl s).any fun x => decide (x = c)) :=
  among_go c s hs s.size k 0 (by omega) hk
def restL (f : Nat) (m : List Int) : List Int := if m = [] then [] else 32 :: foldR f 75 m
theorem son_app3 (a b : List Int) : strOfNums (a ++ b) = strOfNums a ++ strOfNums b := by apply ByteArray.ext; simp [strOfNums]
theorem rfold_go (s : ByteArray) (hs : s.size ≤ 8000) : ∀ (n k f j : Nat) (X : ByteArray), s.size ≤ j + n → j ≤ s.size → n < k → s.size - j < f → X.size ≤ 3 * j + 10 →
    latinerref15_Fold.l0 k s (j : Int) X = some (X ++ strOfNums (restL f ((bl s).drop j)), 0)
  | 0, k, f, j, X, hj, hjs, hk, hf, hX => by
    obtain ⟨k, rfl⟩ : ∃ m, k = m + 1 := ⟨k - 1, by omega⟩
    conv => lhs; rw [latinerref15_Fold.l0]
    rw [if_neg (by omega), List.drop_eq_nil_of_le (by rw [bl_len]; omega)]
    exact congrArg some (congrArg (·, (0 : Int)) (show X = X ++ strOfNums [] by apply ByteArray.ext; simp [strOfNums]))
  | n + 1, k, f, j, X, hj, hjs, hk, hf, hX => by
    obtain ⟨k, rfl⟩ : ∃ m, k = m + 1 := ⟨k - 1, by omega⟩
    by_cases he : j = s.size
    · conv => lhs; rw [latinerref15_Fold.l0]
      rw [if_neg (by omega), List.drop_eq_nil_of_le (by rw [bl_len]; omega)]
      exact congrArg some (congrArg (·, (0 : Int)) (show X = X ++ strOfNums [] by apply ByteArray.ext; simp [strOfNums]))
    · obtain ⟨f, rfl⟩ : ∃ m, f = m + 1 := ⟨f - 1, by omega⟩
      have hm : lesser (wrap64 (wrap64 ((j : Int) + 76) - 1)) (s.size : Int) = ((min (j + 75) s.size : Nat) : Int) := by
        rw [w64 (n := (j : Int) + 76) (by omega) (by omega), w64 (by omega) (by omega)]
        unfold lesser; split <;> omega
      obtain ⟨e, hee⟩ : ∃ e, min (j + 75) s.size = e := ⟨_, rfl⟩
      conv => lhs; rw [latinerref15_Fold.l0]
      rw [hm, hee]
      have e0 : ((j : Int)).toNat = j := rfl
      have e9 : ((e : Nat) : Int).toNat = e := rfl
      have e1 : (X ++ (⟨#[32]⟩ : ByteArray)).size = X.size + 1 := by rw [ByteArray.size_append]; rfl
      have e2 : (s.extract j e).size = e - j := by rw [ByteArray.size_extract]; omega
      have e3 : ((X ++ (⟨#[32]⟩ : ByteArray)) ++ s.extract j e).size = X.size + 1 + (e - j) := by rw [ByteArray.size_append, e1, e2]
      have e4 : (((X ++ (⟨#[32]⟩ : ByteArray)) ++ s.extract j e) ++ (⟨#[10]⟩ : ByteArray)).size = X.size + 1 + (e - j) + 1 := by rw [ByteArray.size_append, e3]; rfl
      rw [e0, e9, if_pos (by omega), if_pos (by omega), if_pos (by omega), if_pos (by omega), if_pos (by omega), if_pos (by omega), if_pos (by omega)]
      rw [rfold_go s hs n k f e _ (by omega) (by omega) (by omega) (by omega) (by omega)]
      have hne : (bl s).drop j ≠ [] := by rw [drop_at s j (by omega)]; simp
      have hb : bl (s.extract j e) = ((bl s).drop j).take 75 := by
        rw [bl_extract, List.drop_take, List.take_eq_take_iff, List.length_drop, bl_len]
        omega
      have hd : (bl s).drop e = ((bl s).drop j).drop 75 := by
        rw [List.drop_drop]
        by_cases h2 : j + 75 ≤ s.size
        · congr 1; omega
        · rw [List.drop_eq_nil_of_le (by rw [bl_len]; omega), List.drop_eq_nil_of_le (by rw [bl_len]; omega)]
      have hr : restL (f + 1) ((bl s).drop j) = ([32] ++ bl (s.extract j e) ++ [10]) ++ restL f ((bl s).drop e) := by
        rw [hb, hd]
        unfold restL
        rw [if_neg hne]
        simp [foldR]
      rw [hr, son_app3, son_app3, son_app3, son_bl]
      congr 2
      simp only [ByteArray.append_assoc]
      rfl
theorem ref_fold (s : ByteArray) (hs : s.size ≤ 8001) (k : Nat) (hk : 10000 ≤ k) : latinerref15_Fold.f k s = some (strOfNums (fdV (bl s)), fdE (bl s)) := by
  have hl := bl_len s
  unfold latinerref15_Fold.f
  by_cases h8 : (s.size : Int) > 8000
  · have h8' : (bl s).length > 8000 := by omega
    rw [if_pos h8]
    unfold fdV fdE
    rw [if_pos h8', if_pos h8']
    rfl
  · have h8' : ¬ (bl s).length > 8000 := by omega
    have hv : fdV (bl s) = if brk (bl s) then [] else foldL (bl s) := by unfold fdV; rw [if_neg h8']
    have he : fdE (bl s) = if brk (bl s) then 150 else 0 := by unfold fdE; rw [if_neg h8']
    have hbr : brk (bl s) = (((bl s).any fun x => decide (x = 10)) || (bl s).any fun x => decide (x = 13)) := by
      unfold brk
      rw [Bool.eq_iff_iff, Bool.or_eq_true, List.any_eq_true, List.any_eq_true, List.any_eq_true]
      simp only [decide_eq_true_eq]
      constructor
      · rintro ⟨x, h1, h2 | h2⟩
        · exact .inl ⟨x, h1, h2⟩
        · exact .inr ⟨x, h1, h2⟩
      · rintro (⟨x, h1, h2⟩ | ⟨x, h1, h2⟩)
        · exact ⟨x, h1, .inl h2⟩
        · exact ⟨x, h1, .inr h2⟩
    obtain ⟨k, rfl⟩ : ∃ m, k = m + 1 := ⟨k - 1, by omega⟩
    have jt : latinerref15_Fold.j0 (k + 1) s true = some (⟨#[]⟩, 150) := by
      conv => lhs; rw [latinerref15_Fold.j0]
      rw [if_pos rfl]
    have jf : latinerref15_Fold.j0 (k + 1) s false = some (strOfNums (foldL (bl s)), 0) := by
      have hm : lesser (s.size : Int) 76 = ((min s.size 76 : Nat) : Int) := by unfold lesser; split <;> omega
      obtain ⟨e, hee⟩ : ∃ e, min s.size 76 = e := ⟨_, rfl⟩
      conv => lhs; rw [latinerref15_Fold.j0]
      rw [hm, hee, if_neg (by decide)]
      have e9 : ((e : Nat) : Int).toNat = e := rfl
      have e2 : (s.extract 0 e).size = e := by rw [ByteArray.size_extract]; omega
      have e3 : (s.extract 0 e ++ (⟨#[10]⟩ : ByteArray)).size = e + 1 := by rw [ByteArray.size_append, e2]; rfl
      rw [e9, if_pos (by omega), if_pos (by omega), if_pos (by omega), rfold_go s (by omega) s.size k (s.size + 1) e _ (by omega) (by omega) (by omega) (by omega) (by omega)]
      have hb : bl (s.extract 0 e) = (bl s).take 76 := by
        rw [bl_extract, List.drop_zero, List.take_eq_take_iff, bl_len]
        omega
      have hd : (bl s).drop e = (bl s).drop 76 := by
        by_cases h2 : 76 ≤ s.size
        · congr 1; omega
        · rw [List.drop_eq_nil_of_le (by rw [bl_len]; omega), List.drop_eq_nil_of_le (by rw [bl_len]; omega)]
      have hr : foldL (bl s) = (bl (s.extract 0 e) ++ [10]) ++ restL (s.size + 1) ((bl s).drop e) := by
        rw [hb, hd]
        unfold foldL restL
        simp only [foldR]
        by_cases h2 : (bl s).drop 76 = []
        · rw [if_pos h2, if_pos h2]
        · have h3 : 0 < ((bl s).drop 76).length := List.length_pos_iff.2 h2
          have h4 : ((bl s).drop 76).length = (bl s).length - 76 := List.length_drop
          rw [if_neg h2, if_neg h2, foldR_more (bl s).length (s.size + 1) 75 _ (by omega) (by omega) (by omega)]
          simp [foldR]
      rw [hr, son_app3, son_app3, son_bl]
      rfl
    rw [if_neg h8, among_f 10 s (by omega) _ (by omega), Option.bind_some, hv, he, hbr]
    cases h10 : (bl s).any fun x => decide (x = 10) with
    | true => rw [if_pos rfl, jt]; rfl
    | false =>
      rw [if_neg (by decide), among_f 13 s (by omega) _ (by omega), Option.bind_some]
      cases h13 : (bl s).any fun x => decide (x = 13) with
      | true => rw [jt]; rfl
      | false => rw [jf]; rfl
end Go.Proofs.YtjnfoocmilbdlaaGreatDoor.Pure
/- The reference's rows. -/
namespace Go.Proofs.YtjnfoocmilbdlaaGreatDoor.Pure
set_option linter.unusedSimpArgs false
set_option linter.unusedVariables false
open Go.RowKit Go.Proofs.YtjnfoocmilbdlaaGreatDoor.LFold Go.Proofs.YtjnfoocmilbdlaaGreatDoor.ExtFold Go.Proofs.YtjnfoocmilbdlaaGreatDoor.Fold Go.Proofs.YtjnfoocmilbdlaaGreatDoorW.PrintWords Go.Proofs.YtjnfoocmilbdlaaGreatDoorW.PrintLast Go.Proofs.YtjnfoocmilbdlaaGreatDoor.PureB
open Go.Proofs.YtjnfoocmilbdlaaGreatDoor.Code (bl bl_len bl_get bl_byte Byt bl_son son_bl bl_append bl_extract)
theorem ext_row (s : ByteArray) (i j : Nat) (hj : j ≤ s.size) : s.extract i j = strOfNums (((bl s).drop i).take (j - i)) := by
  rw [← son_bl (s.extract i j), bl_extract, List.drop_take]
theorem row_at (s : ByteArray) (i j : Nat) (hij : i ≤ j) (hj : j < s.size) : (bl s).drop i = ((bl s).drop i).take (j - i) ++ bt s (j : Int) :: (bl s).drop (j + 1) := by
  have h := (List.take_append_drop (j - i) ((bl s).drop i)).symm
  rw [List.drop_drop, show i + (j - i) = j by omega, drop_at s j hj] at h
  exact h
theorem strip_row (s : ByteArray) (i j : Nat) (hij : i ≤ j) (hj : j < s.size) :
    stripR (((bl s).drop i).take (j - i)) = if i < j ∧ bt s ((j : Int) - 1) = 13 then ((bl s).drop i).take (j - 1 - i) else ((bl s).drop i).take (j - i) := by
  by_cases h : i < j
  · have hg : ((bl s).drop i)[j - 1 - i]? = some (bt s ((j : Int) - 1)) := by
      rw [List.getElem?_drop, show i + (j - 1 - i) = j - 1 by omega, bl_get s (j - 1) (by omega), show ((j - 1 : Nat) : Int) = (j : Int) - 1 by omega]
    have ht : ((bl s).drop i).take (j - i) = ((bl s).drop i).take (j - 1 - i) ++ [bt s ((j : Int) - 1)] := by
      rw [show j - i = (j - 1 - i) + 1 by omega, List.take_add_one, hg]
      rfl
    rw [ht]
    unfold stripR
    simp only [List.getLast?_concat, Option.some.injEq, List.dropLast_concat, h, true_and]
  · have h0 : j - i = 0 := by omega
    rw [h0, if_neg (fun q => h q.1), List.take_zero]
    rfl
theorem rows_go (s : ByteArray) (hs : s.size ≤ 10000) (d : Nat) : ∀ (k i j : Nat) (acc : List ByteArray), s.size = j + d → d < k → i ≤ j → acc.length ≤ i → (10 : Int) ∉ ((bl s).drop i).take (j - i) →
    latinerref15_rows.l0 k s acc (i : Int) (j : Int) = some (acc ++ (rw_ ((bl s).drop i)).map strOfNums) := by
  induction d with
  | zero =>
    intro k i j acc hj hk hij ha hno
    obtain ⟨k, rfl⟩ : ∃ m, k = m + 1 := ⟨k - 1, by omega⟩
    conv => lhs; rw [latinerref15_rows.l0]
    rw [if_neg (by omega)]
    by_cases hi : i < s.size
    · have hne : (bl s).drop i ≠ [] := by rw [drop_at s i hi]; simp
      rw [List.take_of_length_le (by rw [List.length_drop, bl_len]; omega)] at hno
      rw [if_pos (by omega), if_pos (by omega), if_pos (by omega), if_pos (by omega), rw_last _ hno hne]
      have e0 : ((i : Nat) : Int).toNat = i := rfl
      rw [e0, ext_row s i s.size (Nat.le_refl _), List.take_of_length_le (by rw [List.length_drop, bl_len]; exact Nat.le_refl _)]
      rfl
    · rw [if_neg (by omega), List.drop_eq_nil_of_le (by rw [bl_len]; omega), rw_nil, List.map_nil, List.append_nil]
  | succ d ih =>
    intro k i j acc hj hk hij ha hno
    obtain ⟨k, rfl⟩ : ∃ m, k = m + 1 := ⟨k - 1, by omega⟩
    have hjs : j < s.size := by omega
    have hrow := row_at s i j hij hjs
    conv => lhs; rw [latinerref15_rows.l0]
    rw [if_pos (by omega), if_pos (by omega)]
    by_cases h10 : bt s (j : Int) = 10
    · rw [h10] at hrow
      have hr : (rw_ ((bl s).drop i)).map strOfNums = strOfNums (stripR (((bl s).drop i).take (j - i))) :: (rw_ ((bl s).drop (j + 1))).map strOfNums := by
        conv => lhs; rw [hrow, rw_cons _ _ hno]
        rfl
      have hst := strip_row s i j hij hjs
      have e0 : ((i : Nat) : Int).toNat = i := rfl
      have e1 : ((j : Nat) : Int).toNat = j := rfl
      have e2 : ((j : Int) - 1).toNat = j - 1 := by omega
      have next : ∀ x : ByteArray, x = strOfNums (stripR (((bl s).drop i).take (j - i))) → latinerref15_rows.l0 k s (acc ++ [x]) ((j : Int) + 1) ((j : Int) + 1) = some (acc ++ (rw_ ((bl s).drop i)).map strOfNums) := fun x hx => by
        have := ih k (j + 1) (j + 1) (acc ++ [x]) (by omega) (by omega) (by omega) (by rw [List.length_append]; simp only [List.length_cons, List.length_nil]; omega) (by simp)
        rw [hr, ← hx, show acc ++ x :: (rw_ ((bl s).drop (j + 1))).map strOfNums = (acc ++ [x]) ++ (rw_ ((bl s).drop (j + 1))).map strOfNums by simp]
        exact this
      rw [if_pos h10]
      by_cases hi : i < j
      · rw [if_pos (by omega), w64 (n := (j : Int) - 1) (by omega) (by omega), if_pos (by omega), if_pos (by omega)]
        by_cases h13 : bt s ((j : Int) - 1) = 13
        · rw [if_pos ⟨hi, h13⟩] at hst
          rw [if_pos h13, if_pos (by omega), if_pos (by omega), if_pos (by omega), if_pos (by omega), w64 (by omega) (by omega), e0, e2]
          exact next _ (by rw [hst, ext_row s i (j - 1) (by omega)])
        · rw [if_neg (fun q => h13 q.2)] at hst
          rw [if_neg h13, if_pos (by omega), if_pos (by omega), if_pos (by omega), if_pos (by omega), w64 (by omega) (by omega), e0, e1]
          exact next _ (by rw [hst, ext_row s i j (by omega)])
      · rw [if_neg (fun q => hi q.1)] at hst
        rw [if_neg (by omega), if_pos (by omega), if_pos (by omega), if_pos (by omega), if_pos (by omega), w64 (by omega) (by omega), e0, e1]
        exact next _ (by rw [hst, ext_row s i j (by omega)])
    · rw [if_neg h10, w64 (by omega) (by omega)]
      refine ih k i (j + 1) acc (by omega) (by omega) (by omega) ha (fun q => ?_)
      rw [show j + 1 - i = (j - i) + 1 by omega, List.take_add_one, List.getElem?_drop, show i + (j - i) = j by omega, bl_get s j hjs] at q
      rcases List.mem_append.1 q with q | q
      · exact hno q
      · simp at q; exact h10 q.symm
theorem ref_rows (s : ByteArray) (hs : s.size ≤ 10000) (k : Nat) (hk : s.size < k) : latinerref15_rows.f k s = some ((rw_ (bl s)).map strOfNums) := by
  have := rows_go s hs s.size k 0 0 [] (by omega) hk (by omega) (by simp) (by simp)
  rw [List.drop_zero, List.nil_append] at this
  exact this
end Go.Proofs.YtjnfoocmilbdlaaGreatDoor.Pure
namespace Go.Proofs.YtjnfoocmilbdlaaGreatDoor.Pure
set_option linter.unusedSimpArgs false
set_option linter.unusedVariables false
open Go.RowKit Go.Proofs.YtjnfoocmilbdlaaGreatDoor.LFold Go.Proofs.YtjnfoocmilbdlaaGreatDoor.ExtFold Go.Proofs.YtjnfoocmilbdlaaGreatDoor.Fold Go.Proofs.YtjnfoocmilbdlaaGreatDoorW.PrintWords Go.Proofs.YtjnfoocmilbdlaaGreatDoorW2 Go.Proofs.YtjnfoocmilbdlaaGreatDoorW.PrintLast Go.Proofs.YtjnfoocmilbdlaaGreatDoor.PureB
open Go.Proofs.YtjnfoocmilbdlaaGreatDoor.Code (bl bl_len bl_get bl_byte Byt bl_son son_bl bl_append bl_extract)
abbrev so (R : List (List Int)) : List ByteArray := R.map strOfNums
theorem rd_at (R : List (List Int)) (i : Nat) (h : i < R.length) : rdOf ByteArray.empty (so R) (i : Int) = strOfNums (R[i]'h) := by
  simp [rdOf, so, List.getD, h]
theorem badRow_cons (c : Int) (r : List Int) : badRow (c :: r) = (decide (c = 0 ∨ c = 13 ∨ c > 127) || badRow r) := rfl
theorem uf_l1 (X : List ByteArray) (R : List (List Int)) (i : Nat) (hi : i < R.length) (s : ByteArray) (hs : s.size ≤ 10000) (hr : strOfNums (R[i]'hi) = s) (d : Nat) : ∀ (k j : Nat), s.size = j + d →
    latinerref15_Unfold.l1 (k + d + 1) X (so R) (i : Int) (j : Int) = if badRow ((bl s).drop j) = true then some ([], 150) else latinerref15_Unfold.j2 k X (so R) (i : Int) (!st32 (bl s)) := by
  have hlen : (so R).length = R.length := List.length_map _
  have hrd : rdOf ByteArray.empty (so R) (i : Int) = s := by rw [rd_at R i hi, hr]
  induction d with
  | zero =>
    intro k j hj
    conv => lhs; rw [latinerref15_Unfold.l1]
    rw [hrd, if_pos (by omega), if_pos (by omega), if_neg (by omega), List.drop_eq_nil_of_le (by rw [bl_len]; omega)]
    show _ = latinerref15_Unfold.j2 k X (so R) (i : Int) (!st32 (bl s))
    by_cases h0 : bl s = []
    · rw [if_pos (toList_nil.2 (by rw [← bl_len, h0]; rfl)), h0]; rfl
    · have hp : 0 < s.size := by have := List.length_pos_iff.2 h0; rw [bl_len] at this; exact this
      have hd := drop_at s 0 hp
      rw [List.drop_zero] at hd
      rw [if_neg (show ¬ s.toList = ([] : List UInt8) from fun e => by rw [toList_nil] at e; omega), if_pos (by omega), hd]
      rfl
  | succ d ih =>
    intro k j hj
    have e1 : k + (d + 1) + 1 = (k + d + 1) + 1 := by omega
    rw [e1]
    conv => lhs; rw [latinerref15_Unfold.l1]
    rw [hrd, if_pos (by omega), if_pos (by omega), if_pos (by omega), if_pos (by omega), drop_at s j (by omega), badRow_cons]
    by_cases h0 : bt s (j : Int) = 0
    · rw [if_pos h0, decide_eq_true (Or.inl h0)]; rfl
    · rw [if_neg h0]
      by_cases h1 : bt s (j : Int) > 127
      · rw [if_pos h1, decide_eq_true (Or.inr (Or.inr h1))]; rfl
      · rw [if_neg h1]
        by_cases h2 : bt s (j : Int) = 13
        · rw [if_pos h2, decide_eq_true (Or.inr (Or.inl h2))]; rfl
        · rw [if_neg h2, decide_eq_false (by omega), Bool.false_or, w64 (by omega) (by omega)]
          exact ih k (j + 1) (by omega)
theorem uf_l2 (L : List (List Int)) (hL : L.length ≤ 10000) (hb : ∀ l ∈ L, Byt l) (d : Nat) : ∀ (k j : Nat) (X : List ByteArray), L.length = j + d → d < k → X.length ≤ j →
    latinerref15_Unfold.l2 k (so L) X (j : Int) = some (X ++ so ((L.drop j).filter fun x => !noteB x), 0) := by
  have hlen : (so L).length = L.length := List.length_map _
  induction d with
  | zero =>
    intro k j X hj hk hX
    obtain ⟨k, rfl⟩ : ∃ m, k = m + 1 := ⟨k - 1, by omega⟩
    conv => lhs; rw [latinerref15_Unfold.l2]
    rw [if_neg (by omega), List.drop_eq_nil_of_le (by omega)]
    simp
  | succ d ih =>
    intro k j X hj hk hX
    obtain ⟨k, rfl⟩ : ∃ m, k = m + 1 := ⟨k - 1, by omega⟩
    have hjl : j < L.length := by omega
    have hd : L.drop j = L[j] :: L.drop (j + 1) := List.drop_eq_getElem_cons hjl
    have hby := hb _ (List.getElem_mem hjl)
    conv => lhs; rw [latinerref15_Unfold.l2]
    rw [rd_at L j hjl, if_pos (by omega), if_pos (by omega), hd, List.filter_cons]
    generalize L[j] = l at hby ⊢
    have push : latinerref15_Unfold.l2 k (so L) (X ++ [strOfNums l]) ((j : Int) + 1) = some (X ++ so (l :: (L.drop (j + 1)).filter fun x => !noteB x), 0) := by
      have := ih k (j + 1) (X ++ [strOfNums l]) (by omega) (by omega) (by rw [List.length_append]; simp only [List.length_cons, List.length_nil]; omega)
      rw [List.append_assoc] at this
      exact this
    cases l with
    | nil =>
      rw [if_pos (toList_nil.2 rfl), if_pos (by omega), w64 (by omega) (by omega)]
      exact push
    | cons c r =>
      have hz : (strOfNums (c :: r)).size = r.length + 1 := son_size _
      have h0 : bt (strOfNums (c :: r)) 0 = c := by
        have := bl_get (strOfNums (c :: r)) 0 (by omega)
        rw [bl_son _ hby] at this
        simpa using this.symm
      rw [if_neg (fun e => by rw [toList_nil] at e; omega), if_pos (by omega), h0, w64 (by omega) (by omega)]
      by_cases hc : c = 35
      · rw [if_pos hc, show noteB (c :: r) = true from decide_eq_true hc]
        exact ih k (j + 1) X (by omega) (by omega) (by omega)
      · rw [if_neg hc, if_pos (by omega), show noteB (c :: r) = false from decide_eq_false hc]
        exact push
theorem getLast_so (ls : List (List Int)) (h : 0 < ls.length) : rdOf ByteArray.empty (so ls) ((ls.length : Int) - 1) = strOfNums (ls.getLast?.getD []) := by
  have e : ((ls.length : Int) - 1) = ((ls.length - 1 : Nat) : Int) := by omega
  rw [e, rd_at ls (ls.length - 1) (by omega), List.getLast?_eq_getElem?, List.getElem?_eq_getElem (by omega)]
  rfl
theorem set_last (ls : List (List Int)) (h : 0 < ls.length) (t : List Int) : (so ls).set (ls.length - 1) (strOfNums (ls.getLast?.getD []) ++ strOfNums t) = so (addLast ls t) := by
  obtain ⟨a, l, rfl⟩ : ∃ a l, ls = a ++ [l] := ⟨ls.dropLast, ls.getLast (by intro e; rw [e] at h; cases h), (List.dropLast_concat_getLast _).symm⟩
  have e : (a ++ [l]).length - 1 = (so a).length := by simp [so]
  rw [e]
  simp only [so, List.map_append, List.map_cons, List.map_nil, addLast, List.getLast?_concat, Option.getD_some, List.dropLast_concat]
  rw [List.set_append_right _ _ (Nat.le_refl _), Nat.sub_self, son_app3]
  rfl
theorem uf_l0 (R : List (List Int)) (hR : R.length ≤ 8000) (hby : ∀ l ∈ R, Byt l) (htot : tot R ≤ 8000) (m : Nat) : ∀ (k i : Nat) (ls : List (List Int)) (op : Bool), R.length = i + m → tot (R.drop i) + 5 * m + 20000 < k →
    op = (decide (0 < i) && !decide (R[i - 1]? = some [])) → ls.length ≤ i → (op = true → ls ≠ []) → (∀ l ∈ ls, Byt l) → tot ls + tot (R.drop i) ≤ 8000 →
    latinerref15_Unfold.l0 k (so ls) (so R) (i : Int) = some (match uAll (R.drop i) ls op with | none => ([], 150) | some p => (so (p.1.filter fun x => !noteB x), 0)) := by
  have hlenR : (so R).length = R.length := List.length_map _
  induction m with
  | zero =>
    intro k i ls op hi hk hop hls hne hb ht
    obtain ⟨k, rfl⟩ : ∃ m, k = m + 1 := ⟨k - 1, by omega⟩
    conv => lhs; rw [latinerref15_Unfold.l0]
    rw [if_neg (by omega), List.drop_eq_nil_of_le (by omega)]
    have := uf_l2 ls (by omega) hb ls.length k 0 [] (by omega) (by omega) (by simp)
    rw [List.drop_zero, List.nil_append] at this
    exact this
  | succ m ih =>
    intro k i ls op hi hk hop hls hne hb ht
    have hil : i < R.length := by omega
    have hd : R.drop i = R[i] :: R.drop (i + 1) := List.drop_eq_getElem_cons hil
    have hri : ∃ r, R[i] = r := ⟨_, rfl⟩
    obtain ⟨r, hr⟩ := hri
    have hbr : Byt r := hr ▸ hby _ (List.getElem_mem hil)
    rw [hr] at hd
    rw [hd] at hk ht ⊢
    have htr : tot (r :: R.drop (i + 1)) = r.length + tot (R.drop (i + 1)) := by rw [show r :: R.drop (i + 1) = [r] ++ R.drop (i + 1) from rfl, tot_app, tot_one]
    rw [htr] at hk ht
    have hz : (strOfNums r).size = r.length := son_size _
    obtain ⟨k, rfl⟩ : ∃ q, k = q + r.length + 1 + 1 + 1 := ⟨k - r.length - 3, by omega⟩
    conv => lhs; rw [latinerref15_Unfold.l0]
    rw [if_pos (by omega)]
    have h1 := uf_l1 (so ls) R i hil (strOfNums r) (by omega) (by rw [hr]) r.length (k + 1) 0 (by omega)
    rw [show k + 1 + r.length + 1 = k + r.length + 1 + 1 by omega, bl_son _ hbr, List.drop_zero] at h1
    have h1 : latinerref15_Unfold.l1 (k + r.length + 1 + 1) (so ls) (so R) (i : Int) 0 = _ := h1
    rw [h1, uAll_cons]
    cases hbad : badRow r with
    | true =>
      have : uStep ls op r = none := by unfold uStep; rw [hbad]; rfl
      rw [this]; rfl
    | false =>
      rw [if_neg (by decide)]
      have nx : ∀ (ls' : List (List Int)), uStep ls op r = some (ls', !decide (r = [])) → latinerref15_Unfold.l0 k (so ls') (so R) ((i : Int) + 1) = some (match (uStep ls op r).bind fun p => uAll (R.drop (i + 1)) p.1 p.2 with | none => ([], 150) | some p => (so (p.1.filter fun x => !noteB x), 0)) := fun ls' hs => by
        have hok := uStep_ok hne hs
        rw [hs, Option.bind_some]
        exact ih k (i + 1) ls' _ (by omega) (by omega) (by rw [show i + 1 - 1 = i by omega, List.getElem?_eq_getElem hil, hr]; simp) (by have := hok.1; simp only at this; omega) (fun _ => hok.2.2.1) (hok.2.2.2 hb hbr) (by have := hok.2.1; simp only at this; omega)
      conv => lhs; rw [latinerref15_Unfold.j2]
      cases hst : st32 r with
      | false =>
        have hs : uStep ls op r = some (ls ++ [r], !decide (r = [])) := by
          unfold uStep
          rw [hbad]
          cases r with
          | nil => rfl
          | cons c t =>
            have hc : ¬ c = 32 := of_decide_eq_false hst
            simp [hc]
        have hlen : (so ls).length = ls.length := List.length_map _
        rw [if_pos (show (!false) = true from rfl), if_pos (by omega), if_pos (by omega), if_pos (by omega), rd_at R i hil, hr, w64 (by omega) (by omega)]
        have := nx _ hs
        rw [show so (ls ++ [r]) = so ls ++ [strOfNums r] by simp [so]] at this
        exact this
      | true =>
        obtain ⟨c, t, rfl⟩ : ∃ c t, r = c :: t := by cases r with | nil => cases hst | cons c t => exact ⟨c, t, rfl⟩
        have hc : c = 32 := of_decide_eq_true hst
        subst hc
        rw [if_neg (by decide)]
        have hfalse : op = false → uStep ls op (32 :: t) = none := fun e => by
          unfold uStep
          rw [hbad, e]
          rfl
        by_cases hi0 : i = 0
        · subst hi0
          rw [hfalse (by rw [hop]; rfl), if_pos (by omega)]
          rfl
        · have hi1 : i - 1 < R.length := by omega
          have ei : ((i : Int) - 1) = ((i - 1 : Nat) : Int) := by omega
          rw [if_neg (by omega), w64 (n := (i : Int) - 1) (by omega) (by omega), if_pos (by omega), if_pos (by omega), ei, rd_at R (i - 1) hi1]
          rw [List.getElem?_eq_getElem hi1] at hop
          by_cases hp : R[i - 1] = []
          · rw [hp] at hop ⊢
            rw [hfalse (by rw [hop]; simp), if_pos (toList_nil.2 rfl)]
            rfl
          · have hopt : op = true := by rw [hop]; simp [hp]; omega
            have hls0 : 0 < ls.length := List.length_pos_iff.2 (hne hopt)
            have hs : uStep ls op (32 :: t) = some (addLast ls t, !decide ((32 :: t : List Int) = [])) := by
              unfold uStep
              rw [hbad, hopt]
              simp
            have hlen : (so ls).length = ls.length := List.length_map _
            have hpz : 0 < (strOfNums R[i - 1]).size := by rw [son_size]; exact List.length_pos_iff.2 hp
            have hx : (strOfNums (32 :: t)).extract 1 (strOfNums (32 :: t)).size = strOfNums t := by
              rw [← son_bl ((strOfNums (32 :: t)).extract _ _), bl_extract, List.take_of_length_le (by rw [bl_len]; exact Nat.le_refl _), bl_son _ hbr]
              rfl
            have hla : (ls.getLast?.getD []).length ≤ 8000 := by
              have := le_tot (List.mem_of_getLast? (l := ls) (a := ls.getLast (hne hopt)) (by rw [List.getLast?_eq_some_getLast (hne hopt)]))
              rw [List.getLast?_eq_some_getLast (hne hopt), Option.getD_some]
              omega
            have hlt : (32 :: t : List Int).length ≤ 8000 := by omega
            simp only [List.length_cons] at hlt
            rw [if_neg (fun e => by rw [toList_nil] at e; omega), hlen, w64 (n := (ls.length : Int) - 1) (by omega) (by omega), if_pos (by omega), if_pos (by omega), if_pos (by omega), if_pos (by omega), rd_at R i hil, hr, getLast_so ls hls0, hx,
              if_pos (by rw [hz]; simp only [List.length_cons]; omega), if_pos (by rw [son_size, son_size]; omega), w64 (by omega) (by omega), show ((ls.length : Int) - 1).toNat = ls.length - 1 by omega, set_last ls hls0]
            exact nx _ hs
theorem ref_unfold (s : ByteArray) (hs : s.size ≤ 8001) (k : Nat) (hk : 100000 ≤ k) : latinerref15_Unfold.f k s = some (so (unfL (bl s)), unfE (bl s)) := by
  have hl := bl_len s
  unfold latinerref15_Unfold.f
  by_cases h8 : (s.size : Int) > 8000
  · have h8' : (bl s).length > 8000 := by omega
    rw [if_pos h8]
    unfold unfL unfE
    rw [if_pos h8', if_pos h8']
    rfl
  · have h8' : (bl s).length ≤ 8000 := by omega
    have hu := unf_small (bl s) h8'
    have h1 := rowsL_len ((bl s).length + 1) (bl s)
    have h2 := rowsL_tot ((bl s).length + 1) (bl s)
    have h3 : (rw_ (bl s)).length ≤ 8000 := by have := h1.1; show (rowsL _ _).length ≤ 8000; omega
    have h4 : tot (rw_ (bl s)) ≤ 8000 := by show tot (rowsL _ _) ≤ 8000; omega
    have h5 := uf_l0 (rw_ (bl s)) h3 (fun l h => (h1.2 l h).2 (bl_byte s)) h4 (rw_ (bl s)).length k 0 [] false (by omega) (by rw [List.drop_zero]; omega) rfl (by simp) (fun e => by cases e) (by simp) (by rw [List.drop_zero]; show 0 + _ ≤ 8000; omega)
    rw [if_neg h8, ref_rows s (by omega) k (by omega), Option.bind_some, hu.1, hu.2, unfO_rw]
    rw [List.drop_zero] at h5
    have h5 : latinerref15_Unfold.l0 k [] (so (rw_ (bl s))) 0 = _ := h5
    rw [h5]
    cases uAll (rw_ (bl s)) [] false with
    | none => rfl
    | some p => rfl
theorem cut_f (s : ByteArray) : ∃ t, latinerlaw15_cut.f s = some t ∧ t.size ≤ 8001 := by
  have c := cut_of s 8001 (by omega)
  have z : (s.extract 0 (lesser (s.size : Int) 8001).toNat).size ≤ 8001 := cut_sz s 8001
  unfold latinerlaw15_cut.f
  rw [if_pos c.1, if_pos c.2.1]
  exact ⟨_, rfl, z⟩
theorem unf_len2 (l : List Int) : (unfL l).length ≤ 8000 := by
  by_cases h : l.length ≤ 8000
  · exact unf_len l h
  · unfold unfL
    rw [if_pos (by omega)]
    exact Nat.zero_le _
theorem FoldLines : latinerlaw15_FoldLines.Pure := by
  intro a0 a1 _ _
  obtain ⟨s, hs, zs⟩ := cut_f a0
  obtain ⟨t, ht, zt⟩ := cut_f a1
  refine ⟨100000, ?_⟩
  unfold latinerlaw15_FoldLines.f
  rw [shown_k _ (by omega), Option.bind_some, hs, Option.bind_some, ht, Option.bind_some, fold_f _ (by omega), Option.bind_some, ref_fold _ zs _ (by omega), Option.bind_some, unfold_f _ (by omega), Option.bind_some, ref_unfold _ zt _ (by omega), Option.bind_some, if_pos rfl, if_pos rfl, if_pos rfl,
    texts_refl _ (by rw [List.length_map]; have := unf_len2 (bl t); omega) _ (by rw [List.length_map]; have := unf_len2 (bl t); omega), Option.bind_some, if_pos rfl]
  simp
end Go.Proofs.YtjnfoocmilbdlaaGreatDoor.Pure
/- A claim's hand-over whose walk may also use that the start is shaped: the cell of a package-level variable that the rows do not list is still of its type. -/
namespace Go.Proofs.YtjnfoocmilbdlaaGreatDoor
set_option linter.unusedSimpArgs false
set_option linter.unusedVariables false
namespace HandSh
open Go.RowKit Go.ChangeShapes Go.WideShapes Go.ChangeAt
theorem handed_shaped {H : Type} {enc : TypeId × Value → H} {a : Assume} {C : Checked} {os : Os} {f : FuncId} {fn : Func} {s : ChangeSpec} {conds : List PathCond} {apart fresh handsOn again : Bool} {X : World → Array Value → Prop}
    (hX : ∀ (w w' : World) (args : Array Value), w.heap = w'.heap → X w args → X w' args)
    (own : ownKnob C.prog.godebug = none) (started : os.Started) (noInit : C.prog.inits.idxOf? f = none) (hfn : C.prog.funcs[f]? = some fn)
    (witness : ∃ (w : World) (tape : Tape) (i : Input), w.os = os ∧ (w.forCall tape i).Shaped C.prog ∧ i.vars = [] ∧ Input.okWide C.prog (w.forCall tape i) .any w.heap.size f i ∧
      ((s.pre enc C.prog fn conds apart (w.forCall tape i).memory i.args ∧ X (w.forCall tape i).memory i.args) ∧ sizedMet enc C.prog fn (OpenSpec.ofChange s) apart (w.forCall tape i).memory i.args) ∧ a.holds C.prog (lone (Frame.enter C.prog f i.args .normal) [] (w.forCall tape i)))
    (contract : ∀ (W : World) (base : Nat) (args : Array Value) (ds gs : List (DataW H)) (before : List MemPlace), W.ShapedOpen C.prog →
      (∀ (j : Nat) t v, fn.params[j]? = some t → args[j]? = some v → Value.okWide C.prog W .any base t v) →
      DataW.Whole enc C.prog fn.params.toList s.vars apart W args.toList ds gs before →
      (DataW.weightsEach C.prog (fn.params.toList ++ s.plain.varTypes C.prog) (ds ++ gs)).all (· ≤ reachBytes) = true → X W args →
      Calls C.prog f args W fun e W' => ∃ v, e = .returned v ∧ s.post enc C.prog fn apart fresh handsOn again W args v W') :
    ReturnsInHanded a C os f .any (fun w args => (s.pre enc C.prog fn conds apart w args ∧ X w args) ∧ sizedMet enc C.prog fn (OpenSpec.ofChange s) apart w args) (s.post enc C.prog fn apart fresh handsOn again) :=
  returnsInHanded_of_calls own started noInit witness fun w tape i _ hsh _ hok hpre _ => by
    obtain ⟨_, _, _, g, hg, _, _, _, _, hval⟩ := hok
    obtain rfl : g = fn := Option.some.inj (hg.symm.trans hfn)
    obtain ⟨⟨⟨ds, gs, before, hw, _⟩, hx⟩, hz⟩ := hpre
    have hw' := DataW.Whole.of_heap (w' := w.forCall tape i) (by rfl) hw
    refine (contract _ w.heap.size _ ds gs before hsh hval hw' (hz.weights hw) (hX _ _ _ (by rfl) hx)).mono ?_
    rintro e W' ⟨v, rfl, hp⟩
    exact ChangeSpec.post_blind hp
theorem maxLen_of_shaped {W : World} (h : W.ShapedOpen Tryz.prog) : ∃ M, W.cell? ⟨6, 0, none⟩ = some (.int .i64 M) := Tryz.laysM145.s1_3 W h
end HandSh
end Go.Proofs.YtjnfoocmilbdlaaGreatDoor
namespace Go.Proofs.YtjnfoocmilbdlaaGreatDoor.foldLines
set_option linter.unusedSimpArgs false
open Go.ChangeShapes Go.WideShapes Go.ChangeAt Go.RowKit
open Go.ChangeMaps (open_string shut_string)
open Go.Proofs.YtjnfoocmilbdlaaGreatDoor.FoldL (laid ga_of_laid door_met own rowStart rowStart_os rowStart_shaped)
set_option linter.unusedVariables false
set_option maxRecDepth 100000 in
theorem lifted (os : Os) (started : os.Started) (H : Type) (enc : TypeId × Value → H) :
    ReturnsInHanded {} Tryz.checked os 3 .any (fun w args => (Rows.foldLinesSpec.pre enc Tryz.prog Tryz.f3 [] false w args ∧ laidMetH Tryz.prog laid w) ∧ sizedMet enc Tryz.prog Tryz.f3 (OpenSpec.ofChange Rows.foldLinesSpec) false w args)
      (Rows.foldLinesSpec.post enc Tryz.prog Tryz.f3 false true false false) := by
  refine HandSh.handed_shaped (C := Tryz.checked) (X := fun w _ => laidMetH Tryz.prog laid w) (fun _ _ _ hh h => h.of_heap hh) own started (by kernel_rfl) Tryz.func3
    (ChangeSpec.witness_shaped (enc := enc) (C := Tryz.checked) (os := os) (X := fun w _ => laidMetH Tryz.prog laid w) false (rowStart os) #[.string ByteArray.empty, .string ByteArray.empty] 8 (rowStart_os os) (rowStart_shaped os _) (by kernel_rfl) (by kernel_rfl) (by kernel_rfl) (door_met os _)) ?_
  intro W base args ds gs before hsh hval0 hW hsz0 hL
  have hsz : (DataW.weightsEach Tryz.prog (Tryz.f3.params.toList ++ Rows.foldLinesSpec.plain.varTypes Tryz.prog) (ds ++ gs)).all (· ≤ reachBytes) = true := hsz0
  have hval : ∀ (j : Nat) t v, Tryz.f3.params[j]? = some t → args[j]? = some v → Value.okWide Tryz.prog W .any base t v := hval0
  have hW' := hW
  obtain ⟨p, q, hA0, hV, rfl, hfz, hnd⟩ := hW
  have hA : DataW.TrodAll enc Tryz.prog W 0 (fun _ => true) true Tryz.f3.params.toList args.toList ds p := hA0
  rw [Tryz.params3] at hA hval hsz
  obtain ⟨v0, vs0, d0, ds0, p0, q0, hargs, rfl, rfl, h0, r0⟩ := trodAll_cons hA
  obtain ⟨v1, vs1, d1, ds1, p1, q1, rfl, rfl, rfl, h1, r1⟩ := trodAll_cons r0
  obtain ⟨rfl, rfl, rfl⟩ := trodAll_nil r1
  obtain rfl : args = #[v0, v1] := by cases args; simp_all
  obtain ⟨rfl, rfl⟩ := trodVars_none hV
  obtain ⟨a0, rfl, rfl, rfl, y0⟩ := open_string Tryz.underlying9 (hval 0 9 v0 rfl rfl) h0
  have w0 : a0.size ≤ 140737488351232 := by
    have z := sized_string hsz (j := 0) (t := 9) rfl rfl
    rw [Array.length_toList] at z
    exact z
  obtain ⟨a1, rfl, rfl, rfl, y1⟩ := open_string Tryz.underlying9 (hval 1 9 v1 rfl rfl) h1
  have w1 : a1.size ≤ 140737488351232 := by
    have z := sized_string hsz (j := 1) (t := 9) rfl rfl
    rw [Array.length_toList] at z
    exact z
  clear hA0 hval0 hsz0 hsz
  refine (LFold.latinerlaw15_FoldLines.walk Pure.FoldLines a0 a1 W w0 w1 (ga_of_laid hL (HandSh.maxLen_of_shaped hsh))).mono fun e W' ⟨he, bel⟩ => ?_
  subst he
  exact ⟨_, rfl, _, _, _, [], _, [], hW', trodAll_mk1 (shut_bool Tryz.underlying4 _), (trodAll_cons_mk (shut_string Tryz.underlying9 y0) (trodAll_cons_mk (shut_string Tryz.underlying9 y1) trodAll_mk0)), rfl, bel.frame _, fun h => by cases h⟩
theorem said : Rows.FoldLinesSaid :=
  OpenClaim.holds_of_wide 3 Tryz.f3 rfl rfl rfl rfl rfl rfl rfl ⟨rfl, rfl, rfl, rfl, rfl⟩ rfl rfl rfl rfl rfl (by kernel_rfl) Tryz.func3 (by kernel_rfl)
    (of_decide_eq_true (by kernel_rfl)) (by unfold Func.isWrapper; first | (rw [if_pos (by decide +kernel)]; kernel_rfl) | (rw [if_neg (by decide +kernel)]; exact ⟨rfl, rfl⟩))
    (fun os started H enc _ => lifted os started H enc)
theorem plain (f : FuncId) (fn : Func) (hf : Tryz.pinned.checked.prog.funcNamed "latiner/latinerlaw15.FoldLines" = some f) (hfn : Tryz.pinned.checked.prog.funcs[f]? = some fn) :
    true = Tryz.pinned.checked.prog.looks [] ∧ ∀ (j : Nat) t, fn.params[j]? = some t → Tryz.pinned.checked.prog.wantsStandIn t = false := by
  obtain rfl : f = 3 := Option.some.inj ((show Tryz.prog.funcNamed "latiner/latinerlaw15.FoldLines" = some 3 by kernel_rfl).symm.trans hf) |>.symm
  obtain rfl : fn = Tryz.f3 := (Option.some.inj (Tryz.func3.symm.trans hfn)).symm
  refine ⟨by kernel_rfl, fun j t ht => ?_⟩
  rw [Tryz.params3] at ht
  have s_str : Tryz.prog.wantsStandIn 9 = false := by kernel_rfl
  have hm := Array.mem_of_getElem? ht
  simp at hm
  have hm2 : t = 9 := by omega
  clear hm
  subst hm2
  exact s_str
/-- The card. -/
theorem card : Rows.FoldLinesCardSaid :=
  Claim7.holds_tied_plain_at .later [] _ _ _ _ said (fun _ h => by cases h) (by kernel_rfl) (fun _ h => by cases h) foldLines_row_tie rfl ⟨rfl, rfl⟩ (by kernel_rfl) rfl plain (by kernel_rfl)
end Go.Proofs.YtjnfoocmilbdlaaGreatDoor.foldLines
namespace Go.Proofs.YtjnfoocmilbdlaaGreatDoor
theorem foldLines_holds : Rows.FoldLinesCardSaid := foldLines.card
end Go.Proofs.YtjnfoocmilbdlaaGreatDoor
