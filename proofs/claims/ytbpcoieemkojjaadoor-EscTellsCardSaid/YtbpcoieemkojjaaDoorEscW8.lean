/- esc's reader: read. -/
import Derived.Test.YtbpcoieemkojjaaDoorEscW7
namespace Go.Proofs.YtbpcoieemkojjaaDoor
set_option linter.unusedSimpArgs false
set_option linter.unusedVariables false
namespace Esc
open Go.RowKit Go.Shelf Go.Proofs.YtbpcoieemkojjaaDoorW.PrintWords Go.Proofs.YtbpcoieemkojjaaDoor.PureB Go.Proofs.YtbpcoieemkojjaaDoor.BldO
open Go.Proofs.YtbpcoieemkojjaaDoor.Code (bl bl_len bl_get bl_byte dv dv_lt unhexL ubT ubN)
attribute [local go_sem] Oper.semAt_some
/-- How a reader ends. -/
def RdE (o : Option (List Int)) (b : Nat) (s : ByteArray) (nm : Bool) (w : World) (e : Ending) (w' : World) : Prop :=
  match o with
  | none => (∃ n, e = .returned (werr n)) ∧ Below b w w'
  | some l => e = .returned .nilIface ∧ RD b s s.size nm (nums .u8 l) w' ∧ Below b w w'
theorem RdE.no {o : Option (List Int)} {b : Nat} {s : ByteArray} {nm : Bool} {w : World} {e : Ending} {w' : World} (h : o = none) (n : Int) (he : e = .returned (werr n)) (hb : Below b w w') : RdE o b s nm w e w' := by subst h; exact ⟨⟨n, he⟩, hb⟩
theorem RdE.yes {o : Option (List Int)} {l : List Int} {b : Nat} {s : ByteArray} {nm : Bool} {w : World} {e : Ending} {w' : World} (h : o = some l) (he : e = .returned .nilIface) (hr : RD b s s.size nm (nums .u8 l) w') (hb : Below b w w') : RdE o b s nm w e w' := by subst h; exact ⟨he, hr, hb⟩
theorem step1 {b : Nat} {s : ByteArray} {at_ : Nat} {nm : Bool} {acc : List Int} {cc : Int} {w : World} (h : RDp (.pointer (some ⟨b, 3, none⟩)) b s at_ nm (nums .u8 acc ++ [.int .u8 cc]) w) :
    RD b s ((at_ + 1 : Nat) : Int) nm (nums .u8 (acc ++ [cc])) (w.setCell ⟨b, 1, none⟩ (.int .i64 ((at_ : Int) + 1))) := by
  rw [Bld.nums_app]
  exact RD.move (.inr h) ((at_ + 1 : Nat) : Int)
theorem step2 {b : Nat} {s : ByteArray} {at_ : Int} {nm : Bool} {acc : List Int} {cc : Int} {w : World} (h : RD b s at_ nm (nums .u8 acc ++ [.int .u8 cc]) w) : RD b s at_ nm (nums .u8 (acc ++ [cc])) w := by
  rw [Bld.nums_app]
  exact h
theorem meas {s : ByteArray} {b at_ at2 : Nat} {w w' : World} (h1 : w.cell? ⟨b, 1, none⟩ = some (.int .i64 at_)) (h2 : w'.cell? ⟨b, 1, none⟩ = some (.int .i64 at2)) (h : at_ < at2 ∧ at2 ≤ s.size) :
    s.size - (intOf ((w'.cell? ⟨b, 1, none⟩).getD undef)).toNat < s.size - (intOf ((w.cell? ⟨b, 1, none⟩).getD undef)).toNat := by
  rw [h1, h2]
  simp [intOf]
  omega
theorem below_drew0 (g : Nat) (w : World) : Below g w w.drew := Below.drew (Below.refl _ _)
set_option maxRecDepth 100000 in
set_option maxHeartbeats 4000000 in
theorem read_c (b : Nat) (s : ByteArray) (hs : s.size ≤ 1000000000) (nm : Bool) (a0 : Addr) (w : World) (hT : Lib.Utf8Tabs 4 5 w) (hgb : ∀ w', Below b w w' → Code.GA a0 w') (h : RD b s (0 : Nat) nm [] w) :
    Calls Tryd.prog 30 #[.pointer (some ⟨b, 0, none⟩)] w fun e w' => RdE (readT nm s) b s nm w e w' := by
  obtain ⟨c0, c1, c2, f1, hlt⟩ := RD.cells h
  have HRI := Lib.hid (Utf.Right_c s (by omega) w hT)
  have HCR := Lib.hid (fun W => Tryd.strings_ContainsRune_ascii s 0 W (by decide) (by decide))
  rw [mem_index] at HCR
  have hok : okT s = (decide (Utf.bad s < 0) && !decide ((0 : Int) ∈ bl s)) := by unfold okT; rw [decide_not]
  generalize decide ((0 : Int) ∈ bl s) = y2 at HCR hok
  generalize hy1 : decide (Utf.bad s < 0) = y1 at HRI hok
  have HOK := Lib.hid hok
  have HR := Lib.hid h
  clear hok h hT hy1
  cases y1 with
  | false =>
    have hn : readT nm s = none := by unfold readT; rw [HOK.out]; rfl
    rw [hn]
    clear hn
    go_enter Tryd.func30, Tryd.ntmps30
    go_wp2_with fail
    refine HRI.out.mono ?_
    rintro e w1 ⟨rfl, hb1⟩
    go_wp2_with fail
    go_ret
    exact RdE.no rfl 0 rfl (hb1.mono (Nat.le_of_lt hlt))
  | true =>
    cases y2 with
    | true =>
      have hn : readT nm s = none := by unfold readT; rw [HOK.out]; rfl
      rw [hn]
      clear hn
      go_enter Tryd.func30, Tryd.ntmps30
      go_wp2_with fail
      refine HRI.out.mono ?_
      rintro e w1 ⟨rfl, hb1⟩
      have d0 := (hb1.cell (p := ⟨b, 0, none⟩) hlt).trans c0
      go_wp2_with fail
      refine (HCR.out _).mono ?_
      rintro e w2 ⟨rfl, rfl⟩
      go_wp2_with fail
      go_ret
      exact RdE.no rfl 0 rfl (hb1.mono (Nat.le_of_lt hlt))
    | false =>
      have hn : readT nm s = rdL nm s.size s.size 0 (bl s) := by unfold readT; rw [HOK.out]; rfl
      rw [hn]
      clear hn
      go_enter Tryd.func30, Tryd.ntmps30
      go_wp2_with fail
      refine HRI.out.mono ?_
      rintro e w1 ⟨rfl, hb1⟩
      have d0 := (hb1.cell (p := ⟨b, 0, none⟩) hlt).trans c0
      go_wp2_with fail
      refine (HCR.out _).mono ?_
      rintro e w2 ⟨rfl, rfl⟩
      go_wp2_with fail
      have HR1 := Lib.hid (RD.below HR.out hb1)
      have HB1 := Lib.hid (hb1.mono (Nat.le_of_lt hlt))
      clear d0 c0 c1 c2 f1 hb1
      go_loopw [] (fun wr => ∃ (at_ f : Nat) (acc : List Int), at_ ≤ s.size ∧ s.size ≤ f + at_ ∧ acc.length ≤ at_ ∧ RD b s at_ nm (nums .u8 acc) wr ∧ Below b w wr ∧ RowKit.Hid (rdL nm s.size s.size 0 (bl s) = (rdL nm s.size f at_ ((bl s).drop at_)).map (acc ++ ·)))
        (fun wr => s.size - (intOf ((wr.cell? ⟨b, 1, none⟩).getD undef)).toNat)
      case atStart => exact ⟨0, s.size, [], Nat.zero_le _, Nat.le_refl _, Nat.le_refl _, HR1.out, HB1.out, Lib.hid (by simp)⟩
      case round =>
        obtain ⟨at_, f, acc, hat, hf, hla, hRD, hb, HI⟩ := hrel
        obtain ⟨c0, c1, c2, f1, hlt1⟩ := RD.cells hRD
        have hbs : (nums .u8 acc).length ≤ 1000000000 := by rw [Bld.nums_len]; omega
        by_cases hlt2 : at_ < s.size
        · have hdc := drop_cons s at_ hlt2
          obtain ⟨f, rfl⟩ : ∃ m, f = m + 1 := ⟨f - 1, by omega⟩
          have hbn := (bt_nat s at_ hlt2).symm
          have HD := Lib.hid (fun (W : World) (hB : Below wr.heap.size wr W) => (⟨RD.below hRD hB, hb.trans (hB.mono (Nat.le_of_lt hlt1)), (hB.cell (p := ⟨b, 0, none⟩) hlt1).trans c0, (hB.cell (p := ⟨b, 1, none⟩) hlt1).trans c1, (hB.cell (p := ⟨b, 2, none⟩) hlt1).trans c2⟩ :
            RD b s at_ nm (nums .u8 acc) W ∧ Below b w W ∧ W.cell? ⟨b, 0, none⟩ = some (.string s) ∧ W.cell? ⟨b, 1, none⟩ = some (.int .i64 at_) ∧ W.cell? ⟨b, 2, none⟩ = some (.bool nm)))
          have hne : (bl s).drop at_ ≠ [] := by rw [hdc]; simp
          obtain ⟨o, hst⟩ : ∃ o, stp nm s.size at_ ((bl s).drop at_) = o := ⟨_, rfl⟩
          have hst' := hst
          rw [hdc] at hst'
          obtain ⟨cc, hcc⟩ : ∃ x, bt s at_ = x := ⟨_, rfl⟩
          have hcc' := hcc
          rw [hcc] at hbn hst'
          by_cases h92 : cc = 92
          · subst h92
            cases o with
            | none =>
              have HS := Lib.hid (fun (W : World) (hB : Below wr.heap.size wr W) => signed_none nm b s hs at_ _ hbs a0 W (fun w' hb' => hgb _ ((HD.out W hB).2.1.trans hb')) (HD.out W hB).1 hlt2 hcc hst)
              have HN := Lib.hid (HI.out.trans (by rw [rd_none hne hst]; try rfl))
              clear hst hst' hdc hne hcc hcc' HI hbs hRD
              go_wp2_with fail
              go_region
              all_goals go_wp2_with fail
              all_goals go_region
              all_goals go_wp2_with fail
              all_goals refine (HS.out _ (by repeat (first | exact Below.refl _ _ | refine Below.drew ?_))).mono ?_
              all_goals (rintro e w3 ⟨⟨n, rfl⟩, hb3⟩)
              all_goals go_wp2_with fail
              all_goals go_ret
              all_goals exact RdE.no HN.out n rfl (hb.trans (Below.trans (by repeat (first | exact Below.refl _ _ | refine Below.drew ?_)) hb3))
            | some p =>
              obtain ⟨x, k⟩ := p
              have HS := Lib.hid (fun (W : World) (hB : Below wr.heap.size wr W) => signed_some nm b s hs at_ _ hbs a0 W (fun w' hb' => hgb _ ((HD.out W hB).2.1.trans hb')) (HD.out W hB).1 hlt2 hcc x k hst)
              have hk := stp_le hst
              rw [List.length_drop, bl_len] at hk
              have Q := Lib.hid (⟨by omega, by omega, by simp only [List.length_append, List.length_cons, List.length_nil]; omega, by omega⟩ : at_ + k ≤ s.size ∧ s.size ≤ f + (at_ + k) ∧ (acc ++ [x]).length ≤ at_ + k ∧ at_ < at_ + k)
              have HN := Lib.hid (HI.out.trans (by rw [rd_cons hne hst, List.drop_drop, Option.map_map]; congr 1; funext y; simp : _ = (rdL nm s.size f (at_ + k) ((bl s).drop (at_ + k))).map ((acc ++ [x]) ++ ·)))
              clear hst hst' hdc hne hcc hcc' HI hbs hRD
              go_wp2_with fail
              go_region
              all_goals go_wp2_with fail
              all_goals go_region
              all_goals go_wp2_with fail
              all_goals refine (HS.out _ (by repeat (first | exact Below.refl _ _ | refine Below.drew ?_))).mono ?_
              all_goals (rintro e w3 ⟨rfl, hR3, hb3⟩)
              all_goals have HR3 := Lib.hid (step2 hR3)
              all_goals have HB3 := Lib.hid (hb.trans (Below.trans (by repeat (first | exact Below.refl _ _ | refine Below.drew ?_)) hb3))
              all_goals clear hR3 hb3
              all_goals go_wp2_with fail
              all_goals go_roundw
              case rel => exact ⟨at_ + k, f, acc ++ [x], Q.out.1, Q.out.2.1, Q.out.2.2.1, HR3.out, HB3.out, HN⟩
              case measure => exact meas c1 (RD.cells HR3.out).2.1 ⟨Q.out.2.2.2, Q.out.1⟩
          · rw [stp_other _ _ _ _ _ h92] at hst'
            have HB := Lib.hid (fun (W : World) (hB : Below wr.heap.size wr W) => bar_c b s hs nm cc at_ W (HD.out W hB).2.2.1 (HD.out W hB).2.2.2.1 (HD.out W hB).2.2.2.2)
            obtain ⟨yb, hyb⟩ : ∃ y, bar nm s.size at_ cc = y := ⟨_, rfl⟩
            rw [hyb] at HB hst'
            clear hyb
            cases yb with
            | true =>
              rw [if_pos rfl] at hst'
              subst hst'
              have HN := Lib.hid (HI.out.trans (by rw [rd_none hne hst]; try rfl))
              clear hst hdc hne hcc hcc' HI hbs hRD
              go_wp2_with fail
              go_region
              all_goals go_wp2_with fail
              all_goals go_region
              all_goals go_wp2_with fail
              all_goals refine (HB.out _ (by repeat (first | exact Below.refl _ _ | refine Below.drew ?_))).mono ?_
              all_goals (rintro e w3 ⟨rfl, hb3⟩)
              all_goals have d1 := (HD.out w3 (Below.trans (by repeat (first | exact Below.refl _ _ | refine Below.drew ?_)) hb3)).2.2.2.1
              all_goals go_wp2_with fail
              all_goals go_ret
              all_goals exact RdE.no HN.out at_ rfl (hb.trans (Below.trans (by repeat (first | exact Below.refl _ _ | refine Below.drew ?_)) (hb3.mono (by simp; omega))))
            | false =>
              rw [if_neg (by decide)] at hst'
              subst hst'
              have HN := Lib.hid (HI.out.trans (by rw [rd_cons hne hst, List.drop_drop, Option.map_map]; congr 1; funext y; simp : _ = (rdL nm s.size f (at_ + 1) ((bl s).drop (at_ + 1))).map ((acc ++ [cc]) ++ ·)))
              have Q := Lib.hid (⟨by omega, by omega, by simp only [List.length_append, List.length_cons, List.length_nil]; omega, by omega⟩ : at_ + 1 ≤ s.size ∧ s.size ≤ f + (at_ + 1) ∧ (acc ++ [cc]).length ≤ at_ + 1 ∧ at_ < at_ + 1)
              have QB := Lib.hid (by omega : (nums .u8 acc).length + 1 ≤ 140737488355328)
              have hw1 : wrap64 ((at_ : Int) + 1) = at_ + 1 := by unfold wrap64; omega
              clear hst hdc hne hcc hcc' HI hRD
              go_wp2_with fail
              go_region
              all_goals go_wp2_with fail
              all_goals go_region
              all_goals go_wp2_with fail
              all_goals refine (HB.out _ (by repeat (first | exact Below.refl _ _ | refine Below.drew ?_))).mono ?_
              all_goals (rintro e w3 ⟨rfl, hb3⟩)
              all_goals have HD3 := Lib.hid (HD.out w3 (Below.trans (by repeat (first | exact Below.refl _ _ | refine Below.drew ?_)) hb3))
              all_goals go_wp2_with fail
              all_goals refine (WriteByte_o b s at_ nm _ cc _ HD3.out.1 QB.out (Nat.le_of_lt (RD.cells HD3.out.1).2.2.2.2)).mono ?_
              all_goals (rintro e w4 ⟨rfl, hR4, hb4⟩)
              all_goals have HR4 := Lib.hid (step1 hR4)
              all_goals have HB4 := Lib.hid ((HD3.out.2.1.trans hb4).setCell (p := ⟨b, 1, none⟩) (Nat.le_refl _) (.int .i64 ((at_ : Int) + 1)))
              all_goals obtain ⟨x0, x1, x2, x3, x4⟩ := RD.cells (Or.inr hR4 : RD b s at_ nm (nums .u8 acc ++ [.int .u8 cc]) w4)
              all_goals clear hR4 hb4
              all_goals go_wp2_with fail
              all_goals go_roundw
              case rel => exact ⟨at_ + 1, f, acc ++ [cc], Q.out.1, Q.out.2.1, Q.out.2.2.1, HR4.out, HB4.out, HN⟩
              case measure => exact meas c1 (RD.cells HR4.out).2.1 ⟨Q.out.2.2.2, Q.out.1⟩
        · obtain rfl : at_ = s.size := by omega
          have HN := Lib.hid (HI.out.trans (by rw [List.drop_eq_nil_of_le (by rw [bl_len]; omega), rd_nil]; rfl : _ = some (acc ++ [])))
          rw [List.append_nil] at HN
          have HD := Lib.hid (fun (W : World) (hB : Below wr.heap.size wr W) => (⟨RD.below hRD hB, hb.trans (hB.mono (Nat.le_of_lt hlt1))⟩ : RD b s s.size nm (nums .u8 acc) W ∧ Below b w W))
          clear HI hbs hRD
          go_wp2_with fail
          go_region
          all_goals go_wp2_with fail
          all_goals go_ret
          all_goals exact RdE.yes HN.out rfl (HD.out _ (by repeat (first | exact Below.refl _ _ | refine Below.drew ?_))).1 (HD.out _ (by repeat (first | exact Below.refl _ _ | refine Below.drew ?_))).2
end Esc
end Go.Proofs.YtbpcoieemkojjaaDoor
