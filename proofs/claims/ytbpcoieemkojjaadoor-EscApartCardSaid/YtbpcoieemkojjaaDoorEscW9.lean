/- esc's read, ReadFilter, ReadName. -/
import Derived.Test.YtbpcoieemkojjaaDoorEscW8
namespace Go.Proofs.YtbpcoieemkojjaaDoor
set_option linter.unusedSimpArgs false
set_option linter.unusedVariables false
namespace Esc
open Go.RowKit Go.Shelf Go.Proofs.YtbpcoieemkojjaaDoorW.PrintWords Go.Proofs.YtbpcoieemkojjaaDoor.PureB Go.Proofs.YtbpcoieemkojjaaDoor.BldO
open Go.Proofs.YtbpcoieemkojjaaDoor.Code (bl bl_len bl_get bl_byte dv dv_lt unhexL ubT ubN Byt)
attribute [local go_sem] Oper.semAt_some
theorem dv_ge (c : Int) : -1 ≤ dv c := by unfold dv; omega
theorem two_byt {l : List Int} {x : Int} (h : two l = some x) : 0 ≤ x ∧ x < 256 := by
  match l with
  | [] => cases h
  | [_] => cases h
  | a :: b :: _ =>
    simp only [two] at h
    split at h
    · cases h
    · rename_i h1
      obtain rfl := Option.some.inj h
      have := dv_lt a
      have := dv_lt b
      omega
theorem stp_byt {nm : Bool} {n at_ : Nat} {l : List Int} {x : Int} {k : Nat} (hl : Byt l) (h : stp nm n at_ l = some (x, k)) : 0 ≤ x ∧ x < 256 := by
  match l with
  | [] => cases h
  | b :: r =>
    by_cases h92 : b = 92
    · subst h92
      cases nm with
      | false =>
        rw [stpF] at h
        obtain ⟨v, hv, e⟩ := Option.map_eq_some_iff.1 h
        obtain ⟨rfl, rfl⟩ := Prod.mk.inj e
        exact two_byt hv
      | true =>
        match r with
        | [] => cases h
        | c :: r =>
          rw [stpN] at h
          split at h
          · obtain ⟨rfl, rfl⟩ := Prod.mk.inj (Option.some.inj h)
            exact hl _ (by simp)
          · obtain ⟨v, hv, e⟩ := Option.map_eq_some_iff.1 h
            obtain ⟨rfl, rfl⟩ := Prod.mk.inj e
            exact two_byt hv
    · rw [stp_other _ _ _ _ _ h92] at h
      split at h
      · cases h
      · obtain ⟨rfl, rfl⟩ := Prod.mk.inj (Option.some.inj h)
        exact hl _ (by simp)
theorem rd_byt (nm : Bool) (n : Nat) : ∀ (f at_ : Nat) (l m : List Int), Byt l → rdL nm n f at_ l = some m → Byt m ∧ m.length ≤ l.length
  | f, at_, [], m, _, h => by
    rw [rd_nil] at h
    obtain rfl := Option.some.inj h
    exact ⟨(by intro x hx; cases hx), Nat.le_refl _⟩
  | 0, at_, b :: r, m, _, h => by cases h
  | f + 1, at_, b :: r, m, hl, h => by
    cases hs : stp nm n at_ (b :: r) with
    | none => rw [rd_none (by simp) hs] at h; cases h
    | some p =>
      obtain ⟨x, c⟩ := p
      rw [rd_cons (by simp) hs] at h
      obtain ⟨t, ht, rfl⟩ := Option.map_eq_some_iff.1 h
      have hx := stp_byt hl hs
      have hk := stp_le hs
      have h2 := rd_byt nm n f (at_ + c) _ t (fun y hy => hl y (List.mem_of_mem_drop hy)) ht
      rw [List.length_drop] at h2
      exact ⟨(by
        intro y hy
        rcases List.mem_cons.1 hy with rfl | q
        · exact hx
        · exact h2.1 y q), by rw [List.length_cons]; omega⟩
theorem readT_byt {nm : Bool} {s : ByteArray} {l : List Int} (h : readT nm s = some l) : Byt l ∧ l.length ≤ s.size := by
  unfold readT at h
  split at h
  · have := rd_byt nm s.size s.size 0 (bl s) l (bl_byte s) h
    rw [bl_len] at this
    exact this
  · cases h
def rdS (o : Option (List Int)) : ByteArray := match o with | none => ⟨#[]⟩ | some l => strOfNums l
def rdN (o : Option (List Int)) : Int := match o with | none => 60 | some _ => 0
set_option maxRecDepth 100000 in
set_option maxHeartbeats 4000000 in
theorem esc_read (nm : Bool) (s : ByteArray) (hs : s.size ≤ 1000000000) (a0 b0 : Addr) (w : World) (hT : Lib.Utf8Tabs 4 5 w) (hG : Code.GA a0 w) (hE : GA b0 w) :
    Calls Tryd.prog 20 #[.string s, .bool nm] w fun e w' => e = .returned (.tuple #[.string (rdS (readT nm s)), .int .i64 (rdN (readT nm s))]) ∧ Below w.heap.size w w' := by
  have hB0 : Below w.heap.size w (w.alloc (.cells #[.string s, .int .i64 0, .bool nm, .pointer none, .slice none 0 0] 45)) := (Below.refl _ _).alloc (Nat.le_refl _) _
  have hR0 : RD w.heap.size s ((0 : Nat) : Int) nm [] (w.alloc (.cells #[.string s, .int .i64 0, .bool nm, .pointer none, .slice none 0 0] 45)) :=
    .inl ⟨_, World.alloc_heap_new w _, World.ownsRowF_nil _ _ _ _, by simp [Value.ownBlock]⟩
  have HRD := Lib.hid (read_c w.heap.size s hs nm a0 _ (Utf.tabs_below hT hB0) (fun w' hb => hG.below (hB0.trans hb)) hR0)
  have hby := @readT_byt nm s
  obtain ⟨o, ho⟩ : ∃ o, readT nm s = o := ⟨_, rfl⟩
  rw [ho] at HRD hby ⊢
  have HB0 := Lib.hid hB0
  have HEE := Lib.hid hE
  clear hR0 hB0 ho hT hG hE
  cases o with
  | none =>
    clear hby
    go_enter Tryd.func20, Tryd.ntmps20
    go_wp2_with fail
    refine HRD.out.mono ?_
    rintro e w2 ⟨⟨n, rfl⟩, hb2⟩
    have HT := Lib.hid (told_bad n b0 w2 (HEE.out.below (HB0.out.trans hb2)))
    go_wp2_with fail
    refine HT.out.mono ?_
    rintro e w3 ⟨rfl, hb3⟩
    go_wp2_with fail
    go_ret2
    exact ⟨rfl, bl_trans (HB0.out.trans hb2) hb3⟩
  | some l =>
    have hbl := hby rfl
    have HBL := Lib.hid hbl
    clear hby hbl
    go_enter Tryd.func20, Tryd.ntmps20
    go_wp2_with fail
    refine HRD.out.mono ?_
    rintro e w2 ⟨rfl, hR2, hb2⟩
    rw [← Bld.byteCells_nums _ HBL.out.1] at hR2
    have HS := Lib.hid (String_o w.heap.size s _ nm _ w2 hR2 (by have := HB0.out.size; have := hb2.size; simp at this; omega))
    clear hR2
    go_wp2_with fail
    refine HS.out.mono ?_
    rintro e w3 ⟨rfl, hb3⟩
    go_wp2_with fail
    go_ret2
    exact ⟨rfl, (HB0.out.trans hb2).trans hb3⟩
set_option maxHeartbeats 2000000 in
theorem ReadFilter_c (s : ByteArray) (hs : s.size ≤ 1000000000) (a0 b0 : Addr) (w : World) (hT : Lib.Utf8Tabs 4 5 w) (hG : Code.GA a0 w) (hE : GA b0 w) :
    Calls Tryd.prog 11 #[.string s] w fun e w' => e = .returned (.tuple #[.string (rdS (readT false s)), .int .i64 (rdN (readT false s))]) ∧ Below w.heap.size w w' := by
  have HR := Lib.hid (esc_read false s hs a0 b0 w hT hG hE)
  generalize readT false s = o at HR ⊢
  clear hT hG hE
  go_enter Tryd.func11, Tryd.ntmps11
  go_wp2_with fail
  refine HR.out.mono ?_
  rintro e w1 ⟨rfl, hb⟩
  go_wp2_with fail
  go_ret2
  exact ⟨rfl, hb⟩
set_option maxHeartbeats 2000000 in
theorem ReadName_c (s : ByteArray) (hs : s.size ≤ 1000000000) (a0 b0 : Addr) (w : World) (hT : Lib.Utf8Tabs 4 5 w) (hG : Code.GA a0 w) (hE : GA b0 w) :
    Calls Tryd.prog 13 #[.string s] w fun e w' => e = .returned (.tuple #[.string (rdS (readT true s)), .int .i64 (rdN (readT true s))]) ∧ Below w.heap.size w w' := by
  have HR := Lib.hid (esc_read true s hs a0 b0 w hT hG hE)
  generalize readT true s = o at HR ⊢
  clear hT hG hE
  go_enter Tryd.func13, Tryd.ntmps13
  go_wp2_with fail
  refine HR.out.mono ?_
  rintro e w1 ⟨rfl, hb⟩
  go_wp2_with fail
  go_ret2
  exact ⟨rfl, hb⟩
end Esc
end Go.Proofs.YtbpcoieemkojjaaDoor
