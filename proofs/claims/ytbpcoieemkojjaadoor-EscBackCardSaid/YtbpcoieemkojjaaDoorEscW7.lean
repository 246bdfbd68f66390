/- esc's reader: signed and isBarred, whole. -/
import Derived.Test.YtbpcoieemkojjaaDoorEscW6
import Derived.Lib.IndexAny
namespace Go.Proofs.YtbpcoieemkojjaaDoor
set_option linter.unusedSimpArgs false
set_option linter.unusedVariables false
namespace Esc
open Go.RowKit Go.Shelf Go.Proofs.YtbpcoieemkojjaaDoorW.PrintWords Go.Proofs.YtbpcoieemkojjaaDoor.PureB Go.Proofs.YtbpcoieemkojjaaDoor.BldO
open Go.Proofs.YtbpcoieemkojjaaDoor.Code (bl bl_len bl_get bl_byte dv dv_lt unhexL ubT ubN)
theorem two_len {l : List Int} {x : Int} (h : two l = some x) : 2 ≤ l.length := by
  match l with
  | [] => cases h
  | [_] => cases h
  | _ :: _ :: _ => simp
theorem bar_c (g : Nat) (s : ByteArray) (hs : s.size ≤ 1000000000) (nm : Bool) (b : Int) (at_ : Nat) (w : World) (c0 : w.cell? ⟨g, 0, none⟩ = some (.string s)) (c1 : w.cell? ⟨g, 1, none⟩ = some (.int .i64 at_)) (c2 : w.cell? ⟨g, 2, none⟩ = some (.bool nm)) :
    Calls Tryd.prog 42 #[.pointer (some ⟨g, 0, none⟩), .int .u8 b] w fun e w' => e = .returned (.bool (bar nm s.size at_ b)) ∧ Below w.heap.size w w' := by
  cases nm with
  | false =>
    have hv : bar false s.size at_ b = inB b := rfl
    rw [hv]
    exact isBarredF g b w c2
  | true =>
    have hv : bar true s.size at_ b = (decide (at_ = 0 ∧ inS b = true) || decide (at_ + 1 = s.size ∧ b = 32) || inM b) := rfl
    by_cases h0 : at_ = 0
    · have e0 : ((at_ : Int) == 0) = true := by rw [beq_iff_eq]; omega
      cases hx : inS b with
      | true =>
        rw [hx, decide_eq_true (⟨h0, rfl⟩ : at_ = 0 ∧ true = true)] at hv
        rw [hv]
        exact isBarredN_zmt g s hs b at_ e0 hx w c0 c1 c2
      | false =>
        rw [hx, decide_eq_false (by rintro ⟨_, q⟩; exact Bool.noConfusion q : ¬ (at_ = 0 ∧ false = true))] at hv
        by_cases h1 : at_ + 1 = s.size
        · have e1 : ((at_ : Int) == (s.size : Int) - 1) = true := by rw [beq_iff_eq]; omega
          by_cases h2 : b = 32
          · rw [decide_eq_true (⟨h1, h2⟩ : at_ + 1 = s.size ∧ b = 32)] at hv
            rw [hv]
            exact isBarredN_zlbf g s hs b at_ e0 e1 (by rw [beq_iff_eq]; exact h2) hx w c0 c1 c2
          · rw [decide_eq_false (by rintro ⟨_, q⟩; exact h2 q : ¬ (at_ + 1 = s.size ∧ b = 32))] at hv
            rw [hv]
            exact isBarredN_zlcf g s hs b at_ e0 e1 (by rw [beq_eq_false_iff_ne]; exact h2) hx w c0 c1 c2
        · have e1 : ((at_ : Int) == (s.size : Int) - 1) = false := by rw [beq_eq_false_iff_ne]; omega
          rw [decide_eq_false (by rintro ⟨q, _⟩; exact h1 q : ¬ (at_ + 1 = s.size ∧ b = 32))] at hv
          rw [hv]
          exact isBarredN_zmf g s hs b at_ e0 e1 hx w c0 c1 c2
    · have e0 : ((at_ : Int) == 0) = false := by rw [beq_eq_false_iff_ne]; omega
      rw [decide_eq_false (by rintro ⟨q, _⟩; exact h0 q : ¬ (at_ = 0 ∧ inS b = true))] at hv
      by_cases h1 : at_ + 1 = s.size
      · have e1 : ((at_ : Int) == (s.size : Int) - 1) = true := by rw [beq_iff_eq]; omega
        by_cases h2 : b = 32
        · rw [decide_eq_true (⟨h1, h2⟩ : at_ + 1 = s.size ∧ b = 32)] at hv
          rw [hv]
          exact isBarredN_nlb g s hs b at_ e0 e1 (by rw [beq_iff_eq]; exact h2) w c0 c1 c2
        · rw [decide_eq_false (by rintro ⟨_, q⟩; exact h2 q : ¬ (at_ + 1 = s.size ∧ b = 32))] at hv
          rw [hv]
          exact isBarredN_nlc g s hs b at_ e0 e1 (by rw [beq_eq_false_iff_ne]; exact h2) w c0 c1 c2
      · have e1 : ((at_ : Int) == (s.size : Int) - 1) = false := by rw [beq_eq_false_iff_ne]; omega
        rw [decide_eq_false (by rintro ⟨q, _⟩; exact h1 q : ¬ (at_ + 1 = s.size ∧ b = 32))] at hv
        rw [hv]
        exact isBarredN_nm g s hs b at_ e0 e1 w c0 c1 c2
theorem signed_some (nm : Bool) (b : Nat) (s : ByteArray) (hs : s.size ≤ 1000000000) (at_ : Nat) (bs : List Value) (hbs : bs.length ≤ 1000000000) (a0 : Addr) (w : World) (hgb : ∀ w', Below b w w' → Code.GA a0 w') (h : RD b s at_ nm bs w) (ha : at_ < s.size) (h92 : bt s at_ = 92)
    (x : Int) (k : Nat) (hst : stp nm s.size at_ ((bl s).drop at_) = some (x, k)) :
    Calls Tryd.prog 41 #[.pointer (some ⟨b, 0, none⟩)] w fun e w' => e = .returned .nilIface ∧ RD b s (at_ + k : Nat) nm (bs ++ [.int .u8 x]) w' ∧ Below b w w' := by
  rw [drop_cons s at_ ha, h92] at hst
  cases nm with
  | false =>
    rw [stpF] at hst
    obtain ⟨v, hv, e⟩ := Option.map_eq_some_iff.1 hst
    obtain ⟨rfl, rfl⟩ := Prod.mk.inj e
    exact signedF_some b s hs at_ bs hbs a0 w (hgb _ (Below.refl _ _)) hgb h ha v hv
  | true =>
    by_cases h1 : at_ + 1 = s.size
    · rw [List.drop_eq_nil_of_le (by rw [bl_len]; omega), stpN_nil] at hst
      cases hst
    · rw [drop_cons s (at_ + 1) (by omega), stpN] at hst
      cases hE : inE (bt s (at_ + 1 : Nat)) with
      | true =>
        rw [hE, if_pos rfl] at hst
        obtain ⟨rfl, rfl⟩ := Prod.mk.inj (Option.some.inj hst)
        exact signedN_E b s hs at_ bs hbs a0 w hgb h (by omega) _ rfl hE
      | false =>
        rw [hE, if_neg (by decide), ← drop_cons s (at_ + 1) (by omega)] at hst
        obtain ⟨v, hv, e⟩ := Option.map_eq_some_iff.1 hst
        obtain ⟨rfl, rfl⟩ := Prod.mk.inj e
        exact signedN_some b s hs at_ bs hbs a0 w hgb h (by omega) _ rfl hE v hv
theorem signed_none (nm : Bool) (b : Nat) (s : ByteArray) (hs : s.size ≤ 1000000000) (at_ : Nat) (bs : List Value) (hbs : bs.length ≤ 1000000000) (a0 : Addr) (w : World) (hgb : ∀ w', Below b w w' → Code.GA a0 w') (h : RD b s at_ nm bs w) (ha : at_ < s.size) (h92 : bt s at_ = 92)
    (hst : stp nm s.size at_ ((bl s).drop at_) = none) :
    Calls Tryd.prog 41 #[.pointer (some ⟨b, 0, none⟩)] w fun e w' => (∃ n, e = .returned (werr n)) ∧ Below b w w' := by
  rw [drop_cons s at_ ha, h92] at hst
  cases nm with
  | false =>
    rw [stpF] at hst
    exact signedF_none b s hs at_ bs hbs a0 w (hgb _ (Below.refl _ _)) hgb h ha (by simpa using hst)
  | true =>
    by_cases h1 : at_ + 1 = s.size
    · exact signedN_end b s hs at_ bs hbs a0 w hgb h h1
    · rw [drop_cons s (at_ + 1) (by omega), stpN] at hst
      cases hE : inE (bt s (at_ + 1 : Nat)) with
      | true => rw [hE, if_pos rfl] at hst; cases hst
      | false =>
        rw [hE, if_neg (by decide), ← drop_cons s (at_ + 1) (by omega)] at hst
        exact signedN_none b s hs at_ bs hbs a0 w hgb h (by omega) _ rfl hE (by simpa using hst)
theorem stp_other (nm : Bool) (n at_ : Nat) (c : Int) (r : List Int) (h : c ≠ 92) : stp nm n at_ (c :: r) = if bar nm n at_ c then none else some (c, 1) := by
  simp only [stp, if_neg h]
theorem stp_le {nm : Bool} {n at_ : Nat} {l : List Int} {x : Int} {k : Nat} (h : stp nm n at_ l = some (x, k)) : 1 ≤ k ∧ k ≤ l.length := by
  match l with
  | [] => cases h
  | b :: r =>
    by_cases h92 : b = 92
    · subst h92
      cases nm with
      | false =>
        rw [stpF] at h
        obtain ⟨v, hv, e⟩ := Option.map_eq_some_iff.1 h
        obtain ⟨rfl, rfl⟩ := Prod.mk.inj e
        have := two_len hv
        simp only [List.length_cons]; omega
      | true =>
        match r with
        | [] => cases h
        | c :: r =>
          rw [stpN] at h
          split at h
          · obtain ⟨rfl, rfl⟩ := Prod.mk.inj (Option.some.inj h)
            simp only [List.length_cons]; omega
          · obtain ⟨v, hv, e⟩ := Option.map_eq_some_iff.1 h
            obtain ⟨rfl, rfl⟩ := Prod.mk.inj e
            have := two_len hv
            simp only [List.length_cons] at this ⊢; omega
    · rw [stp_other _ _ _ _ _ h92] at h
      split at h
      · cases h
      · obtain ⟨rfl, rfl⟩ := Prod.mk.inj (Option.some.inj h)
        simp only [List.length_cons]; omega
theorem mem_index (s : ByteArray) : decide (0 ≤ Lib.indexByte s.data.toList (0 : Int).toNat.toUInt8) = decide ((0 : Int) ∈ bl s) := by
  have h1 := Lib.contains_iff_indexByte s.data.toList (0 : Int).toNat.toUInt8
  rw [← h1, Bool.eq_iff_iff, decide_eq_true_eq, List.contains_iff_mem]
  unfold bl
  rw [List.mem_map]
  constructor
  · intro h; exact ⟨_, h, rfl⟩
  · rintro ⟨b, hb, e⟩
    have : b = (0 : Int).toNat.toUInt8 := by
      apply UInt8.toNat_inj.1
      have : b.toNat = 0 := by omega
      rw [this]; rfl
    rw [← this]; exact hb
end Esc
end Go.Proofs.YtbpcoieemkojjaaDoor
