/- Texts of UTF-8, plainly: their signs, one behind the other. No program in sight. -/
import Derived.Test.YtkjmabehphgmkaaDoorUtfP
namespace Go.Proofs.YtkjmabehphgmkaaDoor
set_option linter.unusedSimpArgs false
set_option linter.unusedVariables false
namespace Utf
open Go.RowKit Go.Proofs.YtkjmabehphgmkaaDoorW.PrintWords
/-- the signs from a place on, each with its place; where none stands, or -1 -/
def sc (s : ByteArray) : Nat → Nat → List (Int × Int) × Int
  | 0, _ => ([], -1)
  | k + 1, i => if i < s.size then (if (sign1 s i).2 = 0 then ([], (i : Int)) else (((i : Int), (sign1 s i).1) :: (sc s k (i + (sign1 s i).2)).1, (sc s k (i + (sign1 s i).2)).2)) else ([], -1)
def bad (s : ByteArray) : Int := (sc s s.size 0).2
def sgn (s : ByteArray) : List Int := (sc s s.size 0).1.map (·.2)
/-- signs that lead from one place to another -/
inductive Runs (s : ByteArray) : Nat → List Int → Nat → Prop
  | nil (i : Nat) : Runs s i [] i
  | cons (i : Nat) (c : Int) (l : List Int) (j : Nat) (hc : vr c = true) (hp : Pre s i (eb c)) (h : Runs s (i + (eb c).length) l j) : Runs s i (c :: l) j
theorem pre_lt {s : ByteArray} {i : Nat} {c : Int} (h : Pre s i (eb c)) : i < s.size := by have := h.1; have := eb_pos c; omega
theorem Runs.le {s : ByteArray} {i j : Nat} {l : List Int} (h : Runs s i l j) (hi : i ≤ s.size) : i ≤ j ∧ j ≤ s.size := by
  induction h with
  | nil i => exact ⟨Nat.le_refl _, hi⟩
  | cons i c l j hc hp h ih => have := ih hp.1; omega
theorem Runs.len {s : ByteArray} {i j : Nat} {l : List Int} (h : Runs s i l j) : i + l.length ≤ j := by
  induction h with
  | nil i => simp
  | cons i c l j hc hp h ih => have := eb_pos c; simp; omega
theorem Runs.vrs {s : ByteArray} {i j : Nat} {l : List Int} (h : Runs s i l j) : ∀ c ∈ l, vr c = true := by
  induction h with
  | nil i => simp
  | cons i c l j hc hp h ih => intro d hd; rcases List.mem_cons.1 hd with rfl | hd; exact hc; exact ih d hd
theorem sign1_of_runs {s : ByteArray} {i : Nat} {c : Int} (hc : vr c = true) (hp : Pre s i (eb c)) : sign1 s i = (c, (eb c).length) := pre_sign1 s i c hc hp
/-- How sc ends. -/
def End (s : ByteArray) (j : Nat) (b : Int) : Prop := (s.size ≤ j ∧ b = -1) ∨ (j < s.size ∧ (sign1 s j).2 = 0 ∧ b = j)
theorem sc_runs (s : ByteArray) : ∀ (k i : Nat), s.size ≤ i + k → ∃ j, Runs s i ((sc s k i).1.map (·.2)) j ∧ End s j (sc s k i).2
  | 0, i, h => ⟨i, Runs.nil i, .inl ⟨by omega, rfl⟩⟩
  | k + 1, i, h => by
    by_cases hi : i < s.size
    · by_cases hz : (sign1 s i).2 = 0
      · refine ⟨i, ?_, ?_⟩
        · simp only [sc, if_pos hi, if_pos hz]; exact Runs.nil i
        · simp only [sc, if_pos hi, if_pos hz]; exact .inr ⟨hi, hz, rfl⟩
      · obtain ⟨hv, hl, hp⟩ := sign1_pre s i hi hz
        obtain ⟨j, hr, he⟩ := sc_runs s k (i + (sign1 s i).2) (by omega)
        refine ⟨j, ?_, ?_⟩
        · simp only [sc, if_pos hi, if_neg hz, List.map_cons]
          exact Runs.cons i _ _ j hv hp (by rw [← hl]; exact hr)
        · simp only [sc, if_pos hi, if_neg hz]; exact he
    · refine ⟨i, ?_, .inl ⟨by omega, ?_⟩⟩
      · simp only [sc, if_neg hi]; exact Runs.nil i
      · simp only [sc, if_neg hi]
theorem sc_det (s : ByteArray) {i j : Nat} {l : List Int} {b : Int} (h : Runs s i l j) (he : End s j b) : ∀ k, s.size ≤ i + k → (sc s k i).1.map (·.2) = l ∧ (sc s k i).2 = b := by
  induction h with
  | nil i =>
    intro k hk
    cases k with
    | zero =>
      rcases he with ⟨_, rfl⟩ | ⟨h1, _⟩
      · exact ⟨rfl, rfl⟩
      · omega
    | succ k =>
      rcases he with ⟨h1, rfl⟩ | ⟨h1, h2, rfl⟩
      · simp only [sc, if_neg (show ¬ i < s.size by omega)]; exact ⟨rfl, trivial⟩
      · simp only [sc, if_pos h1, if_pos h2]; exact ⟨rfl, trivial⟩
  | cons i c l j hc hp h ih =>
    intro k hk
    have hi := pre_lt hp
    have hs := pre_sign1 s i c hc hp
    have hpos := eb_pos c
    obtain ⟨m, rfl⟩ : ∃ m, k = m + 1 := ⟨k - 1, by omega⟩
    obtain ⟨h1, h2⟩ := ih he m (by omega)
    simp only [sc, if_pos hi]
    rw [hs]
    simp only [if_neg (show ¬ (eb c).length = 0 by omega), List.map_cons]
    exact ⟨by rw [h1], h2⟩
theorem bad_runs (s : ByteArray) : ∃ j, Runs s 0 (sgn s) j ∧ End s j (bad s) := sc_runs s s.size 0 (by omega)
theorem bad_det (s : ByteArray) {j : Nat} {l : List Int} {b : Int} (h : Runs s 0 l j) (he : End s j b) : sgn s = l ∧ bad s = b := sc_det s h he s.size (by omega)
theorem bad_ge (s : ByteArray) : -1 ≤ bad s := by
  obtain ⟨j, _, h | h⟩ := bad_runs s
  · omega
  · omega
theorem bad_lt (s : ByteArray) : bad s < s.size ∨ bad s = -1 := by
  obtain ⟨j, _, h | h⟩ := bad_runs s
  · omega
  · omega
/-- A right text's signs lead through it. -/
theorem right_runs {s : ByteArray} (h : bad s < 0) : Runs s 0 (sgn s) s.size ∧ bad s = -1 := by
  obtain ⟨j, hr, he | he⟩ := bad_runs s
  · have := hr.le (Nat.zero_le _)
    obtain rfl : j = s.size := by omega
    exact ⟨hr, he.2⟩
  · omega
theorem bad_of_runs {s : ByteArray} {l : List Int} (h : Runs s 0 l s.size) : sgn s = l ∧ bad s = -1 := bad_det s h (.inl ⟨Nat.le_refl _, rfl⟩)
/-! Other texts -/
/-- t's bytes are those of s from a place on. -/
def Sub (t s : ByteArray) (o : Nat) : Prop := o + t.size ≤ s.size ∧ ∀ j : Nat, j < t.size → bt t j = bt s ((o : Int) + j)
theorem Pre.sub {t s : ByteArray} {o i : Nat} {l : List Int} (h : Pre t i l) (hs : Sub t s o) : Pre s (o + i) l :=
  ⟨by have := h.1; have := hs.1; omega, fun j hj => by
    have h1 := h.1
    have h2 := hs.2 (i + j) (by omega)
    have h3 := h.2 j hj
    rw [show ((o + i : Nat) : Int) + j = (o : Int) + ((i + j : Nat) : Int) by omega, ← h2, ← h3]
    congr 1⟩
theorem Pre.of_sub {t s : ByteArray} {o i : Nat} {l : List Int} (h : Pre s (o + i) l) (hs : Sub t s o) (hi : i + l.length ≤ t.size) : Pre t i l :=
  ⟨hi, fun j hj => by
    have h2 := hs.2 (i + j) (by omega)
    have h3 := h.2 j hj
    rw [show ((o + i : Nat) : Int) + j = (o : Int) + ((i + j : Nat) : Int) by omega, ← h2] at h3
    rw [← h3]
    congr 1⟩
theorem Runs.sub {t s : ByteArray} {o i j : Nat} {l : List Int} (h : Runs t i l j) (hs : Sub t s o) : Runs s (o + i) l (o + j) := by
  induction h with
  | nil i => exact Runs.nil _
  | cons i c l j hc hp h ih => exact Runs.cons _ c l _ hc (hp.sub hs) (by rw [Nat.add_assoc]; exact ih)
theorem Runs.of_sub {t s : ByteArray} {o j : Nat} {l : List Int} {a : Nat} (h : Runs s a l j) (hs : Sub t s o) : ∀ i, a = o + i → j ≤ o + t.size → ∃ j', j = o + j' ∧ Runs t i l j' := by
  induction h with
  | nil a => intro i e _; exact ⟨i, e, Runs.nil _⟩
  | cons a c l j hc hp h ih =>
    intro i e hj
    subst e
    have hle := h.len
    obtain ⟨j', e1, hr⟩ := ih (i + (eb c).length) (by omega) hj
    exact ⟨j', e1, Runs.cons _ c l _ hc (hp.of_sub hs (by omega)) hr⟩
theorem Runs.trans {s : ByteArray} {i j k : Nat} {l m : List Int} (h : Runs s i l j) (h' : Runs s j m k) : Runs s i (l ++ m) k := by
  induction h with
  | nil i => exact h'
  | cons i c l j hc hp h ih => exact Runs.cons _ c _ _ hc hp (ih h')
theorem zero_of_sub {t s : ByteArray} {o i : Nat} (h : (sign1 s (o + i)).2 = 0) (hs : Sub t s o) (hi : i < t.size) : (sign1 t i).2 = 0 := by
  by_cases hz : (sign1 t i).2 = 0
  · exact hz
  obtain ⟨hv, hl, hp⟩ := sign1_pre t i hi hz
  have := hs.1
  exact absurd (hp.sub hs) (sign1_zero s (o + i) h (by omega) _ hv)
/-- behind a place from which t goes to its end -/
theorem zero_sub_end {t s : ByteArray} {o i : Nat} (h : (sign1 t i).2 = 0) (hs : Sub t s o) (he : o + t.size = s.size) (hi : i < t.size) : (sign1 s (o + i)).2 = 0 := by
  by_cases hz : (sign1 s (o + i)).2 = 0
  · exact hz
  obtain ⟨hv, hl, hp⟩ := sign1_pre s (o + i) (by omega) hz
  have h1 := hp.1
  exact absurd (hp.of_sub hs (by omega)) (sign1_zero t i h hi _ hv)
/-- The bytes of signs. -/
def ebs (l : List Int) : List Int := l.flatMap eb
theorem ebs_cons (c : Int) (l : List Int) : ebs (c :: l) = eb c ++ ebs l := rfl
theorem Runs.bytes {s : ByteArray} {i j : Nat} {l : List Int} (h : Runs s i l j) (hi : i ≤ s.size) : Pre s i (ebs l) ∧ j = i + (ebs l).length := by
  induction h with
  | nil i => exact ⟨⟨by simpa [ebs] using hi, by simp [ebs]⟩, by simp [ebs]⟩
  | cons i c l j hc hp h ih =>
    obtain ⟨⟨h1, h2⟩, h3⟩ := ih hp.1
    rw [ebs_cons]
    refine ⟨⟨by simp; omega, fun k hk => ?_⟩, by simp; omega⟩
    by_cases hlt : k < (eb c).length
    · rw [hp.2 k hlt]
      simp only [List.getD_eq_getElem?_getD]
      rw [List.getElem?_append_left hlt]
    · have := h2 (k - (eb c).length) (by simp at hk; omega)
      rw [show ((i + (eb c).length : Nat) : Int) + ((k - (eb c).length : Nat) : Int) = (i : Int) + k by omega] at this
      rw [this]
      simp only [List.getD_eq_getElem?_getD]
      rw [List.getElem?_append_right (by omega)]
theorem runs_of_bytes {s : ByteArray} : ∀ (l : List Int) (i : Nat), (∀ c ∈ l, vr c = true) → Pre s i (ebs l) → Runs s i l (i + (ebs l).length)
  | [], i, _, _ => by simpa [ebs] using Runs.nil i
  | c :: l, i, hv, hp => by
    obtain ⟨h1, h2⟩ := hp
    rw [ebs_cons] at h1 h2 ⊢
    simp only [List.length_append] at h1 h2 ⊢
    refine Runs.cons i c l _ (hv c (by simp)) ⟨by omega, fun j hj => ?_⟩ ?_
    · have := h2 j (by omega)
      rw [this]
      simp only [List.getD_eq_getElem?_getD]
      rw [List.getElem?_append_left hj]
    · have := runs_of_bytes (s := s) l (i + (eb c).length) (fun c hc => hv c (by simp [hc])) ⟨by omega, fun j hj => by
        have := h2 ((eb c).length + j) (by omega)
        rw [show ((i + (eb c).length : Nat) : Int) + (j : Int) = (i : Int) + (((eb c).length + j : Nat) : Int) by omega, this]
        simp only [List.getD_eq_getElem?_getD]
        rw [List.getElem?_append_right (by omega)]
        congr 2
        omega⟩
      rwa [Nat.add_assoc] at this
end Utf
end Go.Proofs.YtkjmabehphgmkaaDoor
