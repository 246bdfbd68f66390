import Derived.Test.YtbpcoieemkojjaaDoorLEscx1
import Derived.Test.YtbpcoieemkojjaaDoorKA
namespace Go.Proofs.YtbpcoieemkojjaaDoor.Pure
set_option linter.unusedSimpArgs false
set_option linter.unusedVariables false
open Go.RowKit Go.Proofs.YtbpcoieemkojjaaDoor.LEsc Go.Proofs.YtbpcoieemkojjaaDoor.ExtEsc Go.Proofs.YtbpcoieemkojjaaDoor.Esc Go.Proofs.YtbpcoieemkojjaaDoorW.PrintWords Go.Proofs.YtbpcoieemkojjaaDoorW.PrintLast Go.Proofs.YtbpcoieemkojjaaDoor.PureB
open Go.Proofs.YtbpcoieemkojjaaDoor.Code (bl bl_len bl_get bl_byte Byt bl_son son_bl hexL hex_byte bl_append)
open Go.Proofs.YtbpcoieemkojjaaDoor.Utf (bad bad_of_runs Runs vr eb)
set_option maxRecDepth 100000 in
theorem shown_true : latinerlaw06_shown.f = some true := by decide +kernel
theorem cut_100 (s : ByteArray) : ∃ t, latinerlaw06_cut.f s = some t ∧ t.size ≤ 100 := by
  unfold latinerlaw06_cut.f
  have h : 0 ≤ mn (s.size : Int) 100 ∧ mn (s.size : Int) 100 ≤ s.size ∧ mn (s.size : Int) 100 ≤ 100 := by unfold mn; split <;> omega
  rw [if_pos h.1, if_pos h.2.1]
  exact ⟨_, rfl, by simp; omega⟩
/-- What is printed. -/
def fS (s : ByteArray) : ByteArray := strOfNums (fltL (bl s))
def nS (s : ByteArray) : ByteArray := strOfNums (namL (bl s))
theorem filter_f (s : ByteArray) (h : s.size ≤ 1000000) : esc_Filter.f s = some (fS s) := if_pos h
theorem name_f (s : ByteArray) (h : s.size ≤ 1000000) : esc_Name.f s = some (nS s) := if_pos h
theorem rf_f (s : ByteArray) (h : s.size ≤ 1000000) : esc_ReadFilter.f s = some (rdS (readT false s), rdN (readT false s)) := if_pos h
theorem rn_f (s : ByteArray) (h : s.size ≤ 1000000) : esc_ReadName.f s = some (rdS (readT true s), rdN (readT true s)) := if_pos h
theorem bl_fS (s : ByteArray) : bl (fS s) = fltL (bl s) := bl_son _ (prL_byt _ _ _ (bl_byte s))
theorem bl_nS (s : ByteArray) : bl (nS s) = namL (bl s) := bl_son _ (prL_byt _ _ _ (bl_byte s))
theorem fS_size (s : ByteArray) : s.size ≤ (fS s).size ∧ (fS s).size ≤ 3 * s.size := by
  have h1 := prL_le ruF (bl s) 0
  have h2 := prL_len ruF (bl s) 0
  rw [bl_len] at h1 h2
  unfold fS fltL
  rw [son_size]
  exact ⟨h2, h1⟩
theorem nS_size (s : ByteArray) : s.size ≤ (nS s).size ∧ (nS s).size ≤ 3 * s.size := by
  have h1 := prL_le (ruN (bl s).length) (bl s) 0
  have h2 := prL_len (ruN (bl s).length) (bl s) 0
  rw [bl_len] at h1 h2
  unfold nS namL
  rw [son_size]
  rw [bl_len]
  exact ⟨h2, h1⟩
/-- Every byte from 20 to 7e. -/
def Pla (l : List Int) : Prop := ∀ x ∈ l, 32 ≤ x ∧ x ≤ 126
theorem one_pla (sg dg : Bool) (b : Int) (hb : 0 ≤ b ∧ b < 256) (h : dg = false → pl b = true) : Pla (one sg dg b) := by
  have h1 := dg_rng (b / 16) (by omega) (by omega)
  have h2 := dg_rng (b % 16) (by omega) (by omega)
  intro x hx
  cases dg with
  | true => cases sg <;> simp [one, hex_one] at hx <;> omega
  | false =>
    have h3 := h rfl
    unfold pl at h3
    rw [decide_eq_true_eq] at h3
    cases sg <;> simp [one] at hx <;> omega
theorem prL_pla (f : Nat → Int → Bool × Bool) (hf : ∀ i b, (f i b).2 = false → pl b = true) : ∀ (l : List Int) (i : Nat), Byt l → Pla (prL f i l)
  | [], _, _ => by intro x hx; simp [prL] at hx
  | b :: r, i, h => by
    intro x hx
    simp only [prL] at hx
    rcases List.mem_append.1 hx with q | q
    · exact one_pla _ _ b (h b (by simp)) (hf i b) x q
    · exact prL_pla f hf r (i + 1) (fun y hy => h y (by simp [hy])) x q
theorem fS_pla (s : ByteArray) : Pla (bl (fS s)) := by
  rw [bl_fS]
  exact prL_pla ruF (fun i b h => by simp only [ruF, Bool.or_eq_false_iff, Bool.not_eq_false'] at h; exact h.1) _ _ (bl_byte s)
theorem nS_pla (s : ByteArray) : Pla (bl (nS s)) := by
  rw [bl_nS]
  exact prL_pla _ (fun i b h => by simp only [ruN, Bool.not_eq_false'] at h; exact h) _ _ (bl_byte s)
theorem ascii_runs (s : ByteArray) (h : ∀ j : Nat, j < s.size → bt s j < 128) : ∀ (d i : Nat), s.size = i + d → ∃ l, Runs s i l s.size ∧ l.length = d
  | 0, i, hd => ⟨[], by have : i = s.size := by omega
                        subst this; exact Runs.nil _, rfl⟩
  | d + 1, i, hd => by
    obtain ⟨l, hr, hl⟩ := ascii_runs s h d (i + 1) (by omega)
    have hb := h i (by omega)
    have h0 := (bt_range s (i : Int)).1
    have he : eb (bt s i) = [bt s i] := by unfold eb; rw [if_pos hb]
    refine ⟨bt s i :: l, Runs.cons i _ l _ (by unfold vr; apply decide_eq_true; omega) ⟨by rw [he]; simp; omega, fun j hj => ?_⟩ (by rw [he]; exact hr), by simp [hl]⟩
    rw [he] at hj ⊢
    obtain rfl : j = 0 := by simpa using hj
    simp
theorem pla_ok (s : ByteArray) (h : Pla (bl s)) : okT s = true := by
  have hb : ∀ j : Nat, j < s.size → bt s j < 128 := fun j hj => by
    have := h _ (List.mem_of_getElem? (bl_get s j hj))
    omega
  obtain ⟨l, hr, _⟩ := ascii_runs s hb s.size 0 (by omega)
  have h2 := (bad_of_runs hr).2
  unfold okT
  rw [h2]
  simp only [Bool.and_eq_true, decide_eq_true_eq]
  exact ⟨by omega, fun q => by have := h _ q; omega⟩
theorem read_fS (s : ByteArray) : readT false (fS s) = some (bl s) := by
  unfold readT
  rw [pla_ok _ (fS_pla s), if_pos rfl, bl_fS]
  exact flt_read (bl s) 0 _ _ 0 (bl_byte s) (by rw [bl_len]; exact (fS_size s).1)
theorem read_nS (s : ByteArray) : readT true (nS s) = some (bl s) := by
  unfold readT
  rw [pla_ok _ (nS_pla s), if_pos rfl, bl_nS]
  exact nam_read (bl s) _ 0 _ _ 0 (bl_byte s) (by rw [bl_len]; exact (nS_size s).1) (by simp) (by rw [← bl_len (nS s), bl_nS, Nat.zero_add]; rfl) (fun _ => rfl)
theorem rdS_bl (s : ByteArray) : rdS (some (bl s)) = s := son_bl s
theorem rdN_some (l : List Int) : rdN (some l) = 0 := rfl
theorem fS_inj {s t : ByteArray} (h : fS s = fS t) : s = t := by
  have h1 := read_fS s
  rw [h, read_fS t] at h1
  rw [← son_bl s, ← son_bl t, Option.some.inj h1]
theorem nS_inj {s t : ByteArray} (h : nS s = nS t) : s = t := by
  have h1 := read_nS s
  rw [h, read_nS t] at h1
  rw [← son_bl s, ← son_bl t, Option.some.inj h1]
theorem rdS_size (nm : Bool) (s : ByteArray) : (rdS (readT nm s)).size ≤ s.size := by
  cases h : readT nm s with
  | none => exact Nat.zero_le _
  | some l => show (strOfNums l).size ≤ _; rw [son_size]; exact (readT_byt h).2
theorem beq_tl (s t : ByteArray) : (s.toList == t.toList) = decide (s = t) := by
  rw [Bool.eq_iff_iff, beq_iff_eq, decide_eq_true_eq, toList_inj]
end Go.Proofs.YtbpcoieemkojjaaDoor.Pure
