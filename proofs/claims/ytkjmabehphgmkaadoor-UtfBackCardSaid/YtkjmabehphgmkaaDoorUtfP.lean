/- UTF-8, plainly: the model's decoder and encoder, byte by byte. No program in sight. -/
import Derived.Test.YtkjmabehphgmkaaDoorWWords
namespace Go.Proofs.YtkjmabehphgmkaaDoor
set_option linter.unusedSimpArgs false
set_option linter.unusedVariables false
namespace Utf
open Go.RowKit Go.Proofs.YtkjmabehphgmkaaDoorW.PrintWords
/-- which numbers are signs -/
def vr (c : Int) : Bool := decide (0 ≤ c ∧ c ≤ 1114111 ∧ ¬ (55296 ≤ c ∧ c ≤ 57343))
/-- a sign's bytes -/
def eb (c : Int) : List Int :=
  if c < 128 then [c] else if c < 2048 then [192 + c / 64, 128 + c % 64] else if c < 65536 then [224 + c / 4096, 128 + c / 64 % 64, 128 + c % 64]
  else [240 + c / 262144, 128 + c / 4096 % 64, 128 + c / 64 % 64, 128 + c % 64]
/-- some bytes stand at a place -/
def Pre (s : ByteArray) (i : Nat) (l : List Int) : Prop := i + l.length ≤ s.size ∧ ∀ j : Nat, j < l.length → bt s ((i : Int) + j) = l.getD j 0
theorem bt_get (s : ByteArray) (i : Nat) : bt s (i : Int) = ((s.get! i).toNat : Int) := by
  unfold bt
  split
  · rename_i h
    have h' : i < s.size := by simpa using h
    show ((s[i]'h').toNat : Int) = _
    rw [show s.get! i = s[i]'h' by simp [ByteArray.get!, getElem!_pos, h']; rfl]
  · rename_i h
    have h' : ¬ i < s.size := by simpa using h
    have : s.get! i = 0 := by
      rcases s with ⟨a⟩
      simp only [ByteArray.get!]
      rw [getElem!_neg]
      · rfl
      · exact h'
    simp [this]
/-- the sign that begins at a place: 0 bytes, if there is none -/
def sign1 (s : ByteArray) (i : Nat) : Int × Nat := if Utf8.decode s i = (65533, 1) then (0, 0) else ((Utf8.decode s i).1, (Utf8.decode s i).2)
theorem eb_len (c : Int) : (eb c).length = if c < 128 then 1 else if c < 2048 then 2 else if c < 65536 then 3 else 4 := by
  unfold eb
  repeat' split
  all_goals rfl
theorem eb_pos (c : Int) : 0 < (eb c).length := by
  rw [eb_len]
  repeat' split
  all_goals omega
theorem bt_out (s : ByteArray) (i : Int) (h : ¬ i.toNat < s.size) : bt s i = 0 := by unfold bt; rw [dif_neg h]
/-- The decoder in bytes. -/
theorem decode_bt (s : ByteArray) (i : Nat) (h : i < s.size) :
    ∀ b0 b1 b2 b3 : Nat, (b0 : Int) = bt s i → (b1 : Int) = bt s ((i : Int) + 1) → (b2 : Int) = bt s ((i : Int) + 2) → (b3 : Int) = bt s ((i : Int) + 3) →
    Utf8.decode s i = (if b0 < 128 then (b0, 1) else
      if b0 / 32 = 6 ∧ i + 1 < s.size ∧ b1 / 64 = 2 then (if b0 % 32 * 64 + b1 % 64 ≥ 128 then (b0 % 32 * 64 + b1 % 64, 2) else (65533, 1)) else
      if b0 / 16 = 14 ∧ (i + 1 < s.size ∧ b1 / 64 = 2) ∧ (i + 2 < s.size ∧ b2 / 64 = 2) then
        (if b0 % 16 * 4096 + b1 % 64 * 64 + b2 % 64 ≥ 2048 ∧ Utf8.valid ((b0 % 16 * 4096 + b1 % 64 * 64 + b2 % 64 : Nat) : Int) = true then (b0 % 16 * 4096 + b1 % 64 * 64 + b2 % 64, 3) else (65533, 1)) else
      if b0 / 8 = 30 ∧ (i + 1 < s.size ∧ b1 / 64 = 2) ∧ (i + 2 < s.size ∧ b2 / 64 = 2) ∧ (i + 3 < s.size ∧ b3 / 64 = 2) then
        (if b0 % 8 * 262144 + b1 % 64 * 4096 + b2 % 64 * 64 + b3 % 64 ≥ 65536 ∧ Utf8.valid ((b0 % 8 * 262144 + b1 % 64 * 4096 + b2 % 64 * 64 + b3 % 64 : Nat) : Int) = true then (b0 % 8 * 262144 + b1 % 64 * 4096 + b2 % 64 * 64 + b3 % 64, 4) else (65533, 1))
      else (65533, 1)) := by
  intro b0 b1 b2 b3 h0 h1 h2 h3
  have g : ∀ k : Nat, bt s ((i : Int) + k) = ((s.get! (i + k)).toNat : Int) := fun k => by rw [← bt_get]; simp
  have g0 : bt s (i : Int) = ((s.get! (i + 0)).toNat : Int) := by have := g 0; simpa using this
  have g1 : bt s ((i : Int) + 1) = ((s.get! (i + 1)).toNat : Int) := g 1
  have g2 : bt s ((i : Int) + 2) = ((s.get! (i + 2)).toNat : Int) := g 2
  have g3 : bt s ((i : Int) + 3) = ((s.get! (i + 3)).toNat : Int) := g 3
  obtain rfl : b0 = (s.get! (i + 0)).toNat := by rw [g0] at h0; omega
  obtain rfl : b1 = (s.get! (i + 1)).toNat := by rw [g1] at h1; omega
  obtain rfl : b2 = (s.get! (i + 2)).toNat := by rw [g2] at h2; omega
  obtain rfl : b3 = (s.get! (i + 3)).toNat := by rw [g3] at h3; omega
  simp only [Utf8.decode, Utf8.runeError, Bool.and_eq_true, decide_eq_true_eq, beq_iff_eq, and_assoc, ge_iff_le]
theorem valid_vr (c : Int) : Utf8.valid c = vr c := by
  unfold Utf8.valid vr
  rw [Bool.eq_iff_iff]
  simp only [Bool.or_eq_true, Bool.and_eq_true, decide_eq_true_eq]
  omega
/-- What the decoder takes is what the encoder writes. -/
theorem sign1_pre (s : ByteArray) (i : Nat) (h : i < s.size) (hn : (sign1 s i).2 ≠ 0) : vr (sign1 s i).1 = true ∧ (sign1 s i).2 = (eb (sign1 s i).1).length ∧ Pre s i (eb (sign1 s i).1) := by
  have r : ∀ k : Int, ∃ b : Nat, (b : Int) = bt s ((i : Int) + k) ∧ b ≤ 255 := fun k => ⟨(bt s ((i : Int) + k)).toNat, by have := bt_range s ((i : Int) + k); omega, by have := bt_range s ((i : Int) + k); omega⟩
  obtain ⟨b0, h0, r0⟩ := r 0
  obtain ⟨b1, h1, r1⟩ := r 1
  obtain ⟨b2, h2, r2⟩ := r 2
  obtain ⟨b3, h3, r3⟩ := r 3
  rw [Int.add_zero] at h0
  have hd := decode_bt s i h b0 b1 b2 b3 h0 h1 h2 h3
  unfold sign1 at hn ⊢
  by_cases hbad : Utf8.decode s i = (65533, 1)
  · rw [if_pos hbad] at hn; simp at hn
  rw [if_neg hbad]
  have fin : ∀ c n : Nat, Utf8.decode s i = (c, n) → vr c = true → n = (eb c).length → Pre s i (eb c) → vr ((Utf8.decode s i).1 : Int) = true ∧ (Utf8.decode s i).2 = (eb (Utf8.decode s i).1).length ∧ Pre s i (eb (Utf8.decode s i).1) := by
    intro c n e a b c; rw [e]; exact ⟨a, b, c⟩
  have hbad' := hbad
  rw [hd] at hbad'
  have c0 : bt s ((i : Int) + (0 : Nat)) = b0 := by simpa using h0.symm
  have c1 : bt s ((i : Int) + (1 : Nat)) = b1 := h1.symm
  have c2 : bt s ((i : Int) + (2 : Nat)) = b2 := h2.symm
  have c3 : bt s ((i : Int) + (3 : Nat)) = b3 := h3.symm
  split at hd
  · rename_i k
    have e : eb (b0 : Int) = [(b0 : Int)] := by unfold eb; rw [if_pos (by omega)]
    refine fin _ _ hd (by simp [vr]; omega) (by rw [e]; rfl) ⟨by rw [e]; simp; omega, fun j hj => ?_⟩
    rw [e] at hj ⊢
    obtain rfl : j = 0 := by simpa using hj
    exact c0
  rename_i k0
  rw [if_neg k0] at hbad'
  split at hd
  · rename_i k
    rw [if_pos k] at hbad'
    split at hd
    · rename_i k2
      obtain ⟨c, hc⟩ : ∃ c : Nat, c = b0 % 32 * 64 + b1 % 64 := ⟨_, rfl⟩
      rw [← hc] at hd k2
      have e : eb (c : Int) = [192 + (c : Int) / 64, 128 + (c : Int) % 64] := by unfold eb; rw [if_neg (by omega), if_pos (by omega)]
      refine fin _ _ hd (by simp [vr]; omega) (by rw [e]; rfl) ⟨by rw [e]; simp; omega, fun j hj => ?_⟩
      rw [e] at hj ⊢
      rcases (show j = 0 ∨ j = 1 by simp at hj; omega) with rfl | rfl
      · rw [c0]; simp; omega
      · rw [c1]; simp; omega
    · rename_i k2; rw [if_neg k2] at hbad'; exact absurd rfl hbad'
  rename_i k1
  rw [if_neg k1] at hbad'
  split at hd
  · rename_i k
    rw [if_pos k] at hbad'
    split at hd
    · rename_i k2
      obtain ⟨c, hc⟩ : ∃ c : Nat, c = b0 % 16 * 4096 + b1 % 64 * 64 + b2 % 64 := ⟨_, rfl⟩
      rw [← hc] at hd k2
      have hv := k2.2
      rw [valid_vr] at hv
      have e : eb (c : Int) = [224 + (c : Int) / 4096, 128 + (c : Int) / 64 % 64, 128 + (c : Int) % 64] := by unfold eb; rw [if_neg (by omega), if_neg (by omega), if_pos (by omega)]
      refine fin _ _ hd hv (by rw [e]; rfl) ⟨by rw [e]; simp; omega, fun j hj => ?_⟩
      rw [e] at hj ⊢
      rcases (show j = 0 ∨ j = 1 ∨ j = 2 by simp at hj; omega) with rfl | rfl | rfl
      · rw [c0]; simp; omega
      · rw [c1]; simp; omega
      · rw [c2]; simp; omega
    · rename_i k2; rw [if_neg k2] at hbad'; exact absurd rfl hbad'
  rename_i k1'
  rw [if_neg k1'] at hbad'
  split at hd
  · rename_i k
    rw [if_pos k] at hbad'
    split at hd
    · rename_i k2
      obtain ⟨c, hc⟩ : ∃ c : Nat, c = b0 % 8 * 262144 + b1 % 64 * 4096 + b2 % 64 * 64 + b3 % 64 := ⟨_, rfl⟩
      rw [← hc] at hd k2
      have hv := k2.2
      rw [valid_vr] at hv
      have e : eb (c : Int) = [240 + (c : Int) / 262144, 128 + (c : Int) / 4096 % 64, 128 + (c : Int) / 64 % 64, 128 + (c : Int) % 64] := by unfold eb; rw [if_neg (by omega), if_neg (by omega), if_neg (by omega)]
      refine fin _ _ hd hv (by rw [e]; rfl) ⟨by rw [e]; simp; omega, fun j hj => ?_⟩
      rw [e] at hj ⊢
      rcases (show j = 0 ∨ j = 1 ∨ j = 2 ∨ j = 3 by simp at hj; omega) with rfl | rfl | rfl | rfl
      · rw [c0]; simp; omega
      · rw [c1]; simp; omega
      · rw [c2]; simp; omega
      · rw [c3]; simp; omega
    · rename_i k2; rw [if_neg k2] at hbad'; exact absurd rfl hbad'
  · rename_i k3; rw [if_neg k3] at hbad'; exact absurd rfl hbad'
/-- What the encoder writes the decoder takes. -/
theorem pre_sign1 (s : ByteArray) (i : Nat) (c : Int) (hc : vr c = true) (hp : Pre s i (eb c)) : sign1 s i = (c, (eb c).length) := by
  have hlen := hp.1
  have hpos := eb_pos c
  have h : i < s.size := by omega
  have r : ∀ k : Int, ∃ b : Nat, (b : Int) = bt s ((i : Int) + k) ∧ b ≤ 255 := fun k => ⟨(bt s ((i : Int) + k)).toNat, by have := bt_range s ((i : Int) + k); omega, by have := bt_range s ((i : Int) + k); omega⟩
  obtain ⟨b0, h0, r0⟩ := r 0
  obtain ⟨b1, h1, r1⟩ := r 1
  obtain ⟨b2, h2, r2⟩ := r 2
  obtain ⟨b3, h3, r3⟩ := r 3
  rw [Int.add_zero] at h0
  have hd := decode_bt s i h b0 b1 b2 b3 h0 h1 h2 h3
  have c0 : bt s ((i : Int) + (0 : Nat)) = b0 := by simpa using h0.symm
  have c1 : bt s ((i : Int) + (1 : Nat)) = b1 := h1.symm
  have c2 : bt s ((i : Int) + (2 : Nat)) = b2 := h2.symm
  have c3 : bt s ((i : Int) + (3 : Nat)) = b3 := h3.symm
  have hv : ∀ m : Nat, (m : Int) = c → Utf8.valid (m : Int) = true := fun m e => by rw [e, valid_vr]; exact hc
  have hc' := hc
  simp only [vr, decide_eq_true_eq] at hc'
  have fin : ∀ m n : Nat, Utf8.decode s i = (m, n) → (m : Int) = c → n = (eb c).length → ((m, n) : Nat × Nat) ≠ (65533, 1) → sign1 s i = (c, (eb c).length) := by
    intro m n e a b d
    unfold sign1
    rw [e, if_neg d]
    exact Prod.ext a b
  by_cases k0 : c < 128
  · have e : eb c = [c] := by unfold eb; rw [if_pos k0]
    rw [e] at hp
    have p0 := hp.2 0 (by simp)
    rw [c0] at p0
    simp at p0
    rw [if_pos (by omega)] at hd
    exact fin _ _ hd p0 (by rw [e]; rfl) (by intro q; injection q with q1 q2; omega)
  by_cases k1 : c < 2048
  · have e : eb c = [192 + c / 64, 128 + c % 64] := by unfold eb; rw [if_neg k0, if_pos k1]
    rw [e] at hp
    have p0 := hp.2 0 (by simp)
    have p1 := hp.2 1 (by simp)
    have p2 := hp.1
    rw [c0] at p0
    rw [c1] at p1
    simp at p0 p1 p2
    rw [if_neg (by omega), if_pos (by omega), if_pos (by omega)] at hd
    exact fin _ _ hd (by omega) (by rw [e]; rfl) (by intro q; injection q with q1 q2; omega)
  by_cases k2 : c < 65536
  · have e : eb c = [224 + c / 4096, 128 + c / 64 % 64, 128 + c % 64] := by unfold eb; rw [if_neg k0, if_neg k1, if_pos k2]
    rw [e] at hp
    have p0 := hp.2 0 (by simp)
    have p1 := hp.2 1 (by simp)
    have p3 := hp.2 2 (by simp)
    have p2 := hp.1
    rw [c0] at p0
    rw [c1] at p1
    rw [c2] at p3
    simp at p0 p1 p2 p3
    rw [if_neg (by omega), if_neg (by omega), if_pos (by omega), if_pos ⟨by omega, hv _ (by omega)⟩] at hd
    exact fin _ _ hd (by omega) (by rw [e]; rfl) (by intro q; injection q with q1 q2; omega)
  · have e : eb c = [240 + c / 262144, 128 + c / 4096 % 64, 128 + c / 64 % 64, 128 + c % 64] := by unfold eb; rw [if_neg k0, if_neg k1, if_neg k2]
    rw [e] at hp
    have p0 := hp.2 0 (by simp)
    have p1 := hp.2 1 (by simp)
    have p3 := hp.2 2 (by simp)
    have p4 := hp.2 3 (by simp)
    have p2 := hp.1
    rw [c0] at p0
    rw [c1] at p1
    rw [c2] at p3
    rw [c3] at p4
    simp at p0 p1 p2 p3 p4
    rw [if_neg (by omega), if_neg (by omega), if_neg (by omega), if_pos (by omega), if_pos ⟨by omega, hv _ (by omega)⟩] at hd
    exact fin _ _ hd (by omega) (by rw [e]; rfl) (by intro q; injection q with q1 q2; omega)
/-- No sign's bytes stand at a place where the decoder sees none, and just one sign's elsewhere. -/
theorem sign1_iff (s : ByteArray) (i : Nat) (h : i < s.size) (c : Int) (n : Nat) (hn : n ≠ 0) : sign1 s i = (c, n) ↔ vr c = true ∧ n = (eb c).length ∧ Pre s i (eb c) := by
  constructor
  · intro e
    have := sign1_pre s i h (by rw [e]; exact hn)
    rw [e] at this
    exact this
  · rintro ⟨a, rfl, b⟩
    exact pre_sign1 s i c a b
theorem sign1_zero (s : ByteArray) (i : Nat) (h : (sign1 s i).2 = 0) (hi : i < s.size) (c : Int) (hc : vr c = true) : ¬ Pre s i (eb c) := by
  intro hp
  rw [pre_sign1 s i c hc hp] at h
  have := eb_pos c
  simp at h
  rw [h] at this
  simp at this
end Utf
end Go.Proofs.YtkjmabehphgmkaaDoor
