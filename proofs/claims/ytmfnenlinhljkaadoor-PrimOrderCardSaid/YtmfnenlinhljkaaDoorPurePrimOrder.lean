import Derived.Test.YtmfnenlinhljkaaDoorLPrimx2
import Derived.Test.YtmfnenlinhljkaaDoorPurePrimBase2
namespace Go.Proofs.YtmfnenlinhljkaaDoor.Pure
set_option linter.unusedSimpArgs false
set_option linter.unusedVariables false
open Go.RowKit Go.Proofs.YtmfnenlinhljkaaDoor.LPrim Go.Proofs.YtmfnenlinhljkaaDoor.ExtPrim Go.Proofs.YtmfnenlinhljkaaDoor.Prim Go.Proofs.YtmfnenlinhljkaaDoorW.PrintWords Go.Proofs.YtmfnenlinhljkaaDoorW.PrintLast
/-- The number a text of bytes says, read without sign. -/
def uval : List UInt8 → Nat
  | [] => 0
  | a :: l => a.toNat * 256 ^ l.length + uval l
theorem uval_lt : ∀ l : List UInt8, uval l < 256 ^ l.length
  | [] => by decide
  | a :: l => by
    have h := uval_lt l
    have ha := a.toNat_lt
    have : a.toNat * 256 ^ l.length + 256 ^ l.length ≤ 256 * 256 ^ l.length := by
      rw [← Nat.succ_mul]; exact Nat.mul_le_mul_right _ (by omega)
    simp only [uval, List.length_cons, Nat.pow_succ]
    omega
theorem less_val : ∀ l m : List UInt8, l.length = m.length → Op.bytesLess l m = decide (uval l < uval m)
  | [], [], _ => rfl
  | [], _ :: _, h => by simp at h
  | _ :: _, [], h => by simp at h
  | a :: l, b :: m, h => by
    have hl : l.length = m.length := by simpa using h
    have h1 := uval_lt l
    have h2 := uval_lt m
    simp only [Op.bytesLess, uval, hl]
    rw [hl] at h1
    rw [less_val l m hl]
    rcases Nat.lt_trichotomy a.toNat b.toNat with c | c | c
    · have : a.toNat * 256 ^ m.length + 256 ^ m.length ≤ b.toNat * 256 ^ m.length := by
        rw [← Nat.succ_mul]; exact Nat.mul_le_mul_right _ c
      have hab : a < b := UInt8.lt_iff_toNat_lt.2 c
      have hlt : a.toNat * 256 ^ m.length + uval l < b.toNat * 256 ^ m.length + uval m := Nat.lt_of_lt_of_le (Nat.add_lt_add_left h1 _) (Nat.le_trans this (Nat.le_add_right _ _))
      rw [decide_eq_true hab, decide_eq_true hlt]; rfl
    · have hab : a = b := UInt8.toNat_inj.1 c
      subst hab
      simp
    · have : b.toNat * 256 ^ m.length + 256 ^ m.length ≤ a.toNat * 256 ^ m.length := by
        rw [← Nat.succ_mul]; exact Nat.mul_le_mul_right _ c
      have hab : ¬ a < b := fun h => by have := UInt8.lt_iff_toNat_lt.1 h; omega
      have hne : ¬ a = b := fun h => by rw [h] at c; omega
      rw [decide_eq_false hab, decide_eq_false (Nat.not_lt.2 (Nat.le_of_lt (Nat.lt_of_lt_of_le (Nat.add_lt_add_left h2 _) (Nat.le_trans this (Nat.le_add_right _ _)))))]
      simp [hne]
theorem uval_byts (w : Nat) (n : Int) (h1 : 1 ≤ w) (h4 : w ≤ 4) : (uval (strOfNums (byts w n)).toList : Int) = n % 256 ^ w := by
  rw [son_list]
  rcases (show w = 1 ∨ w = 2 ∨ w = 3 ∨ w = 4 by omega) with rfl | rfl | rfl | rfl
  · rw [byts1]; simp only [List.map_cons, List.map_nil, uval, List.length_nil]
    have a1 := of_nat (n % 256) (by omega) (by omega)
    rw [show (256 : Int) ^ 1 = 256 from rfl]; omega
  · rw [byts2]; simp only [List.map_cons, List.map_nil, uval, List.length_nil, List.length_cons]
    have a1 := of_nat (n % 256) (by omega) (by omega)
    have a2 := of_nat (n / 256 % 256) (by omega) (by omega)
    rw [show (256 : Int) ^ 2 = 65536 from rfl]; omega
  · rw [byts3]; simp only [List.map_cons, List.map_nil, uval, List.length_nil, List.length_cons]
    have a1 := of_nat (n % 256) (by omega) (by omega)
    have a2 := of_nat (n / 256 % 256) (by omega) (by omega)
    have a3 := of_nat (n / 65536 % 256) (by omega) (by omega)
    rw [show (256 : Int) ^ 3 = 16777216 from rfl]; omega
  · rw [byts4]; simp only [List.map_cons, List.map_nil, uval, List.length_nil, List.length_cons]
    have a1 := of_nat (n % 256) (by omega) (by omega)
    have a2 := of_nat (n / 256 % 256) (by omega) (by omega)
    have a3 := of_nat (n / 65536 % 256) (by omega) (by omega)
    have a4 := of_nat (n / 16777216 % 256) (by omega) (by omega)
    rw [show (256 : Int) ^ 4 = 4294967296 from rfl]; omega
/-- The first byte shows the sign. -/
theorem sign_byte (n : Int) (h : wid n ≠ 0) : Op.bytesLess ((strOfNums (byts (wid n) n)).extract 0 1).toList [128] = decide (n ≥ 0) := by
  have one : ∀ x : Int, 0 ≤ x → x < 256 → Op.bytesLess [UInt8.ofNat x.toNat] [128] = decide (x < 128) := by
    intro x h0 h1
    rw [less_val [UInt8.ofNat x.toNat] [128] rfl]
    have := of_nat x h0 h1
    apply decide_eq_decide.2
    simp only [uval, List.length_nil]
    rw [show (128 : UInt8).toNat = 128 from rfl]; omega
  have cut : ∀ (x : Int) (l : List Int), ((strOfNums (x :: l)).extract 0 1).toList = [UInt8.ofNat x.toNat] := by
    intro x l
    rw [Lib.toList_data, ByteArray.data_extract, Array.toList_extract]
    simp [strOfNums]
  rcases wid_bd n h with ⟨e, g1, g2⟩ | ⟨e, g1, g2, g3⟩ | ⟨e, g1, g2, g3⟩ | ⟨e, g1, g2, g3⟩
  · rw [e, byts1, cut, one _ (by omega) (by omega)]; apply decide_eq_decide.2; omega
  · rw [e, byts2, cut, one _ (by omega) (by omega)]; apply decide_eq_decide.2; omega
  · rw [e, byts3, cut, one _ (by omega) (by omega)]; apply decide_eq_decide.2; omega
  · rw [e, byts4, cut, one _ (by omega) (by omega)]; apply decide_eq_decide.2; omega
theorem less_bytes (n m : Int) (h : wid n ≠ 0) (he : wid n = wid m) (hs : n < 0 ↔ m < 0) :
    Op.bytesLess (strOfNums (byts (wid n) n)).toList (strOfNums (byts (wid m) m)).toList = decide (n < m) := by
  rw [less_val _ _ (by rw [son_list, son_list, List.length_map, List.length_map, byts_len, byts_len, he])]
  have hw := wid_le n
  have u1 := uval_byts (wid n) n (by omega) hw
  have u2 := uval_byts (wid m) m (by omega) (by omega)
  apply decide_eq_decide.2
  have hm : wid m ≠ 0 := by omega
  rcases wid_bd n h with ⟨e, g1, g2⟩ | ⟨e, g1, g2, _⟩ | ⟨e, g1, g2, _⟩ | ⟨e, g1, g2, _⟩ <;>
    rcases wid_bd m hm with ⟨e', f1, f2⟩ | ⟨e', f1, f2, _⟩ | ⟨e', f1, f2, _⟩ | ⟨e', f1, f2, _⟩ <;>
    first
    | (exfalso; omega)
    | (rw [e] at u1; rw [e'] at u2; rw [e, e']
       simp only [show (256 : Int) ^ 1 = 256 from rfl, show (256 : Int) ^ 2 = 65536 from rfl, show (256 : Int) ^ 3 = 16777216 from rfl, show (256 : Int) ^ 4 = 4294967296 from rfl] at u1 u2
       omega)
theorem PrimOrder : latinerlaw03_PrimOrder.Pure := by
  intro n m hn hm
  refine ⟨3, ?_⟩
  unfold latinerlaw03_PrimOrder.f
  rw [shown_true]
  simp only [Option.bind_some]
  rw [show prim_Int.f n = some (if wid n = 0 then (⟨#[]⟩, 30) else (strOfNums (byts (wid n) n), 0)) from rfl]
  rw [show prim_Int.f m = some (if wid m = 0 then (⟨#[]⟩, 30) else (strOfNums (byts (wid m) m), 0)) from rfl]
  simp only [Option.bind_some]
  have em : (⟨#[]⟩ : ByteArray).toList = [] := by rw [Lib.toList_data]
  by_cases h : wid n = 0
  · rw [if_pos h, if_neg (by decide)]
    simp only [latinerlaw03_PrimOrder.j0, if_true, em]
    rw [if_neg (by decide)]
    by_cases h' : wid m = 0
    · rw [if_pos h', if_neg (by decide)]; simp [em]
    · rw [if_neg h', if_pos rfl]
  rw [if_neg h, if_pos rfl]
  by_cases h' : wid m = 0
  · rw [if_pos h']
    simp only [latinerlaw03_PrimOrder.j0, if_true, em]
    rfl
  rw [if_neg h']
  simp only [latinerlaw03_PrimOrder.j0, if_true, bne_self_eq_false, Bool.false_eq_true, if_false, Int_size]
  have hw := wid_le n
  have hw' := wid_le m
  by_cases hs : (n < 0 ↔ m < 0)
  · rw [if_neg (by simp [hs])]
    by_cases he : wid n = wid m
    · rw [if_pos (by omega), less_bytes n m h he hs]; simp
    · rw [if_neg (by omega)]
      have mono : (wid n : Int) < wid m ↔ (if n ≥ 0 then n < m else n > m) := by
        rcases wid_bd n h with ⟨e, g1, g2⟩ | ⟨e, g1, g2, _⟩ | ⟨e, g1, g2, _⟩ | ⟨e, g1, g2, _⟩ <;>
          rcases wid_bd m h' with ⟨e', f1, f2⟩ | ⟨e', f1, f2, _⟩ | ⟨e', f1, f2, _⟩ | ⟨e', f1, f2, _⟩ <;>
          split <;> omega
      by_cases c : n ≥ 0
      · rw [if_pos c] at mono ⊢
        by_cases d : n < m
        · rw [if_pos d, decide_eq_true (mono.2 d)]; rfl
        · rw [if_neg d, if_neg (by omega), decide_eq_false (fun x => d (mono.1 x))]; rfl
      · rw [if_neg c] at mono ⊢
        rw [if_pos (by omega)]
        by_cases d : n > m
        · rw [decide_eq_true (mono.2 d), decide_eq_true d]; rfl
        · rw [decide_eq_false (fun x => d (mono.1 x)), decide_eq_false d]; rfl
  · have hne : ¬ (strOfNums (byts (wid n) n)).toList = (strOfNums (byts (wid m) m)).toList := by
      intro e
      rw [Lib.toList_data, Lib.toList_data] at e
      have e2 : strOfNums (byts (wid n) n) = strOfNums (byts (wid m) m) := by
        apply ByteArray.ext; exact Array.toList_inj.1 e
      have e3 := congrArg rdv e2
      rw [rdv_byts n h, rdv_byts m h'] at e3
      subst e3; exact hs Iff.rfl
    rw [if_pos (by by_cases a : n < 0 <;> by_cases b : m < 0 <;> simp_all), if_neg hne]
    have hmn : mn ((wid n : Nat) : Int) 1 = 1 := by unfold mn; split <;> omega
    rw [hmn, if_pos (by decide), if_pos (by omega), show ((1 : Int)).toNat = 1 from rfl, sign_byte n h]
    simp
end Go.Proofs.YtmfnenlinhljkaaDoor.Pure
