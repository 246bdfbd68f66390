import Derived.Test.YtckfglcihelofaaDoorPureCodeBase
import Derived.Test.YtckfglcihelofaaDoorLCodex3
namespace Go.Proofs.YtckfglcihelofaaDoor.Pure
set_option linter.unusedSimpArgs false
set_option linter.unusedVariables false
open Go.RowKit Go.Proofs.YtckfglcihelofaaDoor.LCode Go.Proofs.YtckfglcihelofaaDoor.ExtCode Go.Proofs.YtckfglcihelofaaDoor.Code Go.Proofs.YtckfglcihelofaaDoorW.PrintWords Go.Proofs.YtckfglcihelofaaDoorW.PrintLast Go.Proofs.YtckfglcihelofaaDoor.PureB
def SG : ByteArray := ⟨#[65, 66, 67, 68, 69, 70, 71, 72, 73, 74, 75, 76, 77, 78, 79, 80, 81, 82, 83, 84, 85, 86, 87, 88, 89, 90, 97, 98, 99, 100, 101, 102, 103, 104, 105, 106, 107, 108, 109, 110, 111, 112, 113, 114, 115, 116, 117, 118, 119, 120, 121, 122, 48, 49, 50, 51, 52, 53, 54, 55, 56, 57, 43, 47]⟩
set_option maxRecDepth 100000 in
theorem sg_at : ∀ k : Nat, k < 64 → SG.extract k (k + 1) = strOfNums [b64 k] := by decide
set_option maxRecDepth 100000 in
theorem sg_bt : ∀ k : Nat, k < 64 → bt SG k = b64 k := by decide
theorem sg_atI (i : Int) (h0 : 0 ≤ i) (h1 : i < 64) : SG.extract i.toNat (i + 1).toNat = strOfNums [b64 i] := by
  obtain ⟨k, rfl⟩ : ∃ k : Nat, i = k := ⟨i.toNat, by omega⟩
  have := sg_at k (by omega)
  rw [show ((k : Int) + 1).toNat = k + 1 by omega, Int.toNat_natCast]
  exact this
theorem g0_in (k : Nat) (g : ByteArray) (x i : Int) (hx : 0 ≤ x ∧ x ≤ 16777215) (hi : i < 3) (h0 : 0 ≤ i) (h1 : i < (g.size : Int)) :
    latinerref05_group.l0 (k + 1) g x i = latinerref05_group.l0 k g (256 * x + bt g i) (i + 1) := by
  have hb := bt_range g i
  conv => lhs; rw [latinerref05_group.l0]
  rw [if_pos hi, if_pos h1, if_pos h0, w64 (n := 256 * x) (by omega) (by omega), w64 (n := bt g i) (by omega) (by omega), w64 (by omega) (by omega), w64 (by omega) (by omega)]
theorem g0_out (k : Nat) (g : ByteArray) (x i : Int) (hx : 0 ≤ x ∧ x ≤ 16777215) (hi : i < 3) (h0 : 0 ≤ i) (h1 : ¬ i < (g.size : Int)) :
    latinerref05_group.l0 (k + 1) g x i = latinerref05_group.l0 k g (256 * x) (i + 1) := by
  conv => lhs; rw [latinerref05_group.l0]
  rw [if_pos hi, if_neg h1, w64 (n := 256 * x) (by omega) (by omega), w64 (by omega) (by omega)]
theorem g0_end (k : Nat) (g : ByteArray) (x : Int) : latinerref05_group.l0 (k + 1) g x 3 = latinerref05_group.l1 k g x ⟨#[]⟩ 0 := by
  conv => lhs; rw [latinerref05_group.l0]
  rw [if_neg (by omega)]
theorem g1_in (k : Nat) (g : ByteArray) (n : Int) (X : ByteArray) (i p : Int) (hn : 0 ≤ n ∧ n ≤ 16777215) (hX : X.size ≤ 1000) (hi : i < 4) (h0 : 0 ≤ i) (h1 : i ≤ (g.size : Int)) (hp : (2 : Int) ^ min (18 - 6 * i).toNat 64 = p) (hp0 : 0 < p) :
    latinerref05_group.l1 (k + 1) g n X i = latinerref05_group.l1 k g n (X ++ strOfNums [b64 (n / p % 64)]) (i + 1) := by
  have e1 : wrap64 (18 - wrap64 (6 * i)) = 18 - 6 * i := by rw [w64 (n := 6 * i) (by omega) (by omega), w64 (by omega) (by omega)]
  have e2 : shr .i64 n (18 - 6 * i) = n / p := by unfold shr; rw [← hp]; rfl
  have hq : 0 ≤ n / p := Int.ediv_nonneg hn.1 (by omega)
  have e3 : Int.tmod (n / p) 64 = n / p % 64 := Int.tmod_eq_emod_of_nonneg hq
  have e4 : wrap64 (n / p % 64 + 1) = n / p % 64 + 1 := w64 (by omega) (by omega)
  have e5 : wrap64 (i + 1) = i + 1 := w64 (by omega) (by omega)
  have e6 := sg_atI (n / p % 64) (by omega) (by omega)
  have e7 : (strOfNums [b64 (n / p % 64)]).size = 1 := son_size _
  conv => lhs; rw [latinerref05_group.l1]
  rw [e1, e2, e3, e4, e5, if_pos hi, if_pos (by omega), if_pos h1, if_pos (by omega), if_pos (by omega), if_pos (by omega)]
  rw [show ((⟨#[65, 66, 67, 68, 69, 70, 71, 72, 73, 74, 75, 76, 77, 78, 79, 80, 81, 82, 83, 84, 85, 86, 87, 88, 89, 90, 97, 98, 99, 100, 101, 102, 103, 104, 105, 106, 107, 108, 109, 110, 111, 112, 113, 114, 115, 116, 117, 118, 119, 120, 121, 122, 48, 49, 50, 51, 52, 53, 54, 55, 56, 57, 43, 47]⟩ : ByteArray).extract (n / p % 64).toNat (n / p % 64 + 1).toNat) = strOfNums [b64 (n / p % 64)] from e6, if_pos (by omega)]
theorem g1_out (k : Nat) (g : ByteArray) (n : Int) (X : ByteArray) (i : Int) (hX : X.size ≤ 1000) (hi : i < 4) (h0 : 0 ≤ i) (h3 : i ≤ 3) (h1 : ¬ i ≤ (g.size : Int)) :
    latinerref05_group.l1 (k + 1) g n X i = latinerref05_group.l1 k g n (X ++ strOfNums [61]) (i + 1) := by
  have e1 : wrap64 (18 - wrap64 (6 * i)) = 18 - 6 * i := by rw [w64 (n := 6 * i) (by omega) (by omega), w64 (by omega) (by omega)]
  have e5 : wrap64 (i + 1) = i + 1 := w64 (by omega) (by omega)
  conv => lhs; rw [latinerref05_group.l1]
  rw [e1, e5, if_pos hi, if_pos (by omega), if_neg h1, if_pos (by omega)]
  rfl
theorem g1_end (k : Nat) (g : ByteArray) (n : Int) (X : ByteArray) : latinerref05_group.l1 (k + 1) g n X 4 = some X := by
  conv => lhs; rw [latinerref05_group.l1]
  rw [if_neg (by omega)]
theorem app_nil (X : ByteArray) : X ++ (⟨#[]⟩ : ByteArray) = X := by
  apply ByteArray.ext
  simp [ByteArray.data_append]
theorem nil_app (a : List Int) : (⟨#[]⟩ : ByteArray) ++ strOfNums a = strOfNums a := by
  have := son_app [] a
  exact this
theorem ref_group (g : ByteArray) (h1 : 1 ≤ g.size) (h3 : g.size ≤ 3) (k : Nat) (hk : 9 ≤ k) : latinerref05_group.f k g = some (strOfNums (baseL (bl g))) := by
  obtain ⟨k, rfl⟩ : ∃ m, k = m + 9 := ⟨k - 9, by omega⟩
  have b0 := bt_range g 0
  have b1 := bt_range g 1
  have b2 := bt_range g 2
  have z1 : ∀ x : Int, (strOfNums [x]).size = 1 := fun x => son_size _
  have z2 : ∀ x y : Int, (strOfNums [x, y]).size = 2 := fun x y => son_size _
  have z3 : ∀ x y z : Int, (strOfNums [x, y, z]).size = 3 := fun x y z => son_size _
  unfold latinerref05_group.f
  rcases (show g.size = 1 ∨ g.size = 2 ∨ g.size = 3 by omega) with e | e | e
  · rw [bl_one g e]
    obtain ⟨x, hx⟩ : ∃ x, bt g 0 = x := ⟨_, rfl⟩
    rw [g0_in _ g 0 0 (by omega) (by omega) (by omega) (by omega), hx]
    rw [hx] at b0
    rw [show (0 : Int) + 1 = 1 from rfl, g0_out _ g _ 1 (by omega) (by omega) (by omega) (by omega), show (1 : Int) + 1 = 2 from rfl, g0_out _ g _ 2 (by omega) (by omega) (by omega) (by omega), show (2 : Int) + 1 = 3 from rfl, g0_end]
    obtain ⟨n, hn⟩ : ∃ n, 256 * (256 * (256 * 0 + x)) = n := ⟨_, rfl⟩
    rw [hn]
    rw [g1_in _ g n _ 0 262144 (by omega) (by decide) (by omega) (by omega) (by omega) (by decide) (by omega), nil_app, show (0 : Int) + 1 = 1 from rfl,
      g1_in _ g n _ 1 4096 (by omega) (by rw [z1]; omega) (by omega) (by omega) (by omega) (by decide) (by omega), son_app, show (1 : Int) + 1 = 2 from rfl]
    simp only [List.cons_append, List.nil_append]
    rw [g1_out _ g n _ 2 (by rw [z2]; omega) (by omega) (by omega) (by omega) (by omega), son_app, show (2 : Int) + 1 = 3 from rfl]
    simp only [List.cons_append, List.nil_append]
    rw [g1_out _ g n _ 3 (by rw [z3]; omega) (by omega) (by omega) (by omega) (by omega), son_app, show (3 : Int) + 1 = 4 from rfl, g1_end]
    simp only [List.cons_append, List.nil_append, baseL]
    have hx' : bt g ((0 : Nat) : Int) = x := hx
    rw [hx', show n / 262144 % 64 = x / 4 by omega, show n / 4096 % 64 = x % 4 * 16 by omega]
  · rw [bl_two g e]
    obtain ⟨x, hx⟩ : ∃ x, bt g 0 = x := ⟨_, rfl⟩
    obtain ⟨y, hy⟩ : ∃ y, bt g 1 = y := ⟨_, rfl⟩
    rw [g0_in _ g 0 0 (by omega) (by omega) (by omega) (by omega), hx]
    rw [hx] at b0
    rw [show (0 : Int) + 1 = 1 from rfl, g0_in _ g _ 1 (by omega) (by omega) (by omega) (by omega), hy]
    rw [hy] at b1
    rw [show (1 : Int) + 1 = 2 from rfl, g0_out _ g _ 2 (by omega) (by omega) (by omega) (by omega), show (2 : Int) + 1 = 3 from rfl, g0_end]
    obtain ⟨n, hn⟩ : ∃ n, 256 * (256 * (256 * 0 + x) + y) = n := ⟨_, rfl⟩
    rw [hn]
    rw [g1_in _ g n _ 0 262144 (by omega) (by decide) (by omega) (by omega) (by omega) (by decide) (by omega), nil_app, show (0 : Int) + 1 = 1 from rfl,
      g1_in _ g n _ 1 4096 (by omega) (by rw [z1]; omega) (by omega) (by omega) (by omega) (by decide) (by omega), son_app, show (1 : Int) + 1 = 2 from rfl]
    simp only [List.cons_append, List.nil_append]
    rw [g1_in _ g n _ 2 64 (by omega) (by rw [z2]; omega) (by omega) (by omega) (by omega) (by decide) (by omega), son_app, show (2 : Int) + 1 = 3 from rfl]
    simp only [List.cons_append, List.nil_append]
    rw [g1_out _ g n _ 3 (by rw [z3]; omega) (by omega) (by omega) (by omega) (by omega), son_app, show (3 : Int) + 1 = 4 from rfl, g1_end]
    simp only [List.cons_append, List.nil_append, baseL]
    have hx' : bt g ((0 : Nat) : Int) = x := hx
    have hy' : bt g ((1 : Nat) : Int) = y := hy
    rw [hx', hy', show n / 262144 % 64 = x / 4 by omega, show n / 4096 % 64 = x % 4 * 16 + y / 16 by omega, show n / 64 % 64 = y % 16 * 4 by omega]
  · rw [bl_three g e]
    obtain ⟨x, hx⟩ : ∃ x, bt g 0 = x := ⟨_, rfl⟩
    obtain ⟨y, hy⟩ : ∃ y, bt g 1 = y := ⟨_, rfl⟩
    obtain ⟨z, hz⟩ : ∃ z, bt g 2 = z := ⟨_, rfl⟩
    rw [g0_in _ g 0 0 (by omega) (by omega) (by omega) (by omega), hx]
    rw [hx] at b0
    rw [show (0 : Int) + 1 = 1 from rfl, g0_in _ g _ 1 (by omega) (by omega) (by omega) (by omega), hy]
    rw [hy] at b1
    rw [show (1 : Int) + 1 = 2 from rfl, g0_in _ g _ 2 (by omega) (by omega) (by omega) (by omega), hz]
    rw [hz] at b2
    rw [show (2 : Int) + 1 = 3 from rfl, g0_end]
    obtain ⟨n, hn⟩ : ∃ n, 256 * (256 * (256 * 0 + x) + y) + z = n := ⟨_, rfl⟩
    rw [hn]
    rw [g1_in _ g n _ 0 262144 (by omega) (by decide) (by omega) (by omega) (by omega) (by decide) (by omega), nil_app, show (0 : Int) + 1 = 1 from rfl,
      g1_in _ g n _ 1 4096 (by omega) (by rw [z1]; omega) (by omega) (by omega) (by omega) (by decide) (by omega), son_app, show (1 : Int) + 1 = 2 from rfl]
    simp only [List.cons_append, List.nil_append]
    rw [g1_in _ g n _ 2 64 (by omega) (by rw [z2]; omega) (by omega) (by omega) (by omega) (by decide) (by omega), son_app, show (2 : Int) + 1 = 3 from rfl]
    simp only [List.cons_append, List.nil_append]
    rw [g1_in _ g n _ 3 1 (by omega) (by rw [z3]; omega) (by omega) (by omega) (by omega) (by decide) (by omega), son_app, show (3 : Int) + 1 = 4 from rfl, g1_end]
    simp only [List.cons_append, List.nil_append, baseL]
    have hx' : bt g ((0 : Nat) : Int) = x := hx
    have hy' : bt g ((1 : Nat) : Int) = y := hy
    have hz' : bt g ((2 : Nat) : Int) = z := hz
    rw [hx', hy', hz', show n / 262144 % 64 = x / 4 by omega, show n / 4096 % 64 = x % 4 * 16 + y / 16 by omega, show n / 64 % 64 = y % 16 * 4 + z / 64 by omega, show n / 1 % 64 = z % 64 by omega]
theorem baseL_cut : ∀ l : List Int, baseL l = baseL (l.take 3) ++ baseL (l.drop 3)
  | [] => rfl
  | [a] => by simp [baseL]
  | [a, b] => by simp [baseL]
  | a :: b :: c :: r => by simp [baseL]
theorem ref_base_l0 (s : ByteArray) (hs : s.size ≤ 1000) : ∀ (d k j : Nat) (X : ByteArray), s.size ≤ 3 * j + 3 * d → d + 10 ≤ k → X.size ≤ 4 * j → 3 * j ≤ 1003 →
    latinerref05_Base.l0 k s X (3 * j : Nat) = some (X ++ strOfNums (baseL ((bl s).drop (3 * j)))) := by
  intro d
  induction d with
  | zero =>
    intro k j X h1 h2 h3 h4
    obtain ⟨k, rfl⟩ : ∃ m, k = m + 1 := ⟨k - 1, by omega⟩
    conv => lhs; rw [latinerref05_Base.l0]
    rw [if_neg (by omega), List.drop_eq_nil_of_le (by rw [bl_len]; omega)]
    exact congrArg some (app_nil X).symm
  | succ d ih =>
    intro k j X h1 h2 h3 h4
    obtain ⟨k, rfl⟩ : ∃ m, k = m + 1 := ⟨k - 1, by omega⟩
    conv => lhs; rw [latinerref05_Base.l0]
    by_cases hlt : 3 * j < s.size
    · have hm : mn (wrap64 (((3 * j : Nat) : Int) + 3)) (s.size : Int) = ((min (3 * j + 3) s.size : Nat) : Int) := by
        rw [w64 (by omega) (by omega)]
        unfold mn
        split <;> omega
      rw [hm, if_pos (by omega), if_pos (by omega), if_pos (by omega), if_pos (by omega), Int.toNat_natCast, Int.toNat_natCast]
      have hsz : (s.extract (3 * j) (min (3 * j + 3) s.size)).size = min 3 (s.size - 3 * j) := by rw [ByteArray.size_extract]; omega
      have hbl : bl (s.extract (3 * j) (min (3 * j + 3) s.size)) = ((bl s).drop (3 * j)).take 3 := by
        have := bl_piece s 3 j
        rw [Nat.mul_comm j 3] at this
        exact this
      rw [ref_group _ (by omega) (by omega) k (by omega), hbl, Option.bind_some]
      have hgs : (strOfNums (baseL (((bl s).drop (3 * j)).take 3))).size = 4 := by
        rw [son_size, baseL_len, List.length_take, List.length_drop, bl_len]; omega
      rw [if_pos (by omega), show wrap64 (((3 * j : Nat) : Int) + 3) = ((3 * (j + 1) : Nat) : Int) by rw [w64 (by omega) (by omega)]; omega]
      rw [ih k (j + 1) _ (by omega) (by omega) (by rw [ByteArray.size_append]; omega) (by omega), ByteArray.append_assoc, son_app, baseL_cut ((bl s).drop (3 * j)), List.drop_drop]
      rfl
    · rw [if_neg (by omega), List.drop_eq_nil_of_le (by rw [bl_len]; omega)]
      exact congrArg some (app_nil X).symm
theorem ref_base (s : ByteArray) (hs : s.size ≤ 1000) (k : Nat) (hk : 400 ≤ k) : latinerref05_Base.f k s = some (strOfNums (baseL (bl s))) := by
  unfold latinerref05_Base.f
  have := ref_base_l0 s hs 334 k 0 ⟨#[]⟩ (by omega) (by omega) (by decide) (by omega)
  rw [nil_app] at this
  exact this
end Go.Proofs.YtckfglcihelofaaDoor.Pure
