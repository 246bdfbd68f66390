/- KB: several texts of this seat laid as one. -/
import Derived.Test.YtbpcoieemkojjaaDoorKA
import Derived.Test.YtbpcoieemkojjaaDoorShelf
import Derived.Laws.Runes
import Derived.Lib.OthersKept
import Derived.Deep.RegionHeld3
import Derived.Lib.Bytealg
import Derived.Laws.RangeAny
import Derived.Shelf.Strings.BuilderK
import Derived.Lib.RuneBytes
import Derived.BigCall
import Derived.Maps.AppendAt
import Derived.Shelf.Strings.MapGrows
import Derived.Below
import Derived.Lib.SmallJoins
import Derived.StillTailTactics
import Derived.Deep.AppendLies
import Derived.Laws.BitsAllLaws
import Derived.Laws.Bits128
/- strings.IndexRune at a rune beyond ASCII, in a text of ASCII: there is none. -/
namespace Go.Proofs.YtbpcoieemkojjaaDoor
set_option linter.unusedSimpArgs false
set_option linter.unusedVariables false
namespace Idx
open Go.RowKit Go.Shelf Go.Proofs.YtbpcoieemkojjaaDoorW.PrintWords
attribute [local go_sem] Oper.semAt_some
theorem indexByte_none (l : List UInt8) (c : UInt8) (h : ∀ b ∈ l, b ≠ c) : Lib.indexByte l c = -1 := by
  induction l with
  | nil => rfl
  | cons b l ih =>
    unfold Lib.indexByte
    rw [if_neg (by simpa using h b (by simp)), ih (fun x hx => h x (by simp [hx]))]
    rfl
set_option maxHeartbeats 4000000 in
set_option maxRecDepth 1000000 in
theorem high_err (s : ByteArray) (hs : ∀ b ∈ s.data.toList, b.toNat < 128) (w : World) :
    Calls Tryd.prog 50 #[.string s, .int .i32 65533] w fun e w' => e = .returned (.int .i64 (-1)) ∧ Below w.heap.size w w' := by
  have HS := Lib.hid hs
  clear hs
  go_enter Tryd.func50, Tryd.ntmps50
  go_wp2_with fail
  go_loopw [] (fun wr => ∃ pos : Nat, pos ≤ s.size ∧ wr.heap[w.heap.size]? = some (.stringIter s pos) ∧ Below w.heap.size w wr) (fun wr => s.size - wr.iterPos w.heap.size)
  case atStart => exact ⟨0, Nat.zero_le _, World.iter_heap w s 0, (Below.refl _ _).alloc (Nat.le_refl _) _⟩
  case round =>
    obtain ⟨pos, hp, hit, hb⟩ := hrel
    have HIT := Lib.hid hit
    by_cases hlt : pos < s.size
    · have ha : (s[pos]'hlt).toNat < 128 := HS.out _ (Array.getElem_mem_toList (xs := s.data) hlt)
      have hd := decode_ascii s pos hlt ha
      have hnx0 : ∀ ty, (Instr.next (.pointer (some ⟨w.heap.size, 0, none⟩)) true ty).run Tryd.prog wr = _ := fun ty => Lib.run_next_any_at wr w.heap.size s pos ty hit hlt
      rw [hd] at hnx0
      obtain ⟨c, hc⟩ : ∃ c, (s[pos]'hlt).toNat = c := ⟨_, rfl⟩
      rw [hc] at hnx0 ha
      have hne : ¬ ((c : Int) = 65533) := by omega
      obtain ⟨W2, hW2⟩ : ∃ W2, wr.iterAt w.heap.size s (pos + 1) = W2 := ⟨_, rfl⟩
      have hnx : ∀ ty, (Instr.next (.pointer (some ⟨w.heap.size, 0, none⟩)) true ty).run Tryd.prog wr = .ok (.tuple #[.bool true, .int .i64 pos, .int .i32 c]) W2 := fun ty => by rw [hnx0]; simp only [hW2]
      have hit2 : W2.heap[w.heap.size]? = some (.stringIter s (pos + 1)) := by rw [← hW2]; exact Lib.iterAt_heap wr _ s pos _ hit
      have hb2 : Below w.heap.size w W2 := by
        rw [← hW2]
        exact hb.trans ⟨rfl, rfl, rfl, by rw [Lib.iterAt_size]; exact Nat.le_refl _, fun k hk => Lib.iterAt_other wr _ k s _ (by omega)⟩
      clear hW2 hnx0 hd hc hit
      go_wp2_with fail
      go_roundw
      case rel => exact ⟨pos + 1, by omega, hit2, hb2⟩
      case measure => simp only [World.iterPos, hit2, HIT.out]; omega
    · have hnx : ∀ ty, (Instr.next (.pointer (some ⟨w.heap.size, 0, none⟩)) true ty).run Tryd.prog wr = _ := fun ty => Lib.run_next_end_at wr w.heap.size s pos ty hit hlt
      clear hit
      go_wp2_with fail
      refine bodyPost_ret (v := .int .i64 (-1)) (by simp [results, Tryd.results50, go_sem]) rfl ⟨rfl, hb⟩
set_option maxHeartbeats 4000000 in
set_option maxRecDepth 1000000 in
theorem high_valid1 (s : ByteArray) (h0 : 4 ≤ s.size) (hs2 : s.size ≤ 1000) (hs : ∀ b ∈ s.data.toList, b.toNat < 128) (r : Int) (hr : 128 ≤ r) (hv : Lib.validRune r = true) (hne : r ≠ 65533)
    (g : ByteArray) (hg : Utf8.encode r = g) (hL : g.size = 2) (hl : 1 < g.size) (hb128 : 128 ≤ (g[1]'hl).toNat) (w : World) :
    Calls Tryd.prog 50 #[.string s, .int .i32 r] w fun e w' => e = .returned (.int .i64 (-1)) ∧ Below w.heap.size w w' := by
  have HV := Tryd.utf8_ValidRune r
  rw [hv] at HV
  have hcv : ∀ W, (convert 21 9 (.int .i32 r)).run Tryd.prog W = .ok (.string g) W := fun W => by
    rw [← hg]; exact run_convert_int_string W _ _ _ _ (by rw [Tryd.underlying21]; rfl) Tryd.underlying9
  have hls : 1 < s.size := by omega
  have ha0 : (s[1]'hls).toNat < 128 := hs _ (Array.getElem_mem_toList (xs := s.data) hls)
  obtain ⟨x, hx⟩ : ∃ x, (s[1]'hls).toNat = x := ⟨_, rfl⟩
  obtain ⟨y, hy⟩ : ∃ y, (g[1]'hl).toNat = y := ⟨_, rfl⟩
  have hy256 : y < 256 := by rw [← hy]; exact (g[1]'hl).toNat_lt
  rw [hy] at hb128
  rw [hx] at ha0
  have hxy : ¬ ((x : Int) = y) := by omega
  have hxy3 : ((x : Int) != y) = true := by simpa using hxy
  have HIB := Lib.hid (Tryd.strings_IndexByte (s.extract 2 s.size) y)
  have hib : Lib.indexByte (s.extract 2 s.size).data.toList (y : Int).toNat.toUInt8 = -1 := by
    apply indexByte_none
    intro b hb e
    have h1 := hs b (mem_extract hb)
    rw [e] at h1
    simp [Nat.toUInt8] at h1
    omega
  rw [hib] at HIB
  have HVV := Lib.hid HV
  have hw2 : IntKind.i64.wrap 2 = 2 := by decide
  have q2 : (2 : Int) ≤ s.size := by omega
  have q3 : 2 ≤ s.size := by omega
  have q5 : (1 : Int) < s.size := by omega
  clear hv hg hib hs HV h0 hs2
  go_enter Tryd.func50, Tryd.ntmps50
  go_wp2_with (go_at_call 63; refine (HVV.out _).mono ?_; rintro e w' ⟨rfl, hw⟩; rw [hw]; clear hw)
  refine wp_scope_straight ?_
  go_wp2_with fail
  refine wp_loop_rounds 1 ?_
  rw [rounds_succ]
  go_wp2_with fail
  refine wp_scope_straight ?_
  go_wp2_with fail
  go_region
  go_wp2_with fail
  go_region_held3 (fun w' => Below w.heap.size w w') (first | assumption | (repeat (first | assumption | exact Below.refl _ _ | refine Below.drew ?_))) (first
    | (go_at_call 62; refine (HIB.out _).mono ?_; rintro e w' ⟨rfl, rfl⟩))
  go_wp2_with fail
  simp only [Exit.noGoto, Exit.inBlock, Exit.then]
  go_ret
  exact ⟨rfl, by first | assumption | (repeat (first | assumption | exact Below.refl _ _ | refine Below.drew ?_))⟩
set_option maxHeartbeats 4000000 in
set_option maxRecDepth 1000000 in
theorem high_valid2 (s : ByteArray) (h0 : 4 ≤ s.size) (hs2 : s.size ≤ 1000) (hs : ∀ b ∈ s.data.toList, b.toNat < 128) (r : Int) (hr : 128 ≤ r) (hv : Lib.validRune r = true) (hne : r ≠ 65533)
    (g : ByteArray) (hg : Utf8.encode r = g) (hL : g.size = 3) (hl : 2 < g.size) (hb128 : 128 ≤ (g[2]'hl).toNat) (w : World) :
    Calls Tryd.prog 50 #[.string s, .int .i32 r] w fun e w' => e = .returned (.int .i64 (-1)) ∧ Below w.heap.size w w' := by
  have HV := Tryd.utf8_ValidRune r
  rw [hv] at HV
  have hcv : ∀ W, (convert 21 9 (.int .i32 r)).run Tryd.prog W = .ok (.string g) W := fun W => by
    rw [← hg]; exact run_convert_int_string W _ _ _ _ (by rw [Tryd.underlying21]; rfl) Tryd.underlying9
  have hls : 2 < s.size := by omega
  have ha0 : (s[2]'hls).toNat < 128 := hs _ (Array.getElem_mem_toList (xs := s.data) hls)
  obtain ⟨x, hx⟩ : ∃ x, (s[2]'hls).toNat = x := ⟨_, rfl⟩
  obtain ⟨y, hy⟩ : ∃ y, (g[2]'hl).toNat = y := ⟨_, rfl⟩
  have hy256 : y < 256 := by rw [← hy]; exact (g[2]'hl).toNat_lt
  rw [hy] at hb128
  rw [hx] at ha0
  have hxy : ¬ ((x : Int) = y) := by omega
  have hxy3 : ((x : Int) != y) = true := by simpa using hxy
  have HIB := Lib.hid (Tryd.strings_IndexByte (s.extract 3 s.size) y)
  have hib : Lib.indexByte (s.extract 3 s.size).data.toList (y : Int).toNat.toUInt8 = -1 := by
    apply indexByte_none
    intro b hb e
    have h1 := hs b (mem_extract hb)
    rw [e] at h1
    simp [Nat.toUInt8] at h1
    omega
  rw [hib] at HIB
  have HVV := Lib.hid HV
  have hw2 : IntKind.i64.wrap 3 = 3 := by decide
  have q2 : (3 : Int) ≤ s.size := by omega
  have q3 : 3 ≤ s.size := by omega
  have q5 : (2 : Int) < s.size := by omega
  clear hv hg hib hs HV h0 hs2
  go_enter Tryd.func50, Tryd.ntmps50
  go_wp2_with (go_at_call 63; refine (HVV.out _).mono ?_; rintro e w' ⟨rfl, hw⟩; rw [hw]; clear hw)
  refine wp_scope_straight ?_
  go_wp2_with fail
  refine wp_loop_rounds 1 ?_
  rw [rounds_succ]
  go_wp2_with fail
  refine wp_scope_straight ?_
  go_wp2_with fail
  go_region
  go_wp2_with fail
  go_region_held3 (fun w' => Below w.heap.size w w') (first | assumption | (repeat (first | assumption | exact Below.refl _ _ | refine Below.drew ?_))) (first
    | (go_at_call 62; refine (HIB.out _).mono ?_; rintro e w' ⟨rfl, rfl⟩))
  go_wp2_with fail
  simp only [Exit.noGoto, Exit.inBlock, Exit.then]
  go_ret
  exact ⟨rfl, by first | assumption | (repeat (first | assumption | exact Below.refl _ _ | refine Below.drew ?_))⟩
set_option maxHeartbeats 4000000 in
set_option maxRecDepth 1000000 in
theorem high_valid3 (s : ByteArray) (h0 : 4 ≤ s.size) (hs2 : s.size ≤ 1000) (hs : ∀ b ∈ s.data.toList, b.toNat < 128) (r : Int) (hr : 128 ≤ r) (hv : Lib.validRune r = true) (hne : r ≠ 65533)
    (g : ByteArray) (hg : Utf8.encode r = g) (hL : g.size = 4) (hl : 3 < g.size) (hb128 : 128 ≤ (g[3]'hl).toNat) (w : World) :
    Calls Tryd.prog 50 #[.string s, .int .i32 r] w fun e w' => e = .returned (.int .i64 (-1)) ∧ Below w.heap.size w w' := by
  have HV := Tryd.utf8_ValidRune r
  rw [hv] at HV
  have hcv : ∀ W, (convert 21 9 (.int .i32 r)).run Tryd.prog W = .ok (.string g) W := fun W => by
    rw [← hg]; exact run_convert_int_string W _ _ _ _ (by rw [Tryd.underlying21]; rfl) Tryd.underlying9
  have hls : 3 < s.size := by omega
  have ha0 : (s[3]'hls).toNat < 128 := hs _ (Array.getElem_mem_toList (xs := s.data) hls)
  obtain ⟨x, hx⟩ : ∃ x, (s[3]'hls).toNat = x := ⟨_, rfl⟩
  obtain ⟨y, hy⟩ : ∃ y, (g[3]'hl).toNat = y := ⟨_, rfl⟩
  have hy256 : y < 256 := by rw [← hy]; exact (g[3]'hl).toNat_lt
  rw [hy] at hb128
  rw [hx] at ha0
  have hxy : ¬ ((x : Int) = y) := by omega
  have hxy3 : ((x : Int) != y) = true := by simpa using hxy
  have HIB := Lib.hid (Tryd.strings_IndexByte (s.extract 4 s.size) y)
  have hib : Lib.indexByte (s.extract 4 s.size).data.toList (y : Int).toNat.toUInt8 = -1 := by
    apply indexByte_none
    intro b hb e
    have h1 := hs b (mem_extract hb)
    rw [e] at h1
    simp [Nat.toUInt8] at h1
    omega
  rw [hib] at HIB
  have HVV := Lib.hid HV
  have hw2 : IntKind.i64.wrap 4 = 4 := by decide
  have q2 : (4 : Int) ≤ s.size := by omega
  have q3 : 4 ≤ s.size := by omega
  have q5 : (3 : Int) < s.size := by omega
  clear hv hg hib hs HV h0 hs2
  go_enter Tryd.func50, Tryd.ntmps50
  go_wp2_with (go_at_call 63; refine (HVV.out _).mono ?_; rintro e w' ⟨rfl, hw⟩; rw [hw]; clear hw)
  refine wp_scope_straight ?_
  go_wp2_with fail
  refine wp_loop_rounds 1 ?_
  rw [rounds_succ]
  go_wp2_with fail
  refine wp_scope_straight ?_
  go_wp2_with fail
  go_region
  go_wp2_with fail
  go_region_held3 (fun w' => Below w.heap.size w w') (first | assumption | (repeat (first | assumption | exact Below.refl _ _ | refine Below.drew ?_))) (first
    | (go_at_call 62; refine (HIB.out _).mono ?_; rintro e w' ⟨rfl, rfl⟩))
  go_wp2_with fail
  simp only [Exit.noGoto, Exit.inBlock, Exit.then]
  go_ret
  exact ⟨rfl, by first | assumption | (repeat (first | assumption | exact Below.refl _ _ | refine Below.drew ?_))⟩
/-- strings.IndexRune at whatever rune beyond ASCII that a decoder hands out. -/
theorem high (s : ByteArray) (h0 : 4 ≤ s.size) (hs2 : s.size ≤ 1000) (hs : ∀ b ∈ s.data.toList, b.toNat < 128) (r : Int) (hr : 128 ≤ r) (hv : Lib.validRune r = true) (w : World) :
    Calls Tryd.prog 50 #[.string s, .int .i32 r] w fun e w' => e = .returned (.int .i64 (-1)) ∧ Below w.heap.size w w' := by
  by_cases hne : r = 65533
  · subst hne
    exact high_err s hs w
  · have hv2 : Utf8.valid r = true := by rw [validRune_eq]; exact hv
    obtain ⟨e2, e4, e128⟩ := encode_facts r hv2 hr
    have key : ∀ L, (Utf8.encode r).size = L + 1 → ∀ hl : L < (Utf8.encode r).size, 128 ≤ ((Utf8.encode r)[L]'hl).toNat := fun L hL hl => by
      have : ∀ q, q = L → ∀ h : q < (Utf8.encode r).size, 128 ≤ ((Utf8.encode r)[q]'h).toNat → 128 ≤ ((Utf8.encode r)[L]'hl).toNat := by rintro q rfl h x; exact x
      exact this ((Utf8.encode r).size - 1) (by omega) (by omega) (e128 (by omega))
    rcases (show (Utf8.encode r).size = 2 ∨ (Utf8.encode r).size = 3 ∨ (Utf8.encode r).size = 4 by omega) with e | e | e
    · exact high_valid1 s h0 hs2 hs r hr hv hne _ rfl e (by omega) (key 1 e (by omega)) w
    · exact high_valid2 s h0 hs2 hs r hr hv hne _ rfl e (by omega) (key 2 e (by omega)) w
    · exact high_valid3 s h0 hs2 hs r hr hv hne _ rfl e (by omega) (key 3 e (by omega)) w
end Idx
end Go.Proofs.YtbpcoieemkojjaaDoor
/- digits plainly: reading sign by sign. No program in sight. -/
namespace Go.Proofs.YtbpcoieemkojjaaDoor
set_option linter.unusedSimpArgs false
set_option linter.unusedVariables false
namespace Code
open Go.RowKit Go.Proofs.YtbpcoieemkojjaaDoorW.PrintWords Go.Proofs.YtbpcoieemkojjaaDoor.PureB
/-- reading digits one by one -/
def hx : List Int → List Int → Int → Option (List Int × Int)
  | [], acc, h => some (acc, h)
  | c :: r, acc, h => if dv c < 0 then none else if h < 0 then hx r acc (dv c) else hx r (acc ++ [h * 16 + dv c]) (-1)
def unhR (l : List Int) : Option (List Int) := match hx l [] (-1) with
  | none => none
  | some (acc, h) => if 0 ≤ h then none else some acc
theorem dv_lt (c : Int) : dv c < 16 := by
  unfold dv
  repeat' split
  all_goals omega
theorem hx_append (l : List Int) (c : Int) : ∀ (acc : List Int) (h : Int) (acc' : List Int) (h' : Int), hx l acc h = some (acc', h') → hx (l ++ [c]) acc h = hx [c] acc' h' := by
  induction l with
  | nil => intro acc h acc' h' e; simp [hx] at e; obtain ⟨rfl, rfl⟩ := e; rfl
  | cons a l ih =>
    intro acc h acc' h' e
    simp only [List.cons_append, hx] at e ⊢
    split at e
    · cases e
    · rename_i ha
      rw [if_neg ha]
      split at e
      · rename_i hh; rw [if_pos hh]; exact ih _ _ _ _ e
      · rename_i hh; rw [if_neg hh]; exact ih _ _ _ _ e
theorem hx_none (l m : List Int) (c : Int) (hc : dv c < 0) : ∀ (acc : List Int) (h : Int), hx (l ++ c :: m) acc h = none := by
  induction l with
  | nil => intro acc h; simp [hx, hc]
  | cons a l ih =>
    intro acc h
    simp only [List.cons_append, hx]
    split
    · rfl
    · split
      · exact ih _ _
      · exact ih _ _
theorem hx_bound (l : List Int) : ∀ (acc : List Int) (h : Int) (acc' : List Int) (h' : Int), hx l acc h = some (acc', h') → (∀ x ∈ acc, 0 ≤ x ∧ x < 256) → -1 ≤ h ∧ h < 16 →
    (-1 ≤ h' ∧ h' < 16) ∧ (∀ x ∈ acc', 0 ≤ x ∧ x < 256) ∧ acc'.length ≤ acc.length + l.length := by
  induction l with
  | nil => intro acc h acc' h' e ha hb; simp [hx] at e; obtain ⟨rfl, rfl⟩ := e; exact ⟨hb, ha, by simp⟩
  | cons a l ih =>
    intro acc h acc' h' e ha hb
    have hd := dv_lt a
    simp only [hx] at e
    split at e
    · cases e
    · rename_i hn
      split at e
      · obtain ⟨h1, h2, h3⟩ := ih _ _ _ _ e ha (by omega)
        exact ⟨h1, h2, by simp only [List.length_cons]; omega⟩
      · obtain ⟨h1, h2, h3⟩ := ih _ _ _ _ e (by
          intro x hx
          rcases List.mem_append.1 hx with q | q
          · exact ha x q
          · simp at q; omega) (by omega)
        exact ⟨h1, h2, by simp only [List.length_cons, List.length_append, List.length_nil] at h3 ⊢; omega⟩
theorem hx_pairs : ∀ (l acc : List Int), hx l acc (-1) = (if l.length % 2 = 0 then (unhexL l).map (fun r => (acc ++ r, -1)) else hx l acc (-1))
  | [], acc => by simp [hx, unhexL]
  | [c], acc => by simp
  | a :: b :: r, acc => by
    have ih := hx_pairs r (acc ++ [dv a * 16 + dv b])
    by_cases he : (a :: b :: r).length % 2 = 0
    · rw [if_pos he]
      rw [if_pos (by simp only [List.length_cons] at he; omega)] at ih
      simp only [hx, unhexL]
      by_cases ha : dv a < 0
      · simp [ha]
      · by_cases hb : dv b < 0
        · simp [ha, hb]
        · rw [if_neg ha, if_pos (by omega), if_neg hb, if_neg ha, ih, if_neg (by omega)]
          cases unhexL r with
          | none => rfl
          | some x => simp; omega
    · rw [if_neg he]
theorem unhexL_odd : ∀ l : List Int, l.length % 2 = 1 → unhexL l = none
  | [], h => by simp at h
  | [c], _ => rfl
  | a :: b :: r, h => by
    unfold unhexL
    rw [unhexL_odd r (by simp only [List.length_cons] at h; omega)]
    split <;> rfl
theorem hx_odd : ∀ (l acc acc' : List Int) (h' : Int), l.length % 2 = 1 → hx l acc (-1) = some (acc', h') → 0 ≤ h'
  | [], _, _, _, h, _ => by simp at h
  | [c], acc, acc', h', _, e => by
    simp only [hx] at e
    split at e
    · cases e
    · rw [if_pos (by omega)] at e
      simp at e
      omega
  | a :: b :: r, acc, acc', h', h, e => by
    simp only [hx] at e
    split at e
    · cases e
    · rw [if_pos (by omega)] at e
      split at e
      · cases e
      · exact hx_odd r _ acc' h' (by simp only [List.length_cons] at h; omega) e
theorem unhR_eq (l : List Int) : unhR l = unhexL l := by
  unfold unhR
  by_cases h : l.length % 2 = 0
  · rw [hx_pairs l [], if_pos h]
    cases unhexL l with
    | none => rfl
    | some x => simp
  · rw [unhexL_odd l (by omega)]
    cases e : hx l [] (-1) with
    | none => rfl
    | some p =>
      obtain ⟨acc, q⟩ := p
      have := hx_odd l [] acc q (by omega) e
      simp [this]
/-- where a digit stands among the small ones -/
def dl (b : Nat) : Int := if 48 ≤ b ∧ b ≤ 57 then (b : Int) - 48 else if 97 ≤ b ∧ b ≤ 102 then (b : Int) - 87 else -1
def DG : ByteArray := ⟨#[48, 49, 50, 51, 52, 53, 54, 55, 56, 57, 97, 98, 99, 100, 101, 102]⟩
set_option maxRecDepth 100000 in
theorem ib_val : ∀ b : Nat, b < 128 → Lib.indexByte DG.data.toList b.toUInt8 = dl b := by decide
theorem DG_ascii : ∀ b ∈ DG.data.toList, b.toNat < 128 := by decide
theorem decode_ok (s : ByteArray) (i : Nat) : Lib.validRune ((Utf8.decode s i).1 : Int) = true := by
  have hb : ∀ k, (s.get! (i + k)).toNat < 256 := fun k => (s.get! (i + k)).toNat_lt
  have h0 := hb 0; have h1 := hb 1; have h2 := hb 2; have h3 := hb 3
  have hv : ∀ c : Nat, Utf8.valid (c : Int) = true → Lib.validRune (c : Int) = true := fun c h => by rw [validRune_eq] at h; exact h
  simp only [Utf8.decode]
  repeat' split
  all_goals first
    | (apply hv; simp_all; done)
    | (simp [Lib.validRune, Utf8.runeError]; done)
    | (simp only [Lib.validRune, Utf8.runeError, decide_eq_true_eq]; omega)
end Code
end Go.Proofs.YtbpcoieemkojjaaDoor
/- base64 and digits plainly, sixth part: what is written is read. No program in sight. -/
namespace Go.Proofs.YtbpcoieemkojjaaDoor
set_option linter.unusedSimpArgs false
set_option linter.unusedVariables false
namespace Code
open Go.RowKit Go.Proofs.YtbpcoieemkojjaaDoorW.PrintWords Go.Proofs.YtbpcoieemkojjaaDoor.PureB
def Byt (l : List Int) : Prop := ∀ x ∈ l, 0 ≤ x ∧ x < 256
theorem strip_of {l : List Int} {c : Int} (h : c ≠ 61) : strip (l ++ [c]) = l ++ [c] := by
  unfold strip
  rw [List.reverse_append]
  simp [h]
theorem strip_pad (l : List Int) : strip (l ++ [61]) = strip l := by
  unfold strip
  rw [List.reverse_append]
  simp
theorem vals_of : ∀ vs : List Int, (∀ v ∈ vs, 0 ≤ v ∧ v < 64) → vals (vs.map b64) = some vs
  | [], _ => rfl
  | v :: vs, h => by
    have hv := h v (by simp)
    simp only [List.map_cons, vals, worth_b64 v hv.1 hv.2, vals_of vs (fun x hx => h x (by simp [hx])), Option.map_some]
theorem ung3 (a b c : Int) (ha : 0 ≤ a ∧ a < 256) (hb : 0 ≤ b ∧ b < 256) (hc : 0 ≤ c ∧ c < 256) :
    ungL [b64 (a / 4), b64 (a % 4 * 16 + b / 16), b64 (b % 16 * 4 + c / 64), b64 (c % 64)] = some [a, b, c] := by
  have e : [b64 (a / 4), b64 (a % 4 * 16 + b / 16), b64 (b % 16 * 4 + c / 64), b64 (c % 64)] = [b64 (a / 4), b64 (a % 4 * 16 + b / 16), b64 (b % 16 * 4 + c / 64)] ++ [b64 (c % 64)] := rfl
  unfold ungL
  rw [e, strip_of (b64_byte _ (by omega) (by omega)).2.2]
  have v := vals_of [a / 4, a % 4 * 16 + b / 16, b % 16 * 4 + c / 64, c % 64] (by intro x hx; simp at hx; rcases hx with rfl | rfl | rfl | rfl <;> omega)
  simp only [List.map_cons, List.map_nil] at v
  simp only [List.cons_append, List.nil_append, v, Option.map_some]
  simp [ungV, nsum, bys, List.range_succ]
  omega
theorem ung2 (a b : Int) (ha : 0 ≤ a ∧ a < 256) (hb : 0 ≤ b ∧ b < 256) :
    ungL [b64 (a / 4), b64 (a % 4 * 16 + b / 16), b64 (b % 16 * 4), 61] = some [a, b] := by
  have e : [b64 (a / 4), b64 (a % 4 * 16 + b / 16), b64 (b % 16 * 4), 61] = ([b64 (a / 4), b64 (a % 4 * 16 + b / 16)] ++ [b64 (b % 16 * 4)]) ++ [61] := rfl
  unfold ungL
  rw [e, strip_pad, strip_of (b64_byte _ (by omega) (by omega)).2.2]
  have v := vals_of [a / 4, a % 4 * 16 + b / 16, b % 16 * 4] (by intro x hx; simp at hx; rcases hx with rfl | rfl | rfl <;> omega)
  simp only [List.map_cons, List.map_nil] at v
  simp only [List.cons_append, List.nil_append, v, Option.map_some]
  simp [ungV, nsum, bys, List.range_succ]
  omega
theorem ung1 (a : Int) (ha : 0 ≤ a ∧ a < 256) :
    ungL [b64 (a / 4), b64 (a % 4 * 16), 61, 61] = some [a] := by
  have e : [b64 (a / 4), b64 (a % 4 * 16), 61, 61] = (([b64 (a / 4)] ++ [b64 (a % 4 * 16)]) ++ [61]) ++ [61] := rfl
  unfold ungL
  rw [e, strip_pad, strip_pad, strip_of (b64_byte _ (by omega) (by omega)).2.2]
  have v := vals_of [a / 4, a % 4 * 16] (by intro x hx; simp at hx; rcases hx with rfl | rfl <;> omega)
  simp only [List.map_cons, List.map_nil] at v
  simp only [List.cons_append, List.nil_append, v, Option.map_some]
  simp [ungV, nsum, bys, List.range_succ]
  omega
theorem pieces_cons (p r : List Int) (n m : Nat) (h : p.length = n) : pieces (p ++ r) n (m + 1) = p :: pieces r n m := by
  unfold pieces
  rw [List.range_succ_eq_map, List.map_cons, List.map_map]
  congr 1
  · rw [Nat.zero_mul, List.drop_zero, ← h, List.take_left]
  · apply List.map_congr_left
    intro j _
    simp only [Function.comp]
    rw [show (Nat.succ j) * n = n + j * n by rw [Nat.succ_mul]; omega, ← List.drop_drop, ← h, List.drop_left]
theorem rough_base : ∀ l : List Int, Byt l → rough (pieces (baseL l) 4 ((l.length + 2) / 3)) = some l
  | [], _ => rfl
  | [a], h => by
    have ha := h a (by simp)
    have := pieces_cons [b64 (a / 4), b64 (a % 4 * 16), 61, 61] [] 4 0 rfl
    simp only [List.append_nil] at this
    rw [show ([a].length + 2) / 3 = 1 by simp]
    simp only [baseL, this, rough, ung1 a ha]
    rfl
  | [a, b], h => by
    have ha := h a (by simp)
    have hb := h b (by simp)
    have := pieces_cons [b64 (a / 4), b64 (a % 4 * 16 + b / 16), b64 (b % 16 * 4), 61] [] 4 0 rfl
    simp only [List.append_nil] at this
    rw [show ([a, b].length + 2) / 3 = 1 by simp]
    simp only [baseL, this, rough, ung2 a b ha hb]
    rfl
  | a :: b :: c :: r, h => by
    have ha := h a (by simp)
    have hb := h b (by simp)
    have hc := h c (by simp)
    have hm : ((a :: b :: c :: r).length + 2) / 3 = (r.length + 2) / 3 + 1 := by simp only [List.length_cons]; omega
    rw [hm]
    simp only [baseL]
    rw [pieces_cons _ _ 4 _ rfl]
    simp only [rough, ung3 a b c ha hb hc, rough_base r (fun x hx => h x (by simp [hx])), Option.map_some]
    rfl
theorem unb_base (l : List Int) (h : Byt l) : unbL (baseL l) = some l := by
  unfold unbL
  rw [baseL_len, show (4 * ((l.length + 2) / 3) + 3) / 4 = (l.length + 2) / 3 by omega, rough_base l h]
  simp
theorem unb_some (l t : List Int) (h : unbL l = some t) : baseL t = l ∧ Byt t := by
  unfold unbL at h
  split at h
  · cases h
  · rename_i x hx
    split at h
    · obtain rfl := Option.some.inj h
      rename_i e
      exact ⟨e, (rough_bound _ _ hx (pieces_le _ _ _)).2⟩
    · cases h
theorem base_inj (l m : List Int) (hl : Byt l) (hm : Byt m) (h : baseL l = baseL m) : l = m := by
  have h1 := unb_base l hl
  rw [h, unb_base m hm] at h1
  exact (Option.some.inj h1).symm
theorem dv_dg (i : Int) (h0 : 0 ≤ i) (h1 : i < 16) : dv (dg i) = i := by
  unfold dg dv
  repeat' split
  all_goals omega
theorem unhex_hex : ∀ l : List Int, Byt l → unhexL (hexL l) = some l
  | [], _ => rfl
  | a :: r, h => by
    have ha := h a (by simp)
    have e : hexL (a :: r) = dg (a / 16) :: dg (a % 16) :: hexL r := rfl
    rw [e]
    unfold unhexL
    rw [dv_dg (a / 16) (by omega) (by omega), dv_dg (a % 16) (by omega) (by omega), if_neg (by omega), unhex_hex r (fun x hx => h x (by simp [hx]))]
    simp
    omega
theorem unhex_len : ∀ (l t : List Int), unhexL l = some t → 2 * t.length = l.length ∧ Byt t
  | [], t, h => by simp [unhexL] at h; subst h; exact ⟨rfl, by intro x hx; simp at hx⟩
  | [a], t, h => by simp [unhexL] at h
  | a :: b :: r, t, h => by
    unfold unhexL at h
    split at h
    · cases h
    · rename_i hn
      simp only [Option.map_eq_some_iff] at h
      obtain ⟨u, hu, rfl⟩ := h
      obtain ⟨h1, h2⟩ := unhex_len r u hu
      have d1 := dv_lt a
      have d2 := dv_lt b
      refine ⟨by simp only [List.length_cons]; omega, ?_⟩
      intro x hx
      rcases List.mem_cons.1 hx with rfl | hx
      · omega
      · exact h2 x hx
theorem hex_inj (l m : List Int) (hl : Byt l) (hm : Byt m) (h : hexL l = hexL m) : l = m := by
  have h1 := unhex_hex l hl
  rw [h, unhex_hex m hm] at h1
  exact (Option.some.inj h1).symm
theorem hex_append (l m : List Int) : hexL (l ++ m) = hexL l ++ hexL m := by simp [hexL]
theorem hex_byte (l : List Int) (h : Byt l) : Byt (hexL l) := by
  intro x hx
  simp only [hexL, List.mem_flatMap] at hx
  obtain ⟨b, hb, hx⟩ := hx
  have := h b hb
  simp at hx
  rcases hx with rfl | rfl <;> (unfold dg; split <;> omega)
/-- great letters -/
def upc (c : Int) : Int := if 97 ≤ c ∧ c ≤ 102 then c - 32 else c
theorem dv_up (i : Int) (h0 : 0 ≤ i) (h1 : i < 16) : dv (upc (dg i)) = i := by
  unfold upc dg dv
  repeat' split
  all_goals omega
theorem unhex_up : ∀ l : List Int, Byt l → unhexL ((hexL l).map upc) = some l
  | [], _ => rfl
  | a :: r, h => by
    have ha := h a (by simp)
    have e : (hexL (a :: r)).map upc = upc (dg (a / 16)) :: upc (dg (a % 16)) :: (hexL r).map upc := rfl
    rw [e]
    unfold unhexL
    rw [dv_up (a / 16) (by omega) (by omega), dv_up (a % 16) (by omega) (by omega), if_neg (by omega), unhex_up r (fun x hx => h x (by simp [hx]))]
    simp
    omega
end Code
end Go.Proofs.YtbpcoieemkojjaaDoor
/- values with escapes, plainly, on lists of bytes' numbers. No program in sight. -/
namespace Go.Proofs.YtbpcoieemkojjaaDoor
set_option linter.unusedSimpArgs false
set_option linter.unusedVariables false
namespace Esc
open Go.RowKit Go.Proofs.YtbpcoieemkojjaaDoorW.PrintWords Go.Proofs.YtbpcoieemkojjaaDoor.PureB Go.Proofs.YtbpcoieemkojjaaDoor.Code
/-- a byte from 20 to 7e -/
def pl (b : Int) : Bool := decide (32 ≤ b ∧ b ≤ 126)
/-- \ * ( ) -/
def inF (b : Int) : Bool := decide (b = 92 ∨ b = 42 ∨ b = 40 ∨ b = 41)
/-- * ( ) -/
def inB (b : Int) : Bool := decide (b = 42 ∨ b = 40 ∨ b = 41)
/-- " + , ; < > \ -/
def inN (b : Int) : Bool := decide (b = 34 ∨ b = 43 ∨ b = 44 ∨ b = 59 ∨ b = 60 ∨ b = 62 ∨ b = 92)
/-- " + , ; < > -/
def inM (b : Int) : Bool := decide (b = 34 ∨ b = 43 ∨ b = 44 ∨ b = 59 ∨ b = 60 ∨ b = 62)
/-- a blank, # -/
def inS (b : Int) : Bool := decide (b = 32 ∨ b = 35)
/-- what may stand behind a sign: a blank # = " + , ; < > \ -/
def inE (b : Int) : Bool := decide (b = 32 ∨ b = 35 ∨ b = 61 ∨ b = 34 ∨ b = 43 ∨ b = 44 ∨ b = 59 ∨ b = 60 ∨ b = 62 ∨ b = 92)
/-- a byte by a rule: is it behind a sign, is it in digits -/
def one (sg dg : Bool) (b : Int) : List Int := (if sg || dg then [92] else []) ++ (if dg then hexL [b] else [b])
/-- each byte by a rule, from place i on -/
def prL (f : Nat → Int → Bool × Bool) : Nat → List Int → List Int
  | _, [] => []
  | i, b :: r => one (f i b).1 (f i b).2 b ++ prL f (i + 1) r
def ruF : Nat → Int → Bool × Bool := fun _ b => (false, !pl b || inF b)
def ruN (n : Nat) : Nat → Int → Bool × Bool := fun i b => (decide (i = 0 ∧ inS b = true) || decide (i + 1 = n ∧ b = 32) || inN b, !pl b)
def fltL (l : List Int) : List Int := prL ruF 0 l
def namL (l : List Int) : List Int := prL (ruN l.length) 0 l
/-- may a byte not stand at the place? -/
def bar (nm : Bool) (n at_ : Nat) (b : Int) : Bool := if nm then decide (at_ = 0 ∧ inS b = true) || decide (at_ + 1 = n ∧ b = 32) || inM b else inB b
/-- two digits -/
def two : List Int → Option Int
  | x :: y :: _ => if dv x < 0 ∨ dv y < 0 then none else some (16 * dv x + dv y)
  | _ => none
/-- one step of a reader: what it writes, and how many bytes it takes -/
def stp (nm : Bool) (n at_ : Nat) : List Int → Option (Int × Nat)
  | [] => none
  | b :: r =>
    if b = 92 then
      match nm, r with
      | true, c :: _ => if inE c = true then some (c, 2) else (two r).map fun x => (x, 3)
      | _, _ => (two r).map fun x => (x, 3)
    else if bar nm n at_ b then none else some (b, 1)
/-- what a reader reads -/
def rdL (nm : Bool) (n : Nat) : Nat → Nat → List Int → Option (List Int)
  | _, _, [] => some []
  | 0, _, _ :: _ => none
  | f + 1, at_, b :: r => match stp nm n at_ (b :: r) with
    | none => none
    | some (x, c) => (rdL nm n f (at_ + c) ((b :: r).drop c)).map (x :: ·)
/-- is it right, without 00? -/
def okT (s : ByteArray) : Bool := decide (Utf.bad s < 0) && decide (¬ (0 : Int) ∈ bl s)
def readT (nm : Bool) (s : ByteArray) : Option (List Int) := if okT s then rdL nm s.size s.size 0 (bl s) else none
theorem hex_one (b : Int) : hexL [b] = [dg (b / 16), dg (b % 16)] := rfl
theorem dg_rng (i : Int) (h0 : 0 ≤ i) (h1 : i < 16) : (48 ≤ dg i ∧ dg i ≤ 57) ∨ (97 ≤ dg i ∧ dg i ≤ 102) := by
  unfold dg
  split <;> omega
theorem inE_dg (i : Int) (h0 : 0 ≤ i) (h1 : i < 16) : inE (dg i) = false := by
  have := dg_rng i h0 h1
  unfold inE
  apply decide_eq_false
  omega
theorem two_hex (b : Int) (r : List Int) (h : 0 ≤ b ∧ b < 256) : two (hexL [b] ++ r) = some b := by
  rw [hex_one]
  show (if dv (dg (b / 16)) < 0 ∨ dv (dg (b % 16)) < 0 then none else some (16 * dv (dg (b / 16)) + dv (dg (b % 16)))) = some b
  rw [dv_dg _ (by omega) (by omega), dv_dg _ (by omega) (by omega), if_neg (by omega)]
  congr 1
  omega
theorem rd_cons {nm : Bool} {n f at_ : Nat} {l : List Int} {x : Int} {c : Nat} (hl : l ≠ []) (h : stp nm n at_ l = some (x, c)) : rdL nm n (f + 1) at_ l = (rdL nm n f (at_ + c) (l.drop c)).map (x :: ·) := by
  cases l with
  | nil => exact absurd rfl hl
  | cons b r => simp only [rdL, h]
theorem rd_nil (nm : Bool) (n f at_ : Nat) : rdL nm n f at_ [] = some [] := by cases f <;> rfl
theorem rd_none {nm : Bool} {n f at_ : Nat} {l : List Int} (hl : l ≠ []) (h : stp nm n at_ l = none) : rdL nm n (f + 1) at_ l = none := by
  cases l with
  | nil => exact absurd rfl hl
  | cons b r => simp only [rdL, h]
theorem rdF_one (b : Int) (h : 0 ≤ b ∧ b < 256) (n at_ : Nat) (r : List Int) :
    stp false n at_ (one (ruF 0 b).1 (ruF 0 b).2 b ++ r) = some (b, (one (ruF 0 b).1 (ruF 0 b).2 b).length) := by
  unfold ruF one
  simp only [Bool.false_or]
  cases hd : (!pl b || inF b) with
  | true =>
    simp only [if_true, hex_one, List.cons_append, List.nil_append]
    have := two_hex b r h
    rw [hex_one] at this
    simp only [List.cons_append, List.nil_append] at this
    simp only [stp, if_true, this]
    rfl
  | false =>
    simp only [Bool.or_eq_false_iff, Bool.not_eq_false'] at hd
    have h2 : ¬ (b = 92 ∨ b = 42 ∨ b = 40 ∨ b = 41) := by simpa [inF] using hd.2
    simp only [Bool.false_eq_true, if_false, List.nil_append, List.cons_append, stp]
    rw [if_neg (by omega)]
    have hb : bar false n at_ b = false := by
      unfold bar inB
      simp only [Bool.false_eq_true, if_false]
      apply decide_eq_false; omega
    rw [hb]
    rfl
theorem one_ne (sg dg : Bool) (b : Int) : one sg dg b ≠ [] := by cases sg <;> cases dg <;> simp [one, hex_one]
theorem one_len (sg dg : Bool) (b : Int) : 1 ≤ (one sg dg b).length ∧ (one sg dg b).length ≤ 3 := by cases sg <;> cases dg <;> simp [one, hex_one]
theorem flt_read : ∀ (l : List Int) (i f n at_ : Nat), Byt l → l.length ≤ f → rdL false n f at_ (prL ruF i l) = some l
  | [], i, f, n, at_, _, _ => rd_nil _ _ _ _
  | b :: r, i, f, n, at_, hb, hf => by
    obtain ⟨f, rfl⟩ : ∃ m, f = m + 1 := ⟨f - 1, by simp only [List.length_cons] at hf; omega⟩
    have h1 := rdF_one b (hb b (by simp)) n at_ (prL ruF (i + 1) r)
    simp only [prL]
    rw [show ruF i b = ruF 0 b from rfl, rd_cons (by simp [one_ne]) h1, List.drop_left, flt_read r (i + 1) f n _ (fun x hx => hb x (by simp [hx])) (by simp only [List.length_cons] at hf; omega)]
    rfl
theorem prL_len (g : Nat → Int → Bool × Bool) : ∀ (l : List Int) (i : Nat), l.length ≤ (prL g i l).length
  | [], _ => Nat.zero_le _
  | b :: r, i => by
    have h1 := prL_len g r (i + 1)
    have h2 := (one_len (g i b).1 (g i b).2 b).1
    simp only [prL, List.length_append, List.length_cons]
    omega
theorem rdN_one (n i : Nat) (b : Int) (h : 0 ≤ b ∧ b < 256) (N at_ : Nat) (r : List Int) (hat : at_ = 0 → i = 0) (hend : at_ + 1 = N → r = [] ∧ i + 1 = n ∨ ¬ (one (ruN n i b).1 (ruN n i b).2 b).length = 1) :
    stp true N at_ (one (ruN n i b).1 (ruN n i b).2 b ++ r) = some (b, (one (ruN n i b).1 (ruN n i b).2 b).length) := by
  have hd : (ruN n i b).2 = !pl b := rfl
  cases hp : pl b with
  | false =>
    rw [hd, hp]
    unfold one
    simp only [Bool.not_false, Bool.or_true, if_true, hex_one, List.cons_append, List.nil_append, stp]
    have := two_hex b r h
    rw [hex_one] at this
    simp only [List.cons_append, List.nil_append] at this
    rw [inE_dg _ (by omega) (by omega), this]
    rfl
  | true =>
    rw [hd, hp]
    rw [hd, hp] at hend
    cases hs : (ruN n i b).1 with
    | true =>
      have hE : inE b = true := by
        simp only [ruN, Bool.or_eq_true, decide_eq_true_eq, inS, inN] at hs
        unfold inE
        apply decide_eq_true
        omega
      simp [one, stp, hE]
    | false =>
      rw [hs] at hend
      simp only [ruN, Bool.or_eq_false_iff, decide_eq_false_iff_not, inN, inS, decide_eq_true_eq] at hs
      have h92 : ¬ b = 92 := by omega
      have hl1 : (one false (!true) b).length = 1 := rfl
      have hbar : bar true N at_ b = false := by
        unfold bar inM inS
        simp only [if_true, Bool.or_eq_false_iff, decide_eq_false_iff_not, decide_eq_true_eq]
        refine ⟨⟨?_, ?_⟩, by omega⟩
        · rintro ⟨q1, q2⟩
          exact hs.1.1 ⟨hat q1, q2⟩
        · rintro ⟨q1, q2⟩
          rcases hend q1 with ⟨_, q3⟩ | q3
          · exact hs.1.2 ⟨q3, q2⟩
          · exact q3 hl1
      simp [one, stp, h92, hbar]
theorem nam_read : ∀ (l : List Int) (n i f N at_ : Nat), Byt l → l.length ≤ f → i + l.length = n → at_ + (prL (ruN n) i l).length = N → (at_ = 0 → i = 0) → rdL true N f at_ (prL (ruN n) i l) = some l
  | [], n, i, f, N, at_, _, _, _, _, _ => rd_nil _ _ _ _
  | b :: r, n, i, f, N, at_, hb, hf, hn, hN, hat => by
    obtain ⟨f, rfl⟩ : ∃ m, f = m + 1 := ⟨f - 1, by simp only [List.length_cons] at hf; omega⟩
    have hl := one_len (ruN n i b).1 (ruN n i b).2 b
    simp only [prL, List.length_append] at hN ⊢
    simp only [List.length_cons] at hn hf
    have hr := prL_len (ruN n) r (i + 1)
    have h1 := rdN_one n i b (hb b (by simp)) N at_ (prL (ruN n) (i + 1) r) hat (fun q => by
      by_cases h1 : (one (ruN n i b).1 (ruN n i b).2 b).length = 1
      · left
        have hr0 : r.length = 0 := by omega
        have := List.eq_nil_of_length_eq_zero hr0
        subst this
        exact ⟨rfl, by simp at hn; omega⟩
      · exact .inr h1)
    rw [rd_cons (by simp [one_ne]) h1, List.drop_left, nam_read r n (i + 1) f N _ (fun x hx => hb x (by simp [hx])) (by omega) (by omega) (by omega) (by omega)]
    rfl
end Esc
end Go.Proofs.YtbpcoieemkojjaaDoor
/- strings.Builder's writers at this seat: the dump's copyCheck bears no panic (the loader refuses it), so the shelf's contracts do not lie at it; the walks are made anew, over the library's own words for a builder. -/
namespace Go.Proofs.YtbpcoieemkojjaaDoor
set_option linter.unusedSimpArgs false
set_option linter.unusedVariables false
namespace Bld
open Go.RowKit
theorem sizeB : (Tryd.prog.info? 43).map (·.size) = some 2 := by kernel_rfl
theorem liesB : liesAt Tryd.prog Tryd.prog.depth 43 (2 / Tryd.prog.cellsOf 43) 0 43 1 = true := by kernel_rfl
theorem infoByte : (Tryd.prog.info? 5).map (fun i => (i.zero, i.size, i.bytes)) = some (some (.int .u8 0), 1, 1) := by kernel_rfl
set_option maxHeartbeats 1000000 in
set_option maxRecDepth 100000 in
theorem copyCheck_used (b : Nat) (w : World) (h0 : w.cell? ⟨b, 0, none⟩ = some (.pointer (some ⟨b, 0, none⟩))) :
    Calls Tryd.prog 48 #[.pointer (some ⟨b, 0, none⟩)] w fun e w' => e = .returned (.tuple #[]) ∧ w' = w := by
  obtain ⟨j, hj, _⟩ := Option.map_eq_some_iff.1 sizeB
  go_enter Tryd.func48, Tryd.ntmps48
  go_wp2
  rw [Lib.run_neq_ptr_same w _ Tryd.underlying40 hj]
  go_wp2
  go_end0
  exact ⟨rfl, rfl⟩
set_option maxHeartbeats 1000000 in
set_option maxRecDepth 100000 in
theorem copyCheck_fresh (b : Nat) (w : World) (h0 : w.cell? ⟨b, 0, none⟩ = some (.pointer none)) (hsh : w.shape? b = some (43, 2)) (hfz : w.frozen? ⟨b, 0, none⟩ = false) :
    Calls Tryd.prog 48 #[.pointer (some ⟨b, 0, none⟩)] w fun e w' => e = .returned (.tuple #[]) ∧ w' = w.setCell ⟨b, 0, none⟩ (.pointer (some ⟨b, 0, none⟩)) := by
  obtain ⟨j, hj, hjs⟩ := Option.map_eq_some_iff.1 sizeB
  go_enter Tryd.func48, Tryd.ntmps48
  go_wp2
  rw [Lib.run_to_unsafe w ⟨b, 0, none⟩ Tryd.underlying40 Tryd.underlying74 hj (by rw [hjs]; decide) hsh (Nat.zero_lt_succ 1)]
  simp only [Result.andThen]
  rw [Oper.upon_value]
  go_wp2
  rw [run_callFunc_extern Tryd.func60 (by kernel_rfl) (by kernel_rfl) (by kernel_rfl) (e := Extern.AbiNoEscape.same) (by kernel_rfl)]
  rw [Lib.run_noEscape]
  simp only [Result.andThen]
  rw [Oper.upon_value]
  go_wp2
  rw [Lib.run_from_unsafe w ⟨b, 0, none⟩ Tryd.underlying74 Tryd.underlying40 hj hsh liesB]
  simp only [Result.andThen]
  rw [Oper.upon_value]
  go_wp2
  go_end0
  exact ⟨rfl, rfl⟩
theorem copyCheck_k (B b : Nat) (bs : List Value) (w : World) (h : Lib.IsBuilderF 43 5 B b bs w) :
    Calls Tryd.prog 48 #[.pointer (some ⟨b, 0, none⟩)] w fun e w' => e = .returned (.tuple #[]) ∧ (Lib.BuilderAtF 43 5 B b (.pointer (some ⟨b, 0, none⟩)) bs w' ∧ Below B w w' ∧ Lib.OthersKept 5 (some b) w w') := by
  rcases h with h | h
  · refine (copyCheck_fresh b w h.cell0 h.shape h.frozen0).mono ?_
    rintro e w' ⟨rfl, rfl⟩
    exact ⟨rfl, h.used _, (Below.refl B w).setCell (p := ⟨b, 0, none⟩) h.1 _, (Lib.OthersKept.refl _ _ w).setCell ⟨b, 0, none⟩ rfl _⟩
  · refine (copyCheck_used b w h.cell0).mono ?_
    rintro e w' ⟨rfl, rfl⟩
    exact ⟨rfl, h, Below.refl B _, Lib.OthersKept.refl _ _ _⟩
set_option maxHeartbeats 4000000 in
set_option maxRecDepth 100000 in
theorem WriteByte_k (B b : Nat) (bs : List Value) (c : Int) (w : World) (h : Lib.IsBuilderF 43 5 B b bs w) (hlen : bs.length + 1 ≤ 140737488355328) (hBw : B ≤ w.heap.size) :
    Calls Tryd.prog 36 #[.pointer (some ⟨b, 0, none⟩), .int .u8 c] w fun e w' => e = .returned .nilIface ∧ (Lib.BuilderAtF 43 5 B b (.pointer (some ⟨b, 0, none⟩)) (bs ++ [.int .u8 c]) w' ∧ Below B w w' ∧ Lib.OthersKept 5 (some b) w w') := by
  obtain ⟨i0, hi, hz0, hz1, hz2⟩ := info_parts infoByte
  go_enter Tryd.func36, Tryd.ntmps36
  go_wp2_with (go_at_call 48; refine (copyCheck_k B b bs _ h).mono ?_)
  rintro e w1 ⟨rfl, h1, hb1, hk1⟩
  obtain ⟨hB, v, hbk, hown, hne⟩ := h1
  have c0 : w1.cell? ⟨b, 0, none⟩ = some (.pointer (some ⟨b, 0, none⟩)) := by rw [Lib.cell_of_heap hbk]; rfl
  have c1 : w1.cell? ⟨b, 1, none⟩ = some v := by rw [Lib.cell_of_heap hbk]; rfl
  go_wp2_with (at_builtin; refine wpList_append_ownF _ rfl _ _ 41 rfl B 5 i0 (.int .u8 0) 1 1 Tryd.underlying41 hi hz0 hz1 hz2 rfl (by decide) _ _ _ rfl (hown.alloc _) ⟨w1.heap.size, 0, none⟩ 1 1 [.int .u8 c] rfl rfl (cell_one_new _ _ _) (by intro u hu; simp at hu; subst hu; rfl) (by unfold maxLen; omega) (by omega) (by have := hb1.size; simp; omega) ?_)
  intro v' w2 hown' hgrow _
  have hlt : b < w1.heap.size := (Array.getElem?_eq_some_iff.1 hbk).1
  have hb2 : w2.heap[b]? = some (.cells #[.pointer (some ⟨b, 0, none⟩), v] 43 (0, 0)) := by
    rw [hgrow.block b (by simp; omega) (fun e => hne e.symm), Lib.alloc_old w1 _ b hlt]
    exact hbk
  have d0 : w2.cell? ⟨b, 0, none⟩ = some (.pointer (some ⟨b, 0, none⟩)) := by rw [Lib.cell_of_heap hb2]; rfl
  have d1 : w2.cell? ⟨b, 1, none⟩ = some v := by rw [Lib.cell_of_heap hb2]; rfl
  have f1 : w2.frozen? ⟨b, 1, none⟩ = false := Lib.frozen_of_heap hb2 1
  obtain ⟨g, cap, rfl⟩ : ∃ g cap, v' = .slice (some ⟨g, 0, none⟩) (bs.length + 1) cap := by
    rcases hown'.2 with ⟨_, h0⟩ | ⟨g, cap, cur, fz, hv, _⟩
    · omega
    · exact ⟨g, cap, hv⟩
  go_wp2
  go_ret
  refine ⟨rfl, ?_, ?_, ((hk1.alloc _).grown hgrow (Lib.ownsRowF_kind (hown.alloc _))).setCell ⟨b, 1, none⟩ rfl _⟩
  · exact Lib.BuilderAtF.put (T := 43) (e := 5) hB hb2 (bs' := bs ++ [.int .u8 c]) (by simpa using hown') (by decide)
  · exact ((hb1.alloc (by have := hb1.size; omega) _).grown hgrow (by have := hb1.size; simp; omega) (fun k hk => (hown.lt k hk).1)).setCell (p := ⟨b, 1, none⟩) hB _
set_option maxHeartbeats 4000000 in
set_option maxRecDepth 100000 in
theorem WriteString_k (B b : Nat) (bs : List Value) (s : ByteArray) (w : World) (h : Lib.IsBuilderF 43 5 B b bs w) (hlen : bs.length + s.size ≤ 140737488355328) (hBw : B ≤ w.heap.size) :
    Calls Tryd.prog 37 #[.pointer (some ⟨b, 0, none⟩), .string s] w fun e w' => e = .returned (.tuple #[.int .i64 s.size, .nilIface]) ∧ (Lib.BuilderAtF 43 5 B b (.pointer (some ⟨b, 0, none⟩)) (bs ++ Lib.strCells s) w' ∧ Below B w w' ∧ Lib.OthersKept 5 (some b) w w') := by
  obtain ⟨i0, hi, hz0, hz1, hz2⟩ := info_parts infoByte
  go_enter Tryd.func37, Tryd.ntmps37
  go_wp2_with (go_at_call 48; refine (copyCheck_k B b bs _ h).mono ?_)
  rintro e w1 ⟨rfl, h1, hb1, hk1⟩
  obtain ⟨hB, v, hbk, hown, hne⟩ := h1
  have c0 : w1.cell? ⟨b, 0, none⟩ = some (.pointer (some ⟨b, 0, none⟩)) := by rw [Lib.cell_of_heap hbk]; rfl
  have c1 : w1.cell? ⟨b, 1, none⟩ = some v := by rw [Lib.cell_of_heap hbk]; rfl
  go_wp2_with (at_builtin; refine Lib.wpList_append_own_stringF _ rfl _ _ 41 9 rfl B 5 i0 Tryd.underlying41 Tryd.underlying9 hi hz0 hz1 hz2 _ _ _ rfl hown s rfl (by unfold maxLen; omega) (by omega) (by have := hb1.size; omega) ?_)
  intro v' w2 hown' hgrow _
  have hlt : b < w1.heap.size := (Array.getElem?_eq_some_iff.1 hbk).1
  have hb2 : w2.heap[b]? = some (.cells #[.pointer (some ⟨b, 0, none⟩), v] 43 (0, 0)) := by
    rw [hgrow.block b hlt (fun e => hne e.symm)]
    exact hbk
  have d0 : w2.cell? ⟨b, 0, none⟩ = some (.pointer (some ⟨b, 0, none⟩)) := by rw [Lib.cell_of_heap hb2]; rfl
  have d1 : w2.cell? ⟨b, 1, none⟩ = some v := by rw [Lib.cell_of_heap hb2]; rfl
  have f1 : w2.frozen? ⟨b, 1, none⟩ = false := Lib.frozen_of_heap hb2 1
  obtain ⟨ao, n', cap, rfl⟩ : ∃ ao n' cap, v' = .slice ao n' cap := by
    rcases hown'.2 with ⟨hv, _⟩ | ⟨g, cap, cur, fz, hv, _⟩
    · exact ⟨_, _, _, hv⟩
    · exact ⟨_, _, _, hv⟩
  go_wp2
  go_ret2
  refine ⟨rfl, ?_, ?_, (hk1.grown hgrow (Lib.ownsRowF_kind hown)).setCell ⟨b, 1, none⟩ rfl _⟩
  · exact Lib.BuilderAtF.put (T := 43) (e := 5) hB hb2 (bs' := bs ++ Lib.strCells s) (by simpa [Lib.strCells_length] using hown') (by decide)
  · exact (hb1.grown hgrow (by have := hb1.size; omega) (fun k hk => (hown.lt k hk).1)).setCell (p := ⟨b, 1, none⟩) hB _
end Bld
end Go.Proofs.YtbpcoieemkojjaaDoor
/- A builder beside a loop over an iterator that keeps no state in cells. -/
namespace Go.Proofs.YtbpcoieemkojjaaDoor
set_option linter.unusedSimpArgs false
set_option linter.unusedVariables false
open Go.RowKit
theorem ag_old {w : World} {o x : Obj} {k : Nat} (h : w.heap[k]? = some x) : (w.alloc o).heap[k]? = some x := (Below.heap_alloc _ _ _ (Array.getElem?_eq_some_iff.1 h).1).trans h
theorem ag_new (w : World) (o : Obj) (k : Nat) (h : k = w.heap.size) : (w.alloc o).heap[k]? = some o := by subst h; exact World.alloc_heap_new w o
/-- Two results that lie in boxes. -/
theorem results_cell2 {P : Program} {fn : Func} {p q : Tmp} {tp tq : TypeId} (h : fn.results = #[.cell p tp, .cell q tq]) (tmps : Array Value) (w : World) {b c : Addr} {v u : Value}
    (hp : tmps.getD p undef = .pointer (some b)) (hq : tmps.getD q undef = .pointer (some c)) {dp dq : TypeDesc} (tp1 : P.underlying tp = some dp) (tq1 : P.underlying tq = some dq)
    (tp2 : (match dp with | .struct _ | .array _ _ => true | _ => false) = false) (tq2 : (match dq with | .struct _ | .array _ _ => true | _ => false) = false)
    (h1 : w.cell? b = some v) (h2 : w.cell? c = some u) : (results fn tmps).run P w = .ok (.tuple #[v, u]) w := by
  have hp' : tmps[p]?.getD undef = .pointer (some b) := by simpa using hp
  have hq' : tmps[q]?.getD undef = .pointer (some c) := by simpa using hq
  have a1 : (isAgg tp).run P w = .ok false w := by
    unfold isAgg
    rw [Sem.run_bind, run_underlying tp1 w]
    cases dp <;> simp_all
  have a2 : (isAgg tq).run P w = .ok false w := by
    unfold isAgg
    rw [Sem.run_bind, run_underlying tq1 w]
    cases dq <;> simp_all
  have l1 : (load b).run P w = .ok v w := by rw [run_load, h1]
  have l2 : (load c).run P w = .ok u w := by rw [run_load, h2]
  have m1 : (loadVar tp b).run P w = .ok v w := by simp [loadVar, Sem.run_bind, a1, h1]
  have m2 : (loadVar tq c).run P w = .ok u w := by simp [loadVar, Sem.run_bind, a2, h2]
  simp [results, h, hp', hq', asAddr, m1, m2]
namespace Bld
open Go.Proofs.YtbpcoieemkojjaaDoorW.PrintWords
theorem strCells_bl (s : ByteArray) : Lib.strCells s = nums .u8 (Code.bl s) := by
  unfold Lib.strCells nums Code.bl
  rw [List.map_map]
  rfl
theorem strCells_son (l : List Int) (h : ∀ x ∈ l, 0 ≤ x ∧ x < 256) : Lib.strCells (strOfNums l) = nums .u8 l := by rw [strCells_bl, Code.bl_son l h]
theorem byteCells_nums (xs : List Int) (h : ∀ x ∈ xs, 0 ≤ x ∧ x < 256) : Lib.byteCells (xs.map fun x => x.toNat.toUInt8) = nums .u8 xs := by
  unfold Lib.byteCells nums
  rw [List.map_map]
  apply List.map_congr_left
  intro x hx
  have := h x hx
  simp only [Function.comp, Value.int.injEq, true_and]
  have : x.toNat.toUInt8.toNat = x.toNat := by
    simp [Nat.toUInt8]; omega
  omega
theorem nums_app (k : IntKind) (a b : List Int) : nums k (a ++ b) = nums k a ++ nums k b := by simp [nums]
theorem nums_len (k : IntKind) (a : List Int) : (nums k a).length = a.length := by simp [nums]
/-- The builder's buffer is none of the loop's own blocks. -/
def BOff (b z : Nat) (A : World) : Prop := ∀ p v fz r, A.heap[b]? = some (.cells #[p, v] 43 fz) → v.ownBlock = some r → ¬ LZ z r
theorem BOff.keep {b z : Nat} {A B : World} (h : BOff b z A) (hb : B.heap[b]? = A.heap[b]?) : BOff b z B := fun p v fz r h1 h2 => h p v fz r (hb.symm.trans h1) h2
theorem BOff.fresh {b z : Nat} {A : World} {q : Value} {fz : Nat × Nat} (h : A.heap[b]? = some (.cells #[q, .slice none 0 0] 43 fz)) : BOff b z A := by
  intro p v fz' r h1 h2
  rw [h] at h1
  simp at h1
  obtain ⟨⟨_, rfl⟩, _⟩ := h1
  simp [Value.ownBlock] at h2
theorem BOff.of {B b z : Nat} {bs : List Value} {A : World} (h : Lib.IsBuilderF 43 5 B b bs A) (hz : A.heap[z]? = some (.deferred (some []))) (hl : ∃ r, A.heap[z + 1]? = some (.loop r)) : BOff b z A := by
  have key : ∀ q, Lib.BuilderAtF 43 5 B b q bs A → BOff b z A := by
    rintro q ⟨_, v0, hb, hown, _⟩ p v fz r h1 h2 h3
    rw [hb] at h1
    simp at h1
    obtain ⟨⟨_, rfl⟩, _⟩ := h1
    obtain ⟨c, fz, hc⟩ := Lib.ownsRowF_kind hown r h2
    rcases h3 with rfl | rfl
    · rw [hz] at hc; cases hc
    · obtain ⟨l, hl⟩ := hl
      rw [hl] at hc; cases hc
  exact h.elim (key _) (key _)
theorem ownF_move {w w' : World} {B : Nat} {e : TypeId} {v : Value} {n : Nat} {xs : List Value} (h : w.ownsRowF B e 1 v n xs) (hk : ∀ r, v.ownBlock = some r → w'.heap[r]? = w.heap[r]?) : w'.ownsRowF B e 1 v n xs := by
  refine ⟨h.1, ?_⟩
  rcases h.2 with hn | ⟨g, cap, cur, fz, hv, hbg, hg, rest⟩
  · exact .inl hn
  · exact .inr ⟨g, cap, cur, fz, hv, hbg, (hk g (by rw [hv]; rfl)).trans hg, rest⟩
theorem isB_chg {B b z : Nat} {bs : List Value} {A A' : World} (h : Lib.IsBuilderF 43 5 B b bs A) (ho : BOff b z A) (hb : ¬ LZ z b) (hc : Chg (LZ z) A A') : Lib.IsBuilderF 43 5 B b bs A' := by
  have key : ∀ q, Lib.BuilderAtF 43 5 B b q bs A → Lib.BuilderAtF 43 5 B b q bs A' := by
    rintro q ⟨hB, v, hv, hown, hne⟩
    refine ⟨hB, v, hc.heap hv hb, ownF_move hown (fun r hr => hc.block r ?_ (ho _ _ _ _ hv hr)), hne⟩
    obtain ⟨c, fz, hc⟩ := Lib.ownsRowF_kind hown r hr
    exact (Array.getElem?_eq_some_iff.1 hc).1
  exact h.elim (fun x => .inl (key _ x)) (fun x => .inr (key _ x))
theorem LK_kept {b z : Nat} {A B : World} (hs : A.heap.size ≤ B.heap.size) (hk : Lib.OthersKept 5 (some b) A B) (hb : ¬ LZ z b) (hz : A.heap[z]? = some (.deferred (some []))) (hl : ∃ r, A.heap[z + 1]? = some (.loop r)) : LK z A B := by
  obtain ⟨l, hl⟩ := hl
  refine ⟨hs, (hk z _ hz (fun e => hb (.inl (Option.some.inj e).symm)) (by intro c fz e; cases e)).trans hz.symm, (hk (z + 1) _ hl (fun e => hb (.inr (Option.some.inj e).symm)) (by intro c fz e; cases e)).trans hl.symm⟩
/-- A row of another type stands beside a builder's writer. -/
theorem kept_row {b k : Nat} {A B : World} (hk : Lib.OthersKept 5 (some b) A B) {cs : Array Value} {t : TypeId} {fz : Nat × Nat} (h : A.heap[k]? = some (.cells cs t fz)) (hb : k ≠ b) (ht : t ≠ 5) : B.heap[k]? = some (.cells cs t fz) :=
  hk k _ h (fun e => hb (Option.some.inj e)) (by intro c fz' e; injection e with _ e2; exact ht e2)
end Bld
end Go.Proofs.YtbpcoieemkojjaaDoor
/- What the package-level variables of one package hold. -/
namespace Go.Proofs.YtbpcoieemkojjaaDoor
set_option linter.unusedSimpArgs false
set_option linter.unusedVariables false
namespace Code
open Go.RowKit
structure GA (a0 : Addr) (w : World) : Prop where
  et : w.cell? ⟨1, 0, none⟩ = some (.iface 101 (.agg #[.pointer (some ⟨7, 47, none⟩)]))
  g0 : w.cell? ⟨3, 0, none⟩ = some (.iface 131 (.pointer (some a0)))
  h0 : ∃ c t, w.heap[a0.block]? = some (.cells c t (0, 0))
theorem GA.below {a0 : Addr} {w w' : World} (h : GA a0 w) (hb : Below w.heap.size w w') : GA a0 w' where
  et := (hb.cell (lt_of_cell h.et)).trans h.et
  g0 := (hb.cell (lt_of_cell h.g0)).trans h.g0
  h0 := by obtain ⟨c, t, hc⟩ := h.h0; exact ⟨c, t, (hb.block _ (Array.getElem?_eq_some_iff.1 hc).1).trans hc⟩
end Code
end Go.Proofs.YtbpcoieemkojjaaDoor
/- Go's own errors.As and errors.Is at the errors of one package: a struct of one number, that wraps the package's one sentinel. -/
namespace Go.Proofs.YtbpcoieemkojjaaDoor
set_option linter.unusedSimpArgs false
set_option linter.unusedVariables false
namespace Code
open Go.RowKit Go.Extern.Stop Go.Stop Go.Extern

/-- the error as a value -/
abbrev werr (n : Int) : Value := .iface 125 (.agg #[.int .i64 n])

theorem valueOfPW (t : Addr) (w : World) : (ReflectliteValue.unpack (.iface 126 (.pointer (some t)))).run Tryd.prog w
    = .ok (.agg #[.pointer (some ⟨7, 126, none⟩), .pointer (some ⟨w.heap.size, 0, none⟩), .int .u64 150]) (w.alloc (.cells #[.pointer (some t)] 126)) := by kernel_rfl
theorem typePW (a : Addr) (w : World) : (ReflectliteValue.methodAny (ReflectliteValue.valueError "reflectlite.Value.Type" 0) (fun t _ _ _ => ReflectliteType.toType t) #[.agg #[.pointer (some ⟨7, 126, none⟩), .pointer (some a), .int .u64 150]]).run Tryd.prog w
    = .ok (.iface 101 (.agg #[.pointer (some ⟨7, 126, none⟩)])) w := by kernel_rfl
theorem kindPW (w : World) : ((ReflectliteType.abiMethod fun t => (fun a : Nat => Value.int IntKind.u8 (a : Int)) <$> Rtype.kind t) #[.pointer (some ⟨7, 126, none⟩)]).run Tryd.prog w = .ok (.int .u8 22) w := by kernel_rfl
theorem kindW (w : World) : ((ReflectliteType.abiMethod fun t => (fun a : Nat => Value.int IntKind.u8 (a : Int)) <$> Rtype.kind t) #[.pointer (some ⟨7, 125, none⟩)]).run Tryd.prog w = .ok (.int .u8 25) w := by kernel_rfl
theorem partsPW (a : Addr) (w : World) : (ReflectliteValue.parts (.agg #[.pointer (some ⟨7, 126, none⟩), .pointer (some a), .int .u64 150])).run Tryd.prog w = .ok (some (126, a, 150)) w := by kernel_rfl
theorem isNilPW (a p : Addr) (W : World) (ha : W.cell? a = some (.pointer (some p))) :
    (ReflectliteValue.method (ReflectliteValue.valueError "reflectlite.Value.IsNil" 0) ReflectliteValue.isNil #[.agg #[.pointer (some ⟨7, 126, none⟩), .pointer (some a), .int .u64 150]]).run Tryd.prog W = .ok (.bool false) W := by
  rw [rlm]
  simp only [Sem.run_bind, partsPW, Result.andThen]
  simp [ReflectliteValue.isNil, loadVar, isAgg, underlying, Tryd.underlying126, ha, Result.andThen]
theorem elemPW (w : World) : (ReflectliteType.method ReflectliteType.elem #[.agg #[.pointer (some ⟨7, 126, none⟩)]]).run Tryd.prog w = .ok (.iface 101 (.agg #[.pointer (some ⟨7, 125, none⟩)])) w := by kernel_rfl
theorem implementsW (w : World) : (ReflectliteType.relation "Implements" ReflectliteType.implements_ #[.agg #[.pointer (some ⟨7, 125, none⟩)], .iface 101 (.agg #[.pointer (some ⟨7, 47, none⟩)])]).run Tryd.prog w = .ok (.bool true) w := by kernel_rfl
theorem typeOfW (v : Value) (w : World) : (ReflectliteType.typeOf #[.iface 125 v]).run Tryd.prog w = .ok (.iface 101 (.agg #[.pointer (some ⟨7, 125, none⟩)])) w := by kernel_rfl
theorem assignableW (w : World) : (ReflectliteType.relation "AssignableTo" ReflectliteType.assignableTo #[.agg #[.pointer (some ⟨7, 125, none⟩)], .iface 101 (.agg #[.pointer (some ⟨7, 125, none⟩)])]).run Tryd.prog w = .ok (.bool true) w := by kernel_rfl
theorem valueOfW (n : Int) (w : World) : (ReflectliteValue.unpack (werr n)).run Tryd.prog w
    = .ok (.agg #[.pointer (some ⟨7, 125, none⟩), .pointer (some ⟨w.heap.size, 0, none⟩), .int .u64 153]) (w.alloc (.cells #[.int .i64 n] 125)) := by kernel_rfl
theorem elemOfPW (w : World) : (Rtype.elem? 126).run Tryd.prog w = .ok (some 125) w := by kernel_rfl
theorem mkW (p : Addr) (w : World) : (ReflectliteValue.mk 125 p ReflectliteValue.flagAddr).run Tryd.prog w = .ok (.agg #[.pointer (some ⟨7, 125, none⟩), .pointer (some p), .int .u64 409]) w := by kernel_rfl
theorem elemVPW (a p : Addr) (W : World) (ha : W.cell? a = some (.pointer (some p))) :
    (ReflectliteValue.method (ReflectliteValue.valueError "reflectlite.Value.Elem" 0) ReflectliteValue.elem #[.agg #[.pointer (some ⟨7, 126, none⟩), .pointer (some a), .int .u64 150]]).run Tryd.prog W
      = .ok (.agg #[.pointer (some ⟨7, 125, none⟩), .pointer (some p), .int .u64 409]) W := by
  rw [rlm]
  simp only [Sem.run_bind, partsPW, Result.andThen]
  simp [ReflectliteValue.elem, loadVar, isAgg, underlying, Tryd.underlying126, ha, Result.andThen, elemOfPW, mkW]
theorem partsWa (a : Addr) (w : World) : (ReflectliteValue.parts (.agg #[.pointer (some ⟨7, 125, none⟩), .pointer (some a), .int .u64 409])).run Tryd.prog w = .ok (some (125, a, 409)) w := by kernel_rfl
theorem partsW (a : Addr) (w : World) : (ReflectliteValue.parts (.agg #[.pointer (some ⟨7, 125, none⟩), .pointer (some a), .int .u64 153])).run Tryd.prog w = .ok (some (125, a, 153)) w := by kernel_rfl
theorem directW (w : World) : (Rtype.directlyAssignable 125 125).run Tryd.prog w = .ok true w := by kernel_rfl
theorem sizeW : (Tryd.prog.info? 125).map (·.size) = some 1 := by kernel_rfl
theorem setW (g gb : Nat) (v0 : Value) (old : Array Value) (W : World) (hb : W.heap[gb]? = some (.cells #[v0] 125 (0, 0))) (ht : W.heap[g]? = some (.cells old 125 (0, 0))) (ho : old.size = 1) (h1 : (#[v0] : Array Value).all (·.oneCell') = true) :
    (ReflectliteValue.set #[.agg #[.pointer (some ⟨7, 125, none⟩), .pointer (some ⟨g, 0, none⟩), .int .u64 409], .agg #[.pointer (some ⟨7, 125, none⟩), .pointer (some ⟨gb, 0, none⟩), .int .u64 153]]).run Tryd.prog W
      = .ok (.tuple #[]) (W.setRow g #[v0]) := by
  rw [rls]
  simp only [Sem.run_bind, partsWa, partsW, Result.andThen]
  simp [ReflectliteValue.flagAddr, run_loadVar_row (P := Tryd.prog) W gb 125 125 #[v0] (0, 0) _ hb Tryd.underlying125 rfl sizeW, Result.andThen, directW, run_storeVar_row (P := Tryd.prog) W g 125 125 old #[v0] ht sizeW ho h1]

set_option maxHeartbeats 4000000 in
theorem as_hit (n : Int) (g : Nat) (old : Array Value) (w : World) (hg : w.cell? ⟨1, 0, none⟩ = some (.iface 101 (.agg #[.pointer (some ⟨7, 47, none⟩)])))
    (ht : w.heap[g]? = some (.cells old 125 (0, 0))) (ho : old.size = 1) :
    Calls Tryd.prog 43 #[werr n, .iface 126 (.pointer (some ⟨g, 0, none⟩))] w fun ev w' => ev = .returned (.bool true) ∧ Below g w w' ∧ w'.heap[g]? = some (.cells #[.int .i64 n] 125 (0, 0)) := by
  have h6 := @run_callFunc_extern Tryd.prog 53 _ (fun args => ReflectliteValue.unpack (args.getD 0 (.tuple #[]))) Tryd.func53 (by kernel_rfl) (by kernel_rfl) (by kernel_rfl) (by kernel_rfl)
  have h7 := @run_callFunc_extern Tryd.prog 54 _ (ReflectliteValue.methodAny (ReflectliteValue.valueError "reflectlite.Value.Type" 0) (fun t _ _ _ => ReflectliteType.toType t)) Tryd.func54 (by kernel_rfl) (by kernel_rfl) (by kernel_rfl) (by kernel_rfl)
  have h8 := @run_callFunc_extern Tryd.prog 55 _ (ReflectliteValue.method (ReflectliteValue.valueError "reflectlite.Value.IsNil" 0) ReflectliteValue.isNil) Tryd.func55 (by kernel_rfl) (by kernel_rfl) (by kernel_rfl) (by kernel_rfl)
  have h27 := @run_callFunc_extern Tryd.prog 92 _ (ReflectliteType.abiMethod fun t => do pure (.int .u8 (← Rtype.kind t))) Tryd.func92 (by kernel_rfl) (by kernel_rfl) (by kernel_rfl) (by kernel_rfl)
  have h37 := @run_callFunc_extern Tryd.prog 104 _ (ReflectliteType.method ReflectliteType.elem) Tryd.func104 (by kernel_rfl) (by kernel_rfl) (by kernel_rfl) (by kernel_rfl)
  have h38 := @run_callFunc_extern Tryd.prog 105 _ (ReflectliteType.relation "Implements" ReflectliteType.implements_) Tryd.func105 (by kernel_rfl) (by kernel_rfl) (by kernel_rfl) (by kernel_rfl)
  have h10 := @run_callFunc_extern Tryd.prog 57 _ ReflectliteType.typeOf Tryd.func57 (by kernel_rfl) (by kernel_rfl) (by kernel_rfl) (by kernel_rfl)
  have h35 := @run_callFunc_extern Tryd.prog 102 _ (ReflectliteType.relation "AssignableTo" ReflectliteType.assignableTo) Tryd.func102 (by kernel_rfl) (by kernel_rfl) (by kernel_rfl) (by kernel_rfl)
  have h11 := @run_callFunc_extern Tryd.prog 67 _ (ReflectliteValue.method (ReflectliteValue.valueError "reflectlite.Value.Elem" 0) ReflectliteValue.elem) Tryd.func67 (by kernel_rfl) (by kernel_rfl) (by kernel_rfl) (by kernel_rfl)
  have h12 := @run_callFunc_extern Tryd.prog 68 _ ReflectliteValue.set Tryd.func68 (by kernel_rfl) (by kernel_rfl) (by kernel_rfl) (by kernel_rfl)
  have tO := typeOfW
  have mA := eMethodAssignableTo
  have a25 := assignableW
  have v25 := valueOfW n
  have f6 := valueOfPW
  have f7 := typePW
  have mK := eMethodKind
  have mE := eMethodElem
  have mI := eMethodImplements
  have k27 := kindPW
  have k25 := kindW
  have e27 := elemPW
  have i25 := implementsW
  obtain ⟨W1, hW1⟩ : ∃ W1, (w.alloc (.cells #[.pointer (some ⟨g, 0, none⟩)] 126)).alloc (.cells #[.pointer (some ⟨7, 126, none⟩), .pointer (some ⟨w.heap.size, 0, none⟩), .int .u64 150] 77) = W1 := ⟨_, rfl⟩
  have n8 := isNilPW ⟨w.heap.size, 0, none⟩ ⟨g, 0, none⟩ ((w.alloc (.cells #[.pointer (some ⟨g, 0, none⟩)] 126)).alloc (.cells #[.pointer (some ⟨7, 126, none⟩), .pointer (some ⟨w.heap.size, 0, none⟩), .int .u64 150] 77)) (by simp)
  have hlt : 1 < w.heap.size := by
    rcases Nat.lt_or_ge 1 w.heap.size with h | h
    · exact h
    · simp [World.cell?, Array.getElem?_eq_none h] at hg
  have hg2 : ((w.alloc (.cells #[.pointer (some ⟨g, 0, none⟩)] 126)).alloc (.cells #[.pointer (some ⟨7, 126, none⟩), .pointer (some ⟨w.heap.size, 0, none⟩), .int .u64 150] 77)).cell? ⟨1, 0, none⟩ = some (.iface 101 (.agg #[.pointer (some ⟨7, 47, none⟩)])) := by
    rw [World.cell?_alloc_lt _ _ ⟨1, 0, none⟩ (by simp; omega), World.cell?_alloc_lt _ _ ⟨1, 0, none⟩ hlt]; exact hg
  have htl : g < w.heap.size := (Array.getElem?_eq_some_iff.1 ht).1
  have el := elemVPW ⟨w.heap.size, 0, none⟩ ⟨g, 0, none⟩ (((w.alloc (.cells #[.pointer (some ⟨g, 0, none⟩)] 126)).alloc (.cells #[.pointer (some ⟨7, 126, none⟩), .pointer (some ⟨w.heap.size, 0, none⟩), .int .u64 150] 77)).alloc (.cells #[.pointer (some ⟨7, 126, none⟩), .pointer (some ⟨w.heap.size, 0, none⟩), .int .u64 150] 77)) (by rw [World.cell?_alloc_lt _ _ ⟨w.heap.size, 0, none⟩ (by simp; omega)]; simp)
  obtain ⟨W4, hW4⟩ : ∃ W4, (((w.alloc (.cells #[.pointer (some ⟨g, 0, none⟩)] 126)).alloc (.cells #[.pointer (some ⟨7, 126, none⟩), .pointer (some ⟨w.heap.size, 0, none⟩), .int .u64 150] 77)).alloc (.cells #[.pointer (some ⟨7, 126, none⟩), .pointer (some ⟨w.heap.size, 0, none⟩), .int .u64 150] 77)).alloc (.cells #[.int .i64 n] 125) = W4 := ⟨_, rfl⟩
  have hB4 : Below (g + 1) w W4 := by rw [← hW4]; exact ((((Below.refl _ w).alloc (by omega) _).alloc (by simp; omega) _).alloc (by simp; omega) _).alloc (by simp; omega) _
  have ht4 : W4.heap[g]? = some (.cells old 125 (0, 0)) := (hB4.block g (by omega)).trans ht
  have hb4 : W4.heap[w.heap.size + 1 + 1 + 1]? = some (.cells #[.int .i64 n] 125 (0, 0)) := by
    rw [← hW4]
    show (Array.push _ _)[_]? = _
    rw [Array.getElem?_push, if_pos (by simp)]
  have st := setW g (w.heap.size + 1 + 1 + 1) (.int .i64 n) old W4 hb4 ht4 ho (by simp [Value.oneCell'])
  have HR := setRow_heap (cs := #[.int .i64 n]) ht4
  have HB := setRow_below (g := g) (hB4.mono (Nat.le_succ g)) (Nat.le_refl _) #[.int .i64 n]
  rw [← hW4] at st HR HB
  have HR' : Hid _ := HR
  have HB' : Hid _ := HB
  clear HR HB hW1 ht4 hb4 hB4 hW4 ht ho
  go_enter Tryd.func43, Tryd.ntmps43
  go_wp2
  refine wp_loop_rounds 1 ?_
  rw [rounds_succ]
  go_wp2
  go_ret
  exact ⟨rfl, HB'.out, HR'.out⟩

/-! errors.Is -/
theorem noIsW (v : Value) (xT : TypeId) (w : World) : (Instr.typeAssert (.iface 125 v) xT 112 true).run Tryd.prog w = .ok (.tuple #[.nilIface, .bool false]) w := run_typeAssert_lacksB Tryd.underlying112 (by kernel_rfl) (by kernel_rfl) v xT w
theorem hasUnwrapW (v : Value) (xT : TypeId) (w : World) : (Instr.typeAssert (.iface 125 v) xT 108 true).run Tryd.prog w = .ok (.tuple #[.iface 125 v, .bool true]) w := run_typeAssert_hasB Tryd.underlying108 (by kernel_rfl) v xT w
theorem methodUnwrapW (v : Value) (w : World) : (Go.method 262 125 v "Unwrap").run Tryd.prog w = .ok (115, v) w := by kernel_rfl

/-- errors.Is(wrong{n}, the package's own sentinel): it is. -/
theorem is_same (n : Int) (b : Addr) (w : World) (hg : w.cell? ⟨3, 0, none⟩ = some (.iface 131 (.pointer (some b)))) :
    Calls Tryd.prog 44 #[werr n, .iface 131 (.pointer (some b))] w fun e w' => e = .returned (.bool true) ∧ Below w.heap.size w w' := by
  obtain ⟨i, hi, hcmp⟩ := Option.map_eq_some_iff.1 eComp
  obtain ⟨j, hj, hjs⟩ := Option.map_eq_some_iff.1 eSize
  have h8 := @run_callFunc_extern Tryd.prog 57 _ Extern.ReflectliteType.typeOf Tryd.func57 (by kernel_rfl) (by kernel_rfl) (by kernel_rfl) (by kernel_rfl)
  have h32 := @run_callFunc_extern Tryd.prog 103 _ cmpE Tryd.func103 (by kernel_rfl) (by kernel_rfl) (by kernel_rfl) (by kernel_rfl)
  have tT := eTypeOfES
  have cT := eComparableES
  have mR := eMethodComparable
  have nE := eNoIs
  have uE := eNoUnwrap
  have vE := eNoUnwraps
  have nW := noIsW
  have uW := hasUnwrapW
  have mU := methodUnwrapW
  have hlt := lt_of_cell hg
  simp only at hlt
  have heq := fun w => run_eql_iface_ptr_same (P := Tryd.prog) w b Tryd.underlying47 Tryd.underlying131 hi hcmp hj
  have hty := fun w => run_eql_iface_types (P := Tryd.prog) 125 131 (.agg #[.int .i64 n]) (.pointer (some b)) Tryd.underlying47 (by decide) w
  go_enter Tryd.func44, Tryd.ntmps44
  go_wp2
  refine wp_loop_rounds 2 ?_
  rw [rounds_succ]
  go_wp2
  rw [rounds_succ]
  go_wp2
  go_ret
  exact ⟨rfl, by repeat (first | exact Below.refl _ _ | refine Below.alloc ?_ (by simp) _)⟩
end Code
end Go.Proofs.YtbpcoieemkojjaaDoor
/- code's Hex and Unhex alone (for chapters that reach no more of code). -/
namespace Go.Proofs.YtbpcoieemkojjaaDoor
set_option linter.unusedSimpArgs false
set_option linter.unusedVariables false
namespace Code
open Go.RowKit Go.Shelf Go.Proofs.YtbpcoieemkojjaaDoorW.PrintWords Go.Proofs.YtbpcoieemkojjaaDoor.PureB
attribute [local go_sem] Oper.semAt_some
theorem and63 (n : Int) : bits .and .i64 n 63 = n % 64 := by
  have h63 : (BitVec.ofInt 64 63).toNat = 2 ^ 6 - 1 := by decide
  have key : (BitVec.ofInt 64 n &&& BitVec.ofInt 64 63).toNat = (n % ((2 ^ 64 : Nat) : Int)).toNat % 2 ^ 6 := by
    rw [BitVec.toNat_and, BitVec.toNat_ofInt, h63, Nat.and_two_pow_sub_one_eq_mod]
  show IntKind.i64.wrap ((BitVec.ofInt 64 n &&& BitVec.ofInt 64 63).toNat : Nat) = n % 64
  rw [key, IntKind.wrap_i64]
  omega
theorem or_hi (i : Nat) (x y : Int) (hx0 : 0 ≤ x) (hx : x % 2 ^ i = 0) (hx1 : x < 2 ^ 40) (hy0 : 0 ≤ y) (hy : y < 2 ^ i) (hy1 : y < 2 ^ 40) : bits .or .i64 x y = x + y :=
  bits_join .i64 40 (by decide) (fun n h0 h1 => by rw [IntKind.wrap_i64]; omega) i x y hx0 hx hx1 hy0 hy hy1
theorem or_lo (i : Nat) (x y : Int) (hx0 : 0 ≤ x) (hx : x % 2 ^ i = 0) (hx1 : x < 2 ^ 40) (hy0 : 0 ≤ y) (hy : y < 2 ^ i) (hy1 : y < 2 ^ 40) : bits .or .i64 y x = x + y := by
  have : bits .or .i64 y x = bits .or .i64 x y := by simp only [bits, BitVec.or_comm]
  rw [this, or_hi i x y hx0 hx hx1 hy0 hy hy1]
/-- a text's bytes lie in block b -/
def BytesAt (s : ByteArray) (b : Nat) (w : World) : Prop := ∀ j : Nat, j < s.size → w.cell? ⟨b, j, none⟩ = some (.int .u8 (bt s j))
theorem bytesWorld_at (w : World) (e : TypeId) (s : ByteArray) : BytesAt s w.heap.size (Lib.bytesWorld w e s) := by
  intro j hj
  rw [Lib.bytesWorld_cell w e s j hj, bt_nat s j hj]
  congr 3
  rw [List.getD_eq_getElem?_getD, Array.getElem?_toList, Array.getElem?_eq_getElem hj]
  rfl
theorem dg_at (i : Int) (h0 : 0 ≤ i) (h1 : i < 16) : bt ⟨#[48, 49, 50, 51, 52, 53, 54, 55, 56, 57, 97, 98, 99, 100, 101, 102]⟩ i = dg i := by
  obtain ⟨k, rfl⟩ : ∃ k : Nat, i = k := ⟨i.toNat, by omega⟩
  have : k < 16 := by omega
  revert h0 h1
  revert k
  decide
theorem own_base {w : World} {base : Nat} {e : TypeId} {size : Nat} {v : Value} {n : Nat} {xs : List Value} (h : w.ownsRow base e size v n xs) : ∀ k, v.ownBlock = some k → base ≤ k := by
  intro k hk
  rcases h.2 with ⟨hv, _⟩ | ⟨g, cap, cur, hv, hb, _⟩
  · rw [hv] at hk; simp [Value.ownBlock] at hk
  · rw [hv] at hk; simp [Value.ownBlock] at hk; omega
theorem hex_succ (s : ByteArray) (j : Nat) (h : j < s.size) : hexL ((bl s).take (j + 1)) = hexL ((bl s).take j) ++ [dg (bt s j / 16), dg (bt s j % 16)] := by
  rw [List.take_add_one, bl_get s j h]
  simp [hexL]
theorem nums_append (k : IntKind) (a b : List Int) : nums k (a ++ b) = nums k a ++ nums k b := by simp [nums]
theorem hexL_len (l : List Int) : (hexL l).length = 2 * l.length := by
  induction l with
  | nil => rfl
  | cons a l ih => simp [hexL] at ih ⊢; omega
set_option maxHeartbeats 4000000 in
set_option maxRecDepth 1000000 in
theorem Hex_c (s : ByteArray) (hs : s.size ≤ 4611686018427) (w : World) :
    Calls Tryd.prog 38 #[.string s] w fun e w' => e = .returned (.string (strOfNums (hexL (bl s)))) ∧ Below w.heap.size w w' := by
  obtain ⟨w1, hw1⟩ : ∃ x, Lib.bytesWorld w 5 s = x := ⟨_, rfl⟩
  have hconv := Lib.run_convert_string_bytes (P := Tryd.prog) w 9 41 5 s Tryd.underlying9 Tryd.underlying41 Tryd.underlying5
  have hB1 := Joins.below_bytesWorld w.heap.size w 5 s (Nat.le_refl _)
  have hs1 := Lib.bytesWorld_size w 5 s
  have hat := bytesWorld_at w 5 s
  rw [hw1] at hconv hB1 hs1 hat
  have HAT := Lib.hid hat
  have HB1 := Lib.hid hB1
  obtain ⟨i0, hi, hz0, hz1, hz2⟩ := info_parts Bld.infoByte
  clear hw1 hat hB1
  generalize grownCap w s.size 0 5 = cap at hconv
  go_enter Tryd.func38, Tryd.ntmps38
  go_wp2_with fail
  go_loopw [3, 9] (fun v i wr => ∃ j : Nat, i = .int .i64 j ∧ j ≤ s.size ∧ wr.ownsRow (w.heap.size + 1) 5 1 v (2 * j) (nums .u8 (hexL ((bl s).take j))) ∧ Below (w.heap.size + 1) w1 wr)
    (fun _ i _ => s.size - (intOf i).toNat)
  case atStart =>
    exact ⟨0, rfl, Nat.zero_le _, World.ownsRow_nil _ _ _ _, Below.refl _ _⟩
  case round =>
    obtain ⟨j, rfl, hj, hr, hb⟩ := hrel
    by_cases hlt : j < s.size
    · have hc := HAT.out j hlt
      have hc := (hb.cell (by simp)).trans hc
      have hbr := bt_range s j
      obtain ⟨x, hx⟩ : ∃ x, bt s j = x := ⟨_, rfl⟩
      rw [hx] at hc hbr
      have HX := Lib.hid hx
      clear hx
      have g1 : 0 ≤ x / 16 := by omega
      have g2 : x / 16 < 16 := by omega
      have g3 : (x / 16).toNat < 16 := by omega
      have g4 : 0 ≤ x % 16 := by omega
      have g5 : x % 16 < 16 := by omega
      have g6 : (x % 16).toNat < 16 := by omega
      have d1 : (((⟨#[48, 49, 50, 51, 52, 53, 54, 55, 56, 57, 97, 98, 99, 100, 101, 102]⟩ : ByteArray)[(x / 16).toNat]'g3).toNat : Int) = dg (x / 16) := by
        rw [← dg_at _ g1 g2, ← bt_nat _ _ g3, show (((x / 16).toNat : Nat) : Int) = x / 16 by omega]
      have d2 : (((⟨#[48, 49, 50, 51, 52, 53, 54, 55, 56, 57, 97, 98, 99, 100, 101, 102]⟩ : ByteArray)[(x % 16).toNat]'g6).toNat : Int) = dg (x % 16) := by
        rw [← dg_at _ g4 g5, ← bt_nat _ _ g6, show (((x % 16).toNat : Nat) : Int) = x % 16 by omega]
      have hand : bits BinOp.and IntKind.u8 x 15 = x % 16 := by
        rw [u8_and x 15 (by omega) (by omega) (by omega) (by omega), show (15 : Int).toNat = 2 ^ 4 - 1 from rfl, Nat.and_two_pow_sub_one_eq_mod]
        omega
      have HR := Lib.hid hr
      have HS : Hid (w.heap.size + 1 ≤ wr.heap.size) := hs1 ▸ hb.size
      have HJ := Lib.hid (show 2 * j + 2 ≤ 140737488355328 by omega)
      clear hr
      go_wp2_with fail
      have HN : Hid (∀ (i : Nat) (u : Value), [Value.int .u8 (dg (x / 16)), .int .u8 (dg (x % 16))][i]? = some u → (wr.drew.alloc (.cells #[.int .u8 (dg (x / 16)), .int .u8 (dg (x % 16))] 5)).cell? ((⟨wr.heap.size, 0, none⟩ : Addr).add i) = some u) := World.news_of_block (World.alloc_heap_new wr.drew (.cells #[.int .u8 (dg (x / 16)), .int .u8 (dg (x % 16))] 5))
      have HR2 : Hid ((wr.drew.alloc (.cells #[.int .u8 (dg (x / 16)), .int .u8 (dg (x % 16))] 5)).ownsRow (w.heap.size + 1) 5 1 u3 (2 * j) (nums .u8 (hexL ((bl s).take j)))) := HR.out.alloc _
      have HL : Hid (w.heap.size + 1 ≤ (wr.drew.alloc (.cells #[.int .u8 (dg (x / 16)), .int .u8 (dg (x % 16))] 5)).heap.size) := Nat.le_trans HS.out (by simp)
      go_region_law (refine step_append_lies (wr.drew.alloc (.cells #[.int .u8 (dg (x / 16)), .int .u8 (dg (x % 16))] 5)) rfl (.tmp 13) (.tmp 20) 41 rfl (w.heap.size + 1) 5 i0 (.int .u8 0) 1 1 Tryd.underlying41 hi hz0 hz1 hz2 rfl (by decide) u3 (2 * j) (nums .u8 (hexL ((bl s).take j))) (by simp [Act.eval, Act.put]) HR2.out ⟨wr.heap.size, 0, none⟩ 2 2 [.int .u8 (dg (x / 16)), .int .u8 (dg (x % 16))] (by simp [Act.eval, Act.put]) rfl HN.out (by simp [Value.oneCell']) (by decide) (by unfold maxLen; have := HJ.out; omega) (by have := HJ.out; omega) HL.out _ rfl ?_; intro g c2 w3 ho hg _ _; have HO := Lib.hid ho; have HG := Lib.hid hg; clear ho hg)
      all_goals go_wp2_with fail
      all_goals
        go_roundw
        case rel =>
          refine ⟨j + 1, by simp, by omega, ?_, ((hb.alloc (by have := HS.out; omega) _).drew).grown HG.out (Nat.le_trans HS.out (by simp)) (own_base HR.out)⟩
          rw [hex_succ s j hlt, nums_append, HX.out]
          exact HO.out
        case measure => simp [intOf]; omega
    · obtain rfl : j = s.size := by omega
      rw [List.take_of_length_le (by rw [bl_len]; omega), show 2 * s.size = (hexL (bl s)).length by rw [hexL_len, bl_len]] at hr
      obtain ⟨A', c', rfl, hrd⟩ := own_reads hr
      have hst := string_of_reads (P := Tryd.prog) (w := wr) (src := 41) (dst := 9) (c := c') Tryd.underlying41 Tryd.underlying5 Tryd.underlying9 hrd
      have HB := Lib.hid hb
      clear hr hrd hb
      go_wp2_with fail
      refine bodyPost_ret (v := .string (strOfNums (hexL (bl s)))) (by simp [results, Tryd.results38, go_sem]) rfl ⟨rfl, HB1.out.trans ((HB.out).mono (by omega))⟩
set_option maxHeartbeats 2000000 in
theorem told_nil (a0 : Addr) (w : World) (h : GA a0 w) : Calls Tryd.prog 75 #[.nilIface] w fun e w' => e = .returned (.int .i64 0) ∧ Below w.heap.size w w' := by
  have hB0 : Below w.heap.size w (w.alloc (.cells #[.int .i64 0] 125)) := (Below.refl _ _).alloc (Nat.le_refl _) _
  have g0 := (h.below hB0).g0
  go_enter Tryd.func75, Tryd.ntmps75
  go_wp2_with (first
    | (go_at_call 44; refine (is_nil a0 _).mono ?_; rintro e w' ⟨rfl, rfl⟩))
  go_ret
  exact ⟨rfl, by repeat (first | exact hB0 | refine Below.drew ?_)⟩
set_option maxHeartbeats 2000000 in
theorem told_bad (n : Int) (a0 : Addr) (w : World) (h : GA a0 w) : Calls Tryd.prog 75 #[werr n] w fun e w' => e = .returned (.int .i64 50) ∧ Below w.heap.size w w' := by
  have hB0 : Below w.heap.size w (w.alloc (.cells #[.int .i64 0] 125)) := (Below.refl _ _).alloc (Nat.le_refl _) _
  have g0 := (h.below hB0).g0
  have HG := Lib.hid h
  have HB0 := Lib.hid hB0
  clear h hB0
  go_enter Tryd.func75, Tryd.ntmps75
  go_wp2_with (go_at_call 44; refine (is_same n a0 _ g0).mono ?_)
  rintro e w1 ⟨rfl, hb⟩
  have hB1 := bl_trans HB0.out hb
  have hr1 : w1.heap[w.heap.size]? = some (.cells #[.int .i64 0] 125 (0, 0)) := (Chg.of_below (S := fun _ => False) hb).heap (World.alloc_heap_new w _) (by simp)
  have hG1 := HG.out.below hB1
  go_wp2_with (go_at_call 43; refine (as_hit n w.heap.size _ _ hG1.et hr1 rfl).mono ?_)
  rintro e w2 ⟨rfl, hb2, hr2⟩
  go_wp2_with fail
  go_ret
  exact ⟨rfl, hB1.trans hb2⟩
/-- What ungroup and its callers hand back. -/
def ugS (o : Option (List Int)) : Value := .string (match o with | none => ⟨#[]⟩ | some l => strOfNums l)
def ugE (o : Option (List Int)) (n : Int) : Value := match o with | none => werr n | some _ => .nilIface
/-- the error's number -/
def ubN (o : Option (List Int)) : Int := match o with | none => 50 | some _ => 0
/-- the text -/
def ubT (o : Option (List Int)) : ByteArray := match o with | none => ⟨#[]⟩ | some l => strOfNums l
theorem iterAt_chg1 {S : Nat → Prop} (w : World) (k : Nat) (s : ByteArray) (pos : Nat) (h : S k) : Chg S w (w.iterAt k s pos) :=
  ⟨rfl, rfl, rfl, by rw [Lib.iterAt_size]; exact Nat.le_refl _, fun j _ hj => Lib.iterAt_other w k j s pos (fun e => hj (e ▸ h))⟩
theorem dv_dl (b : Nat) (h : ¬ (65 ≤ b ∧ b ≤ 70)) : dv (b : Int) = dl b := by
  unfold dv dl
  repeat' split
  all_goals omega
theorem dv_high (b : Nat) (h : 128 ≤ b) : dv (b : Int) < 0 := by
  unfold dv
  repeat' split
  all_goals omega
set_option maxHeartbeats 8000000 in
set_option maxRecDepth 1000000 in
theorem unhex_c (s : ByteArray) (hs : s.size ≤ 4611686018427) (w : World) :
    Calls Tryd.prog 74 #[.string s] w fun e w' => (∃ n, e = .returned (.tuple #[ugS (unhR (bl s)), ugE (unhR (bl s)) n])) ∧ Below w.heap.size w w' := by
  obtain ⟨R, hR⟩ : ∃ R, unhR (bl s) = R := ⟨_, rfl⟩
  rw [hR]
  have HR := Lib.hid hR
  clear hR
  obtain ⟨i0, hi, hz0, hz1, hz2⟩ := info_parts Bld.infoByte
  go_enter Tryd.func74, Tryd.ntmps74
  go_wp2_with fail
  go_loopw [4, 5] (fun ov hv wr => ∃ (pos : Nat) (acc : List Int) (h : Int), pos ≤ s.size ∧ RowKit.Hid (hx ((bl s).take pos) [] (-1) = some (acc, h)) ∧ hv = .int .i64 h ∧
      wr.ownsRow (w.heap.size + 1) 5 1 ov acc.length (nums .u8 acc) ∧ wr.heap[w.heap.size]? = some (.stringIter s pos) ∧ Below w.heap.size w wr ∧ w.heap.size + 1 ≤ wr.heap.size)
    (fun _ _ wr => s.size - wr.iterPos w.heap.size)
  case atStart => exact ⟨0, [], -1, Nat.zero_le _, Lib.hid rfl, rfl, World.ownsRow_nil _ _ _ _, World.iter_heap w s 0, (Below.refl _ _).alloc (Nat.le_refl _) _, by simp [World.iter]⟩
  case round =>
    obtain ⟨pos, acc, h, hp, HX, rfl, hrow, hit, hb, hsz⟩ := hrel
    have HIT := Lib.hid hit
    obtain ⟨⟨hh0, hh1⟩, hab, hal⟩ := hx_bound _ _ _ _ _ HX.out (by simp) (by omega)
    rw [List.length_take, bl_len, Nat.min_eq_left hp] at hal
    simp only [List.length_nil, Nat.zero_add] at hal
    have hob := own_base hrow
    by_cases hlt : pos < s.size
    · have hnx0 : ∀ ty, (Instr.next (.pointer (some ⟨w.heap.size, 0, none⟩)) true ty).run Tryd.prog wr = _ := fun ty => Lib.run_next_any_at wr w.heap.size s pos ty hit hlt
      have hxj := bl_get s pos hlt
      rw [bt_nat s pos hlt] at hxj
      have hspl : bl s = (bl s).take pos ++ (((s[pos]'hlt).toNat : Nat) : Int) :: (bl s).drop (pos + 1) := by
        have h1 : pos < (bl s).length := by rw [bl_len]; exact hlt
        rw [List.getElem?_eq_getElem h1] at hxj
        conv => lhs; rw [← List.take_append_drop pos (bl s), List.drop_eq_getElem_cons h1, Option.some.inj hxj]
      by_cases ha : (s[pos]'hlt).toNat < 128
      · have hd := decode_ascii s pos hlt ha
        rw [hd] at hnx0
        have hta : (bl s).take (pos + 1) = (bl s).take pos ++ [(((s[pos]'hlt).toNat : Nat) : Int)] := by rw [List.take_add_one, hxj]; rfl
        obtain ⟨c, hc⟩ : ∃ c, (s[pos]'hlt).toNat = c := ⟨_, rfl⟩
        rw [hc] at hnx0 ha hspl hta
        obtain ⟨W2, hW2⟩ : ∃ W2, wr.iterAt w.heap.size s (pos + 1) = W2 := ⟨_, rfl⟩
        have hnx : ∀ ty, (Instr.next (.pointer (some ⟨w.heap.size, 0, none⟩)) true ty).run Tryd.prog wr = .ok (.tuple #[.bool true, .int .i64 pos, .int .i32 c]) W2 := fun ty => by rw [hnx0]; simp only [hW2]
        have cW : Chg (fun j => j = w.heap.size) wr W2 := by rw [← hW2]; exact iterAt_chg1 wr _ s _ rfl
        have hit2 : W2.heap[w.heap.size]? = some (.stringIter s (pos + 1)) := by rw [← hW2]; exact Lib.iterAt_heap wr _ s pos _ hit
        have hb2 : Below w.heap.size w W2 := Below.chg hb (cW.mono (T := fun k => w.heap.size ≤ k) (fun k hk => by omega)) (by omega) (fun k hk => hk)
        have hsz2 := cW.size
        have hrow2 : W2.ownsRow (w.heap.size + 1) 5 1 u4 acc.length (nums .u8 acc) := own_move hrow (fun r hr => cW.block r (own_lt hrow r hr) (by have := hob r hr; omega))
        have HIR : RowKit.Hid (Calls Tryd.prog 50 #[.string ⟨#[48, 49, 50, 51, 52, 53, 54, 55, 56, 57, 97, 98, 99, 100, 101, 102]⟩, .int .i32 c] W2 fun e w' => e = .returned (.int .i64 (dl c)) ∧ w' = W2) := by
          have h1 := Tryd.strings_IndexRune_ascii DG (c : Int) W2 (by omega) (by omega)
          rw [show ((c : Int)).toNat.toUInt8 = c.toUInt8 by simp, ib_val c ha] at h1
          exact Lib.hid h1
        have HTA := Lib.hid hta
        have HSP := Lib.hid hspl
        clear hW2 hnx0 hd hc hit hta hspl hxj cW hrow hob
        by_cases hup : 65 ≤ c ∧ c ≤ 70
        · obtain ⟨d, hd⟩ : ∃ d : Int, (c : Int) - 65 + 10 = d := ⟨_, rfl⟩
          have HD : RowKit.Hid (dv (c : Int) = d) := Lib.hid (by unfold dv; rw [if_neg (by omega), if_neg (by omega), if_pos (by omega)]; omega)
          have u1 : (65 : Int) ≤ c := by omega
          have u2' : (c : Int) ≤ 70 := by omega
          have u3' : IntKind.i32.wrap ((c : Int) - 65) = c - 65 := by rw [IntKind.wrap_i32]; omega
          clear hup
          by_cases hd0 : d < 0
          · omega
          · have hd16 : d < 16 := by rw [← HD.out]; exact dv_lt _
            by_cases hh : h < 0
            · have HX2 : RowKit.Hid (hx ((bl s).take (pos + 1)) [] (-1) = some (acc, d)) := Lib.hid (by
                rw [HTA.out, hx_append _ _ _ _ _ _ HX.out]
                simp only [hx]
                rw [if_neg (by rw [HD.out]; exact hd0), if_pos hh, HD.out])
              have HRW := Lib.hid hrow2
              clear hrow2
              go_wp2_with (go_at_call 50; refine HIR.out.mono ?_; rintro e w' ⟨rfl, hw⟩; rw [hw]; clear hw)
              go_roundw
              case rel => exact ⟨pos + 1, acc, d, by omega, HX2, rfl, HRW.out, hit2, hb2, by omega⟩
              case measure => simp only [World.iterPos, hit2, HIT.out]; omega
            · have hor : bits BinOp.or IntKind.i64 (h * 16) d = h * 16 + d := or_hi 4 (h * 16) d (by omega) (by omega) (by omega) (by omega) (by omega) (by omega)
              have hmod : (h * 16 + d) % 256 = h * 16 + d := by omega
              have HX2 : RowKit.Hid (hx ((bl s).take (pos + 1)) [] (-1) = some (acc ++ [h * 16 + d], -1)) := Lib.hid (by
                rw [HTA.out, hx_append _ _ _ _ _ _ HX.out]
                simp only [hx]
                rw [if_neg (by rw [HD.out]; exact hd0), if_neg hh, HD.out])
              obtain ⟨y, hy⟩ : ∃ y, h * 16 + d = y := ⟨_, rfl⟩
              rw [hy] at hor hmod HX2
              have hal2 : acc.length + 1 ≤ 140737488355328 := by omega
              go_wp2_with (first
                | (go_at_call 50; refine HIR.out.mono ?_; rintro e w' ⟨rfl, hw⟩; rw [hw]; clear hw)
                | (at_builtin; refine wpList_append_own _ rfl _ _ 41 rfl (w.heap.size + 1) 5 i0 (.int .u8 0) 1 1 Tryd.underlying41 hi hz0 hz1 hz2 rfl (by decide) _ _ _ rfl (hrow2.alloc _) ⟨W2.heap.size, 0, none⟩ 1 1 [.int .u8 y] rfl rfl (cell_one_new _ _ _) (by intro u hu; simp at hu; subst hu; rfl) (by unfold maxLen; omega) (by omega) (by simp; omega) ?_))
              intro v' w3 hown' hgrow _
              obtain ⟨g', cap', rfl⟩ := ownsRow_succ hown'
              have hob2 := own_base hrow2
              have hbg := (hb2.alloc (by omega) (.cells #[.int .u8 y] 5 (0, 0))).grown hgrow (by simp; omega) (fun k hk => by have := hob2 k hk; omega)
              have hit3 : w3.heap[w.heap.size]? = some (.stringIter s (pos + 1)) := by
                rw [hgrow.block _ (by simp; omega) (fun e => by have := hob2 _ e.symm; omega)]
                exact ag_old hit2
              have hsz3 := hgrow.size
              have HOW := Lib.hid hown'
              clear hown' hgrow hrow2 hy
              go_wp2_with fail
              go_roundw
              case rel => exact ⟨pos + 1, acc ++ [y], -1, by omega, HX2, rfl, by rw [List.length_append, nums_append]; exact HOW.out, hit3, hbg, by simp at hsz3; omega⟩
              case measure => simp only [World.iterPos, hit3, HIT.out]; omega
        · obtain ⟨d, hd⟩ : ∃ d : Int, dl c = d := ⟨_, rfl⟩
          have HD : RowKit.Hid (dv (c : Int) = d) := Lib.hid (by rw [dv_dl c hup, hd])
          rw [hd] at HIR
          clear hd
          by_cases h65 : c < 65
          · have u1 : ¬ (65 : Int) ≤ c := by omega
            clear hup
            by_cases hd0 : d < 0
            · have hRn : R = none := by
                rw [← HR.out, HSP.out]
                unfold unhR
                rw [hx_none _ _ _ (by rw [HD.out]; exact hd0)]
              clear hrow2
              go_wp2_with (go_at_call 50; refine HIR.out.mono ?_; rintro e w' ⟨rfl, hw⟩; rw [hw]; clear hw)
              refine bodyPost_ret (v := .tuple #[.string ⟨#[]⟩, werr pos]) (by simp [results, Tryd.results74, go_sem]) rfl ⟨⟨pos, by first | rfl | (rw [hRn]; rfl)⟩, hb2⟩
            · have hd16 : d < 16 := by rw [← HD.out]; exact dv_lt _
              by_cases hh : h < 0
              · have HX2 : RowKit.Hid (hx ((bl s).take (pos + 1)) [] (-1) = some (acc, d)) := Lib.hid (by
                  rw [HTA.out, hx_append _ _ _ _ _ _ HX.out]
                  simp only [hx]
                  rw [if_neg (by rw [HD.out]; exact hd0), if_pos hh, HD.out])
                have HRW := Lib.hid hrow2
                clear hrow2
                go_wp2_with (go_at_call 50; refine HIR.out.mono ?_; rintro e w' ⟨rfl, hw⟩; rw [hw]; clear hw)
                go_roundw
                case rel => exact ⟨pos + 1, acc, d, by omega, HX2, rfl, HRW.out, hit2, hb2, by omega⟩
                case measure => simp only [World.iterPos, hit2, HIT.out]; omega
              · have hor : bits BinOp.or IntKind.i64 (h * 16) d = h * 16 + d := or_hi 4 (h * 16) d (by omega) (by omega) (by omega) (by omega) (by omega) (by omega)
                have hmod : (h * 16 + d) % 256 = h * 16 + d := by omega
                have HX2 : RowKit.Hid (hx ((bl s).take (pos + 1)) [] (-1) = some (acc ++ [h * 16 + d], -1)) := Lib.hid (by
                  rw [HTA.out, hx_append _ _ _ _ _ _ HX.out]
                  simp only [hx]
                  rw [if_neg (by rw [HD.out]; exact hd0), if_neg hh, HD.out])
                obtain ⟨y, hy⟩ : ∃ y, h * 16 + d = y := ⟨_, rfl⟩
                rw [hy] at hor hmod HX2
                have hal2 : acc.length + 1 ≤ 140737488355328 := by omega
                go_wp2_with (first
                  | (go_at_call 50; refine HIR.out.mono ?_; rintro e w' ⟨rfl, hw⟩; rw [hw]; clear hw)
                  | (at_builtin; refine wpList_append_own _ rfl _ _ 41 rfl (w.heap.size + 1) 5 i0 (.int .u8 0) 1 1 Tryd.underlying41 hi hz0 hz1 hz2 rfl (by decide) _ _ _ rfl (hrow2.alloc _) ⟨W2.heap.size, 0, none⟩ 1 1 [.int .u8 y] rfl rfl (cell_one_new _ _ _) (by intro u hu; simp at hu; subst hu; rfl) (by unfold maxLen; omega) (by omega) (by simp; omega) ?_))
                intro v' w3 hown' hgrow _
                obtain ⟨g', cap', rfl⟩ := ownsRow_succ hown'
                have hob2 := own_base hrow2
                have hbg := (hb2.alloc (by omega) (.cells #[.int .u8 y] 5 (0, 0))).grown hgrow (by simp; omega) (fun k hk => by have := hob2 k hk; omega)
                have hit3 : w3.heap[w.heap.size]? = some (.stringIter s (pos + 1)) := by
                  rw [hgrow.block _ (by simp; omega) (fun e => by have := hob2 _ e.symm; omega)]
                  exact ag_old hit2
                have hsz3 := hgrow.size
                have HOW := Lib.hid hown'
                clear hown' hgrow hrow2 hy
                go_wp2_with fail
                go_roundw
                case rel => exact ⟨pos + 1, acc ++ [y], -1, by omega, HX2, rfl, by rw [List.length_append, nums_append]; exact HOW.out, hit3, hbg, by simp at hsz3; omega⟩
                case measure => simp only [World.iterPos, hit3, HIT.out]; omega
          · have u1 : (65 : Int) ≤ c := by omega
            have u2' : ¬ (c : Int) ≤ 70 := by omega
            clear hup
            by_cases hd0 : d < 0
            · have hRn : R = none := by
                rw [← HR.out, HSP.out]
                unfold unhR
                rw [hx_none _ _ _ (by rw [HD.out]; exact hd0)]
              clear hrow2
              go_wp2_with (go_at_call 50; refine HIR.out.mono ?_; rintro e w' ⟨rfl, hw⟩; rw [hw]; clear hw)
              refine bodyPost_ret (v := .tuple #[.string ⟨#[]⟩, werr pos]) (by simp [results, Tryd.results74, go_sem]) rfl ⟨⟨pos, by first | rfl | (rw [hRn]; rfl)⟩, hb2⟩
            · have hd16 : d < 16 := by rw [← HD.out]; exact dv_lt _
              by_cases hh : h < 0
              · have HX2 : RowKit.Hid (hx ((bl s).take (pos + 1)) [] (-1) = some (acc, d)) := Lib.hid (by
                  rw [HTA.out, hx_append _ _ _ _ _ _ HX.out]
                  simp only [hx]
                  rw [if_neg (by rw [HD.out]; exact hd0), if_pos hh, HD.out])
                have HRW := Lib.hid hrow2
                clear hrow2
                go_wp2_with (go_at_call 50; refine HIR.out.mono ?_; rintro e w' ⟨rfl, hw⟩; rw [hw]; clear hw)
                go_roundw
                case rel => exact ⟨pos + 1, acc, d, by omega, HX2, rfl, HRW.out, hit2, hb2, by omega⟩
                case measure => simp only [World.iterPos, hit2, HIT.out]; omega
              · have hor : bits BinOp.or IntKind.i64 (h * 16) d = h * 16 + d := or_hi 4 (h * 16) d (by omega) (by omega) (by omega) (by omega) (by omega) (by omega)
                have hmod : (h * 16 + d) % 256 = h * 16 + d := by omega
                have HX2 : RowKit.Hid (hx ((bl s).take (pos + 1)) [] (-1) = some (acc ++ [h * 16 + d], -1)) := Lib.hid (by
                  rw [HTA.out, hx_append _ _ _ _ _ _ HX.out]
                  simp only [hx]
                  rw [if_neg (by rw [HD.out]; exact hd0), if_neg hh, HD.out])
                obtain ⟨y, hy⟩ : ∃ y, h * 16 + d = y := ⟨_, rfl⟩
                rw [hy] at hor hmod HX2
                have hal2 : acc.length + 1 ≤ 140737488355328 := by omega
                go_wp2_with (first
                  | (go_at_call 50; refine HIR.out.mono ?_; rintro e w' ⟨rfl, hw⟩; rw [hw]; clear hw)
                  | (at_builtin; refine wpList_append_own _ rfl _ _ 41 rfl (w.heap.size + 1) 5 i0 (.int .u8 0) 1 1 Tryd.underlying41 hi hz0 hz1 hz2 rfl (by decide) _ _ _ rfl (hrow2.alloc _) ⟨W2.heap.size, 0, none⟩ 1 1 [.int .u8 y] rfl rfl (cell_one_new _ _ _) (by intro u hu; simp at hu; subst hu; rfl) (by unfold maxLen; omega) (by omega) (by simp; omega) ?_))
                intro v' w3 hown' hgrow _
                obtain ⟨g', cap', rfl⟩ := ownsRow_succ hown'
                have hob2 := own_base hrow2
                have hbg := (hb2.alloc (by omega) (.cells #[.int .u8 y] 5 (0, 0))).grown hgrow (by simp; omega) (fun k hk => by have := hob2 k hk; omega)
                have hit3 : w3.heap[w.heap.size]? = some (.stringIter s (pos + 1)) := by
                  rw [hgrow.block _ (by simp; omega) (fun e => by have := hob2 _ e.symm; omega)]
                  exact ag_old hit2
                have hsz3 := hgrow.size
                have HOW := Lib.hid hown'
                clear hown' hgrow hrow2 hy
                go_wp2_with fail
                go_roundw
                case rel => exact ⟨pos + 1, acc ++ [y], -1, by omega, HX2, rfl, by rw [List.length_append, nums_append]; exact HOW.out, hit3, hbg, by simp at hsz3; omega⟩
                case measure => simp only [World.iterPos, hit3, HIT.out]; omega
      · have hnh := decode_high s pos hlt (by omega)
        have hvr := decode_ok s pos
        obtain ⟨⟨c, n⟩, hcn⟩ : ∃ q, Utf8.decode s pos = q := ⟨_, rfl⟩
        rw [hcn] at hnh hnx0 hvr
        simp only at hnh hnx0 hvr
        obtain ⟨W2, hW2⟩ : ∃ W2, wr.iterAt w.heap.size s (pos + n) = W2 := ⟨_, rfl⟩
        have hnx : ∀ ty, (Instr.next (.pointer (some ⟨w.heap.size, 0, none⟩)) true ty).run Tryd.prog wr = .ok (.tuple #[.bool true, .int .i64 pos, .int .i32 c]) W2 := fun ty => by rw [hnx0]; simp only [hW2]
        have cW : Chg (fun j => j = w.heap.size) wr W2 := by rw [← hW2]; exact iterAt_chg1 wr _ s _ rfl
        have hb2 : Below w.heap.size w W2 := Below.chg hb (cW.mono (T := fun k => w.heap.size ≤ k) (fun k hk => by omega)) (by omega) (fun k hk => hk)
        have HIR : RowKit.Hid (Calls Tryd.prog 50 #[.string ⟨#[48, 49, 50, 51, 52, 53, 54, 55, 56, 57, 97, 98, 99, 100, 101, 102]⟩, .int .i32 c] W2 fun e w' => e = .returned (.int .i64 (-1)) ∧ Below W2.heap.size W2 w') :=
          Lib.hid (Idx.high DG (by decide) (by decide) DG_ascii c (by omega) hvr W2)
        have hRn : R = none := by
          rw [← HR.out, hspl]
          unfold unhR
          rw [hx_none _ _ _ (dv_high _ (by omega))]
        have u1 : (65 : Int) ≤ c := by omega
        have u2' : ¬ (c : Int) ≤ 70 := by omega
        clear hW2 hnx0 hcn hit hspl hxj cW hrow hob hvr
        go_wp2_with (go_at_call 50; refine HIR.out.mono ?_; rintro e w3 ⟨rfl, hb3⟩)
        refine bodyPost_ret (v := .tuple #[.string ⟨#[]⟩, werr pos]) (by simp [results, Tryd.results74, go_sem]) rfl ⟨⟨pos, by first | rfl | (rw [hRn]; rfl)⟩, bl_trans hb2 hb3⟩
    · have hnx : ∀ ty, (Instr.next (.pointer (some ⟨w.heap.size, 0, none⟩)) true ty).run Tryd.prog wr = _ := fun ty => Lib.run_next_end_at wr w.heap.size s pos ty hit hlt
      obtain rfl : pos = s.size := by omega
      have hfull : (bl s).take s.size = bl s := List.take_of_length_le (by rw [bl_len]; omega)
      rw [hfull] at HX
      clear hit hfull
      by_cases hh : 0 ≤ h
      · have hRn : R = none := by rw [← HR.out]; unfold unhR; rw [HX.out]; simp [hh]
        clear hrow
        go_wp2_with fail
        refine bodyPost_ret (v := .tuple #[.string ⟨#[]⟩, werr s.size]) (by simp [results, Tryd.results74, go_sem]) rfl ⟨⟨s.size, by first | rfl | (rw [hRn]; rfl)⟩, hb⟩
      · have hRn : R = some acc := by rw [← HR.out]; unfold unhR; rw [HX.out]; simp [hh]
        obtain ⟨A', c', rfl, hrd⟩ := own_reads hrow
        have hst := string_of_reads (P := Tryd.prog) (w := wr) (src := 41) (dst := 9) (c := c') Tryd.underlying41 Tryd.underlying5 Tryd.underlying9 hrd
        clear hrow hrd
        go_wp2_with fail
        refine bodyPost_ret (v := .tuple #[.string (strOfNums acc), .nilIface]) (by simp [results, Tryd.results74, go_sem]) rfl ⟨⟨0, by first | rfl | (rw [hRn]; rfl)⟩, hb⟩
set_option maxHeartbeats 2000000 in
theorem Unhex_c (s : ByteArray) (hs : s.size ≤ 4611686018427) (a0 : Addr) (w : World) (h : GA a0 w) :
    Calls Tryd.prog 66 #[.string s] w fun e w' => e = .returned (.tuple #[.string (ubT (unhexL (bl s))), .int .i64 (ubN (unhexL (bl s)))]) ∧ Below w.heap.size w w' := by
  have HU := Lib.hid (unhex_c s hs w)
  rw [unhR_eq] at HU
  obtain ⟨o, ho⟩ : ∃ o, unhexL (bl s) = o := ⟨_, rfl⟩
  rw [ho] at HU ⊢
  have HG := Lib.hid h
  clear ho h
  go_enter Tryd.func66, Tryd.ntmps66
  go_wp2_with (go_at_call 74; refine HU.out.mono ?_)
  rintro e w1 ⟨⟨n, rfl⟩, hb⟩
  cases o with
  | none =>
    have HT := Lib.hid (told_bad n a0 w1 (HG.out.below hb))
    simp only [ugS, ugE]
    go_wp2_with (go_at_call 75; refine HT.out.mono ?_)
    rintro e w2 ⟨rfl, hb2⟩
    go_wp2_with fail
    go_ret2
    exact ⟨rfl, bl_trans hb hb2⟩
  | some l =>
    have HT := Lib.hid (told_nil a0 w1 (HG.out.below hb))
    simp only [ugS, ugE]
    go_wp2_with (go_at_call 75; refine HT.out.mono ?_)
    rintro e w2 ⟨rfl, hb2⟩
    go_wp2_with fail
    go_ret2
    exact ⟨rfl, bl_trans hb hb2⟩
end Code
end Go.Proofs.YtbpcoieemkojjaaDoor
