/- TFoldReturns2: own texts of this seat, laid as one. -/
import Derived.Test.YtjnfoocmilbdlaaGreatDoorTFoldReturns1
/- fold's unfold. -/
namespace Go.Proofs.YtjnfoocmilbdlaaGreatDoor
set_option linter.unusedSimpArgs false
set_option linter.unusedVariables false
namespace Fold
open Go.RowKit Go.Shelf Go.Proofs.YtjnfoocmilbdlaaGreatDoorW.PrintWords Go.Proofs.YtjnfoocmilbdlaaGreatDoor.PureB
open Go.Proofs.YtjnfoocmilbdlaaGreatDoor.Code (bl bl_len bl_get bl_byte Byt son_bl bl_son bl_extract bl_append)
attribute [local go_sem] Oper.semAt_some
theorem below_chgU {w A B : World} {U : Nat → Prop} (h : Below w.heap.size w A) (hs : w.heap.size ≤ A.heap.size) (hc : Chg (fun j => ¬ U j ∧ ¬ j < w.heap.size) A B) : Below w.heap.size w B :=
  Below.chg h hc hs (fun _ hk => Nat.le_of_not_lt hk.2)
theorem box_not_own {A : World} {b base : Nat} {t : TypeId} {x v : Value} {ls : List (List Int)} (h : Boxed A b t x) (ht : t ≠ 9) (ho : rowOf base v ls A) : v.ownBlock ≠ some b := fun e => by
  obtain ⟨cs, hc⟩ := own_typed ho b e
  have h' : A.heap[b]? = _ := h
  rw [h'] at hc
  injection hc with hc
  injection hc with _ h2 _
  exact ht h2
/-- What stands in a round of unfold. -/
structure UI (w : World) (n0 g B : Nat) (rs : List (List Int)) (k : Nat) (U : Nat → Prop) (A : World) (v : Value) (ls : List (List Int)) (op : Bool) : Prop where
  st : uAll (rs.take k) [] false = some (ls, op)
  uf : ufRow g v op A
  row : rowOf w.heap.size v ls A
  b0 : Boxed A n0 27 (.slice none 0 0)
  b1 : Boxed A (n0 + 1) 40 .nilIface
  bp : Boxed A (g + 1) 75 (.pointer (some ⟨g, 0, none⟩))
  uo : ∀ r, v.ownBlock = some r → U r
  ul : ∀ j, n0 ≤ j → j < B → U j
  be : Below w.heap.size w A
  sz : w.heap.size ≤ A.heap.size
def UIe (w : World) (n0 g B : Nat) (rs : List (List Int)) (k : Nat) (U : Nat → Prop) (A : World) : Prop := ∃ v ls op, UI w n0 g B rs k U A v ls op
def UX (w : World) (n0 B : Nat) (a1 : Addr) (o : Option (List (List Int))) (c : Code) (U : Nat → Prop) (A : World) : Prop :=
  c = .ret ∧ o = none ∧ ∃ n, Boxed A n0 27 (.slice none 0 0) ∧ Boxed A (n0 + 1) 40 (werr n a1) ∧ (∀ j, n0 ≤ j → j < B → U j) ∧ Below w.heap.size w A ∧ w.heap.size ≤ A.heap.size
theorem UI.chg {w : World} {n0 g B : Nat} {rs : List (List Int)} {k : Nat} {U : Nat → Prop} {A A' : World} {v : Value} {ls : List (List Int)} {op : Bool} (h : UI w n0 g B rs k U A v ls op) (hg : n0 ≤ g) (hgB : g + 1 < B)
    (hc : Chg (fun j => ¬ U j ∧ ¬ j < w.heap.size) A A') : UI w n0 g B rs k U A' v ls op where
  st := h.st
  uf := hc.heap h.uf (fun q => q.1 (h.ul _ hg (by omega)))
  row := own_move h.row (fun r hr => hc.block r (own_lt h.row r hr) (fun q => q.1 (h.uo r hr)))
  b0 := hc.heap h.b0 (fun q => q.1 (h.ul _ (Nat.le_refl _) (by omega)))
  b1 := hc.heap h.b1 (fun q => q.1 (h.ul _ (by omega) (by omega)))
  bp := hc.heap h.bp (fun q => q.1 (h.ul _ (by omega) (by omega)))
  uo := h.uo
  ul := h.ul
  be := below_chgU h.be h.sz hc
  sz := Nat.le_trans h.sz hc.size
theorem note_c (l : List Int) (hl : Byt l) (b : Bool) (hb : noteB l = b) (W : World) : Calls Tryz.prog 50 #[.string (strOfNums l), .string ⟨#[35]⟩] W fun e w' => e = .returned (.bool b) ∧ w' = W := by
  have h1 : Lib.hasPrefix (strOfNums l).data.toList [35] = b := by
    rw [pre_bl, bl_son l hl, ← hb]
    unfold noteB
    cases l with
    | nil => rfl
    | cons c t => rfl
  subst h1
  exact Tryz.strings_HasPrefix (strOfNums l) ⟨#[35]⟩ W
theorem ownsRow_down {w : World} {base base' : Nat} {e : TypeId} {size : Nat} {v : Value} {n : Nat} {xs : List Value} (h : w.ownsRow base e size v n xs) (hb : base' ≤ base) : w.ownsRow base' e size v n xs := by
  obtain ⟨h1, h2⟩ := h
  refine ⟨h1, ?_⟩
  rcases h2 with h2 | ⟨g, cap, cur, rfl, hg, r⟩
  · exact .inl h2
  · exact .inr ⟨g, cap, cur, rfl, Nat.le_trans hb hg, r⟩
/-- How unfold ends. -/
def UnE (o : Option (List (List Int))) (large : Bool) (a0 a1 : Addr) (w : World) (e : Ending) (w' : World) : Prop :=
  (if large then e = .returned (.tuple #[.slice none 0 0, werr 0 a0]) else match o with
    | none => ∃ n, e = .returned (.tuple #[.slice none 0 0, werr n a1])
    | some L => ∃ v, e = .returned (.tuple #[v, .nilIface]) ∧ rowOf w.heap.size v L w') ∧ Below w.heap.size w w'
theorem UnE.lg {o : Option (List (List Int))} {a0 a1 : Addr} {w w' : World} {e : Ending} (he : e = .returned (.tuple #[.slice none 0 0, werr 0 a0])) (hb : Below w.heap.size w w') : UnE o true a0 a1 w e w' := ⟨he, hb⟩
theorem UnE.no {o : Option (List (List Int))} {a0 a1 : Addr} {w w' : World} {e : Ending} (h : o = none) (n : Int) (he : e = .returned (.tuple #[.slice none 0 0, werr n a1])) (hb : Below w.heap.size w w') : UnE o false a0 a1 w e w' := by subst h; exact ⟨⟨n, he⟩, hb⟩
theorem UnE.ok {o : Option (List (List Int))} {L : List (List Int)} {a0 a1 : Addr} {w w' : World} {e : Ending} (h : o = some L) (v : Value) (he : e = .returned (.tuple #[v, .nilIface])) (hr : rowOf w.heap.size v L w') (hb : Below w.heap.size w w') : UnE o false a0 a1 w e w' := by subst h; exact ⟨⟨v, he, hr⟩, hb⟩
set_option maxRecDepth 100000 in
set_option maxHeartbeats 4000000 in
theorem unfold_large (s : ByteArray) (hs : 8000 < s.size ∧ s.size ≤ 100000) (a0 a1 a2 a3 : Addr) (M : Int) (w : World) (hG : GA a0 a1 a2 a3 w) (hM : w.cell? ⟨6, 0, none⟩ = some (.int .i64 M)) :
    Calls Tryz.prog 31 #[.string s] w fun e w' => UnE (unfO (bl s)) true a0 a1 w e w' := by
  obtain ⟨W0, hW0⟩ : ∃ W0, (w.alloc (.cells #[.slice none 0 0] 27)).alloc (.cells #[.nilIface] 40) = W0 := ⟨_, rfl⟩
  have hB0 : Below w.heap.size w W0 := by rw [← hW0]; exact bl_alloc (bl_alloc (Below.refl _ _) _) _
  have hS0 : W0.heap.size = w.heap.size + 2 := by rw [← hW0]; simp
  have k0 : W0.heap[w.heap.size]? = some (.cells #[.slice none 0 0] 27 (0, 0)) := by rw [← hW0]; repeat (first | exact ag_new _ _ _ (by simp) | refine ag_old ?_)
  have k1 : W0.heap[w.heap.size + 1]? = some (.cells #[.nilIface] 40 (0, 0)) := by rw [← hW0]; repeat (first | exact ag_new _ _ _ (by simp) | refine ag_old ?_)
  have hG0 := hG.below hB0
  have g0 := hG0.g0
  have hdc : decide ((8000 : Int) < s.size) = true := decide_eq_true (by omega)
  have HFI := Lib.hid (first1_true 0 a0 W0.heap.size (W0.alloc (.cells #[.bool true, ese a0] 43)) (World.alloc_heap_new W0 _))
  have HG := Lib.hid hG
  have HM := Lib.hid hM
  have HB0 := Lib.hid hB0
  have HS0 := Lib.hid hS0
  have K0 := Lib.hid k0
  have K1 := Lib.hid k1
  clear hG hM hB0 hG0 hS0 k0 k1
  refine (callsIn_wide (n := 9)).1 ?_
  refine callsIn_of_wp_marks Tryz.func31 rfl trivial ?_ rfl
  simp only [Tryz.ntmps31, List.size_toArray, List.length_cons, List.length_nil, Nat.reduceAdd, Nat.reduceSub, Array.replicate_succ, Array.replicate_zero, List.push_toArray, List.append_toArray, List.nil_append, List.cons_append]
  gi_wp2_with fail
  refine ⟨trivial, (callsIn_wide.2 HFI.out).mono ?_⟩
  rintro e w1 ⟨rfl, hb1⟩
  have q0 : w1.heap[w.heap.size]? = some (.cells #[.slice none 0 0] 27 (0, 0)) := (Chg.of_below (S := fun _ => False) hb1).heap (ag_old K0.out) (fun h => h)
  have q1 : w1.heap[w.heap.size + 1]? = some (.cells #[.nilIface] 40 (0, 0)) := (Chg.of_below (S := fun _ => False) hb1).heap (ag_old K1.out) (fun h => h)
  have c0 := (show Boxed w1 w.heap.size _ _ from q0).cell
  have c1 := (show Boxed w1 (w.heap.size + 1) _ _ from q1).cell
  have f0 := (show Boxed w1 w.heap.size _ _ from q0).frozen
  have f1 := (show Boxed w1 (w.heap.size + 1) _ _ from q1).frozen
  have hbw1 : Below w.heap.size w w1 := (bl_alloc HB0.out _).trans (hb1.mono (by have := HS0.out; simp; omega))
  have hsz1 : w.heap.size + 3 ≤ w1.heap.size := by have := hb1.size; have := HS0.out; simp at *; omega
  have HBW1 := Lib.hid hbw1
  have HSZ1 := Lib.hid hsz1
  clear hb1 hbw1 hsz1
  gi_wp2_with fail
  have g0 : Boxed (w1.setCell ⟨w.heap.size, 0, none⟩ (.slice none 0 0)) w.heap.size 27 (.slice none 0 0) := Boxed.set (v := .slice none 0 0) _ q0
  have g1 : Boxed (w1.setCell ⟨w.heap.size, 0, none⟩ (.slice none 0 0)) (w.heap.size + 1) 40 .nilIface := (Below.heap_setCell _ _ _ _ (by simp)).trans q1
  have g2 := Boxed.set (v := .nilIface) (werr 0 a0) g1
  have g3 : Boxed ((w1.setCell ⟨w.heap.size, 0, none⟩ (.slice none 0 0)).setCell ⟨w.heap.size + 1, 0, none⟩ (werr 0 a0)) w.heap.size 27 (.slice none 0 0) := (Below.heap_setCell _ _ _ _ (by simp)).trans g0
  have hc : Chg (fun j => j = w.heap.size ∨ j = w.heap.size + 1) w1 ((w1.setCell ⟨w.heap.size, 0, none⟩ (.slice none 0 0)).setCell ⟨w.heap.size + 1, 0, none⟩ (werr 0 a0)) := ((Chg.refl _ _).setCell (.inl rfl) _).setCell (.inr rfl) _
  exact ⟨_, results_cell2 rfl _ _ rfl rfl Tryz.underlying27 Tryz.underlying40 rfl rfl g3.cell g2.cell, UnE.lg rfl (Below.chg HBW1.out hc (by have := HSZ1.out; omega) (by rintro j (h | h) <;> omega))⟩
set_option maxRecDepth 100000 in
set_option maxHeartbeats 4000000 in
theorem unfold_main (s : ByteArray) (hs : s.size ≤ 8000) (a0 a1 a2 a3 : Addr) (M : Int) (w : World) (hG : GA a0 a1 a2 a3 w) (hM : w.cell? ⟨6, 0, none⟩ = some (.int .i64 M)) :
    Calls Tryz.prog 31 #[.string s] w fun e w' => UnE (unfO (bl s)) false a0 a1 w e w' := by
  obtain ⟨W0, hW0⟩ : ∃ W0, (w.alloc (.cells #[.slice none 0 0] 27)).alloc (.cells #[.nilIface] 40) = W0 := ⟨_, rfl⟩
  have hB0 : Below w.heap.size w W0 := by rw [← hW0]; exact bl_alloc (bl_alloc (Below.refl _ _) _) _
  have hS0 : W0.heap.size = w.heap.size + 2 := by rw [← hW0]; simp
  have k0 : W0.heap[w.heap.size]? = some (.cells #[.slice none 0 0] 27 (0, 0)) := by rw [← hW0]; repeat (first | exact ag_new _ _ _ (by simp) | refine ag_old ?_)
  have k1 : W0.heap[w.heap.size + 1]? = some (.cells #[.nilIface] 40 (0, 0)) := by rw [← hW0]; repeat (first | exact ag_new _ _ _ (by simp) | refine ag_old ?_)
  have hG0 := hG.below hB0
  have g0 := hG0.g0
  have hdc : decide ((8000 : Int) < s.size) = false := decide_eq_false (by omega)
  have HFI := Lib.hid (first1_false 0 a0 W0.heap.size (W0.alloc (.cells #[.bool false, ese a0] 43)) (World.alloc_heap_new W0 _))
  have HG := Lib.hid hG
  have HM := Lib.hid hM
  have HB0 := Lib.hid hB0
  have HS0 := Lib.hid hS0
  have K0 := Lib.hid k0
  have K1 := Lib.hid k1
  clear hG hM hB0 hG0 hS0 k0 k1
  refine (callsIn_wide (n := 9)).1 ?_
  refine callsIn_of_wp_marks Tryz.func31 rfl trivial ?_ rfl
  simp only [Tryz.ntmps31, List.size_toArray, List.length_cons, List.length_nil, Nat.reduceAdd, Nat.reduceSub, Array.replicate_succ, Array.replicate_zero, List.push_toArray, List.append_toArray, List.nil_append, List.cons_append]
  gi_wp2_with fail
  refine ⟨trivial, (callsIn_wide.2 HFI.out).mono ?_⟩
  rintro e w1 ⟨rfl, hb1⟩
  have q0 : w1.heap[w.heap.size]? = some (.cells #[.slice none 0 0] 27 (0, 0)) := (Chg.of_below (S := fun _ => False) hb1).heap (ag_old K0.out) (fun h => h)
  have q1 : w1.heap[w.heap.size + 1]? = some (.cells #[.nilIface] 40 (0, 0)) := (Chg.of_below (S := fun _ => False) hb1).heap (ag_old K1.out) (fun h => h)
  have c0 := (show Boxed w1 w.heap.size _ _ from q0).cell
  have c1 := (show Boxed w1 (w.heap.size + 1) _ _ from q1).cell
  have f0 := (show Boxed w1 w.heap.size _ _ from q0).frozen
  have f1 := (show Boxed w1 (w.heap.size + 1) _ _ from q1).frozen
  have hbw1 : Below w.heap.size w w1 := (bl_alloc HB0.out _).trans (hb1.mono (by have := HS0.out; simp; omega))
  have hsz1 : w.heap.size + 3 ≤ w1.heap.size := by have := hb1.size; have := HS0.out; simp at *; omega
  have HBW1 := Lib.hid hbw1
  have HSZ1 := Lib.hid hsz1
  clear hb1 hbw1 hsz1
  gi_wp2_with fail
  refine ⟨trivial, (callsIn_wide.2 (rows_any s _)).mono ?_⟩
  rintro e w2 ⟨rfl, rfl⟩
  gi_wp2_with fail
  obtain ⟨W, hW⟩ : ∃ W, (((w1.alloc (.cells #[.slice none 0 0, .bool false] 79)).alloc (.cells #[.pointer (some ⟨w1.heap.size, 0, none⟩)] 75)).alloc (.cells #[.string s] 9)) = W := ⟨_, rfl⟩
  have hsz : W.heap.size = w1.heap.size + 3 := by rw [← hW]; simp
  have k2 : W.heap[w1.heap.size]? = some (.cells #[.slice none 0 0, .bool false] 79 (0, 0)) := by rw [← hW]; repeat (first | exact ag_new _ _ _ (by simp) | refine ag_old ?_)
  have k3 : W.heap[w1.heap.size + 1]? = some (.cells #[.pointer (some ⟨w1.heap.size, 0, none⟩)] 75 (0, 0)) := by rw [← hW]; repeat (first | exact ag_new _ _ _ (by simp) | refine ag_old ?_)
  have k4 : W.heap[w1.heap.size + 2]? = some (.cells #[.string s] 9 (0, 0)) := by rw [← hW]; repeat (first | exact ag_new _ _ _ (by simp) | refine ag_old ?_)
  have hbW : Below w.heap.size w W := by rw [← hW]; exact bl_alloc (bl_alloc (bl_alloc HBW1.out _) _) _
  have q2 : W.heap[w.heap.size]? = some (.cells #[.slice none 0 0] 27 (0, 0)) := by rw [← hW]; exact ag_old (ag_old (ag_old q0))
  have q3 : W.heap[w.heap.size + 1]? = some (.cells #[.nilIface] 40 (0, 0)) := by rw [← hW]; exact ag_old (ag_old (ag_old q1))
  have hsz1 := HSZ1.out
  simp only [hW]
  clear hW q0 q1 c0 c1 f0 f1 HSZ1 HBW1 HFI hdc g0 K0 K1 HB0 HS0
  generalize w1.heap.size = g at hsz k2 k3 k4 hsz1 ⊢
  obtain ⟨rs, hrs⟩ : ∃ rs, rowsL (s.size + 1) (bl s) = rs := ⟨_, rfl⟩
  have hMl := lt_of_cell HM.out
  have hit := rows_it (9 - 1) (by decide) s (by omega) (g + 2) M (fun j => j < w.heap.size) hMl (by omega)
  rw [hrs] at hit
  have HIT := Lib.hid hit
  have hrl := rowsL_len (s.size + 1) (bl s)
  have hrt := rowsL_tot (s.size + 1) (bl s)
  rw [hrs, bl_len] at hrl hrt
  have HRL := Lib.hid (⟨hrl.1, hrt, fun r hr => ⟨(hrl.2 r hr).1, (hrl.2 r hr).2 (bl_byte s)⟩⟩ : rs.length ≤ s.size ∧ tot rs ≤ s.size ∧ ∀ r ∈ rs, r.length ≤ s.size ∧ Byt r)
  have HRS := Lib.hid hrs
  clear hit hrl hrt hrs
  refine wpIn_range_itD1 rfl (by decide) (gf := 75) (lb := #[.pointer (some ⟨g + 2, 0, none⟩)]) rfl trivial (enters_of Tryz.func75 (by kernel_rfl) rfl)
    HIT.out (fun j hj => by rw [hsz]; omega) (fun j => w.heap.size ≤ j ∧ j < g + 2) (fun j hj => by rw [hsz]; omega)
    (fun W' hc hs2 => ⟨hc.heap k4 (fun h => h), by rw [hsz]; unfold LZ; omega, hc.cell ((hbW.cell (p := ⟨6, 0, none⟩) hMl).trans HM.out) (fun h => h)⟩) (fun _ => rfl)
    (fun k U A => UIe w w.heap.size g (g + 2) rs k U A) (fun c k U A => UX w w.heap.size (g + 2) a1 (unfO (bl s)) c U A)
    ?hI ?hIx (fun _ _ _ _ => trivial) ⟨.slice none 0 0, [], false, rfl, k2, World.ownsRow_nil _ _ _ _, q2, q3, k3, fun r hr => by simp [Value.ownBlock] at hr, fun j h1 h2 => ⟨h1, h2⟩, hbW, by omega⟩
    ?a1 ?assign ?body ?done ?stop
  case assign =>
    intro l x A K hK
    gi_wp2_with fail
    exact hK
  case hI =>
    rintro k U A B ⟨v, ls, op, h⟩ _ hc
    exact ⟨v, ls, op, h.chg (by omega) (by omega) hc⟩
  case hIx =>
    rintro c k U A B ⟨rfl, hn, n, p0, p1, hul, hb, hs3⟩ hc
    exact ⟨rfl, hn, n, hc.heap p0 (fun q => q.1 (hul _ (Nat.le_refl _) (by omega))), hc.heap p1 (fun q => q.1 (hul _ (by omega) (by omega))), hul, below_chgU hb hs3 hc, Nat.le_trans hs3 hc.size⟩
  case body =>
    rintro k x U A _ hx ⟨v, ls, op, hI⟩ hU hs2
    rw [hsz] at hs2
    rw [rowsP_get] at hx
    obtain ⟨r, hr, hxe⟩ := Option.map_eq_some_iff.1 hx
    rw [Nat.zero_add] at hxe
    subst hxe
    obtain ⟨hr1, hr2⟩ := HRL.out.2.2 r (List.mem_of_getElem? hr)
    obtain ⟨z1, z2, z3, z4⟩ := uAll_ok _ _ _ _ (fun h => by cases h) hI.st
    have hkl : (rs.take k).length ≤ s.size := by rw [List.length_take]; have := HRL.out.1; omega
    have htk : tot (rs.take k) ≤ tot rs := by
      have h := tot_app (rs.take k) (rs.drop k)
      rw [List.take_append_drop] at h
      omega
    have ht0 : tot ([] : List (List Int)) = 0 := rfl
    have hlen : ls.length ≤ 100000 := by simp only [List.length_nil] at z1; omega
    have hla : ∀ l ∈ ls, l.length ≤ 800000 := fun l hl => by
      have h1 := le_tot hl
      have h2 := HRL.out.2.1
      simp only at z2
      omega
    have hrow := row_c g w.heap.size v op ls (strOfNums r) k a1 A hI.uf hI.row hlen hla z3 (by rw [son_size]; omega) hI.sz (HG.out.below hI.be).g1
    rw [bl_son r hr2] at hrow
    have hcp := hI.bp.cell
    have HI := Lib.hid hI
    have HX := Lib.hid hr
    cases hst : uStep ls op r with
    | none =>
      rw [hst] at hrow
      have HROW := Lib.hid hrow
      have HN := Lib.hid (uAll_none rs k r ls op hr hI.st hst)
      clear hrow hx hr hI z1 z2 z3 z4 hst hla hlen htk hkl ht0
      gi_wp2_with fail
      refine ⟨trivial, (callsIn_wide.2 HROW.out).mono ?_⟩
      rintro e A1 ⟨⟨n, rfl⟩, hch⟩
      have q0 : Boxed A1 w.heap.size 27 (.slice none 0 0) := hch.heap HI.out.b0 (fun q => q.elim (fun q => by omega) (box_not_own HI.out.b0 (by decide) HI.out.row))
      have q1 : Boxed A1 (w.heap.size + 1) 40 .nilIface := hch.heap HI.out.b1 (fun q => q.elim (fun q => by omega) (box_not_own HI.out.b1 (by decide) HI.out.row))
      have c0 := q0.cell
      have c1 := q1.cell
      have f0 := q0.frozen
      have f1 := q1.frozen
      have HCH := Lib.hid hch
      clear hch
      gi_wp2_with fail
      have g0 : Boxed (A1.setCell ⟨w.heap.size, 0, none⟩ (.slice none 0 0)) w.heap.size 27 (.slice none 0 0) := Boxed.set (v := .slice none 0 0) _ q0
      have g1 : Boxed (A1.setCell ⟨w.heap.size, 0, none⟩ (.slice none 0 0)) (w.heap.size + 1) 40 .nilIface := (Below.heap_setCell _ _ _ _ (by simp)).trans q1
      have g2 := Boxed.set (v := .nilIface) (werr n a1) g1
      have g3 : Boxed ((A1.setCell ⟨w.heap.size, 0, none⟩ (.slice none 0 0)).setCell ⟨w.heap.size + 1, 0, none⟩ (werr n a1)) w.heap.size 27 (.slice none 0 0) := (Below.heap_setCell _ _ _ _ (by simp)).trans g0
      have hc : Chg (fun j => j = w.heap.size ∨ j = w.heap.size + 1) A1 ((A1.setCell ⟨w.heap.size, 0, none⟩ (.slice none 0 0)).setCell ⟨w.heap.size + 1, 0, none⟩ (werr n a1)) := ((Chg.refl _ _).setCell (.inl rfl) _).setCell (.inr rfl) _
      have hcU : Chg U A ((A1.setCell ⟨w.heap.size, 0, none⟩ (.slice none 0 0)).setCell ⟨w.heap.size + 1, 0, none⟩ (werr n a1)) :=
        (HCH.out.mono (fun j hj => hj.elim (fun e => e ▸ HI.out.ul _ (by omega) (by omega)) (HI.out.uo j))).trans (hc.mono (fun j hj => hj.elim (fun e => e ▸ HI.out.ul _ (Nat.le_refl _) (by omega)) (fun e => e ▸ HI.out.ul _ (by omega) (by omega))))
      refine ⟨U, UStep.same (fun j hj => (hU j hj).1) hcU, rfl, ?_, n, g3, g2, HI.out.ul, Below.chg HI.out.be hcU HI.out.sz (fun j hj => Nat.le_of_not_lt (hU j hj).2), Nat.le_trans HI.out.sz hcU.size⟩
      unfold unfO
      rw [bl_len, HRS.out, HN.out]
      rfl
    | some p =>
      obtain ⟨ls', op'⟩ := p
      rw [hst] at hrow
      have HROW := Lib.hid hrow
      have HN := Lib.hid ((uAll_succ rs k r ls op hr hI.st).trans hst)
      clear hrow hx hr hI z1 z2 z3 z4 hst hla hlen htk hkl ht0
      gi_wp2_with fail
      refine ⟨trivial, (callsIn_wide.2 HROW.out).mono ?_⟩
      rintro e A1 ⟨rfl, v', hu1, ho1, ht1⟩
      have HU1 := Lib.hid hu1
      have HO1 := Lib.hid ho1
      have HT1 := Lib.hid ht1
      clear hu1 ho1 ht1
      gi_wp2_with fail
      have hcU : Chg U A A1 := HT1.out.1.mono (fun j hj => hj.elim (fun e => e ▸ HI.out.ul _ (by omega) (by omega)) (HI.out.uo j))
      have nb : ∀ {b t x}, Boxed A b t x → t ≠ 9 → b ≠ g → Boxed A1 b t x := fun h ht hb => HT1.out.1.heap h (fun q => q.elim hb (box_not_own h ht HI.out.row))
      refine ⟨fun j => U j ∨ v'.ownBlock = some j, ⟨fun j hj => ?_, fun j hj => ?_, hcU⟩, v', ls', op', HN.out, HU1.out, HO1.out, nb HI.out.b0 (by decide) (by omega), nb HI.out.b1 (by decide) (by omega), nb HI.out.bp (by decide) (by omega), fun r hr => .inr hr, fun j h1 h2 => .inl (HI.out.ul j h1 h2),
        Below.chg HI.out.be hcU HI.out.sz (fun j hj => Nat.le_of_not_lt (hU j hj).2), Nat.le_trans HI.out.sz hcU.size⟩
      · rcases hj with hj | hj
        · exact .inl hj
        · exact (HT1.out.2 j hj).imp (HI.out.uo j) id
      · rcases hj with hj | hj
        · have := (hU j hj).1; have := hcU.size; omega
        · exact own_lt HO1.out j hj
  case stop =>
    rintro c k U B hkl ⟨rfl, hn, n, p0, p1, hul, hb, hs3⟩ hUB hs2 hK
    rw [hsz] at hK hs2
    have e0 := p0.cell
    have e1 := p1.cell
    have HNN := Lib.hid hn
    clear hn
    gi_wp2_with fail
    refine ⟨by simp, .inl ⟨_, _, rfl, run_takeDeferred (by first | exact hK | (rw [hsz]; exact hK)), ?_⟩⟩
    have hkc : ∀ j, j < g + 3 → (B.putObj (g + 3) (.deferred none)).heap[j]? = B.heap[j]? := fun j hj => World.putObj_heap_other (by omega)
    have e0' := (World.cell?_of_block (w := B) (a := ⟨w.heap.size, 0, none⟩) (hkc w.heap.size (by omega))).trans e0
    have e1' := (World.cell?_of_block (w := B) (a := ⟨w.heap.size + 1, 0, none⟩) (hkc (w.heap.size + 1) (by omega))).trans e1
    exact ⟨_, results_cell2 rfl _ _ rfl rfl Tryz.underlying27 Tryz.underlying40 rfl rfl e0' e1', UnE.no HNN.out n rfl (Below.chg hb ((Chg.refl (fun z => w.heap.size ≤ z) B).putObj (by omega) _) hs3 (fun z hz => hz))⟩
  case done =>
    rintro U B ⟨v, ls, op, hI⟩ _ hUB hs2 hK
    rw [hsz] at hK hs2
    rw [rowsP_len] at hI
    have hst := hI.st
    rw [List.take_length] at hst
    obtain ⟨z1, z2, z3, z4⟩ := uAll_ok _ _ _ _ (fun h => by cases h) hst
    have hby : ∀ l ∈ ls, Byt l := z4 (fun l hl => by cases hl) (fun l hl => (HRL.out.2.2 l hl).2)
    have hlen : ls.length ≤ 100000 := by have := HRL.out.1; simp only [List.length_nil] at z1; omega
    have hUF : unfO (bl s) = some (ls.filter fun x => !noteB x) := by
      unfold unfO
      rw [bl_len, HRS.out, hst]
      rfl
    obtain ⟨A', c', hv⟩ := own_slice hI.row
    subst hv
    obtain ⟨y0, _, y2, _, _⟩ := hI.uf.cells
    have yp := hI.bp.cell
    have HI := Lib.hid hI
    have HUF := Lib.hid hUF
    have HBY := Lib.hid hby
    have HK := Lib.hid hK
    obtain ⟨i0, hi, hz0, hz1, hz2⟩ := info_parts info_str
    have HINF := Lib.hid (⟨hi, hz0, hz1, hz2⟩ : Tryz.prog.info? 9 = some i0 ∧ i0.zero = some (.string ⟨#[]⟩) ∧ i0.size = 1 ∧ i0.bytes = 16)
    clear z1 z2 z3 z4 hst hUF hI hby hK hi hz0 hz1 hz2
    gi_wp2_with fail
    gi_loopw [9, 41] (fun ov iv wr => ∃ j : Nat, iv = .int .i64 j ∧ j ≤ ls.length ∧ rowOf B.heap.size ov ((ls.take j).filter fun x => !noteB x) wr ∧ Below B.heap.size B wr)
      (fun _ iv _ => ls.length - (intOf iv).toNat)
    case atStart => exact ⟨0, rfl, Nat.zero_le _, World.ownsRow_nil _ _ _ _, Below.refl _ _⟩
    case round =>
      obtain ⟨j, rfl, hj, hro, hbw⟩ := hrel
      have HRO := Lib.hid hro
      have HBW := Lib.hid hbw
      have hNs := hbw.size
      by_cases hlt : j < ls.length
      · obtain ⟨r0, cap, hA⟩ : ∃ r0 cap, Value.slice A' ls.length c' = .slice (some ⟨r0, 0, none⟩) ls.length cap := by
          obtain ⟨m, hm⟩ : ∃ m, ls.length = m + 1 := ⟨ls.length - 1, by omega⟩
          have h := HI.out.row
          unfold rowOf at h
          rw [hm] at h ⊢
          exact ownsRow_succ h
        injection hA with hA1 _ hA2
        subst hA1
        subst hA2
        obtain ⟨l, hl⟩ : ∃ l, ls[j]? = some l := ⟨ls[j], List.getElem?_eq_getElem hlt⟩
        have hcell : wr.cell? ⟨r0, j, none⟩ = some (.string (strOfNums l)) := by
          have h1 := World.ownsRow.cells HI.out.row (g := r0) rfl j (.string (strOfNums l)) (by simp [strs, hl])
          have ea : (⟨r0, 0, none⟩ : Addr).add j = ⟨r0, j, none⟩ := by
            by_cases h0 : j = 0
            · simp [Addr.add, h0]
            · simp [Addr.add, h0]
          rw [ea] at h1
          exact (HBW.out.cell (p := ⟨r0, j, none⟩) (lt_of_cell h1)).trans h1
        have hlb := HBY.out l (List.mem_of_getElem? hl)
        have htk : (ls.take (j + 1)).filter (fun x => !noteB x) = (ls.take j).filter (fun x => !noteB x) ++ (if noteB l then [] else [l]) := by
          rw [List.take_add_one, hl, List.filter_append]
          congr 1
          simp only [Option.toList_some, List.filter_cons, List.filter_nil]
          cases noteB l <;> rfl
        have hfl : ((ls.take j).filter fun x => !noteB x).length ≤ 100000 := by
          have := List.length_filter_le (fun x => !noteB x) (ls.take j)
          rw [List.length_take] at this
          omega
        obtain ⟨nb, hnb⟩ : ∃ b, noteB l = b := ⟨_, rfl⟩
        rw [hnb] at htk
        have hpre := note_c l hlb nb hnb
        have HPRE := Lib.hid hpre
        have HTK := Lib.hid htk
        have HFL := Lib.hid hfl
        clear hpre htk hro hbw hl hlb hnb hfl
        gi_wp2_with fail
        refine ⟨trivial, (callsIn_wide.2 (HPRE.out _)).mono ?_⟩
        rintro e w3 ⟨rfl, hw3⟩
        subst w3
        cases nb with
        | true =>
          gi_wp2_with fail
          go_roundw
          case rel => exact ⟨j + 1, by simp, by omega, by rw [HTK.out]; simp only [if_true, List.append_nil]; exact HRO.out, HBW.out⟩
          case measure => simp [intOf]; omega
        | false =>
          gi_wp2_with (gi_at_builtin; refine wpListIn_append_own_at _ rfl _ _ 27 rfl B.heap.size 9 i0 (.string ⟨#[]⟩) 1 16 Tryz.underlying27 HINF.out.1 HINF.out.2.1 HINF.out.2.2.1 HINF.out.2.2.2 rfl (by decide) _ _ _ rfl (show World.ownsRow _ _ _ _ _ _ _ from World.ownsRow.alloc HRO.out _) ⟨wr.heap.size, 0, none⟩ 1 1 [.string (strOfNums l)] rfl rfl (cell_one_new _ _ _) (by simp [Value.oneCell']) (by have := HFL.out; unfold maxLen; omega) (by have := HFL.out; omega) (by simp; omega) ?_)
          intro v' w4 hown' hgrow _ hat
          have HOWN := Lib.hid hown'
          have HGR := Lib.hid hgrow
          clear hat hown' hgrow
          gi_wp2_with fail
          go_roundw
          case rel =>
            refine ⟨j + 1, by simp, by omega, ?_, ?_⟩
            · rw [HTK.out]
              simp only [Bool.false_eq_true, if_false]
              unfold rowOf
              rw [strs_app, List.length_append]
              exact HOWN.out
            · exact (HBW.out.alloc (by omega) _).grown HGR.out (by simp; omega) (fun k hk => (HRO.out.lt k hk).1)
          case measure => simp [intOf]; omega
      · obtain rfl : j = ls.length := by omega
        have hro' := hro
        rw [List.take_length] at hro'
        obtain ⟨A2, c2, hv2⟩ := own_slice hro'
        subst hv2
        have HRO2 := Lib.hid hro'
        have q0 : Boxed wr w.heap.size 27 (.slice none 0 0) := (HBW.out.block _ (by omega)).trans HI.out.b0
        have q1 : Boxed wr (w.heap.size + 1) 40 .nilIface := (HBW.out.block _ (by omega)).trans HI.out.b1
        have c0 := q0.cell
        have c1 := q1.cell
        have f0 := q0.frozen
        have f1 := q1.frozen
        have hK2 : wr.heap[g + 3]? = some (.deferred (some [])) := (HBW.out.block _ (by omega)).trans HK.out
        have HK2 := Lib.hid hK2
        clear hro hro' hbw hK2
        gi_wp2_with fail
        have g0 : Boxed (wr.setCell ⟨w.heap.size, 0, none⟩ (.slice A2 (ls.filter fun x => !noteB x).length c2)) w.heap.size 27 (.slice A2 (ls.filter fun x => !noteB x).length c2) := Boxed.set (v := .slice none 0 0) _ q0
        have g1 : Boxed (wr.setCell ⟨w.heap.size, 0, none⟩ (.slice A2 (ls.filter fun x => !noteB x).length c2)) (w.heap.size + 1) 40 .nilIface := (Below.heap_setCell _ _ _ _ (by simp)).trans q1
        have g2 := Boxed.set (v := .nilIface) .nilIface g1
        have g3 : Boxed ((wr.setCell ⟨w.heap.size, 0, none⟩ (.slice A2 (ls.filter fun x => !noteB x).length c2)).setCell ⟨w.heap.size + 1, 0, none⟩ .nilIface) w.heap.size 27 (.slice A2 (ls.filter fun x => !noteB x).length c2) := (Below.heap_setCell _ _ _ _ (by simp)).trans g0
        have hc : Chg (fun j => j = w.heap.size ∨ j = w.heap.size + 1) wr ((wr.setCell ⟨w.heap.size, 0, none⟩ (.slice A2 (ls.filter fun x => !noteB x).length c2)).setCell ⟨w.heap.size + 1, 0, none⟩ .nilIface) := ((Chg.refl _ _).setCell (.inl rfl) _).setCell (.inr rfl) _
        obtain ⟨W5, hW5⟩ : ∃ W5, (wr.setCell ⟨w.heap.size, 0, none⟩ (.slice A2 (ls.filter fun x => !noteB x).length c2)).setCell ⟨w.heap.size + 1, 0, none⟩ .nilIface = W5 := ⟨_, rfl⟩
        rw [hW5] at g2 g3 hc ⊢
        have hs5 := hc.size
        have hK5 : W5.heap[g + 3]? = some (.deferred (some [])) := hc.heap HK2.out (by rintro (h | h) <;> omega)
        have hkc : ∀ j, j ≠ g + 3 → (W5.putObj (g + 3) (.deferred none)).heap[j]? = W5.heap[j]? := fun j hj => World.putObj_heap_other (by omega)
        have e0' := (World.cell?_of_block (w := W5) (a := ⟨w.heap.size, 0, none⟩) (hkc w.heap.size (by omega))).trans g3.cell
        have e1' := (World.cell?_of_block (w := W5) (a := ⟨w.heap.size + 1, 0, none⟩) (hkc (w.heap.size + 1) (by omega))).trans g2.cell
        have hbB : Below w.heap.size w wr := HI.out.be.trans (HBW.out.mono HI.out.sz)
        refine ⟨by simp, .inl ⟨_, _, rfl, run_takeDeferred hK5, ?_⟩⟩
        refine ⟨_, results_cell2 rfl _ _ rfl rfl Tryz.underlying27 Tryz.underlying40 rfl rfl e0' e1', UnE.ok HUF.out _ rfl ?_ (Below.chg (Below.chg hbB hc (by omega) (by rintro j (h | h) <;> omega)) ((Chg.refl (fun z => w.heap.size ≤ z) W5).putObj (by omega) _) (by omega) (fun z hz => hz))⟩
        have hr5 := own_move (w1 := W5.putObj (g + 3) (.deferred none)) HRO2.out (fun r hr => by
          have h1 := (HRO2.out.lt r hr).1
          have h2 := (HRO2.out.lt r hr).2
          exact (hkc r (by omega)).trans (hc.block r h2 (by rintro (h | h) <;> omega)))
        exact ownsRow_down hr5 (by omega)
end Fold
end Go.Proofs.YtjnfoocmilbdlaaGreatDoor
/- Go's own errors.As and errors.Is at the errors of one package: a struct of one number, that wraps the package's one sentinel. -/
namespace Go.Proofs.YtjnfoocmilbdlaaGreatDoor
set_option linter.unusedSimpArgs false
set_option linter.unusedVariables false
namespace Code
open Go.RowKit Go.Extern.Stop Go.Stop Go.Extern

/-- the error as a value -/
abbrev werr (n : Int) : Value := .iface 148 (.agg #[.int .i64 n])

theorem valueOfPW (t : Addr) (w : World) : (ReflectliteValue.unpack (.iface 149 (.pointer (some t)))).run Tryz.prog w
    = .ok (.agg #[.pointer (some ⟨9, 149, none⟩), .pointer (some ⟨w.heap.size, 0, none⟩), .int .u64 150]) (w.alloc (.cells #[.pointer (some t)] 149)) := by kernel_rfl
theorem typePW (a : Addr) (w : World) : (ReflectliteValue.methodAny (ReflectliteValue.valueError "reflectlite.Value.Type" 0) (fun t _ _ _ => ReflectliteType.toType t) #[.agg #[.pointer (some ⟨9, 149, none⟩), .pointer (some a), .int .u64 150]]).run Tryz.prog w
    = .ok (.iface 129 (.agg #[.pointer (some ⟨9, 149, none⟩)])) w := by kernel_rfl
theorem kindPW (w : World) : ((ReflectliteType.abiMethod fun t => (fun a : Nat => Value.int IntKind.u8 (a : Int)) <$> Rtype.kind t) #[.pointer (some ⟨9, 149, none⟩)]).run Tryz.prog w = .ok (.int .u8 22) w := by kernel_rfl
theorem kindW (w : World) : ((ReflectliteType.abiMethod fun t => (fun a : Nat => Value.int IntKind.u8 (a : Int)) <$> Rtype.kind t) #[.pointer (some ⟨9, 148, none⟩)]).run Tryz.prog w = .ok (.int .u8 25) w := by kernel_rfl
theorem partsPW (a : Addr) (w : World) : (ReflectliteValue.parts (.agg #[.pointer (some ⟨9, 149, none⟩), .pointer (some a), .int .u64 150])).run Tryz.prog w = .ok (some (149, a, 150)) w := by kernel_rfl
theorem isNilPW (a p : Addr) (W : World) (ha : W.cell? a = some (.pointer (some p))) :
    (ReflectliteValue.method (ReflectliteValue.valueError "reflectlite.Value.IsNil" 0) ReflectliteValue.isNil #[.agg #[.pointer (some ⟨9, 149, none⟩), .pointer (some a), .int .u64 150]]).run Tryz.prog W = .ok (.bool false) W := by
  rw [rlm]
  simp only [Sem.run_bind, partsPW, Result.andThen]
  simp [ReflectliteValue.isNil, loadVar, isAgg, underlying, Tryz.underlying149, ha, Result.andThen]
theorem elemPW (w : World) : (ReflectliteType.method ReflectliteType.elem #[.agg #[.pointer (some ⟨9, 149, none⟩)]]).run Tryz.prog w = .ok (.iface 129 (.agg #[.pointer (some ⟨9, 148, none⟩)])) w := by kernel_rfl
theorem implementsW (w : World) : (ReflectliteType.relation "Implements" ReflectliteType.implements_ #[.agg #[.pointer (some ⟨9, 148, none⟩)], .iface 129 (.agg #[.pointer (some ⟨9, 40, none⟩)])]).run Tryz.prog w = .ok (.bool true) w := by kernel_rfl
theorem typeOfW (v : Value) (w : World) : (ReflectliteType.typeOf #[.iface 148 v]).run Tryz.prog w = .ok (.iface 129 (.agg #[.pointer (some ⟨9, 148, none⟩)])) w := by kernel_rfl
theorem assignableW (w : World) : (ReflectliteType.relation "AssignableTo" ReflectliteType.assignableTo #[.agg #[.pointer (some ⟨9, 148, none⟩)], .iface 129 (.agg #[.pointer (some ⟨9, 148, none⟩)])]).run Tryz.prog w = .ok (.bool true) w := by kernel_rfl
theorem valueOfW (n : Int) (w : World) : (ReflectliteValue.unpack (werr n)).run Tryz.prog w
    = .ok (.agg #[.pointer (some ⟨9, 148, none⟩), .pointer (some ⟨w.heap.size, 0, none⟩), .int .u64 153]) (w.alloc (.cells #[.int .i64 n] 148)) := by kernel_rfl
theorem elemOfPW (w : World) : (Rtype.elem? 149).run Tryz.prog w = .ok (some 148) w := by kernel_rfl
theorem mkW (p : Addr) (w : World) : (ReflectliteValue.mk 148 p ReflectliteValue.flagAddr).run Tryz.prog w = .ok (.agg #[.pointer (some ⟨9, 148, none⟩), .pointer (some p), .int .u64 409]) w := by kernel_rfl
theorem elemVPW (a p : Addr) (W : World) (ha : W.cell? a = some (.pointer (some p))) :
    (ReflectliteValue.method (ReflectliteValue.valueError "reflectlite.Value.Elem" 0) ReflectliteValue.elem #[.agg #[.pointer (some ⟨9, 149, none⟩), .pointer (some a), .int .u64 150]]).run Tryz.prog W
      = .ok (.agg #[.pointer (some ⟨9, 148, none⟩), .pointer (some p), .int .u64 409]) W := by
  rw [rlm]
  simp only [Sem.run_bind, partsPW, Result.andThen]
  simp [ReflectliteValue.elem, loadVar, isAgg, underlying, Tryz.underlying149, ha, Result.andThen, elemOfPW, mkW]
theorem partsWa (a : Addr) (w : World) : (ReflectliteValue.parts (.agg #[.pointer (some ⟨9, 148, none⟩), .pointer (some a), .int .u64 409])).run Tryz.prog w = .ok (some (148, a, 409)) w := by kernel_rfl
theorem partsW (a : Addr) (w : World) : (ReflectliteValue.parts (.agg #[.pointer (some ⟨9, 148, none⟩), .pointer (some a), .int .u64 153])).run Tryz.prog w = .ok (some (148, a, 153)) w := by kernel_rfl
theorem directW (w : World) : (Rtype.directlyAssignable 148 148).run Tryz.prog w = .ok true w := by kernel_rfl
theorem sizeW : (Tryz.prog.info? 148).map (·.size) = some 1 := by kernel_rfl
theorem setW (g gb : Nat) (v0 : Value) (old : Array Value) (W : World) (hb : W.heap[gb]? = some (.cells #[v0] 148 (0, 0))) (ht : W.heap[g]? = some (.cells old 148 (0, 0))) (ho : old.size = 1) (h1 : (#[v0] : Array Value).all (·.oneCell') = true) :
    (ReflectliteValue.set #[.agg #[.pointer (some ⟨9, 148, none⟩), .pointer (some ⟨g, 0, none⟩), .int .u64 409], .agg #[.pointer (some ⟨9, 148, none⟩), .pointer (some ⟨gb, 0, none⟩), .int .u64 153]]).run Tryz.prog W
      = .ok (.tuple #[]) (W.setRow g #[v0]) := by
  rw [rls]
  simp only [Sem.run_bind, partsWa, partsW, Result.andThen]
  simp [ReflectliteValue.flagAddr, run_loadVar_row (P := Tryz.prog) W gb 148 148 #[v0] (0, 0) _ hb Tryz.underlying148 rfl sizeW, Result.andThen, directW, run_storeVar_row (P := Tryz.prog) W g 148 148 old #[v0] ht sizeW ho h1]

set_option maxHeartbeats 4000000 in
theorem as_hit (n : Int) (g : Nat) (old : Array Value) (w : World) (hg : w.cell? ⟨4, 0, none⟩ = some (.iface 129 (.agg #[.pointer (some ⟨9, 40, none⟩)])))
    (ht : w.heap[g]? = some (.cells old 148 (0, 0))) (ho : old.size = 1) :
    Calls Tryz.prog 45 #[werr n, .iface 149 (.pointer (some ⟨g, 0, none⟩))] w fun ev w' => ev = .returned (.bool true) ∧ Below g w w' ∧ w'.heap[g]? = some (.cells #[.int .i64 n] 148 (0, 0)) := by
  have h6 := @run_callFunc_extern Tryz.prog 68 _ (fun args => ReflectliteValue.unpack (args.getD 0 (.tuple #[]))) Tryz.func68 (by kernel_rfl) (by kernel_rfl) (by kernel_rfl) (by kernel_rfl)
  have h7 := @run_callFunc_extern Tryz.prog 69 _ (ReflectliteValue.methodAny (ReflectliteValue.valueError "reflectlite.Value.Type" 0) (fun t _ _ _ => ReflectliteType.toType t)) Tryz.func69 (by kernel_rfl) (by kernel_rfl) (by kernel_rfl) (by kernel_rfl)
  have h8 := @run_callFunc_extern Tryz.prog 70 _ (ReflectliteValue.method (ReflectliteValue.valueError "reflectlite.Value.IsNil" 0) ReflectliteValue.isNil) Tryz.func70 (by kernel_rfl) (by kernel_rfl) (by kernel_rfl) (by kernel_rfl)
  have h27 := @run_callFunc_extern Tryz.prog 129 _ (ReflectliteType.abiMethod fun t => do pure (.int .u8 (← Rtype.kind t))) Tryz.func129 (by kernel_rfl) (by kernel_rfl) (by kernel_rfl) (by kernel_rfl)
  have h37 := @run_callFunc_extern Tryz.prog 141 _ (ReflectliteType.method ReflectliteType.elem) Tryz.func141 (by kernel_rfl) (by kernel_rfl) (by kernel_rfl) (by kernel_rfl)
  have h38 := @run_callFunc_extern Tryz.prog 142 _ (ReflectliteType.relation "Implements" ReflectliteType.implements_) Tryz.func142 (by kernel_rfl) (by kernel_rfl) (by kernel_rfl) (by kernel_rfl)
  have h10 := @run_callFunc_extern Tryz.prog 72 _ ReflectliteType.typeOf Tryz.func72 (by kernel_rfl) (by kernel_rfl) (by kernel_rfl) (by kernel_rfl)
  have h35 := @run_callFunc_extern Tryz.prog 139 _ (ReflectliteType.relation "AssignableTo" ReflectliteType.assignableTo) Tryz.func139 (by kernel_rfl) (by kernel_rfl) (by kernel_rfl) (by kernel_rfl)
  have h11 := @run_callFunc_extern Tryz.prog 95 _ (ReflectliteValue.method (ReflectliteValue.valueError "reflectlite.Value.Elem" 0) ReflectliteValue.elem) Tryz.func95 (by kernel_rfl) (by kernel_rfl) (by kernel_rfl) (by kernel_rfl)
  have h12 := @run_callFunc_extern Tryz.prog 96 _ ReflectliteValue.set Tryz.func96 (by kernel_rfl) (by kernel_rfl) (by kernel_rfl) (by kernel_rfl)
  have tO := typeOfW
  have mA := eMethodAssignableTo
  have a25 := assignableW
  have v25 := valueOfW n
  have f6 := valueOfPW
  have f7 := typePW
  have mK := eMethodKind
  have mE := eMethodElem
  have mI := eMethodImplements
  have k27 := kindPW
  have k25 := kindW
  have e27 := elemPW
  have i25 := implementsW
  obtain ⟨W1, hW1⟩ : ∃ W1, (w.alloc (.cells #[.pointer (some ⟨g, 0, none⟩)] 149)).alloc (.cells #[.pointer (some ⟨9, 149, none⟩), .pointer (some ⟨w.heap.size, 0, none⟩), .int .u64 150] 106) = W1 := ⟨_, rfl⟩
  have n8 := isNilPW ⟨w.heap.size, 0, none⟩ ⟨g, 0, none⟩ ((w.alloc (.cells #[.pointer (some ⟨g, 0, none⟩)] 149)).alloc (.cells #[.pointer (some ⟨9, 149, none⟩), .pointer (some ⟨w.heap.size, 0, none⟩), .int .u64 150] 106)) (by simp)
  have hlt : 4 < w.heap.size := by
    rcases Nat.lt_or_ge 4 w.heap.size with h | h
    · exact h
    · simp [World.cell?, Array.getElem?_eq_none h] at hg
  have hg2 : ((w.alloc (.cells #[.pointer (some ⟨g, 0, none⟩)] 149)).alloc (.cells #[.pointer (some ⟨9, 149, none⟩), .pointer (some ⟨w.heap.size, 0, none⟩), .int .u64 150] 106)).cell? ⟨4, 0, none⟩ = some (.iface 129 (.agg #[.pointer (some ⟨9, 40, none⟩)])) := by
    rw [World.cell?_alloc_lt _ _ ⟨4, 0, none⟩ (by simp; omega), World.cell?_alloc_lt _ _ ⟨4, 0, none⟩ hlt]; exact hg
  have htl : g < w.heap.size := (Array.getElem?_eq_some_iff.1 ht).1
  have el := elemVPW ⟨w.heap.size, 0, none⟩ ⟨g, 0, none⟩ (((w.alloc (.cells #[.pointer (some ⟨g, 0, none⟩)] 149)).alloc (.cells #[.pointer (some ⟨9, 149, none⟩), .pointer (some ⟨w.heap.size, 0, none⟩), .int .u64 150] 106)).alloc (.cells #[.pointer (some ⟨9, 149, none⟩), .pointer (some ⟨w.heap.size, 0, none⟩), .int .u64 150] 106)) (by rw [World.cell?_alloc_lt _ _ ⟨w.heap.size, 0, none⟩ (by simp; omega)]; simp)
  obtain ⟨W4, hW4⟩ : ∃ W4, (((w.alloc (.cells #[.pointer (some ⟨g, 0, none⟩)] 149)).alloc (.cells #[.pointer (some ⟨9, 149, none⟩), .pointer (some ⟨w.heap.size, 0, none⟩), .int .u64 150] 106)).alloc (.cells #[.pointer (some ⟨9, 149, none⟩), .pointer (some ⟨w.heap.size, 0, none⟩), .int .u64 150] 106)).alloc (.cells #[.int .i64 n] 148) = W4 := ⟨_, rfl⟩
  have hB4 : Below (g + 1) w W4 := by rw [← hW4]; exact ((((Below.refl _ w).alloc (by omega) _).alloc (by simp; omega) _).alloc (by simp; omega) _).alloc (by simp; omega) _
  have ht4 : W4.heap[g]? = some (.cells old 148 (0, 0)) := (hB4.block g (by omega)).trans ht
  have hb4 : W4.heap[w.heap.size + 1 + 1 + 1]? = some (.cells #[.int .i64 n] 148 (0, 0)) := by
    rw [← hW4]
    show (Array.push _ _)[_]? = _
    rw [Array.getElem?_push, if_pos (by simp)]
  have st := setW g (w.heap.size + 1 + 1 + 1) (.int .i64 n) old W4 hb4 ht4 ho (by simp [Value.oneCell'])
  have HR := setRow_heap (cs := #[.int .i64 n]) ht4
  have HB := setRow_below (g := g) (hB4.mono (Nat.le_succ g)) (Nat.le_refl _) #[.int .i64 n]
  rw [← hW4] at st HR HB
  have HR' : Hid _ := HR
  have HB' : Hid _ := HB
  clear HR HB hW1 ht4 hb4 hB4 hW4 ht ho
  go_enter Tryz.func45, Tryz.ntmps45
  go_wp2
  refine wp_loop_rounds 1 ?_
  rw [rounds_succ]
  go_wp2
  go_ret
  exact ⟨rfl, HB'.out, HR'.out⟩

/-! errors.Is -/
theorem noIsW (v : Value) (xT : TypeId) (w : World) : (Instr.typeAssert (.iface 148 v) xT 141 true).run Tryz.prog w = .ok (.tuple #[.nilIface, .bool false]) w := run_typeAssert_lacksB Tryz.underlying141 (by kernel_rfl) (by kernel_rfl) v xT w
theorem hasUnwrapW (v : Value) (xT : TypeId) (w : World) : (Instr.typeAssert (.iface 148 v) xT 136 true).run Tryz.prog w = .ok (.tuple #[.iface 148 v, .bool true]) w := run_typeAssert_hasB Tryz.underlying136 (by kernel_rfl) v xT w
theorem methodUnwrapW (v : Value) (w : World) : (Go.method 294 148 v "Unwrap").run Tryz.prog w = .ok (150, v) w := by kernel_rfl

/-- errors.Is(wrong{n}, the package's own sentinel): it is. -/
theorem is_same (n : Int) (b : Addr) (w : World) (hg : w.cell? ⟨5, 0, none⟩ = some (.iface 163 (.pointer (some b)))) :
    Calls Tryz.prog 46 #[werr n, .iface 163 (.pointer (some b))] w fun e w' => e = .returned (.bool true) ∧ Below w.heap.size w w' := by
  obtain ⟨i, hi, hcmp⟩ := Option.map_eq_some_iff.1 eComp
  obtain ⟨j, hj, hjs⟩ := Option.map_eq_some_iff.1 eSize
  have h8 := @run_callFunc_extern Tryz.prog 72 _ Extern.ReflectliteType.typeOf Tryz.func72 (by kernel_rfl) (by kernel_rfl) (by kernel_rfl) (by kernel_rfl)
  have h32 := @run_callFunc_extern Tryz.prog 140 _ cmpE Tryz.func140 (by kernel_rfl) (by kernel_rfl) (by kernel_rfl) (by kernel_rfl)
  have tT := eTypeOfES
  have cT := eComparableES
  have mR := eMethodComparable
  have nE := eNoIs
  have uE := eNoUnwrap
  have vE := eNoUnwraps
  have nW := noIsW
  have uW := hasUnwrapW
  have mU := methodUnwrapW
  have hlt := lt_of_cell hg
  simp only at hlt
  have heq := fun w => run_eql_iface_ptr_same (P := Tryz.prog) w b Tryz.underlying40 Tryz.underlying163 hi hcmp hj
  have hty := fun w => run_eql_iface_types (P := Tryz.prog) 148 163 (.agg #[.int .i64 n]) (.pointer (some b)) Tryz.underlying40 (by decide) w
  go_enter Tryz.func46, Tryz.ntmps46
  go_wp2
  refine wp_loop_rounds 2 ?_
  rw [rounds_succ]
  go_wp2
  rw [rounds_succ]
  go_wp2
  go_ret
  exact ⟨rfl, by repeat (first | exact Below.refl _ _ | refine Below.alloc ?_ (by simp) _)⟩
end Code
end Go.Proofs.YtjnfoocmilbdlaaGreatDoor
/- What the package-level variables of one package hold. -/
namespace Go.Proofs.YtjnfoocmilbdlaaGreatDoor
set_option linter.unusedSimpArgs false
set_option linter.unusedVariables false
namespace Code
open Go.RowKit
structure GA (a0 : Addr) (w : World) : Prop where
  et : w.cell? ⟨4, 0, none⟩ = some (.iface 129 (.agg #[.pointer (some ⟨9, 40, none⟩)]))
  g0 : w.cell? ⟨5, 0, none⟩ = some (.iface 163 (.pointer (some a0)))
  h0 : ∃ c t, w.heap[a0.block]? = some (.cells c t (0, 0))
theorem GA.below {a0 : Addr} {w w' : World} (h : GA a0 w) (hb : Below w.heap.size w w') : GA a0 w' where
  et := (hb.cell (lt_of_cell h.et)).trans h.et
  g0 := (hb.cell (lt_of_cell h.g0)).trans h.g0
  h0 := by obtain ⟨c, t, hc⟩ := h.h0; exact ⟨c, t, (hb.block _ (Array.getElem?_eq_some_iff.1 hc).1).trans hc⟩
end Code
end Go.Proofs.YtjnfoocmilbdlaaGreatDoor
/- code's worth. -/
namespace Go.Proofs.YtjnfoocmilbdlaaGreatDoor
set_option linter.unusedSimpArgs false
set_option linter.unusedVariables false
namespace Code
open Go.RowKit Go.Shelf Go.Proofs.YtjnfoocmilbdlaaGreatDoorW.PrintWords
attribute [local go_sem] Oper.semAt_some
/-- the signs lie in block b -/
def Signs (b : Nat) (w : World) : Prop := ∀ j : Nat, j < 64 → w.cell? ⟨b, j, none⟩ = some (.int .u8 (b64 j))
def wV (c : Int) : Value := .tuple #[.int .i64 ((worthL c).getD 0), .bool (worthL c).isSome]
theorem wV_hit (k : Nat) (hk : k < 64) (c : Int) (h : b64 k = c) : wV c = .tuple #[.int .i64 k, .bool true] := by
  have := worth_b64 k (by omega) (by omega)
  rw [h] at this
  simp [wV, this]
theorem wV_no (c : Int) (h : ∀ k : Nat, k < 64 → b64 k ≠ c) : wV c = .tuple #[.int .i64 0, .bool false] := by
  have : worthL c = none := by
    cases e : worthL c with
    | none => rfl
    | some v =>
      obtain ⟨h0, h1, h2⟩ := b64_worth c v e
      exact absurd (by rw [show ((v.toNat : Nat) : Int) = v by omega]; exact h2) (h v.toNat (by omega))
  simp [wV, this]
set_option maxHeartbeats 4000000 in
set_option maxRecDepth 1000000 in
theorem worth_c (b : Nat) (c : Int) (w : World) (h : Signs b w) :
    Calls Tryz.prog 106 #[.pointer (some ⟨b, 0, none⟩), .int .u8 c] w fun e w' => e = .returned (wV c) ∧ Below w.heap.size w w' := by
  have H := Lib.hid h
  clear h
  go_enter Tryz.func106, Tryz.ntmps106
  go_wp2
  go_loopw [9] (fun i wr => ∃ j : Nat, i = .int .i64 j ∧ j ≤ 64 ∧ RowKit.Hid (∀ k : Nat, k < j → b64 k ≠ c) ∧ Below w.heap.size w wr)
    (fun i _ => 64 - (intOf i).toNat)
  case atStart =>
    exact ⟨0, rfl, Nat.zero_le _, Lib.hid (fun k hk => absurd hk (Nat.not_lt_zero _)), Below.refl _ _⟩
  case round =>
    obtain ⟨j, rfl, hj, HV, hb⟩ := hrel
    by_cases hlt : j < 64
    · have hc := (hb.cell (lt_of_cell (H.out j hlt))).trans (H.out j hlt)
      by_cases hq : b64 j = c
      · have HQ := Lib.hid (wV_hit j hlt c hq)
        rw [hq] at hc
        clear hq
        go_wp2_with fail
        all_goals first | go_region | skip
        all_goals go_wp2_with fail
        all_goals refine bodyPost_ret (v := .tuple #[.int .i64 j, .bool true]) (by simp [results, Tryz.results106, go_sem]) rfl ⟨by rw [HQ.out], by repeat (first | exact hb | refine Below.drew ?_)⟩
      · go_wp2_with fail
        all_goals first | go_region | skip
        all_goals go_wp2_with fail
        go_roundw
        case rel => exact ⟨j + 1, by simp, by omega, Lib.hid (fun k hk => by
          rcases Nat.lt_or_ge k j with h1 | h1
          · exact HV.out k h1
          · rw [show k = j by omega]; exact hq), by repeat (first | exact hb | refine Below.drew ?_)⟩
        case measure => simp [intOf]; omega
    · obtain rfl : j = 64 := by omega
      have HQ := Lib.hid (wV_no c HV.out)
      go_wp2_with fail
      refine bodyPost_ret (v := .tuple #[.int .i64 0, .bool false]) (by simp [results, Tryz.results106, go_sem]) rfl ⟨by rw [HQ.out], by repeat (first | exact hb | refine Below.drew ?_)⟩
end Code
end Go.Proofs.YtjnfoocmilbdlaaGreatDoor
/- code's Hex. -/
namespace Go.Proofs.YtjnfoocmilbdlaaGreatDoor
set_option linter.unusedSimpArgs false
set_option linter.unusedVariables false
namespace Code
open Go.RowKit Go.Shelf Go.Proofs.YtjnfoocmilbdlaaGreatDoorW.PrintWords Go.Proofs.YtjnfoocmilbdlaaGreatDoor.PureB
attribute [local go_sem] Oper.semAt_some
/-- a text's bytes lie in block b -/
def BytesAt (s : ByteArray) (b : Nat) (w : World) : Prop := ∀ j : Nat, j < s.size → w.cell? ⟨b, j, none⟩ = some (.int .u8 (bt s j))
theorem bytesWorld_at (w : World) (e : TypeId) (s : ByteArray) : BytesAt s w.heap.size (Lib.bytesWorld w e s) := by
  intro j hj
  rw [Lib.bytesWorld_cell w e s j hj, bt_nat s j hj]
  congr 3
  rw [List.getD_eq_getElem?_getD, Array.getElem?_toList, Array.getElem?_eq_getElem hj]
  rfl
theorem own_base {w : World} {base : Nat} {e : TypeId} {size : Nat} {v : Value} {n : Nat} {xs : List Value} (h : w.ownsRow base e size v n xs) : ∀ k, v.ownBlock = some k → base ≤ k := by
  intro k hk
  rcases h.2 with ⟨hv, _⟩ | ⟨g, cap, cur, hv, hb, _⟩
  · rw [hv] at hk; simp [Value.ownBlock] at hk
  · rw [hv] at hk; simp [Value.ownBlock] at hk; omega
theorem nums_append (k : IntKind) (a b : List Int) : nums k (a ++ b) = nums k a ++ nums k b := by simp [nums]
end Code
end Go.Proofs.YtjnfoocmilbdlaaGreatDoor
/- bits as code joins them. No program in sight. -/
namespace Go.Proofs.YtjnfoocmilbdlaaGreatDoor
set_option linter.unusedSimpArgs false
set_option linter.unusedVariables false
namespace Code
theorem and63 (n : Int) : bits .and .i64 n 63 = n % 64 := by
  have h63 : (BitVec.ofInt 64 63).toNat = 2 ^ 6 - 1 := by decide
  have key : (BitVec.ofInt 64 n &&& BitVec.ofInt 64 63).toNat = (n % ((2 ^ 64 : Nat) : Int)).toNat % 2 ^ 6 := by
    rw [BitVec.toNat_and, BitVec.toNat_ofInt, h63, Nat.and_two_pow_sub_one_eq_mod]
  show IntKind.i64.wrap ((BitVec.ofInt 64 n &&& BitVec.ofInt 64 63).toNat : Nat) = n % 64
  rw [key, IntKind.wrap_i64]
  omega
theorem or_hi (i : Nat) (x y : Int) (hx0 : 0 ≤ x) (hx : x % 2 ^ i = 0) (hx1 : x < 2 ^ 40) (hy0 : 0 ≤ y) (hy : y < 2 ^ i) (hy1 : y < 2 ^ 40) : bits .or .i64 x y = x + y :=
  bits_join .i64 40 (by decide) (fun n h0 h1 => by rw [IntKind.wrap_i64]; omega) i x y hx0 hx hx1 hy0 hy hy1
theorem or_lo (i : Nat) (x y : Int) (hx0 : 0 ≤ x) (hx : x % 2 ^ i = 0) (hx1 : x < 2 ^ 40) (hy0 : 0 ≤ y) (hy : y < 2 ^ i) (hy1 : y < 2 ^ 40) : bits .or .i64 y x = x + y := by
  have : bits .or .i64 y x = bits .or .i64 x y := by simp only [bits, BitVec.or_comm]
  rw [this, or_hi i x y hx0 hx hx1 hy0 hy hy1]
end Code
end Go.Proofs.YtjnfoocmilbdlaaGreatDoor
/- code's group. -/
namespace Go.Proofs.YtjnfoocmilbdlaaGreatDoor
set_option linter.unusedSimpArgs false
set_option linter.unusedVariables false
namespace Code
open Go.RowKit Go.Shelf Go.Proofs.YtjnfoocmilbdlaaGreatDoorW.PrintWords Go.Proofs.YtjnfoocmilbdlaaGreatDoor.PureB
attribute [local go_sem] Oper.semAt_some
theorem lay4 (w : World) (t : TypeId) (a b c d : Int) : ReadsInt (w.alloc (.cells #[.int .u8 a, .int .u8 b, .int .u8 c, .int .u8 d] t)) .u8 (some ⟨w.heap.size, 0, none⟩) 4 [a, b, c, d] := by
  refine ⟨rfl, by decide, fun _ => ⟨_, rfl, fun j hj => ?_⟩⟩
  refine World.news_of_block (World.alloc_heap_new w _) j _ ?_
  match j, hj with
  | 0, _ => rfl
  | 1, _ => rfl
  | 2, _ => rfl
  | 3, _ => rfl
theorem conv4 (w : World) (a b c d : Int) : (convert 37 9 (.slice (some ⟨w.heap.size, 0, none⟩) 4 4)).run Tryz.prog (w.alloc (.cells #[.int .u8 a, .int .u8 b, .int .u8 c, .int .u8 d] 94)) = .ok (.string (strOfNums [a, b, c, d])) (w.alloc (.cells #[.int .u8 a, .int .u8 b, .int .u8 c, .int .u8 d] 94)) :=
  string_of_reads (P := Tryz.prog) (src := 37) (dst := 9) (c := 4) Tryz.underlying37 Tryz.underlying5 Tryz.underlying9 (lay4 w _ a b c d)
set_option maxHeartbeats 4000000 in
set_option maxRecDepth 1000000 in
theorem group1 (b : Nat) (s : ByteArray) (x : Int) (hsz : s.size = 1) (hx : bt s (0 : Nat) = x) (w : World) (hb : b < w.heap.size) (h : Signs b w) :
    Calls Tryz.prog 43 #[.pointer (some ⟨b, 0, none⟩), .string s] w fun e w' => e = .returned (.string (strOfNums [b64 (x / 4), b64 (x % 4 * 16), 61, 61])) ∧ Below w.heap.size w w' := by
  have rx := bt_range s (0 : Nat)
  rw [hx] at rx
  rw [bt_nat s 0 (by omega)] at hx
  have H0 := h (x / 4).toNat (by omega)
  rw [show (((x / 4).toNat : Nat) : Int) = x / 4 by omega] at H0
  have p0 : 0 ≤ x / 4 := by omega
  have q0 : x / 4 < 64 := by omega
  have H1 := h (x % 4 * 16).toNat (by omega)
  rw [show (((x % 4 * 16).toNat : Nat) : Int) = x % 4 * 16 by omega] at H1
  have p1 : 0 ≤ x % 4 * 16 := by omega
  have q1 : x % 4 * 16 < 64 := by omega
  have e0 : bits BinOp.or IntKind.i64 0 (x * 65536) = x * 65536 := by rw [or_lo 16 (x * 65536) 0 (by omega) (by omega) (by omega) (by omega) (by omega) (by omega)]; omega
  have f1 : bits BinOp.and IntKind.i64 ((x * 65536) / 4096) 63 = x % 4 * 16 := by rw [and63]; omega
  have f0 : bits BinOp.and IntKind.i64 ((x * 65536) / 262144) 63 = x / 4 := by rw [and63]; omega
  have hne : b ≠ w.heap.size := by omega
  have hne' : w.heap.size ≠ b := by omega
  have hst := conv4 w (b64 (x / 4)) (b64 (x % 4 * 16)) (61) (61)
  clear h
  go_enter Tryz.func43, Tryz.ntmps43
  go_wp2_with fail
  go_ret
  exact ⟨rfl, (Below.refl _ _).alloc (Nat.le_refl _) _⟩
set_option maxHeartbeats 4000000 in
set_option maxRecDepth 1000000 in
theorem group2 (b : Nat) (s : ByteArray) (x y : Int) (hsz : s.size = 2) (hx : bt s (0 : Nat) = x) (hy : bt s (1 : Nat) = y) (w : World) (hb : b < w.heap.size) (h : Signs b w) :
    Calls Tryz.prog 43 #[.pointer (some ⟨b, 0, none⟩), .string s] w fun e w' => e = .returned (.string (strOfNums [b64 (x / 4), b64 (x % 4 * 16 + y / 16), b64 (y % 16 * 4), 61])) ∧ Below w.heap.size w w' := by
  have rx := bt_range s (0 : Nat)
  rw [hx] at rx
  rw [bt_nat s 0 (by omega)] at hx
  have ry := bt_range s (1 : Nat)
  rw [hy] at ry
  rw [bt_nat s 1 (by omega)] at hy
  have H0 := h (x / 4).toNat (by omega)
  rw [show (((x / 4).toNat : Nat) : Int) = x / 4 by omega] at H0
  have p0 : 0 ≤ x / 4 := by omega
  have q0 : x / 4 < 64 := by omega
  have H1 := h (x % 4 * 16 + y / 16).toNat (by omega)
  rw [show (((x % 4 * 16 + y / 16).toNat : Nat) : Int) = x % 4 * 16 + y / 16 by omega] at H1
  have p1 : 0 ≤ x % 4 * 16 + y / 16 := by omega
  have q1 : x % 4 * 16 + y / 16 < 64 := by omega
  have H2 := h (y % 16 * 4).toNat (by omega)
  rw [show (((y % 16 * 4).toNat : Nat) : Int) = y % 16 * 4 by omega] at H2
  have p2 : 0 ≤ y % 16 * 4 := by omega
  have q2 : y % 16 * 4 < 64 := by omega
  have e0 : bits BinOp.or IntKind.i64 0 (y * 256) = y * 256 := by rw [or_lo 8 (y * 256) 0 (by omega) (by omega) (by omega) (by omega) (by omega) (by omega)]; omega
  have e1 : bits BinOp.or IntKind.i64 (y * 256) (x * 65536) = x * 65536 + y * 256 := or_lo 16 (x * 65536) (y * 256) (by omega) (by omega) (by omega) (by omega) (by omega) (by omega)
  have f2 : bits BinOp.and IntKind.i64 (y * 256 / 64) 63 = y % 16 * 4 := by rw [and63]; omega
  have f1 : bits BinOp.and IntKind.i64 ((x * 65536 + y * 256) / 4096) 63 = x % 4 * 16 + y / 16 := by rw [and63]; omega
  have f0 : bits BinOp.and IntKind.i64 ((x * 65536 + y * 256) / 262144) 63 = x / 4 := by rw [and63]; omega
  have hne : b ≠ w.heap.size := by omega
  have hne' : w.heap.size ≠ b := by omega
  have hst := conv4 w (b64 (x / 4)) (b64 (x % 4 * 16 + y / 16)) (b64 (y % 16 * 4)) (61)
  clear h
  go_enter Tryz.func43, Tryz.ntmps43
  go_wp2_with fail
  go_ret
  exact ⟨rfl, (Below.refl _ _).alloc (Nat.le_refl _) _⟩
set_option maxHeartbeats 4000000 in
set_option maxRecDepth 1000000 in
theorem group3 (b : Nat) (s : ByteArray) (x y z : Int) (hsz : s.size = 3) (hx : bt s (0 : Nat) = x) (hy : bt s (1 : Nat) = y) (hz : bt s (2 : Nat) = z) (w : World) (hb : b < w.heap.size) (h : Signs b w) :
    Calls Tryz.prog 43 #[.pointer (some ⟨b, 0, none⟩), .string s] w fun e w' => e = .returned (.string (strOfNums [b64 (x / 4), b64 (x % 4 * 16 + y / 16), b64 (y % 16 * 4 + z / 64), b64 (z % 64)])) ∧ Below w.heap.size w w' := by
  have rx := bt_range s (0 : Nat)
  rw [hx] at rx
  rw [bt_nat s 0 (by omega)] at hx
  have ry := bt_range s (1 : Nat)
  rw [hy] at ry
  rw [bt_nat s 1 (by omega)] at hy
  have rz := bt_range s (2 : Nat)
  rw [hz] at rz
  rw [bt_nat s 2 (by omega)] at hz
  have H0 := h (x / 4).toNat (by omega)
  rw [show (((x / 4).toNat : Nat) : Int) = x / 4 by omega] at H0
  have p0 : 0 ≤ x / 4 := by omega
  have q0 : x / 4 < 64 := by omega
  have H1 := h (x % 4 * 16 + y / 16).toNat (by omega)
  rw [show (((x % 4 * 16 + y / 16).toNat : Nat) : Int) = x % 4 * 16 + y / 16 by omega] at H1
  have p1 : 0 ≤ x % 4 * 16 + y / 16 := by omega
  have q1 : x % 4 * 16 + y / 16 < 64 := by omega
  have H2 := h (y % 16 * 4 + z / 64).toNat (by omega)
  rw [show (((y % 16 * 4 + z / 64).toNat : Nat) : Int) = y % 16 * 4 + z / 64 by omega] at H2
  have p2 : 0 ≤ y % 16 * 4 + z / 64 := by omega
  have q2 : y % 16 * 4 + z / 64 < 64 := by omega
  have H3 := h (z % 64).toNat (by omega)
  rw [show (((z % 64).toNat : Nat) : Int) = z % 64 by omega] at H3
  have p3 : 0 ≤ z % 64 := by omega
  have q3 : z % 64 < 64 := by omega
  have e0 : bits BinOp.or IntKind.i64 0 z = z := by rw [or_hi 8 0 z (by omega) (by omega) (by omega) (by omega) (by omega) (by omega)]; omega
  have e1 : bits BinOp.or IntKind.i64 z (y * 256) = y * 256 + z := or_lo 8 (y * 256) z (by omega) (by omega) (by omega) (by omega) (by omega) (by omega)
  have e2 : bits BinOp.or IntKind.i64 (y * 256 + z) (x * 65536) = x * 65536 + y * 256 + z := by rw [or_lo 16 (x * 65536) (y * 256 + z) (by omega) (by omega) (by omega) (by omega) (by omega) (by omega)]; omega
  have f3 : bits BinOp.and IntKind.i64 z 63 = z % 64 := and63 z
  have f2 : bits BinOp.and IntKind.i64 ((y * 256 + z) / 64) 63 = y % 16 * 4 + z / 64 := by rw [and63]; omega
  have f1 : bits BinOp.and IntKind.i64 ((x * 65536 + y * 256 + z) / 4096) 63 = x % 4 * 16 + y / 16 := by rw [and63]; omega
  have f0 : bits BinOp.and IntKind.i64 ((x * 65536 + y * 256 + z) / 262144) 63 = x / 4 := by rw [and63]; omega
  have hne : b ≠ w.heap.size := by omega
  have hne' : w.heap.size ≠ b := by omega
  have hst := conv4 w (b64 (x / 4)) (b64 (x % 4 * 16 + y / 16)) (b64 (y % 16 * 4 + z / 64)) (b64 (z % 64))
  clear h
  go_enter Tryz.func43, Tryz.ntmps43
  go_wp2_with fail
  go_ret
  exact ⟨rfl, (Below.refl _ _).alloc (Nat.le_refl _) _⟩
end Code
end Go.Proofs.YtjnfoocmilbdlaaGreatDoor
/- code's told. -/
namespace Go.Proofs.YtjnfoocmilbdlaaGreatDoor
set_option linter.unusedSimpArgs false
set_option linter.unusedVariables false
namespace Code
open Go.RowKit Go.Shelf Go.Proofs.YtjnfoocmilbdlaaGreatDoorW.PrintWords
attribute [local go_sem] Oper.semAt_some
set_option maxHeartbeats 2000000 in
theorem told_nil (a0 : Addr) (w : World) (h : GA a0 w) : Calls Tryz.prog 87 #[.nilIface] w fun e w' => e = .returned (.int .i64 0) ∧ Below w.heap.size w w' := by
  have hB0 : Below w.heap.size w (w.alloc (.cells #[.int .i64 0] 148)) := (Below.refl _ _).alloc (Nat.le_refl _) _
  have g0 := (h.below hB0).g0
  go_enter Tryz.func87, Tryz.ntmps87
  go_wp2_with (first
    | (go_at_call 46; refine (is_nil a0 _).mono ?_; rintro e w' ⟨rfl, rfl⟩))
  go_ret
  exact ⟨rfl, by repeat (first | exact hB0 | refine Below.drew ?_)⟩
set_option maxHeartbeats 2000000 in
theorem told_bad (n : Int) (a0 : Addr) (w : World) (h : GA a0 w) : Calls Tryz.prog 87 #[werr n] w fun e w' => e = .returned (.int .i64 50) ∧ Below w.heap.size w w' := by
  have hB0 : Below w.heap.size w (w.alloc (.cells #[.int .i64 0] 148)) := (Below.refl _ _).alloc (Nat.le_refl _) _
  have g0 := (h.below hB0).g0
  have HG := Lib.hid h
  have HB0 := Lib.hid hB0
  clear h hB0
  go_enter Tryz.func87, Tryz.ntmps87
  go_wp2_with (go_at_call 46; refine (is_same n a0 _ g0).mono ?_)
  rintro e w1 ⟨rfl, hb⟩
  have hB1 := bl_trans HB0.out hb
  have hr1 : w1.heap[w.heap.size]? = some (.cells #[.int .i64 0] 148 (0, 0)) := (Chg.of_below (S := fun _ => False) hb).heap (World.alloc_heap_new w _) (by simp)
  have hG1 := HG.out.below hB1
  go_wp2_with (go_at_call 45; refine (as_hit n w.heap.size _ _ hG1.et hr1 rfl).mono ?_)
  rintro e w2 ⟨rfl, hb2, hr2⟩
  go_wp2_with fail
  go_ret
  exact ⟨rfl, hB1.trans hb2⟩
end Code
end Go.Proofs.YtjnfoocmilbdlaaGreatDoor
/- code's groups: the closure. -/
namespace Go.Proofs.YtjnfoocmilbdlaaGreatDoor
set_option linter.unusedSimpArgs false
set_option linter.unusedVariables false
namespace Code
open Go.RowKit Go.Shelf Go.Proofs.YtjnfoocmilbdlaaGreatDoorW.PrintWords
attribute [local go_sem] Oper.semAt_some
theorem groups_any (s : ByteArray) (n : Int) (w : World) : Calls Tryz.prog 42 #[.string s, .int .i64 n] w
    fun e w' => e = .returned (.func (.func 63) #[] #[.pointer (some ⟨w.heap.size, 0, none⟩), .pointer (some ⟨w.heap.size + 1, 0, none⟩)]) ∧ w' = (w.alloc (.cells #[.string s] 9)).alloc (.cells #[.int .i64 n] 3) := by
  go_enter Tryz.func42, Tryz.ntmps42
  go_wp2
  go_ret
  exact ⟨rfl, rfl⟩
end Code
end Go.Proofs.YtjnfoocmilbdlaaGreatDoor
/- code's groups: the iterator. -/
namespace Go.Proofs.YtjnfoocmilbdlaaGreatDoor
set_option linter.unusedSimpArgs false
set_option linter.unusedVariables false
namespace Code
open Go.RowKit Go.Shelf Go.Proofs.YtjnfoocmilbdlaaGreatDoorW.PrintWords
attribute [local go_sem] Oper.semAt_some
/-- A text's pieces of n bytes, each with its place. -/
def pcs (s : ByteArray) (n : Nat) : List (Int × ByteArray) := (List.range ((s.size + n - 1) / n)).map fun j => (((j * n : Nat) : Int), s.extract (j * n) (min (j * n + n) s.size))
theorem pcs_len (s : ByteArray) (n : Nat) : (pcs s n).length = (s.size + n - 1) / n := by simp [pcs]
theorem pcs_get (s : ByteArray) (n j : Nat) (h : j < (s.size + n - 1) / n) : (pcs s n)[j]? = some (((j * n : Nat) : Int), s.extract (j * n) (min (j * n + n) s.size)) := by
  simp [pcs, h]
theorem lt_pcs (s : ByteArray) (n j : Nat) (hn : 1 ≤ n) : j < (s.size + n - 1) / n ↔ j * n < s.size := by
  rw [Nat.lt_div_iff_mul_lt (by omega)]
  omega
def PB (s : ByteArray) (n : Nat) (B C : Nat) (W : World) : Prop := W.heap[B]? = some (.cells #[.string s] 9 (0, 0)) ∧ W.heap[C]? = some (.cells #[.int .i64 n] 3 (0, 0))
set_option maxRecDepth 100000 in
set_option maxHeartbeats 2000000 in
theorem groups_it (m : Nat) (hm : 1 ≤ m) (s : ByteArray) (hs : s.size ≤ 4611686018427387904) (n : Nat) (hn : 1 ≤ n) (hn2 : n ≤ 1000) (B C : Nat) :
    IterE Fence.wide m Tryz.prog 63 #[.pointer (some ⟨B, 0, none⟩), .pointer (some ⟨C, 0, none⟩)] (fun x : Int × ByteArray => #[.int .i64 x.1, .string x.2]) (pcs s n) (PB s n B C) := by
  intro l J Jx W hW hJ hJx hY h0
  have HW := Lib.hid hW
  have HJ := Lib.hid hJ
  have HY := Lib.hid hY
  clear hW hJ hY
  refine callsIn_of_wp Tryz.func63 rfl trivial ?_ rfl
  simp only [Tryz.ntmps63, List.size_toArray, List.length_cons, List.length_nil, Nat.reduceAdd, Nat.reduceSub, Array.replicate_succ, Array.replicate_zero, List.push_toArray, List.append_toArray, List.nil_append, List.cons_append]
  refine wpIn_wide.2 (wp_scope_straight ((wpIn_wide (n := m)).1 (wpIn_seq (wpIn_label ?_))))
  gi_wp2_with fail
  gi_loopw [4] (fun v wr => ∃ k : Nat, v = .int .i64 (k * n : Nat) ∧ k ≤ (pcs s n).length ∧ k * n ≤ s.size + n ∧ J k wr)
    (fun v _ => s.size + n - (intOf v).toNat)
  case atStart => exact ⟨0, by simp, Nat.zero_le _, by omega, h0⟩
  case round =>
    obtain ⟨k, rfl, hk, hkn, hJk⟩ := hrel
    obtain ⟨rB, rC⟩ := HW.out k _ hJk
    have c0 := cell_of_row wr B 0 _ _ _ rB
    have c1 := cell_of_row wr C 0 _ _ _ rC
    simp at c0 c1
    by_cases hlt : k * n < s.size
    · have hkl : k < (s.size + n - 1) / n := (lt_pcs s n k hn).2 hlt
      have hx := pcs_get s n k hkl
      have hkn3 : k * n + n = (k + 1) * n := by rw [Nat.add_mul, Nat.one_mul]
      have hlen : (pcs s n).length = (s.size + n - 1) / n := pcs_len s n
      obtain ⟨a, ha⟩ : ∃ a, k * n = a := ⟨_, rfl⟩
      rw [ha] at hlt hkn hx hkn3
      have YY := fun (A : World) (hA : J k A) => HY.out k _ A hx hA
      have hmin : (min ((a : Int) + n) s.size).toNat = min (a + n) s.size := by omega
      obtain ⟨fn, tmps, assign, body, hy, hYR⟩ := YY wr hJk
      simp only [← hmin] at hy
      rw [ha]
      clear hx YY hmin
      have HJx := Lib.hid hJx
      clear hJx
      gi_wp2_with fail
      refine hYR.mono ?_
      rintro e W4 (⟨rfl, hJ4⟩ | ⟨rfl, hJx4⟩)
      · obtain ⟨r4, q4⟩ := HW.out _ _ hJ4
        have d1 := cell_of_row W4 C 0 _ _ _ q4
        simp at d1
        have hw : wrap64 ((a : Int) + n) = a + n := by unfold wrap64; omega
        gi_wp2_with fail
        go_roundw
        case rel => exact ⟨k + 1, by rw [← hkn3]; simp, by omega, by omega, hJ4⟩
        case measure => simp [intOf]; omega
      · gi_wp2_with fail
        try rw [Exit.noGoto_normal]
        go_end0
        exact ⟨⟨_, rfl⟩, .inr ⟨k + 1, by omega, hJx4⟩⟩
    · have hkk : k = (pcs s n).length := by
        have : ¬ k < (s.size + n - 1) / n := fun h => hlt ((lt_pcs s n k hn).1 h)
        rw [pcs_len] at hk ⊢
        omega
      obtain ⟨a, ha⟩ : ∃ a, k * n = a := ⟨_, rfl⟩
      rw [ha] at hlt
      rw [ha]
      gi_wp2_with fail
      try rw [Exit.noGoto_normal]
      go_end0
      exact ⟨⟨_, rfl⟩, .inl (by rw [← hkk]; exact hJk)⟩
end Code
end Go.Proofs.YtjnfoocmilbdlaaGreatDoor
/- code's all: the signs. -/
namespace Go.Proofs.YtjnfoocmilbdlaaGreatDoor
set_option linter.unusedSimpArgs false
set_option linter.unusedVariables false
namespace Code
open Go.RowKit Go.Shelf Go.Proofs.YtjnfoocmilbdlaaGreatDoorW.PrintWords
attribute [local go_sem] Oper.semAt_some
/-- the first i signs stand in block b -/
def SW (b : Nat) (i : Nat) (w : World) : Prop := ∃ cs : Array Value, w.heap[b]? = some (.cells cs 62 (0, 0)) ∧ cs.size = 64 ∧ ∀ j : Nat, j < i → cs[j]? = some (.int .u8 (b64 j))
/-- a row of signs, to be written -/
def ZW (b : Nat) (w : World) : Prop := ∃ cs : Array Value, w.heap[b]? = some (.cells cs 62 (0, 0)) ∧ cs.size = 64
theorem SW.fresh (w : World) (o : Array Value) (ho : o.size = 64) : SW w.heap.size 0 (w.alloc (.cells o 62 (0, 0))) := ⟨o, World.alloc_heap_new w _, ho, fun j hj => absurd hj (Nat.not_lt_zero _)⟩
theorem SW.keep {b i : Nat} {A B : World} (h : SW b i A) (hb : B.heap[b]? = A.heap[b]?) : SW b i B := by
  obtain ⟨cs, h1, h2, h3⟩ := h
  exact ⟨cs, hb.trans h1, h2, h3⟩
theorem ZW.keep {b : Nat} {A B : World} (h : ZW b A) (hb : B.heap[b]? = A.heap[b]?) : ZW b B := by
  obtain ⟨cs, h1, h2⟩ := h
  exact ⟨cs, hb.trans h1, h2⟩
theorem SW.lt {b i : Nat} {A : World} (h : SW b i A) : b < A.heap.size := by
  obtain ⟨cs, h1, _⟩ := h
  exact (Array.getElem?_eq_some_iff.1 h1).1
theorem ZW.lt {b : Nat} {A : World} (h : ZW b A) : b < A.heap.size := by
  obtain ⟨cs, h1, _⟩ := h
  exact (Array.getElem?_eq_some_iff.1 h1).1
theorem SW.set {b i : Nat} {A : World} (h : SW b i A) (hi : i < 64) (x : Int) (hx : x = b64 i) : SW b (i + 1) (A.setCell ⟨b, i, none⟩ (.int .u8 x)) := by
  obtain ⟨cs, h1, h2, h3⟩ := h
  refine ⟨cs.setIfInBounds i (.int .u8 x), ?_, by simpa using h2, fun j hj => ?_⟩
  · simp only [World.setCell, Array.getElem?_modify, h1]
    simp
  · rw [Array.getElem?_setIfInBounds]
    by_cases hji : i = j
    · subst hji
      simp [h2, hi, hx]
    · simp [hji, h3 j (by omega)]
theorem SW.addr {b i : Nat} {A : World} (h : SW b i A) (j : Nat) (hj : j < 64) : ∃ v, A.cell? ⟨b, j, none⟩ = some v := by
  obtain ⟨cs, h1, h2, _⟩ := h
  exact ⟨cs[j], by rw [cell_of_row A b j _ _ _ h1, Array.getElem?_eq_getElem (by omega)]⟩
theorem SW.frozen {b i : Nat} {A : World} (h : SW b i A) (j : Nat) : A.frozen? ⟨b, j, none⟩ = false := by
  obtain ⟨cs, h1, h2, _⟩ := h
  exact Lib.frozen_of_heap h1 j
def bse (k : Nat) : Nat := if k = 0 then 0 else if k = 1 then 26 else if k = 2 then 52 else if k = 3 then 62 else if k = 4 then 63 else 64
theorem sizeSigns : (Tryz.prog.info? 62).map (·.size) = some 64 := by kernel_rfl
set_option maxHeartbeats 8000000 in
set_option maxRecDepth 1000000 in
theorem all_c (w : World) :
    Calls Tryz.prog 41 #[] w fun e w' => ∃ cs : Array Value, e = .returned (.agg cs) ∧ cs.size = 64 ∧ (∀ j : Nat, j < 64 → cs[j]? = some (.int .u8 (b64 j))) ∧ Below w.heap.size w w' := by
  go_enter Tryz.func41, Tryz.ntmps41
  go_wp2_with fail
  go_loopw [2, 12] (fun i k wr => ∃ j : Nat, k = .int .i64 j ∧ j ≤ 5 ∧ i = .int .i64 (bse j) ∧ SW (w.heap.size + 1) (bse j) wr ∧ ZW w.heap.size wr ∧ Below w.heap.size w wr)
    (fun _ k _ => 5 - (intOf k).toNat)
  case atStart =>
    refine ⟨0, rfl, by omega, rfl, ?_, ?_, bl_alloc (bl_alloc (Below.refl _ _) _) _⟩
    · have := SW.fresh (w.alloc (.cells (Array.replicate 64 (.int .u8 0)) 62 (0, 0))) (Array.replicate 64 (.int .u8 0)) (by simp)
      rw [World.size_alloc] at this
      exact this
    · exact ⟨_, (Below.heap_alloc _ _ _ (by simp)).trans (World.alloc_heap_new w _), by simp⟩
  case round =>
    obtain ⟨k, rfl, hk, rfl, hS, hZ, hb⟩ := hrel
    have HS := Lib.hid hS
    have HZ := Lib.hid hZ
    have HB := Lib.hid hb
    have hlt1 := hS.lt
    have hlt0 := hZ.lt
    clear hS hZ hb
    by_cases h5 : k = 5
    · subst h5
      obtain ⟨cs, g1, g2, g3⟩ := HS.out
      obtain ⟨cz, z1, z2⟩ := HZ.out
      have G3 := Lib.hid g3
      clear g3
      have hone : cs.all (·.oneCell') = true := by
        rw [Array.all_eq_true_iff_forall_mem]
        intro v hv
        obtain ⟨j, hj⟩ := Array.mem_iff_getElem?.1 hv
        have hj64 : j < 64 := by have := (Array.getElem?_eq_some_iff.1 hj).1; omega
        rw [G3.out j hj64] at hj
        obtain rfl := Option.some.inj hj
        rfl
      go_wp2_with (first
        | (refine wpList_load_row rfl 62 _ rfl (w.heap.size + 1) rfl 62 cs _ _ g1 Tryz.underlying62 rfl (by rw [sizeSigns, g2]) ?_)
        | (refine wpList_store_row rfl 62 _ _ rfl w.heap.size cs rfl rfl 62 cz z1 (by rw [sizeSigns, g2]) (by rw [z2, g2]) hone ?_))
      refine bodyPost_ret (v := .agg cs) (results_cell_row (p := 0) rfl _ _ w.heap.size 62 cs (0, 0) _ rfl (setRow_heap z1) Tryz.underlying62 rfl (by rw [sizeSigns, g2])) rfl ⟨cs, rfl, g2, G3.out, setRow_below HB.out (Nat.le_refl _) _⟩
    · rcases (show k = 0 ∨ k = 1 ∨ k = 2 ∨ k = 3 ∨ k = 4 by omega) with rfl | rfl | rfl | rfl | rfl
      · have HS2 : SW (w.heap.size + 1) 0 wr := HS.out
        have hA : Below w.heap.size w (wr.alloc (.cells #[.int .u8 65, .int .u8 90] 91 (0, 0))) := HB.out.alloc HB.out.size _
        have hkeep : ∀ b, b < wr.heap.size → (wr.alloc (.cells #[.int .u8 65, .int .u8 90] 91 (0, 0))).heap[b]? = wr.heap[b]? := fun b hb => Below.heap_alloc _ _ _ hb
        have hg := World.alloc_heap_new wr (.cells #[.int .u8 65, .int .u8 90] 91 (0, 0))
        have hix : (Instr.index 92 (.agg #[.int .u8 65, .int .u8 90, .int .u8 97, .int .u8 122, .int .u8 48, .int .u8 57, .int .u8 43, .int .u8 43, .int .u8 47, .int .u8 47]) (.int .i64 0)).run Tryz.prog wr = .ok (.agg #[.int .u8 65, .int .u8 90]) wr := by kernel_rfl
        rw [show bse 0 = 0 from rfl]
        go_wp2_with fail
        go_loopw [2, 5] (fun i c W => ∃ j : Nat, i = .int .i64 (0 + j : Nat) ∧ c = .int .u8 (65 + j : Nat) ∧ j ≤ 26 ∧ SW (w.heap.size + 1) (0 + j) W ∧ ZW w.heap.size W ∧ Below w.heap.size w W ∧ W.heap[wr.heap.size]? = some (.cells #[.int .u8 65, .int .u8 90] 91 (0, 0)))
          (fun _ c _ => 256 - (intOf c).toNat)
        case atStart =>
          exact ⟨0, rfl, rfl, by omega, HS2.keep (hkeep _ hlt1), HZ.out.keep (hkeep _ hlt0), hA, hg⟩
        case round =>
          obtain ⟨j, rfl, rfl, hj, hS, hZ, hb, hr⟩ := hrel
          have c1 := cell_of_row wr _ 1 _ _ _ hr
          simp at c1
          have HS3 := Lib.hid hS
          have HZ3 := Lib.hid hZ
          have HB3 := Lib.hid hb
          by_cases hjn : j < 26
          · have hp : 0 + j < 64 := by omega
            obtain ⟨v0, hv0⟩ := hS.addr (0 + j) hp
            have hf0 := hS.frozen (0 + j)
            have hw1 : IntKind.u8.wrap ((65 + j : Nat) + 1 : Int) = (65 + j + 1 : Nat) := by rw [IntKind.wrap_u8]; omega
            have hle : ((65 + j : Nat) : Int) ≤ 90 := by omega
            clear hS hZ hb
            obtain ⟨p, hp2⟩ : ∃ p : Nat, p = 0 + j := ⟨_, rfl⟩
            obtain ⟨q, hq2⟩ : ∃ q : Nat, q = 65 + j := ⟨_, rfl⟩
            rw [← hp2] at hp hv0 hf0 HS3 ⊢
            rw [← hq2] at hw1 hle ⊢
            have HP := Lib.hid hp2
            have HQ := Lib.hid hq2
            have HR := Lib.hid hr
            clear hp2 hq2 hr
            go_wp2_with fail
            go_roundw
            case rel =>
              refine ⟨j + 1, by have := HP.out; simp; omega, by have := HQ.out; simp [hw1]; omega, by omega, ?_, HZ3.out.keep (Below.heap_setCell _ _ _ _ (by simp)), HB3.out.setCell (by simp) _, (Below.heap_setCell _ _ _ _ (by simp; omega)).trans HR.out⟩
              rw [show 0 + (j + 1) = p + 1 by have := HP.out; omega]
              exact HS3.out.set hp _ (by rw [HP.out, HQ.out]; unfold b64; repeat' split <;> omega)
            case measure => simp [intOf, hw1]; omega
          · obtain rfl : j = 26 := by omega
            clear hS hZ hb hr
            go_wp2_with fail
            go_roundw
            case rel => exact ⟨0 + 1, rfl, by omega, rfl, HS3.out, HZ3.out, HB3.out⟩
            case measure => simp [intOf]
      · have HS2 : SW (w.heap.size + 1) 26 wr := HS.out
        have hA : Below w.heap.size w (wr.alloc (.cells #[.int .u8 97, .int .u8 122] 91 (0, 0))) := HB.out.alloc HB.out.size _
        have hkeep : ∀ b, b < wr.heap.size → (wr.alloc (.cells #[.int .u8 97, .int .u8 122] 91 (0, 0))).heap[b]? = wr.heap[b]? := fun b hb => Below.heap_alloc _ _ _ hb
        have hg := World.alloc_heap_new wr (.cells #[.int .u8 97, .int .u8 122] 91 (0, 0))
        have hix : (Instr.index 92 (.agg #[.int .u8 65, .int .u8 90, .int .u8 97, .int .u8 122, .int .u8 48, .int .u8 57, .int .u8 43, .int .u8 43, .int .u8 47, .int .u8 47]) (.int .i64 1)).run Tryz.prog wr = .ok (.agg #[.int .u8 97, .int .u8 122]) wr := by kernel_rfl
        rw [show bse 1 = 26 from rfl]
        go_wp2_with fail
        go_loopw [2, 5] (fun i c W => ∃ j : Nat, i = .int .i64 (26 + j : Nat) ∧ c = .int .u8 (97 + j : Nat) ∧ j ≤ 26 ∧ SW (w.heap.size + 1) (26 + j) W ∧ ZW w.heap.size W ∧ Below w.heap.size w W ∧ W.heap[wr.heap.size]? = some (.cells #[.int .u8 97, .int .u8 122] 91 (0, 0)))
          (fun _ c _ => 256 - (intOf c).toNat)
        case atStart =>
          exact ⟨0, rfl, rfl, by omega, HS2.keep (hkeep _ hlt1), HZ.out.keep (hkeep _ hlt0), hA, hg⟩
        case round =>
          obtain ⟨j, rfl, rfl, hj, hS, hZ, hb, hr⟩ := hrel
          have c1 := cell_of_row wr _ 1 _ _ _ hr
          simp at c1
          have HS3 := Lib.hid hS
          have HZ3 := Lib.hid hZ
          have HB3 := Lib.hid hb
          by_cases hjn : j < 26
          · have hp : 26 + j < 64 := by omega
            obtain ⟨v0, hv0⟩ := hS.addr (26 + j) hp
            have hf0 := hS.frozen (26 + j)
            have hw1 : IntKind.u8.wrap ((97 + j : Nat) + 1 : Int) = (97 + j + 1 : Nat) := by rw [IntKind.wrap_u8]; omega
            have hle : ((97 + j : Nat) : Int) ≤ 122 := by omega
            clear hS hZ hb
            obtain ⟨p, hp2⟩ : ∃ p : Nat, p = 26 + j := ⟨_, rfl⟩
            obtain ⟨q, hq2⟩ : ∃ q : Nat, q = 97 + j := ⟨_, rfl⟩
            rw [← hp2] at hp hv0 hf0 HS3 ⊢
            rw [← hq2] at hw1 hle ⊢
            have HP := Lib.hid hp2
            have HQ := Lib.hid hq2
            have HR := Lib.hid hr
            clear hp2 hq2 hr
            go_wp2_with fail
            go_roundw
            case rel =>
              refine ⟨j + 1, by have := HP.out; simp; omega, by have := HQ.out; simp [hw1]; omega, by omega, ?_, HZ3.out.keep (Below.heap_setCell _ _ _ _ (by simp)), HB3.out.setCell (by simp) _, (Below.heap_setCell _ _ _ _ (by simp; omega)).trans HR.out⟩
              rw [show 26 + (j + 1) = p + 1 by have := HP.out; omega]
              exact HS3.out.set hp _ (by rw [HP.out, HQ.out]; unfold b64; repeat' split <;> omega)
            case measure => simp [intOf, hw1]; omega
          · obtain rfl : j = 26 := by omega
            clear hS hZ hb hr
            go_wp2_with fail
            go_roundw
            case rel => exact ⟨1 + 1, rfl, by omega, rfl, HS3.out, HZ3.out, HB3.out⟩
            case measure => simp [intOf]
      · have HS2 : SW (w.heap.size + 1) 52 wr := HS.out
        have hA : Below w.heap.size w (wr.alloc (.cells #[.int .u8 48, .int .u8 57] 91 (0, 0))) := HB.out.alloc HB.out.size _
        have hkeep : ∀ b, b < wr.heap.size → (wr.alloc (.cells #[.int .u8 48, .int .u8 57] 91 (0, 0))).heap[b]? = wr.heap[b]? := fun b hb => Below.heap_alloc _ _ _ hb
        have hg := World.alloc_heap_new wr (.cells #[.int .u8 48, .int .u8 57] 91 (0, 0))
        have hix : (Instr.index 92 (.agg #[.int .u8 65, .int .u8 90, .int .u8 97, .int .u8 122, .int .u8 48, .int .u8 57, .int .u8 43, .int .u8 43, .int .u8 47, .int .u8 47]) (.int .i64 2)).run Tryz.prog wr = .ok (.agg #[.int .u8 48, .int .u8 57]) wr := by kernel_rfl
        rw [show bse 2 = 52 from rfl]
        go_wp2_with fail
        go_loopw [2, 5] (fun i c W => ∃ j : Nat, i = .int .i64 (52 + j : Nat) ∧ c = .int .u8 (48 + j : Nat) ∧ j ≤ 10 ∧ SW (w.heap.size + 1) (52 + j) W ∧ ZW w.heap.size W ∧ Below w.heap.size w W ∧ W.heap[wr.heap.size]? = some (.cells #[.int .u8 48, .int .u8 57] 91 (0, 0)))
          (fun _ c _ => 256 - (intOf c).toNat)
        case atStart =>
          exact ⟨0, rfl, rfl, by omega, HS2.keep (hkeep _ hlt1), HZ.out.keep (hkeep _ hlt0), hA, hg⟩
        case round =>
          obtain ⟨j, rfl, rfl, hj, hS, hZ, hb, hr⟩ := hrel
          have c1 := cell_of_row wr _ 1 _ _ _ hr
          simp at c1
          have HS3 := Lib.hid hS
          have HZ3 := Lib.hid hZ
          have HB3 := Lib.hid hb
          by_cases hjn : j < 10
          · have hp : 52 + j < 64 := by omega
            obtain ⟨v0, hv0⟩ := hS.addr (52 + j) hp
            have hf0 := hS.frozen (52 + j)
            have hw1 : IntKind.u8.wrap ((48 + j : Nat) + 1 : Int) = (48 + j + 1 : Nat) := by rw [IntKind.wrap_u8]; omega
            have hle : ((48 + j : Nat) : Int) ≤ 57 := by omega
            clear hS hZ hb
            obtain ⟨p, hp2⟩ : ∃ p : Nat, p = 52 + j := ⟨_, rfl⟩
            obtain ⟨q, hq2⟩ : ∃ q : Nat, q = 48 + j := ⟨_, rfl⟩
            rw [← hp2] at hp hv0 hf0 HS3 ⊢
            rw [← hq2] at hw1 hle ⊢
            have HP := Lib.hid hp2
            have HQ := Lib.hid hq2
            have HR := Lib.hid hr
            clear hp2 hq2 hr
            go_wp2_with fail
            go_roundw
            case rel =>
              refine ⟨j + 1, by have := HP.out; simp; omega, by have := HQ.out; simp [hw1]; omega, by omega, ?_, HZ3.out.keep (Below.heap_setCell _ _ _ _ (by simp)), HB3.out.setCell (by simp) _, (Below.heap_setCell _ _ _ _ (by simp; omega)).trans HR.out⟩
              rw [show 52 + (j + 1) = p + 1 by have := HP.out; omega]
              exact HS3.out.set hp _ (by rw [HP.out, HQ.out]; unfold b64; repeat' split <;> omega)
            case measure => simp [intOf, hw1]; omega
          · obtain rfl : j = 10 := by omega
            clear hS hZ hb hr
            go_wp2_with fail
            go_roundw
            case rel => exact ⟨2 + 1, rfl, by omega, rfl, HS3.out, HZ3.out, HB3.out⟩
            case measure => simp [intOf]
      · have HS2 : SW (w.heap.size + 1) 62 wr := HS.out
        have hA : Below w.heap.size w (wr.alloc (.cells #[.int .u8 43, .int .u8 43] 91 (0, 0))) := HB.out.alloc HB.out.size _
        have hkeep : ∀ b, b < wr.heap.size → (wr.alloc (.cells #[.int .u8 43, .int .u8 43] 91 (0, 0))).heap[b]? = wr.heap[b]? := fun b hb => Below.heap_alloc _ _ _ hb
        have hg := World.alloc_heap_new wr (.cells #[.int .u8 43, .int .u8 43] 91 (0, 0))
        have hix : (Instr.index 92 (.agg #[.int .u8 65, .int .u8 90, .int .u8 97, .int .u8 122, .int .u8 48, .int .u8 57, .int .u8 43, .int .u8 43, .int .u8 47, .int .u8 47]) (.int .i64 3)).run Tryz.prog wr = .ok (.agg #[.int .u8 43, .int .u8 43]) wr := by kernel_rfl
        rw [show bse 3 = 62 from rfl]
        go_wp2_with fail
        go_loopw [2, 5] (fun i c W => ∃ j : Nat, i = .int .i64 (62 + j : Nat) ∧ c = .int .u8 (43 + j : Nat) ∧ j ≤ 1 ∧ SW (w.heap.size + 1) (62 + j) W ∧ ZW w.heap.size W ∧ Below w.heap.size w W ∧ W.heap[wr.heap.size]? = some (.cells #[.int .u8 43, .int .u8 43] 91 (0, 0)))
          (fun _ c _ => 256 - (intOf c).toNat)
        case atStart =>
          exact ⟨0, rfl, rfl, by omega, HS2.keep (hkeep _ hlt1), HZ.out.keep (hkeep _ hlt0), hA, hg⟩
        case round =>
          obtain ⟨j, rfl, rfl, hj, hS, hZ, hb, hr⟩ := hrel
          have c1 := cell_of_row wr _ 1 _ _ _ hr
          simp at c1
          have HS3 := Lib.hid hS
          have HZ3 := Lib.hid hZ
          have HB3 := Lib.hid hb
          by_cases hjn : j < 1
          · have hp : 62 + j < 64 := by omega
            obtain ⟨v0, hv0⟩ := hS.addr (62 + j) hp
            have hf0 := hS.frozen (62 + j)
            have hw1 : IntKind.u8.wrap ((43 + j : Nat) + 1 : Int) = (43 + j + 1 : Nat) := by rw [IntKind.wrap_u8]; omega
            have hle : ((43 + j : Nat) : Int) ≤ 43 := by omega
            clear hS hZ hb
            obtain ⟨p, hp2⟩ : ∃ p : Nat, p = 62 + j := ⟨_, rfl⟩
            obtain ⟨q, hq2⟩ : ∃ q : Nat, q = 43 + j := ⟨_, rfl⟩
            rw [← hp2] at hp hv0 hf0 HS3 ⊢
            rw [← hq2] at hw1 hle ⊢
            have HP := Lib.hid hp2
            have HQ := Lib.hid hq2
            have HR := Lib.hid hr
            clear hp2 hq2 hr
            go_wp2_with fail
            go_roundw
            case rel =>
              refine ⟨j + 1, by have := HP.out; simp; omega, by have := HQ.out; simp [hw1]; omega, by omega, ?_, HZ3.out.keep (Below.heap_setCell _ _ _ _ (by simp)), HB3.out.setCell (by simp) _, (Below.heap_setCell _ _ _ _ (by simp; omega)).trans HR.out⟩
              rw [show 62 + (j + 1) = p + 1 by have := HP.out; omega]
              exact HS3.out.set hp _ (by rw [HP.out, HQ.out]; unfold b64; repeat' split <;> omega)
            case measure => simp [intOf, hw1]; omega
          · obtain rfl : j = 1 := by omega
            clear hS hZ hb hr
            go_wp2_with fail
            go_roundw
            case rel => exact ⟨3 + 1, rfl, by omega, rfl, HS3.out, HZ3.out, HB3.out⟩
            case measure => simp [intOf]
      · have HS2 : SW (w.heap.size + 1) 63 wr := HS.out
        have hA : Below w.heap.size w (wr.alloc (.cells #[.int .u8 47, .int .u8 47] 91 (0, 0))) := HB.out.alloc HB.out.size _
        have hkeep : ∀ b, b < wr.heap.size → (wr.alloc (.cells #[.int .u8 47, .int .u8 47] 91 (0, 0))).heap[b]? = wr.heap[b]? := fun b hb => Below.heap_alloc _ _ _ hb
        have hg := World.alloc_heap_new wr (.cells #[.int .u8 47, .int .u8 47] 91 (0, 0))
        have hix : (Instr.index 92 (.agg #[.int .u8 65, .int .u8 90, .int .u8 97, .int .u8 122, .int .u8 48, .int .u8 57, .int .u8 43, .int .u8 43, .int .u8 47, .int .u8 47]) (.int .i64 4)).run Tryz.prog wr = .ok (.agg #[.int .u8 47, .int .u8 47]) wr := by kernel_rfl
        rw [show bse 4 = 63 from rfl]
        go_wp2_with fail
        go_loopw [2, 5] (fun i c W => ∃ j : Nat, i = .int .i64 (63 + j : Nat) ∧ c = .int .u8 (47 + j : Nat) ∧ j ≤ 1 ∧ SW (w.heap.size + 1) (63 + j) W ∧ ZW w.heap.size W ∧ Below w.heap.size w W ∧ W.heap[wr.heap.size]? = some (.cells #[.int .u8 47, .int .u8 47] 91 (0, 0)))
          (fun _ c _ => 256 - (intOf c).toNat)
        case atStart =>
          exact ⟨0, rfl, rfl, by omega, HS2.keep (hkeep _ hlt1), HZ.out.keep (hkeep _ hlt0), hA, hg⟩
        case round =>
          obtain ⟨j, rfl, rfl, hj, hS, hZ, hb, hr⟩ := hrel
          have c1 := cell_of_row wr _ 1 _ _ _ hr
          simp at c1
          have HS3 := Lib.hid hS
          have HZ3 := Lib.hid hZ
          have HB3 := Lib.hid hb
          by_cases hjn : j < 1
          · have hp : 63 + j < 64 := by omega
            obtain ⟨v0, hv0⟩ := hS.addr (63 + j) hp
            have hf0 := hS.frozen (63 + j)
            have hw1 : IntKind.u8.wrap ((47 + j : Nat) + 1 : Int) = (47 + j + 1 : Nat) := by rw [IntKind.wrap_u8]; omega
            have hle : ((47 + j : Nat) : Int) ≤ 47 := by omega
            clear hS hZ hb
            obtain ⟨p, hp2⟩ : ∃ p : Nat, p = 63 + j := ⟨_, rfl⟩
            obtain ⟨q, hq2⟩ : ∃ q : Nat, q = 47 + j := ⟨_, rfl⟩
            rw [← hp2] at hp hv0 hf0 HS3 ⊢
            rw [← hq2] at hw1 hle ⊢
            have HP := Lib.hid hp2
            have HQ := Lib.hid hq2
            have HR := Lib.hid hr
            clear hp2 hq2 hr
            go_wp2_with fail
            go_roundw
            case rel =>
              refine ⟨j + 1, by have := HP.out; simp; omega, by have := HQ.out; simp [hw1]; omega, by omega, ?_, HZ3.out.keep (Below.heap_setCell _ _ _ _ (by simp)), HB3.out.setCell (by simp) _, (Below.heap_setCell _ _ _ _ (by simp; omega)).trans HR.out⟩
              rw [show 63 + (j + 1) = p + 1 by have := HP.out; omega]
              exact HS3.out.set hp _ (by rw [HP.out, HQ.out]; unfold b64; repeat' split <;> omega)
            case measure => simp [intOf, hw1]; omega
          · obtain rfl : j = 1 := by omega
            clear hS hZ hb hr
            go_wp2_with fail
            go_roundw
            case rel => exact ⟨4 + 1, rfl, by omega, rfl, HS3.out, HZ3.out, HB3.out⟩
            case measure => simp [intOf]
end Code
end Go.Proofs.YtjnfoocmilbdlaaGreatDoor
/- code's group at any piece; Base. -/
namespace Go.Proofs.YtjnfoocmilbdlaaGreatDoor
set_option linter.unusedSimpArgs false
set_option linter.unusedVariables false
namespace Code
open Go.RowKit Go.Shelf Go.Proofs.YtjnfoocmilbdlaaGreatDoorW.PrintWords
attribute [local go_sem] Oper.semAt_some
theorem bl_one (s : ByteArray) (h : s.size = 1) : bl s = [bt s (0 : Nat)] := by
  have := bl_len s
  apply List.ext_getElem?
  intro j
  match j with
  | 0 => rw [bl_get s 0 (by omega)]; rfl
  | j + 1 => rw [List.getElem?_eq_none (by omega), List.getElem?_eq_none (by simp)]
theorem bl_two (s : ByteArray) (h : s.size = 2) : bl s = [bt s (0 : Nat), bt s (1 : Nat)] := by
  have := bl_len s
  apply List.ext_getElem?
  intro j
  match j with
  | 0 => rw [bl_get s 0 (by omega)]; rfl
  | 1 => rw [bl_get s 1 (by omega)]; rfl
  | j + 2 => rw [List.getElem?_eq_none (by omega), List.getElem?_eq_none (by simp)]
theorem bl_three (s : ByteArray) (h : s.size = 3) : bl s = [bt s (0 : Nat), bt s (1 : Nat), bt s (2 : Nat)] := by
  have := bl_len s
  apply List.ext_getElem?
  intro j
  match j with
  | 0 => rw [bl_get s 0 (by omega)]; rfl
  | 1 => rw [bl_get s 1 (by omega)]; rfl
  | 2 => rw [bl_get s 2 (by omega)]; rfl
  | j + 3 => rw [List.getElem?_eq_none (by omega), List.getElem?_eq_none (by simp)]
theorem group_c (b : Nat) (s : ByteArray) (h1 : 1 ≤ s.size) (h3 : s.size ≤ 3) (w : World) (hb : b < w.heap.size) (h : Signs b w) :
    Calls Tryz.prog 43 #[.pointer (some ⟨b, 0, none⟩), .string s] w fun e w' => e = .returned (.string (strOfNums (baseL (bl s)))) ∧ Below w.heap.size w w' := by
  rcases (show s.size = 1 ∨ s.size = 2 ∨ s.size = 3 by omega) with e | e | e
  · rw [bl_one s e]
    exact group1 b s _ e rfl w hb h
  · rw [bl_two s e]
    exact group2 b s _ _ e rfl rfl w hb h
  · rw [bl_three s e]
    refine (group3 b s _ _ _ e rfl rfl rfl w hb h).mono ?_
    rintro e w' ⟨rfl, hb⟩
    exact ⟨by simp [baseL], hb⟩
theorem Signs.of_row {b : Nat} {A : World} {cs : Array Value} {t : TypeId} {fz : Nat × Nat} (h : A.heap[b]? = some (.cells cs t fz)) (hc : ∀ j : Nat, j < 64 → cs[j]? = some (.int .u8 (b64 j))) : Signs b A := fun j hj => by
  rw [cell_of_row A b j _ _ _ h]; exact hc j hj
theorem fold_set_list : ∀ (l : List Value) (k : Nat) (z : Array Value), z.size = k + l.length →
    ((l.zipIdx k).foldl (fun (cs : Array Value) (x : Value × Nat) => cs.setIfInBounds x.2 x.1) z).size = z.size ∧ ∀ j : Nat, ((l.zipIdx k).foldl (fun (cs : Array Value) (x : Value × Nat) => cs.setIfInBounds x.2 x.1) z)[j]? = if j < k then z[j]? else l[j - k]?
  | [], k, z, h => ⟨rfl, fun j => by
      simp only [List.zipIdx_nil, List.foldl_nil]
      split
      · rfl
      · rw [Array.getElem?_eq_none (by simp at h; omega)]; simp⟩
  | a :: l, k, z, h => by
    simp only [List.zipIdx_cons, List.foldl_cons]
    obtain ⟨h1, h2⟩ := fold_set_list l (k + 1) (z.setIfInBounds k a) (by simp at h ⊢; omega)
    refine ⟨by rw [h1]; simp, fun j => ?_⟩
    rw [h2, Array.getElem?_setIfInBounds]
    simp only [List.length_cons] at h
    by_cases h3 : j < k
    · rw [if_pos (by omega), if_pos h3, if_neg (by omega)]
    · rw [if_neg h3]
      by_cases h4 : j = k
      · subst h4
        rw [if_pos (by omega), if_pos rfl, if_pos (by omega)]; simp
      · rw [if_neg (by omega), show j - k = (j - (k + 1)) + 1 by omega]; simp
theorem fold_set (z cs : Array Value) (h : z.size = 64) (h2 : cs.size = 64) (j : Nat) : (Array.foldl (fun (cs : Array Value) (x : Value × Nat) => cs.setIfInBounds x.2 x.1) z (cs.zipIdx 0) 0 64)[j]? = cs[j]? := by
  have e : (cs.zipIdx 0).size = 64 := by simp [h2]
  rw [← e, ← Array.foldl_toList, Array.toList_zipIdx, (fold_set_list cs.toList 0 z (by simp; omega)).2 j]
  simp
set_option maxRecDepth 100000 in
set_option maxHeartbeats 4000000 in
theorem Base_c (s : ByteArray) (hs : s.size ≤ 4611686018427) (w : World) :
    Calls Tryz.prog 23 #[.string s] w fun e w' => e = .returned (.string (strOfNums (baseL (bl s)))) ∧ Below w.heap.size w w' := by
  refine (callsIn_wide (n := 9)).1 ?_
  refine callsIn_of_wp_marks Tryz.func23 rfl trivial ?_ rfl
  simp only [Tryz.ntmps23, List.size_toArray, List.length_cons, List.length_nil, Nat.reduceAdd, Nat.reduceSub, Array.replicate_succ, Array.replicate_zero, List.push_toArray, List.append_toArray, List.nil_append, List.cons_append]
  gi_wp2_with fail
  refine ⟨trivial, (callsIn_wide.2 (all_c _)).mono ?_⟩
  rintro e w1 ⟨cs, rfl, hcs, hc64, hb1⟩
  gi_wp2_with fail
  generalize hcq : Array.foldl (fun (cs : Array Value) (x : Value × Nat) => cs.setIfInBounds x.2 x.1) _ (cs.zipIdx 0) 0 64 = cq
  have HC : RowKit.Hid (∀ j : Nat, j < 64 → cq[j]? = some (.int .u8 (b64 j))) := Lib.hid (fun j hj => by rw [← hcq, fold_set _ _ (by rfl) hcs]; exact hc64 j hj)
  clear hc64 hcq
  refine ⟨trivial, (callsIn_wide.2 (groups_any s 3 _)).mono ?_⟩
  rintro e w2 ⟨rfl, rfl⟩
  gi_wp2_with fail
  obtain ⟨W, hW⟩ : ∃ W, (((((w1.alloc (.cells cq 65)).alloc (.cells #[.pointer (some ⟨w1.heap.size, 0, none⟩)] 60)).alloc (.cells #[.pointer none, .slice none 0 0] 47)).alloc (.cells #[.string s] 9)).alloc (.cells #[.int .i64 3] 3)) = W := ⟨_, rfl⟩
  have hsz : W.heap.size = w1.heap.size + 5 := by rw [← hW]; simp
  have k0 : W.heap[w1.heap.size]? = some (.cells cq 65 (0, 0)) := by rw [← hW]; repeat (first | exact ag_new _ _ _ (by simp) | refine ag_old ?_)
  have k1 : W.heap[w1.heap.size + 1]? = some (.cells #[.pointer (some ⟨w1.heap.size, 0, none⟩)] 60 (0, 0)) := by rw [← hW]; repeat (first | exact ag_new _ _ _ (by simp) | refine ag_old ?_)
  have kb : W.heap[w1.heap.size + 2]? = some (.cells #[.pointer none, .slice none 0 0] 47 (0, 0)) := by rw [← hW]; repeat (first | exact ag_new _ _ _ (by simp) | refine ag_old ?_)
  have k3 : W.heap[w1.heap.size + 3]? = some (.cells #[.string s] 9 (0, 0)) := by rw [← hW]; repeat (first | exact ag_new _ _ _ (by simp) | refine ag_old ?_)
  have k4 : W.heap[w1.heap.size + 4]? = some (.cells #[.int .i64 3] 3 (0, 0)) := by rw [← hW]; repeat (first | exact ag_new _ _ _ (by simp) | refine ag_old ?_)
  have hbW : Below w.heap.size w W := by rw [← hW]; exact bl_alloc (bl_alloc (bl_alloc (bl_alloc (bl_alloc hb1 _) _) _) _) _
  have hw1 := hb1.size
  rw [hW]
  clear hW hb1
  generalize w1.heap.size = n1 at hsz k0 k1 kb k3 k4 hw1 ⊢
  have HIT := Lib.hid (groups_it (9 - 1) (by decide) s (by omega) 3 (by decide) (by decide) (n1 + 3) (n1 + 4))
  have HI0 := Lib.hid (Lib.IsBuilderF.of (b := n1 + 2) (B := n1 + 2) (.inl ⟨Nat.le_refl _, _, kb, World.ownsRow_nil _ _ _ _, by simp [Value.ownBlock]⟩) : Lib.IsBuilderF 47 5 (n1 + 2) (n1 + 2) [] W)
  refine wpIn_range_itE1 rfl (by decide) (gf := 63) (lb := #[.pointer (some ⟨n1 + 3, 0, none⟩), .pointer (some ⟨n1 + 4, 0, none⟩)]) rfl trivial (enters_of Tryz.func63 (by kernel_rfl) rfl)
    HIT.out (fun _ => rfl)
    (fun k A => A.heap[n1]? = some (.cells cq 65 (0, 0)) ∧ A.heap[n1 + 1]? = some (.cells #[.pointer (some ⟨n1, 0, none⟩)] 60 (0, 0)) ∧ PB s 3 (n1 + 3) (n1 + 4) A ∧
      Lib.IsBuilderF 47 5 (n1 + 2) (n1 + 2) (nums .u8 (baseL ((bl s).take (k * 3)))) A ∧ Bld.BOff (n1 + 2) (n1 + 5) A ∧ Below w.heap.size w A ∧ n1 + 5 ≤ A.heap.size) (fun _ _ _ => False)
    (fun k A h => h.2.2.1) ?hI (fun _ _ _ _ h _ => h) ⟨k0, k1, ⟨k3, k4⟩, by simpa [baseL, nums] using HI0.out, Bld.BOff.fresh kb, hbW, by omega⟩
    ?a1 ?assign ?body ?done ?stop
  case assign =>
    intro l x A K hK
    gi_wp2_with fail
    exact hK
  case stop => rintro c j B _ h; exact h.elim
  case hI =>
    rintro k A B ⟨r0, r1, ⟨r3, r4⟩, hI, ho, hb, hs⟩ _ hc
    rw [hsz] at hc
    have z : ∀ j, j < 5 → ¬ LZ (n1 + 5) (n1 + j) := fun j hj h => by rcases h with h | h <;> omega
    exact ⟨hc.heap r0 (z 0 (by omega)), hc.heap r1 (z 1 (by omega)), ⟨hc.heap r3 (z 3 (by omega)), hc.heap r4 (z 4 (by omega))⟩, Bld.isB_chg hI ho (z 2 (by omega)) hc, ho.keep (hc.block _ (by omega) (z 2 (by omega))),
      Below.chg hb (hc.mono (T := fun k => n1 + 5 ≤ k) (fun k hk => by rcases hk with hk | hk <;> omega)) (by omega) (fun k hk => by have : n1 + 5 ≤ k := hk; omega), Nat.le_trans hs hc.size⟩
  case body =>
    rintro k x A hl hz hx ⟨r0, r1, ⟨r3, r4⟩, hI, ho, hb, hs⟩ hs2
    rw [hsz] at hl hz hs2 ⊢
    have hkl : k < (s.size + 3 - 1) / 3 := by rw [← pcs_len]; exact (List.getElem?_eq_some_iff.1 hx).1
    rw [pcs_get s 3 k hkl] at hx
    have hk3 := (lt_pcs s 3 k (by decide)).1 hkl
    obtain rfl := Option.some.inj hx
    have hps := piece_size s 3 k
    have hbp := bl_piece s 3 k
    obtain ⟨g, hg⟩ : ∃ g, s.extract (k * 3) (min (k * 3 + 3) s.size) = g := ⟨_, rfl⟩
    rw [hg] at hps hbp ⊢
    have hgb : ∀ x ∈ baseL (bl g), 0 ≤ x ∧ x < 256 := baseL_byte _ (bl_byte g)
    have HGr := Lib.hid (group_c n1 g (by omega) (by omega) A (by omega) (Signs.of_row r0 HC.out))
    have hstep : nums .u8 (baseL ((bl s).take ((k + 1) * 3))) = nums .u8 (baseL ((bl s).take (k * 3))) ++ Lib.strCells (strOfNums (baseL (bl g))) := by
      rw [baseL_step _ _ (by rw [bl_len]; exact hk3), Bld.nums_app, Bld.strCells_son _ hgb, hbp]
    have HST := Lib.hid hstep
    have c1 := cell_of_row A (n1 + 1) 0 _ _ _ r1
    simp at c1
    have HI := Lib.hid hI
    have HO := Lib.hid ho
    have HL := Lib.hid hl
    have hlen : (nums .u8 (baseL ((bl s).take (k * 3)))).length + (strOfNums (baseL (bl g))).size ≤ 140737488355328 := by
      rw [Bld.nums_len, baseL_len, PureB.son_size, baseL_len, List.length_take, bl_len, bl_len]
      omega
    clear hx hg hbp hgb hstep hI ho hl
    gi_wp2_with fail
    refine ⟨trivial, (callsIn_wide.2 HGr.out).mono ?_⟩
    rintro e A1 ⟨rfl, hb1⟩
    have HI1 := HI.out.below hb1
    have HO1 : Bld.BOff (n1 + 2) (n1 + 5) A1 := HO.out.keep (hb1.block _ (by omega))
    have hsA := hb1.size
    gi_wp2_with fail
    refine ⟨trivial, (callsIn_wide.2 (Bld.WriteString_k (n1 + 2) (n1 + 2) _ _ A1 HI1 hlen (by omega))).mono ?_⟩
    rintro e A2 ⟨rfl, hbl2, hb2, hok2⟩
    gi_wp2_with fail
    have hs2' := hb2.size
    have hbl3 : Lib.IsBuilderF 47 5 (n1 + 2) (n1 + 2) (nums .u8 (baseL ((bl s).take ((k + 1) * 3)))) A2 := by rw [HST.out]; exact .inr hbl2
    have z1 : A1.heap[n1 + 5]? = some (.deferred (some [])) := (Chg.of_below (S := fun _ => False) hb1).heap hz (fun h => h)
    have z2 : ∃ r, A1.heap[n1 + 5 + 1]? = some (.loop r) := by
      obtain ⟨r, hr⟩ := HL.out
      exact ⟨r, (Chg.of_below (S := fun _ => False) hb1).heap hr (fun h => h)⟩
    have kp : ∀ {j o}, A.heap[j]? = some o → A1.heap[j]? = some o := fun h => (Chg.of_below (S := fun _ => False) hb1).heap h (fun h => h)
    have hlk : LK (n1 + 5) A1 A2 := Bld.LK_kept hs2' hok2 (by rintro (h | h) <;> omega) z1 z2
    have z3 : ∃ r, A2.heap[n1 + 5 + 1]? = some (.loop r) := by
      obtain ⟨r, hr⟩ := z2
      exact ⟨r, hlk.z1.trans hr⟩
    refine ⟨(LK.of_below hb1 (by omega)).trans hlk, Bld.kept_row hok2 (kp r0) (by omega) (by decide), Bld.kept_row hok2 (kp r1) (by omega) (by decide), ⟨Bld.kept_row hok2 (kp r3) (by omega) (by decide), Bld.kept_row hok2 (kp r4) (by omega) (by decide)⟩, hbl3, Bld.BOff.of hbl3 (hlk.z0.trans z1) z3, ?_, by omega⟩
    exact (bl_trans hb hb1).trans (hb2.mono (by omega))
  case done =>
    rintro B ⟨r0, r1, ⟨r3, r4⟩, hI, ho, hb, hs⟩ hs2 hK
    rw [hsz] at hK hs2
    rw [pcs_len, List.take_of_length_le (by rw [bl_len]; omega)] at hI
    have hby := baseL_byte _ (bl_byte s)
    rw [← Bld.byteCells_nums _ hby] at hI
    have HSt := Lib.hid (Tryz.Builder_String_any_k (n1 + 2) (n1 + 2) _ B hI (by omega))
    clear hI hby ho
    gi_wp2_with fail
    refine ⟨trivial, (callsIn_wide.2 HSt.out).mono ?_⟩
    rintro e B2 ⟨rfl, hI2, hb2, hok2⟩
    have hK2 : B2.heap[n1 + 5]? = some (.deferred (some [])) := hok2 _ _ hK (fun e => by have := Option.some.inj e; omega) (by intro c fz e; cases e)
    have hs3 := hb2.size
    gi_wp2_with fail
    refine ⟨by simp, .inl ⟨_, _, rfl, run_takeDeferred hK2, ?_⟩⟩
    refine ⟨_, results_tmp rfl _ _ _, rfl, Below.chg (hb.trans (hb2.mono (by omega))) ((Chg.refl (fun z => w.heap.size ≤ z) B2).putObj (by omega) _) (by omega) (fun z hz => hz)⟩

end Code
end Go.Proofs.YtjnfoocmilbdlaaGreatDoor
/- code's ungroup. -/
namespace Go.Proofs.YtjnfoocmilbdlaaGreatDoor
set_option linter.unusedSimpArgs false
set_option linter.unusedVariables false
namespace Code
open Go.RowKit Go.Shelf Go.Proofs.YtjnfoocmilbdlaaGreatDoorW.PrintWords Go.Proofs.YtjnfoocmilbdlaaGreatDoor.PureB
attribute [local go_sem] Oper.semAt_some
/-- What ungroup and its callers hand back. -/
def ugS (o : Option (List Int)) : Value := .string (match o with | none => ⟨#[]⟩ | some l => strOfNums l)
def ugE (o : Option (List Int)) (n : Int) : Value := match o with | none => werr n | some _ => .nilIface
set_option maxHeartbeats 4000000 in
set_option maxRecDepth 1000000 in
theorem ungroup_c (b : Nat) (s : ByteArray) (at_ : Int) (hs : s.size ≤ 4) (w : World) (hbw : b < w.heap.size) (h : Signs b w) :
    Calls Tryz.prog 100 #[.pointer (some ⟨b, 0, none⟩), .string s, .int .i64 at_] w fun e w' =>
      e = .returned (.tuple #[ugS (ungL (bl s)), ugE (ungL (bl s)) at_]) ∧ Below w.heap.size w w' := by
  obtain ⟨t, ht⟩ : ∃ t : ByteArray, (⟨(Lib.trimRightB s.data.toList 61).toArray⟩ : ByteArray) = t := ⟨_, rfl⟩
  have hT := Tryz.strings_TrimRight_one s 61 (by decide) w (by omega)
  have hst := strip_bl s
  simp only [ht] at hT hst
  have hsl := strip_len (bl s)
  rw [← hst, bl_len, bl_len] at hsl
  obtain ⟨o, ho⟩ : ∃ o, ungL (bl s) = o := ⟨_, rfl⟩
  rw [ho]
  unfold ungL at ho
  rw [← hst] at ho
  have HO := Lib.hid ho
  have HT := Lib.hid hT
  have HS := Lib.hid h
  obtain ⟨w1, hw1⟩ : ∃ x, Lib.bytesWorld w 5 t = x := ⟨_, rfl⟩
  have hconv := Lib.run_convert_string_bytes (P := Tryz.prog) w 9 37 5 t Tryz.underlying9 Tryz.underlying37 Tryz.underlying5
  have hB1 := Joins.below_bytesWorld w.heap.size w 5 t (Nat.le_refl _)
  have hs1 := Lib.bytesWorld_size w 5 t
  have hat := bytesWorld_at w 5 t
  rw [hw1] at hconv hB1 hs1 hat
  have HAT := Lib.hid hat
  have HB1 := Lib.hid hB1
  obtain ⟨i0, hi, hz0, hz1, hz2⟩ := info_parts Bld.infoByte
  clear hw1 hat hB1 hT ht hst h ho
  generalize grownCap w t.size 0 5 = cap at hconv
  go_enter Tryz.func100, Tryz.ntmps100
  go_wp2_with (go_at_call 105; refine HT.out.mono ?_; rintro e w' ⟨rfl, hw⟩; rw [hw]; clear hw)
  go_loopw [8, 9, 20] (fun n bi i wr => ∃ (j : Nat) (vs : List Int), i = .int .i64 j ∧ j ≤ t.size ∧ RowKit.Hid (vals ((bl t).take j) = some vs) ∧ bi = .int .i64 (6 * j : Nat) ∧ n = .int .i64 (nsum vs) ∧ Below (w.heap.size + 1) w1 wr)
    (fun _ _ i _ => t.size - (intOf i).toNat)
  case atStart => exact ⟨0, [], rfl, Nat.zero_le _, Lib.hid rfl, rfl, rfl, Below.refl _ _⟩
  case round =>
    obtain ⟨j, vs, rfl, hj, HV, rfl, rfl, hb⟩ := hrel
    obtain ⟨hvl, hv64⟩ := vals_some _ _ HV.out
    rw [List.length_take, bl_len, Nat.min_eq_left hj] at hvl
    obtain ⟨hn0, hn1⟩ := nsum_bound vs hv64
    rw [hvl] at hn1
    have hbs := hb.size
    by_cases hlt : j < t.size
    · have hn2 : nsum vs < 262144 := by
        clear HV hvl hv64
        rcases (show j = 0 ∨ j = 1 ∨ j = 2 ∨ j = 3 by omega) with rfl | rfl | rfl | rfl <;> simp at hn1 <;> omega
      obtain ⟨n, hn⟩ : ∃ n, nsum vs = n := ⟨_, rfl⟩
      rw [hn] at hn0 hn1 hn2 ⊢
      have hc := (hb.cell (by simp)).trans (HAT.out j hlt)
      have hxj := bl_get t j hlt
      obtain ⟨x, hx⟩ : ∃ x, bt t j = x := ⟨_, rfl⟩
      rw [hx] at hc hxj
      have hsg : Signs b wr := fun q hq => ((HB1.out.trans (hb.mono (by omega))).cell hbw).trans (HS.out q hq)
      have HW := Lib.hid (worth_c b x wr hsg)
      have htk : (bl t).take (j + 1) = (bl t).take j ++ [x] := by rw [List.take_add_one, hxj]; rfl
      cases hwx : worthL x with
      | none =>
        have hnone : vals (bl t) = none := by
          rw [← List.take_append_drop j (bl t), List.drop_eq_getElem_cons (by rw [bl_len]; exact hlt)]
          have : (bl t)[j]'(by rw [bl_len]; exact hlt) = x := by
            have := hxj
            rw [List.getElem?_eq_getElem (by rw [bl_len]; exact hlt)] at this
            exact Option.some.inj this
          rw [this]
          exact vals_none _ _ _ hwx
        have hwv : wV x = .tuple #[.int .i64 0, .bool false] := by simp [wV, hwx]
        have ho2 : o = none := by rw [← HO.out, hnone]; rfl
        rw [hwv] at HW
        clear hsg htk hxj hx hwx hnone
        go_wp2_with (go_at_call 106; refine HW.out.mono ?_; rintro e w2 ⟨rfl, hb2⟩)
        refine bodyPost_ret (v := .tuple #[.string ⟨#[]⟩, werr at_]) (by simp [results, Tryz.results100, go_sem]) rfl ⟨by rw [ho2]; rfl, (HB1.out.trans (hb.mono (by omega))).trans (hb2.mono (by omega))⟩
      | some v =>
        obtain ⟨v0, v1, _⟩ := b64_worth x v hwx
        have hwv : wV x = .tuple #[.int .i64 v, .bool true] := by simp [wV, hwx]
        rw [hwv] at HW
        have hor : bits BinOp.or IntKind.i64 (n * 64) v = n * 64 + v := or_hi 6 (n * 64) v (by omega) (by omega) (by omega) (by omega) (by omega) (by omega)
        have HV2 : RowKit.Hid (vals ((bl t).take (j + 1)) = some (vs ++ [v])) := Lib.hid (by rw [htk]; exact vals_append _ _ _ _ HV.out hwx)
        have HN := Lib.hid hn
        clear hsg htk hxj hx hwx hn
        go_wp2_with (go_at_call 106; refine HW.out.mono ?_; rintro e w2 ⟨rfl, hb2⟩)
        go_roundw
        case rel => exact ⟨j + 1, vs ++ [v], by simp, by omega, HV2, by congr 1, by rw [nsum_append, HN.out], hb.trans (hb2.mono (by omega))⟩
        case measure => simp [intOf]; omega
    · obtain rfl : j = t.size := by omega
      rw [List.take_of_length_le (by rw [bl_len]; omega)] at HV
      have ho2 : o = some (ungV vs) := by rw [← HO.out, HV.out]; rfl
      unfold ungV at ho2
      rw [hvl] at ho2
      have hxb : 0 ≤ nsum vs / 2 ^ (6 * t.size % 8) ∧ nsum vs / 2 ^ (6 * t.size % 8) < 16777216 := by
        clear HV ho2 hlt
        rcases (show t.size = 0 ∨ t.size = 1 ∨ t.size = 2 ∨ t.size = 3 ∨ t.size = 4 by omega) with e | e | e | e | e <;> rw [e] at hn1 ⊢ <;> simp at hn1 ⊢ <;> omega
      obtain ⟨n, hn⟩ : ∃ n, nsum vs = n := ⟨_, rfl⟩
      rw [hn] at hn0 hn1 ho2 hxb ⊢
      obtain ⟨ts, hts⟩ : ∃ ts, t.size = ts := ⟨_, rfl⟩
      rw [hts] at hn1 ho2 hxb hsl hlt hconv ⊢
      have HQ := Lib.hid ho2
      clear ho2 hn HV HO hts
      rcases (show ts = 0 ∨ ts = 1 ∨ ts = 2 ∨ ts = 3 ∨ ts = 4 by omega) with rfl | rfl | rfl | rfl | rfl
      · simp at hxb
        rw [show ((6 * 0 : Nat) : Int) = 0 from rfl]
        try rw [show ((0 : Nat) : Int) = 0 from rfl]
        go_wp2_with fail
        have HQ2 : RowKit.Hid (o = some (bys (n) 0)) := Lib.hid (by rw [HQ.out]; simp)
        generalize hx : n = x at hxb HQ2 ⊢
        clear HQ hx hn0 hn1
        go_loopw [14, 15] (fun ov iv W => ∃ r : Nat, iv = .int .i64 (0 - 1 - r : Int) ∧ r ≤ 0 ∧ W.ownsRow (w.heap.size + 1) 5 1 ov r (nums .u8 ((bys x 0).take r)) ∧ Below (w.heap.size + 1) w1 W)
          (fun _ iv _ => (intOf iv + 1).toNat)
        case atStart => exact ⟨0, rfl, Nat.zero_le _, World.ownsRow_nil _ _ _ _, hb⟩
        case round =>
          obtain ⟨r, rfl, hr, hrow, hb⟩ := hrel
          by_cases hrm : r < 0
          · omega
          · obtain rfl : r = 0 := by omega
            rw [List.take_of_length_le (by rw [bys_len]; exact Nat.le_refl _)] at hrow
            have hll := bys_len x 0
            have hby := bys_byte x 0
            obtain ⟨L, hL⟩ : ∃ L, bys x 0 = L := ⟨_, rfl⟩
            rw [hL] at hrow HQ2 hll hby
            have hrow2 : wr.ownsRow (w.heap.size + 1) 5 1 u14 L.length (nums .u8 L) := by rw [hll]; exact hrow
            clear hrow
            obtain ⟨A', c', rfl, hrd⟩ := own_reads hrow2
            have hst := string_of_reads (P := Tryz.prog) (w := wr) (src := 37) (dst := 9) (c := c') Tryz.underlying37 Tryz.underlying5 Tryz.underlying9 hrd
            rw [hll] at hst
            have HB := Lib.hid hb
            clear hrow2 hrd hb
            go_wp2_with fail
            refine bodyPost_ret (v := .tuple #[.string (strOfNums L), .nilIface]) (by simp [results, Tryz.results100, go_sem]) rfl ⟨by rw [HQ2.out]; rfl, HB1.out.trans ((HB.out).mono (by omega))⟩
      · simp at hxb
        rw [show ((6 * 1 : Nat) : Int) = 6 from rfl]
        try rw [show ((1 : Nat) : Int) = 1 from rfl]
        go_wp2_with fail
        have HQ2 : RowKit.Hid (o = some (bys (n / 64) 0)) := Lib.hid (by rw [HQ.out]; simp)
        generalize hx : n / 64 = x at hxb HQ2 ⊢
        clear HQ hx hn0 hn1
        go_loopw [14, 15] (fun ov iv W => ∃ r : Nat, iv = .int .i64 (0 - 1 - r : Int) ∧ r ≤ 0 ∧ W.ownsRow (w.heap.size + 1) 5 1 ov r (nums .u8 ((bys x 0).take r)) ∧ Below (w.heap.size + 1) w1 W)
          (fun _ iv _ => (intOf iv + 1).toNat)
        case atStart => exact ⟨0, rfl, Nat.zero_le _, World.ownsRow_nil _ _ _ _, hb⟩
        case round =>
          obtain ⟨r, rfl, hr, hrow, hb⟩ := hrel
          by_cases hrm : r < 0
          · omega
          · obtain rfl : r = 0 := by omega
            rw [List.take_of_length_le (by rw [bys_len]; exact Nat.le_refl _)] at hrow
            have hll := bys_len x 0
            have hby := bys_byte x 0
            obtain ⟨L, hL⟩ : ∃ L, bys x 0 = L := ⟨_, rfl⟩
            rw [hL] at hrow HQ2 hll hby
            have hrow2 : wr.ownsRow (w.heap.size + 1) 5 1 u14 L.length (nums .u8 L) := by rw [hll]; exact hrow
            clear hrow
            obtain ⟨A', c', rfl, hrd⟩ := own_reads hrow2
            have hst := string_of_reads (P := Tryz.prog) (w := wr) (src := 37) (dst := 9) (c := c') Tryz.underlying37 Tryz.underlying5 Tryz.underlying9 hrd
            rw [hll] at hst
            have HB := Lib.hid hb
            clear hrow2 hrd hb
            go_wp2_with fail
            refine bodyPost_ret (v := .tuple #[.string (strOfNums L), .nilIface]) (by simp [results, Tryz.results100, go_sem]) rfl ⟨by rw [HQ2.out]; rfl, HB1.out.trans ((HB.out).mono (by omega))⟩
      · simp at hxb
        rw [show ((6 * 2 : Nat) : Int) = 12 from rfl]
        try rw [show ((2 : Nat) : Int) = 2 from rfl]
        go_wp2_with fail
        have HQ2 : RowKit.Hid (o = some (bys (n / 16) 1)) := Lib.hid (by rw [HQ.out]; simp)
        generalize hx : n / 16 = x at hxb HQ2 ⊢
        clear HQ hx hn0 hn1
        go_loopw [14, 15] (fun ov iv W => ∃ r : Nat, iv = .int .i64 (1 - 1 - r : Int) ∧ r ≤ 1 ∧ W.ownsRow (w.heap.size + 1) 5 1 ov r (nums .u8 ((bys x 1).take r)) ∧ Below (w.heap.size + 1) w1 W)
          (fun _ iv _ => (intOf iv + 1).toNat)
        case atStart => exact ⟨0, rfl, Nat.zero_le _, World.ownsRow_nil _ _ _ _, hb⟩
        case round =>
          obtain ⟨r, rfl, hr, hrow, hb⟩ := hrel
          by_cases hrm : r < 1
          · obtain rfl : r = 0 := by omega
            have htk : (bys x 1).take (0 + 1) = (bys x 1).take 0 ++ [x % 256] := by simp [bys, List.range_succ]
            have HTK := Lib.hid htk
            have HB := Lib.hid hb
            have hsW := hb.size
            obtain ⟨y, hy⟩ : ∃ y, x % 256 = y := ⟨_, rfl⟩
            rw [hy] at HTK
            clear htk hb
            go_wp2_with (at_builtin; refine wpList_append_own _ rfl _ _ 37 rfl (w.heap.size + 1) 5 i0 (.int .u8 0) 1 1 Tryz.underlying37 hi hz0 hz1 hz2 rfl (by decide) _ _ _ rfl (hrow.alloc _) ⟨wr.heap.size, 0, none⟩ 1 1 [.int .u8 y] rfl rfl (cell_one_new _ _ _) (by intro u hu; simp at hu; subst hu; rfl) (by unfold maxLen; omega) (by omega) (by simp; omega) ?_)
            intro v' w3 hown' hgrow _
            obtain ⟨g', cap', rfl⟩ := ownsRow_succ hown'
            have hbg := (HB.out.alloc (by omega) (.cells #[.int .u8 y] 5 (0, 0))).grown hgrow (by simp; omega) (own_base hrow)
            have HOW := Lib.hid hown'
            clear hown' hgrow hrow hy
            go_wp2_with fail
            go_roundw
            case rel => exact ⟨1, by simp, by omega, by rw [show 1 = 0 + 1 from rfl, HTK.out, nums_append]; exact HOW.out, hbg⟩
            case measure => simp [intOf]
          · obtain rfl : r = 1 := by omega
            rw [List.take_of_length_le (by rw [bys_len]; exact Nat.le_refl _)] at hrow
            have hll := bys_len x 1
            have hby := bys_byte x 1
            obtain ⟨L, hL⟩ : ∃ L, bys x 1 = L := ⟨_, rfl⟩
            rw [hL] at hrow HQ2 hll hby
            have hrow2 : wr.ownsRow (w.heap.size + 1) 5 1 u14 L.length (nums .u8 L) := by rw [hll]; exact hrow
            clear hrow
            obtain ⟨A', c', rfl, hrd⟩ := own_reads hrow2
            have hst := string_of_reads (P := Tryz.prog) (w := wr) (src := 37) (dst := 9) (c := c') Tryz.underlying37 Tryz.underlying5 Tryz.underlying9 hrd
            rw [hll] at hst
            have HB := Lib.hid hb
            clear hrow2 hrd hb
            go_wp2_with fail
            refine bodyPost_ret (v := .tuple #[.string (strOfNums L), .nilIface]) (by simp [results, Tryz.results100, go_sem]) rfl ⟨by rw [HQ2.out]; rfl, HB1.out.trans ((HB.out).mono (by omega))⟩
      · simp at hxb
        rw [show ((6 * 3 : Nat) : Int) = 18 from rfl]
        try rw [show ((3 : Nat) : Int) = 3 from rfl]
        go_wp2_with fail
        have HQ2 : RowKit.Hid (o = some (bys (n / 4) 2)) := Lib.hid (by rw [HQ.out]; simp)
        generalize hx : n / 4 = x at hxb HQ2 ⊢
        clear HQ hx hn0 hn1
        go_loopw [14, 15] (fun ov iv W => ∃ r : Nat, iv = .int .i64 (2 - 1 - r : Int) ∧ r ≤ 2 ∧ W.ownsRow (w.heap.size + 1) 5 1 ov r (nums .u8 ((bys x 2).take r)) ∧ Below (w.heap.size + 1) w1 W)
          (fun _ iv _ => (intOf iv + 1).toNat)
        case atStart => exact ⟨0, rfl, Nat.zero_le _, World.ownsRow_nil _ _ _ _, hb⟩
        case round =>
          obtain ⟨r, rfl, hr, hrow, hb⟩ := hrel
          by_cases hrm : r < 2
          · rcases (show r = 0 ∨ r = 1 by omega) with rfl | rfl
            · have htk : (bys x 2).take (0 + 1) = (bys x 2).take 0 ++ [x / 256 % 256] := by simp [bys, List.range_succ]
              have HTK := Lib.hid htk
              have HB := Lib.hid hb
              have hsW := hb.size
              obtain ⟨y, hy⟩ : ∃ y, x / 256 % 256 = y := ⟨_, rfl⟩
              rw [hy] at HTK
              clear htk hb
              go_wp2_with (at_builtin; refine wpList_append_own _ rfl _ _ 37 rfl (w.heap.size + 1) 5 i0 (.int .u8 0) 1 1 Tryz.underlying37 hi hz0 hz1 hz2 rfl (by decide) _ _ _ rfl (hrow.alloc _) ⟨wr.heap.size, 0, none⟩ 1 1 [.int .u8 y] rfl rfl (cell_one_new _ _ _) (by intro u hu; simp at hu; subst hu; rfl) (by unfold maxLen; omega) (by omega) (by simp; omega) ?_)
              intro v' w3 hown' hgrow _
              obtain ⟨g', cap', rfl⟩ := ownsRow_succ hown'
              have hbg := (HB.out.alloc (by omega) (.cells #[.int .u8 y] 5 (0, 0))).grown hgrow (by simp; omega) (own_base hrow)
              have HOW := Lib.hid hown'
              clear hown' hgrow hrow hy
              go_wp2_with fail
              go_roundw
              case rel => exact ⟨1, by simp, by omega, by rw [show 1 = 0 + 1 from rfl, HTK.out, nums_append]; exact HOW.out, hbg⟩
              case measure => simp [intOf]
            · have htk : (bys x 2).take (1 + 1) = (bys x 2).take 1 ++ [x % 256] := by simp [bys, List.range_succ]
              have HTK := Lib.hid htk
              have HB := Lib.hid hb
              have hsW := hb.size
              obtain ⟨y, hy⟩ : ∃ y, x % 256 = y := ⟨_, rfl⟩
              rw [hy] at HTK
              clear htk hb
              go_wp2_with (at_builtin; refine wpList_append_own _ rfl _ _ 37 rfl (w.heap.size + 1) 5 i0 (.int .u8 0) 1 1 Tryz.underlying37 hi hz0 hz1 hz2 rfl (by decide) _ _ _ rfl (hrow.alloc _) ⟨wr.heap.size, 0, none⟩ 1 1 [.int .u8 y] rfl rfl (cell_one_new _ _ _) (by intro u hu; simp at hu; subst hu; rfl) (by unfold maxLen; omega) (by omega) (by simp; omega) ?_)
              intro v' w3 hown' hgrow _
              obtain ⟨g', cap', rfl⟩ := ownsRow_succ hown'
              have hbg := (HB.out.alloc (by omega) (.cells #[.int .u8 y] 5 (0, 0))).grown hgrow (by simp; omega) (own_base hrow)
              have HOW := Lib.hid hown'
              clear hown' hgrow hrow hy
              go_wp2_with fail
              go_roundw
              case rel => exact ⟨2, by simp, by omega, by rw [show 2 = 1 + 1 from rfl, HTK.out, nums_append]; exact HOW.out, hbg⟩
              case measure => simp [intOf]
          · obtain rfl : r = 2 := by omega
            rw [List.take_of_length_le (by rw [bys_len]; exact Nat.le_refl _)] at hrow
            have hll := bys_len x 2
            have hby := bys_byte x 2
            obtain ⟨L, hL⟩ : ∃ L, bys x 2 = L := ⟨_, rfl⟩
            rw [hL] at hrow HQ2 hll hby
            have hrow2 : wr.ownsRow (w.heap.size + 1) 5 1 u14 L.length (nums .u8 L) := by rw [hll]; exact hrow
            clear hrow
            obtain ⟨A', c', rfl, hrd⟩ := own_reads hrow2
            have hst := string_of_reads (P := Tryz.prog) (w := wr) (src := 37) (dst := 9) (c := c') Tryz.underlying37 Tryz.underlying5 Tryz.underlying9 hrd
            rw [hll] at hst
            have HB := Lib.hid hb
            clear hrow2 hrd hb
            go_wp2_with fail
            refine bodyPost_ret (v := .tuple #[.string (strOfNums L), .nilIface]) (by simp [results, Tryz.results100, go_sem]) rfl ⟨by rw [HQ2.out]; rfl, HB1.out.trans ((HB.out).mono (by omega))⟩
      · simp at hxb
        rw [show ((6 * 4 : Nat) : Int) = 24 from rfl]
        try rw [show ((4 : Nat) : Int) = 4 from rfl]
        go_wp2_with fail
        have HQ2 : RowKit.Hid (o = some (bys (n) 3)) := Lib.hid (by rw [HQ.out]; simp)
        generalize hx : n = x at hxb HQ2 ⊢
        clear HQ hx hn0 hn1
        go_loopw [14, 15] (fun ov iv W => ∃ r : Nat, iv = .int .i64 (3 - 1 - r : Int) ∧ r ≤ 3 ∧ W.ownsRow (w.heap.size + 1) 5 1 ov r (nums .u8 ((bys x 3).take r)) ∧ Below (w.heap.size + 1) w1 W)
          (fun _ iv _ => (intOf iv + 1).toNat)
        case atStart => exact ⟨0, rfl, Nat.zero_le _, World.ownsRow_nil _ _ _ _, hb⟩
        case round =>
          obtain ⟨r, rfl, hr, hrow, hb⟩ := hrel
          by_cases hrm : r < 3
          · rcases (show r = 0 ∨ r = 1 ∨ r = 2 by omega) with rfl | rfl | rfl
            · have htk : (bys x 3).take (0 + 1) = (bys x 3).take 0 ++ [x / 65536] := by simp [bys, List.range_succ]; omega
              have HTK := Lib.hid htk
              have HB := Lib.hid hb
              have hsW := hb.size
              obtain ⟨y, hy⟩ : ∃ y, x / 65536 = y := ⟨_, rfl⟩
              rw [hy] at HTK
              clear htk hb
              go_wp2_with (at_builtin; refine wpList_append_own _ rfl _ _ 37 rfl (w.heap.size + 1) 5 i0 (.int .u8 0) 1 1 Tryz.underlying37 hi hz0 hz1 hz2 rfl (by decide) _ _ _ rfl (hrow.alloc _) ⟨wr.heap.size, 0, none⟩ 1 1 [.int .u8 y] rfl rfl (cell_one_new _ _ _) (by intro u hu; simp at hu; subst hu; rfl) (by unfold maxLen; omega) (by omega) (by simp; omega) ?_)
              intro v' w3 hown' hgrow _
              obtain ⟨g', cap', rfl⟩ := ownsRow_succ hown'
              have hbg := (HB.out.alloc (by omega) (.cells #[.int .u8 y] 5 (0, 0))).grown hgrow (by simp; omega) (own_base hrow)
              have HOW := Lib.hid hown'
              clear hown' hgrow hrow hy
              go_wp2_with fail
              go_roundw
              case rel => exact ⟨1, by simp, by omega, by rw [show 1 = 0 + 1 from rfl, HTK.out, nums_append]; exact HOW.out, hbg⟩
              case measure => simp [intOf]
            · have htk : (bys x 3).take (1 + 1) = (bys x 3).take 1 ++ [x / 256 % 256] := by simp [bys, List.range_succ]
              have HTK := Lib.hid htk
              have HB := Lib.hid hb
              have hsW := hb.size
              obtain ⟨y, hy⟩ : ∃ y, x / 256 % 256 = y := ⟨_, rfl⟩
              rw [hy] at HTK
              clear htk hb
              go_wp2_with (at_builtin; refine wpList_append_own _ rfl _ _ 37 rfl (w.heap.size + 1) 5 i0 (.int .u8 0) 1 1 Tryz.underlying37 hi hz0 hz1 hz2 rfl (by decide) _ _ _ rfl (hrow.alloc _) ⟨wr.heap.size, 0, none⟩ 1 1 [.int .u8 y] rfl rfl (cell_one_new _ _ _) (by intro u hu; simp at hu; subst hu; rfl) (by unfold maxLen; omega) (by omega) (by simp; omega) ?_)
              intro v' w3 hown' hgrow _
              obtain ⟨g', cap', rfl⟩ := ownsRow_succ hown'
              have hbg := (HB.out.alloc (by omega) (.cells #[.int .u8 y] 5 (0, 0))).grown hgrow (by simp; omega) (own_base hrow)
              have HOW := Lib.hid hown'
              clear hown' hgrow hrow hy
              go_wp2_with fail
              go_roundw
              case rel => exact ⟨2, by simp, by omega, by rw [show 2 = 1 + 1 from rfl, HTK.out, nums_append]; exact HOW.out, hbg⟩
              case measure => simp [intOf]
            · have htk : (bys x 3).take (2 + 1) = (bys x 3).take 2 ++ [x % 256] := by simp [bys, List.range_succ]
              have HTK := Lib.hid htk
              have HB := Lib.hid hb
              have hsW := hb.size
              obtain ⟨y, hy⟩ : ∃ y, x % 256 = y := ⟨_, rfl⟩
              rw [hy] at HTK
              clear htk hb
              go_wp2_with (at_builtin; refine wpList_append_own _ rfl _ _ 37 rfl (w.heap.size + 1) 5 i0 (.int .u8 0) 1 1 Tryz.underlying37 hi hz0 hz1 hz2 rfl (by decide) _ _ _ rfl (hrow.alloc _) ⟨wr.heap.size, 0, none⟩ 1 1 [.int .u8 y] rfl rfl (cell_one_new _ _ _) (by intro u hu; simp at hu; subst hu; rfl) (by unfold maxLen; omega) (by omega) (by simp; omega) ?_)
              intro v' w3 hown' hgrow _
              obtain ⟨g', cap', rfl⟩ := ownsRow_succ hown'
              have hbg := (HB.out.alloc (by omega) (.cells #[.int .u8 y] 5 (0, 0))).grown hgrow (by simp; omega) (own_base hrow)
              have HOW := Lib.hid hown'
              clear hown' hgrow hrow hy
              go_wp2_with fail
              go_roundw
              case rel => exact ⟨3, by simp, by omega, by rw [show 3 = 2 + 1 from rfl, HTK.out, nums_append]; exact HOW.out, hbg⟩
              case measure => simp [intOf]
          · obtain rfl : r = 3 := by omega
            rw [List.take_of_length_le (by rw [bys_len]; exact Nat.le_refl _)] at hrow
            have hll := bys_len x 3
            have hby := bys_byte x 3
            obtain ⟨L, hL⟩ : ∃ L, bys x 3 = L := ⟨_, rfl⟩
            rw [hL] at hrow HQ2 hll hby
            have hrow2 : wr.ownsRow (w.heap.size + 1) 5 1 u14 L.length (nums .u8 L) := by rw [hll]; exact hrow
            clear hrow
            obtain ⟨A', c', rfl, hrd⟩ := own_reads hrow2
            have hst := string_of_reads (P := Tryz.prog) (w := wr) (src := 37) (dst := 9) (c := c') Tryz.underlying37 Tryz.underlying5 Tryz.underlying9 hrd
            rw [hll] at hst
            have HB := Lib.hid hb
            clear hrow2 hrd hb
            go_wp2_with fail
            refine bodyPost_ret (v := .tuple #[.string (strOfNums L), .nilIface]) (by simp [results, Tryz.results100, go_sem]) rfl ⟨by rw [HQ2.out]; rfl, HB1.out.trans ((HB.out).mono (by omega))⟩
end Code
end Go.Proofs.YtjnfoocmilbdlaaGreatDoor
/- code's unbase and Unbase. -/
namespace Go.Proofs.YtjnfoocmilbdlaaGreatDoor
set_option linter.unusedSimpArgs false
set_option linter.unusedVariables false
namespace Code
open Go.RowKit Go.Shelf Go.Proofs.YtjnfoocmilbdlaaGreatDoorW.PrintWords Go.Proofs.YtjnfoocmilbdlaaGreatDoor.PureB
attribute [local go_sem] Oper.semAt_some
set_option maxRecDepth 100000 in
set_option maxHeartbeats 4000000 in
theorem unbase_c (s : ByteArray) (hs : s.size ≤ 4611686018427) (w : World) :
    Calls Tryz.prog 86 #[.string s] w fun e w' => (∃ n, e = .returned (.tuple #[ugS (unbL (bl s)), ugE (unbL (bl s)) n])) ∧ Below w.heap.size w w' := by
  obtain ⟨R, hR⟩ : ∃ R, unbL (bl s) = R := ⟨_, rfl⟩
  rw [hR]
  have HR := Lib.hid hR
  clear hR
  refine (callsIn_wide (n := 9)).1 ?_
  refine callsIn_of_wp_marks Tryz.func86 rfl trivial ?_ rfl
  simp only [Tryz.ntmps86, List.size_toArray, List.length_cons, List.length_nil, Nat.reduceAdd, Nat.reduceSub, Array.replicate_succ, Array.replicate_zero, List.push_toArray, List.append_toArray, List.nil_append, List.cons_append]
  gi_wp2_with fail
  refine ⟨trivial, (callsIn_wide.2 (all_c _)).mono ?_⟩
  rintro e w1 ⟨cs, rfl, hcs, hc64, hb1⟩
  have q0 : w1.heap[w.heap.size]? = some (.cells #[.string ⟨#[]⟩] 9 (0, 0)) := (Chg.of_below (S := fun _ => False) hb1).heap (by repeat (first | exact ag_new _ _ _ (by simp) | refine ag_old ?_)) (fun h => h)
  have q1 : w1.heap[w.heap.size + 1]? = some (.cells #[.nilIface] 40 (0, 0)) := (Chg.of_below (S := fun _ => False) hb1).heap (by repeat (first | exact ag_new _ _ _ (by simp) | refine ag_old ?_)) (fun h => h)
  have hbw1 : Below w.heap.size w w1 := by
    refine Below.trans (bl_alloc (bl_alloc (Below.refl _ _) _) _) (hb1.mono (by simp; omega))
  have hsz1 : w.heap.size + 2 ≤ w1.heap.size := by have := hb1.size; simpa using this
  clear hb1
  gi_wp2_with fail
  generalize hcq : Array.foldl (fun (cs : Array Value) (x : Value × Nat) => cs.setIfInBounds x.2 x.1) _ (cs.zipIdx 0) 0 64 = cq
  have HC : RowKit.Hid (∀ j : Nat, j < 64 → cq[j]? = some (.int .u8 (b64 j))) := Lib.hid (fun j hj => by rw [← hcq, fold_set _ _ (by rfl) hcs]; exact hc64 j hj)
  clear hc64 hcq
  refine ⟨trivial, (callsIn_wide.2 (groups_any s 4 _)).mono ?_⟩
  rintro e w2 ⟨rfl, rfl⟩
  gi_wp2_with fail
  obtain ⟨W, hW⟩ : ∃ W, (((((w1.alloc (.cells cq 65)).alloc (.cells #[.pointer (some ⟨w1.heap.size, 0, none⟩)] 60)).alloc (.cells #[.pointer none, .slice none 0 0] 47)).alloc (.cells #[.string s] 9)).alloc (.cells #[.int .i64 4] 3)) = W := ⟨_, rfl⟩
  have hsz : W.heap.size = w1.heap.size + 5 := by rw [← hW]; simp
  have k0 : W.heap[w1.heap.size]? = some (.cells cq 65 (0, 0)) := by rw [← hW]; repeat (first | exact ag_new _ _ _ (by simp) | refine ag_old ?_)
  have k1 : W.heap[w1.heap.size + 1]? = some (.cells #[.pointer (some ⟨w1.heap.size, 0, none⟩)] 60 (0, 0)) := by rw [← hW]; repeat (first | exact ag_new _ _ _ (by simp) | refine ag_old ?_)
  have kb : W.heap[w1.heap.size + 2]? = some (.cells #[.pointer none, .slice none 0 0] 47 (0, 0)) := by rw [← hW]; repeat (first | exact ag_new _ _ _ (by simp) | refine ag_old ?_)
  have k3 : W.heap[w1.heap.size + 3]? = some (.cells #[.string s] 9 (0, 0)) := by rw [← hW]; repeat (first | exact ag_new _ _ _ (by simp) | refine ag_old ?_)
  have k4 : W.heap[w1.heap.size + 4]? = some (.cells #[.int .i64 4] 3 (0, 0)) := by rw [← hW]; repeat (first | exact ag_new _ _ _ (by simp) | refine ag_old ?_)
  have hbW : Below w.heap.size w W := by rw [← hW]; exact bl_alloc (bl_alloc (bl_alloc (bl_alloc (bl_alloc hbw1 _) _) _) _) _
  have q2 : W.heap[w.heap.size]? = some (.cells #[.string ⟨#[]⟩] 9 (0, 0)) := by rw [← hW]; exact ag_old (ag_old (ag_old (ag_old (ag_old q0))))
  have q3 : W.heap[w.heap.size + 1]? = some (.cells #[.nilIface] 40 (0, 0)) := by rw [← hW]; exact ag_old (ag_old (ag_old (ag_old (ag_old q1))))
  rw [hW]
  clear hW hbw1 q0 q1
  generalize w1.heap.size = n1 at hsz k0 k1 kb k3 k4 hsz1 ⊢
  have HIT := Lib.hid (groups_it (9 - 1) (by decide) s (by omega) 4 (by decide) (by decide) (n1 + 3) (n1 + 4))
  have HI0 := Lib.hid (Lib.IsBuilderF.of (b := n1 + 2) (B := n1 + 2) (.inl ⟨Nat.le_refl _, _, kb, World.ownsRow_nil _ _ _ _, by simp [Value.ownBlock]⟩) : Lib.IsBuilderF 47 5 (n1 + 2) (n1 + 2) [] W)
  refine wpIn_range_itE1 rfl (by decide) (gf := 63) (lb := #[.pointer (some ⟨n1 + 3, 0, none⟩), .pointer (some ⟨n1 + 4, 0, none⟩)]) rfl trivial (enters_of Tryz.func63 (by kernel_rfl) rfl)
    HIT.out (fun _ => rfl)
    (fun k A => A.heap[w.heap.size]? = some (.cells #[.string ⟨#[]⟩] 9 (0, 0)) ∧ A.heap[w.heap.size + 1]? = some (.cells #[.nilIface] 40 (0, 0)) ∧
      A.heap[n1]? = some (.cells cq 65 (0, 0)) ∧ A.heap[n1 + 1]? = some (.cells #[.pointer (some ⟨n1, 0, none⟩)] 60 (0, 0)) ∧ PB s 4 (n1 + 3) (n1 + 4) A ∧
      (∃ acc, rough (pieces (bl s) 4 k) = some acc ∧ Lib.IsBuilderF 47 5 (n1 + 2) (n1 + 2) (nums .u8 acc) A) ∧ Bld.BOff (n1 + 2) (n1 + 5) A ∧ Below w.heap.size w A ∧ n1 + 5 ≤ A.heap.size)
    (fun c k A => c = .ret ∧ R = none ∧ ∃ n, A.heap[w.heap.size]? = some (.cells #[.string ⟨#[]⟩] 9 (0, 0)) ∧ A.heap[w.heap.size + 1]? = some (.cells #[werr n] 40 (0, 0)) ∧ Below w.heap.size w A)
    (fun k A h => h.2.2.2.2.1) ?hI ?hIx ⟨q2, q3, k0, k1, ⟨k3, k4⟩, ⟨[], rfl, by simpa [nums] using HI0.out⟩, Bld.BOff.fresh kb, hbW, by omega⟩
    ?a1 ?assign ?body ?done ?stop
  case assign =>
    intro l x A K hK
    gi_wp2_with fail
    exact hK
  case hI =>
    rintro k A B ⟨p0, p1, r0, r1, ⟨r3, r4⟩, ⟨acc, hacc, hI⟩, ho, hb, hs⟩ _ hc
    rw [hsz] at hc
    have z : ∀ j, j < n1 + 5 → ¬ LZ (n1 + 5) j := fun j hj h => by rcases h with h | h <;> omega
    exact ⟨hc.heap p0 (z _ (by omega)), hc.heap p1 (z _ (by omega)), hc.heap r0 (z _ (by omega)), hc.heap r1 (z _ (by omega)), ⟨hc.heap r3 (z _ (by omega)), hc.heap r4 (z _ (by omega))⟩, ⟨acc, hacc, Bld.isB_chg hI ho (z _ (by omega)) hc⟩, ho.keep (hc.block _ (by omega) (z _ (by omega))),
      Below.chg hb (hc.mono (T := fun k => n1 + 5 ≤ k) (fun k hk => by rcases hk with hk | hk <;> omega)) (by omega) (fun k hk => by have : n1 + 5 ≤ k := hk; omega), Nat.le_trans hs hc.size⟩
  case hIx =>
    rintro c k A B ⟨rfl, hRn, n, p0, p1, hb⟩ hc
    rw [hsz] at hc
    have z : ∀ j, j < n1 + 5 → ¬ LZ (n1 + 5) j := fun j hj h => by rcases h with h | h <;> omega
    have hbs := hb.size
    exact ⟨rfl, hRn, n, hc.heap p0 (z _ (by omega)), hc.heap p1 (z _ (by omega)), Below.chg hb (hc.mono (T := fun k => n1 + 5 ≤ k) (fun k hk => by rcases hk with hk | hk <;> omega)) hbs (fun k hk => by have : n1 + 5 ≤ k := hk; omega)⟩
  case body =>
    rintro k x A hl hz hx ⟨p0, p1, r0, r1, ⟨r3, r4⟩, ⟨acc, hacc, hI⟩, ho, hb, hs⟩ hs2
    rw [hsz] at hl hz hs2 ⊢
    have hkl : k < (s.size + 4 - 1) / 4 := by rw [← pcs_len]; exact (List.getElem?_eq_some_iff.1 hx).1
    rw [pcs_get s 4 k hkl] at hx
    have hk3 := (lt_pcs s 4 k (by decide)).1 hkl
    obtain rfl := Option.some.inj hx
    have hps := piece_size s 4 k
    have hbp := bl_piece s 4 k
    obtain ⟨g, hg⟩ : ∃ g, s.extract (k * 4) (min (k * 4 + 4) s.size) = g := ⟨_, rfl⟩
    rw [hg] at hps hbp ⊢
    have hsg := Signs.of_row r0 HC.out
    have HU := Lib.hid (ungroup_c n1 g (k * 4 : Nat) (by omega) A (by omega) hsg)
    have c1 := cell_of_row A (n1 + 1) 0 _ _ _ r1
    simp at c1
    have HI := Lib.hid hI
    have HO := Lib.hid ho
    have HL := Lib.hid hl
    obtain ⟨hal, hab⟩ := rough_bound _ _ hacc (pieces_le _ _ _)
    rw [pieces_len] at hal
    have HA := Lib.hid hacc
    cases hug : ungL (bl g) with
    | none =>
      rw [hug] at HU
      have hRn : R = none := by
        obtain ⟨r, hr⟩ := pieces_split (bl s) 4 ((s.size + 3) / 4) k (by omega)
        rw [← HR.out]
        unfold unbL
        rw [bl_len, hr, rough_none _ _ _ (by rw [← hbp]; exact hug)]
      clear hx hg hbp hI ho hl hsg hacc hug
      have f0 : A.frozen? ⟨w.heap.size, 0, none⟩ = false := Lib.frozen_of_heap p0 0
      have f1 : A.frozen? ⟨w.heap.size + 1, 0, none⟩ = false := Lib.frozen_of_heap p1 0
      gi_wp2_with fail
      refine ⟨trivial, (callsIn_wide.2 HU.out).mono ?_⟩
      rintro e A1 ⟨rfl, hb1⟩
      have kp : ∀ {j o}, A.heap[j]? = some o → A1.heap[j]? = some o := fun h => (Chg.of_below (S := fun _ => False) hb1).heap h (fun h => h)
      have p0' := kp p0
      have p1' := kp p1
      have e0 := cell_of_row A1 w.heap.size 0 _ _ _ p0'
      have e1 := cell_of_row A1 (w.heap.size + 1) 0 _ _ _ p1'
      simp at e0 e1
      have f0' : A1.frozen? ⟨w.heap.size, 0, none⟩ = false := Lib.frozen_of_heap p0' 0
      have f1' : A1.frozen? ⟨w.heap.size + 1, 0, none⟩ = false := Lib.frozen_of_heap p1' 0
      simp only [ugS, ugE]
      gi_wp2_with fail
      have g0 : Boxed (A1.setCell ⟨w.heap.size, 0, none⟩ (.string ⟨#[]⟩)) w.heap.size 9 (.string ⟨#[]⟩) := Boxed.set (v := .string ⟨#[]⟩) _ p0'
      have g1 : Boxed (A1.setCell ⟨w.heap.size, 0, none⟩ (.string ⟨#[]⟩)) (w.heap.size + 1) 40 .nilIface := (Below.heap_setCell _ _ _ _ (by simp)).trans p1'
      have g2 := Boxed.set (v := .nilIface) (werr (k * 4)) g1
      have g3 : ((A1.setCell ⟨w.heap.size, 0, none⟩ (.string ⟨#[]⟩)).setCell ⟨w.heap.size + 1, 0, none⟩ (werr (k * 4))).heap[w.heap.size]? = some (.cells #[.string ⟨#[]⟩] 9 (0, 0)) := (Below.heap_setCell _ _ _ _ (by simp)).trans g0
      have hc : Chg (fun j => j = w.heap.size ∨ j = w.heap.size + 1) A1 ((A1.setCell ⟨w.heap.size, 0, none⟩ (.string ⟨#[]⟩)).setCell ⟨w.heap.size + 1, 0, none⟩ (werr (k * 4))) := ((Chg.refl _ _).setCell (.inl rfl) _).setCell (.inr rfl) _
      have hsA := hb1.size
      exact ⟨(LK.of_below hb1 (by omega)).trans (LK.of_chg hc (by omega) (by rintro j hj (h | h) <;> omega)), rfl, hRn, _, g3, g2, Below.chg (bl_trans hb hb1) hc (by omega) (by rintro j (h | h) <;> omega)⟩
    | some L =>
      rw [hug] at HU
      obtain ⟨hL3, hLb⟩ := ungL_bound _ _ hug (by rw [bl_len]; omega)
      have hacc2 : rough (pieces (bl s) 4 (k + 1)) = some (acc ++ L) := by
        rw [pieces_succ]
        exact rough_append _ _ _ _ hacc (by rw [← hbp]; exact hug)
      have HA2 := Lib.hid hacc2
      have hstep : nums .u8 (acc ++ L) = nums .u8 acc ++ Lib.strCells (strOfNums L) := by rw [Bld.nums_app, Bld.strCells_son _ hLb]
      have HST := Lib.hid hstep
      have hlen : (nums .u8 acc).length + (strOfNums L).size ≤ 140737488355328 := by rw [Bld.nums_len, son_size]; omega
      clear hx hg hbp hI ho hl hsg hacc hug hacc2 hstep
      gi_wp2_with fail
      refine ⟨trivial, (callsIn_wide.2 HU.out).mono ?_⟩
      rintro e A1 ⟨rfl, hb1⟩
      have HI1 := HI.out.below hb1
      have HO1 : Bld.BOff (n1 + 2) (n1 + 5) A1 := HO.out.keep (hb1.block _ (by omega))
      have hsA := hb1.size
      simp only [ugS, ugE]
      gi_wp2_with fail
      refine ⟨trivial, (callsIn_wide.2 (Bld.WriteString_k (n1 + 2) (n1 + 2) _ _ A1 HI1 hlen (by omega))).mono ?_⟩
      rintro e A2 ⟨rfl, hbl2, hb2, hok2⟩
      gi_wp2_with fail
      have hs2' := hb2.size
      have hbl3 : Lib.IsBuilderF 47 5 (n1 + 2) (n1 + 2) (nums .u8 (acc ++ L)) A2 := by rw [HST.out]; exact .inr hbl2
      have z1 : A1.heap[n1 + 5]? = some (.deferred (some [])) := (Chg.of_below (S := fun _ => False) hb1).heap hz (fun h => h)
      have z2 : ∃ r, A1.heap[n1 + 5 + 1]? = some (.loop r) := by
        obtain ⟨r, hr⟩ := HL.out
        exact ⟨r, (Chg.of_below (S := fun _ => False) hb1).heap hr (fun h => h)⟩
      have kp : ∀ {j o}, A.heap[j]? = some o → A1.heap[j]? = some o := fun h => (Chg.of_below (S := fun _ => False) hb1).heap h (fun h => h)
      have hlk : LK (n1 + 5) A1 A2 := Bld.LK_kept hs2' hok2 (by rintro (h | h) <;> omega) z1 z2
      have z3 : ∃ r, A2.heap[n1 + 5 + 1]? = some (.loop r) := by
        obtain ⟨r, hr⟩ := z2
        exact ⟨r, hlk.z1.trans hr⟩
      refine ⟨(LK.of_below hb1 (by omega)).trans hlk, Bld.kept_row hok2 (kp p0) (by omega) (by decide), Bld.kept_row hok2 (kp p1) (by omega) (by decide), Bld.kept_row hok2 (kp r0) (by omega) (by decide), Bld.kept_row hok2 (kp r1) (by omega) (by decide), ⟨Bld.kept_row hok2 (kp r3) (by omega) (by decide), Bld.kept_row hok2 (kp r4) (by omega) (by decide)⟩, ⟨_, HA2.out, hbl3⟩, Bld.BOff.of hbl3 (hlk.z0.trans z1) z3, ?_, by omega⟩
      exact (bl_trans hb hb1).trans (hb2.mono (by omega))
  case stop =>
    rintro c k B hkl ⟨rfl, hRn, n, p0, p1, hb⟩ hs2 hK
    rw [hsz] at hK hs2
    have e0 := cell_of_row B w.heap.size 0 _ _ _ p0
    have e1 := cell_of_row B (w.heap.size + 1) 0 _ _ _ p1
    simp at e0 e1
    have hbs := hb.size
    gi_wp2_with fail
    refine ⟨by simp, .inl ⟨_, _, rfl, run_takeDeferred (by first | exact hK | (rw [hsz]; exact hK)), ?_⟩⟩
    have hkc : ∀ j, j < B.heap.size → j < n1 + 5 → (B.putObj W.heap.size (.deferred none)).heap[j]? = B.heap[j]? := fun j _ hj => World.putObj_heap_other (by omega)
    have e0' : (B.putObj W.heap.size (.deferred none)).cell? ⟨w.heap.size, 0, none⟩ = some (.string ⟨#[]⟩) := (World.cell?_of_block (w := B) (hkc w.heap.size (by omega) (by omega))).trans e0
    have e1' : (B.putObj W.heap.size (.deferred none)).cell? ⟨w.heap.size + 1, 0, none⟩ = some (werr n) := (World.cell?_of_block (w := B) (hkc (w.heap.size + 1) (by omega) (by omega))).trans e1
    refine ⟨_, results_cell2 rfl _ _ rfl rfl Tryz.underlying9 Tryz.underlying40 rfl rfl e0' e1', ⟨n, by rw [hRn]; rfl⟩, Below.chg hb ((Chg.refl (fun z => w.heap.size ≤ z) B).putObj (by omega) _) hbs (fun z hz => hz)⟩
  case done =>
    rintro B ⟨p0, p1, r0, r1, ⟨r3, r4⟩, ⟨acc, hacc, hI⟩, ho, hb, hs⟩ hs2 hK
    rw [hsz] at hK hs2
    rw [pcs_len] at hacc
    obtain ⟨hal, hab⟩ := rough_bound _ _ hacc (pieces_le _ _ _)
    rw [pieces_len] at hal
    rw [← Bld.byteCells_nums _ hab] at hI
    have HSt := Lib.hid (Tryz.Builder_String_any_k (n1 + 2) (n1 + 2) _ B hI (by omega))
    obtain ⟨t, ht⟩ : ∃ t, strOfNums acc = t := ⟨_, rfl⟩
    have hta : bl t = acc := by rw [← ht, bl_son _ hab]
    have hts : t.size = acc.length := by rw [← ht, son_size]
    have HBa := Lib.hid (Base_c t (by omega))
    rw [show (⟨(List.map (fun x : Int => x.toNat.toUInt8) acc).toArray⟩ : ByteArray) = t from ht] at HSt
    have hU : unbL (bl s) = if baseL acc = bl s then some acc else none := by
      unfold unbL
      rw [bl_len, show (s.size + 3) / 4 = (s.size + 4 - 1) / 4 from rfl, hacc]
    have HU := Lib.hid hU
    rw [hta] at HBa
    have HT := Lib.hid ht
    clear hI ho hacc hU ht
    gi_wp2_with fail
    refine ⟨trivial, (callsIn_wide.2 HSt.out).mono ?_⟩
    rintro e B2 ⟨rfl, hI2, hb2, hok2⟩
    have hK2 : B2.heap[n1 + 5]? = some (.deferred (some [])) := hok2 _ _ hK (fun e => by have := Option.some.inj e; omega) (by intro c fz e; cases e)
    have p0' := Bld.kept_row hok2 p0 (by omega) (by decide)
    have p1' := Bld.kept_row hok2 p1 (by omega) (by decide)
    have hs3 := hb2.size
    clear hI2
    gi_wp2_with fail
    refine ⟨trivial, (callsIn_wide.2 (HBa.out B2)).mono ?_⟩
    rintro e B3 ⟨rfl, hb3⟩
    have kp : ∀ {j o}, B2.heap[j]? = some o → B3.heap[j]? = some o := fun h => (Chg.of_below (S := fun _ => False) hb3).heap h (fun h => h)
    have hK3 := kp hK2
    have p0'' := kp p0'
    have p1'' := kp p1'
    have hs4 := hb3.size
    have e0 := cell_of_row B3 w.heap.size 0 _ _ _ p0''
    have e1 := cell_of_row B3 (w.heap.size + 1) 0 _ _ _ p1''
    simp at e0 e1
    have f0' : B3.frozen? ⟨w.heap.size, 0, none⟩ = false := Lib.frozen_of_heap p0'' 0
    have f1' : B3.frozen? ⟨w.heap.size + 1, 0, none⟩ = false := Lib.frozen_of_heap p1'' 0
    have hbB3 : Below w.heap.size w B3 := (hb.trans (hb2.mono (by omega))).trans (hb3.mono (by omega))
    by_cases heq : strOfNums (baseL acc) = s
    · have hRv : R = some acc := by
        rw [← HR.out, HU.out, if_pos]
        rw [← heq, bl_son _ (baseL_byte _ hab)]
      gi_wp2_with fail
      have g0 : Boxed (B3.setCell ⟨w.heap.size, 0, none⟩ (.string t)) w.heap.size 9 (.string t) := Boxed.set (v := .string ⟨#[]⟩) _ p0''
      have g1 : Boxed (B3.setCell ⟨w.heap.size, 0, none⟩ (.string t)) (w.heap.size + 1) 40 .nilIface := (Below.heap_setCell _ _ _ _ (by simp)).trans p1''
      have g2 := Boxed.set (v := .nilIface) .nilIface g1
      have g3 : Boxed ((B3.setCell ⟨w.heap.size, 0, none⟩ (.string t)).setCell ⟨w.heap.size + 1, 0, none⟩ .nilIface) w.heap.size 9 (.string t) := (Below.heap_setCell _ _ _ _ (by simp)).trans g0
      have hc : Chg (fun j => j = w.heap.size ∨ j = w.heap.size + 1) B3 ((B3.setCell ⟨w.heap.size, 0, none⟩ (.string t)).setCell ⟨w.heap.size + 1, 0, none⟩ .nilIface) := ((Chg.refl _ _).setCell (.inl rfl) _).setCell (.inr rfl) _
      have hK4 := hc.heap hK3 (by rintro (h | h) <;> omega)
      obtain ⟨B4, hB4⟩ : ∃ B4, (B3.setCell ⟨w.heap.size, 0, none⟩ (.string t)).setCell ⟨w.heap.size + 1, 0, none⟩ .nilIface = B4 := ⟨_, rfl⟩
      have hbB4 : Below w.heap.size w B4 := by rw [← hB4]; exact Below.chg hbB3 hc (by omega) (by rintro j (h | h) <;> omega)
      have hs5 := hc.size
      rw [hB4] at g2 g3 hK4 hs5 ⊢
      have hkc : ∀ j, j < n1 + 5 → (B4.putObj (n1 + 5) (.deferred none)).heap[j]? = B4.heap[j]? := fun j hj => World.putObj_heap_other (by omega)
      have e0' := (World.cell?_of_block (w := B4) (a := ⟨w.heap.size, 0, none⟩) (hkc w.heap.size (by omega))).trans g3.cell
      have e1' := (World.cell?_of_block (w := B4) (a := ⟨w.heap.size + 1, 0, none⟩) (hkc (w.heap.size + 1) (by omega))).trans g2.cell
      refine ⟨by simp, .inl ⟨_, _, rfl, run_takeDeferred hK4, ?_⟩⟩
      refine ⟨_, results_cell2 rfl _ _ rfl rfl Tryz.underlying9 Tryz.underlying40 rfl rfl e0' e1', ⟨s.size, by rw [hRv]; unfold ugS ugE; rw [← HT.out]⟩, Below.chg hbB4 ((Chg.refl (fun z => w.heap.size ≤ z) B4).putObj (by omega) _) (by omega) (fun z hz => hz)⟩
    · have hRv : R = none := by
        rw [← HR.out, HU.out, if_neg]
        intro e
        exact heq (by rw [e, son_bl])
      have hbf : ((strOfNums (baseL acc)).toList == s.toList) = false := by
        rw [beq_eq_false_iff_ne]
        intro e
        apply heq
        rw [ByteArray.toList_eq, ByteArray.toList_eq] at e
        exact ByteArray.ext (Array.toList_inj.1 e)
      gi_wp2_with fail
      have g0 : Boxed (B3.setCell ⟨w.heap.size, 0, none⟩ (.string ⟨#[]⟩)) w.heap.size 9 (.string ⟨#[]⟩) := Boxed.set (v := .string ⟨#[]⟩) _ p0''
      have g1 : Boxed (B3.setCell ⟨w.heap.size, 0, none⟩ (.string ⟨#[]⟩)) (w.heap.size + 1) 40 .nilIface := (Below.heap_setCell _ _ _ _ (by simp)).trans p1''
      have g2 := Boxed.set (v := .nilIface) (werr s.size) g1
      have g3 : Boxed ((B3.setCell ⟨w.heap.size, 0, none⟩ (.string ⟨#[]⟩)).setCell ⟨w.heap.size + 1, 0, none⟩ (werr s.size)) w.heap.size 9 (.string ⟨#[]⟩) := (Below.heap_setCell _ _ _ _ (by simp)).trans g0
      have hc : Chg (fun j => j = w.heap.size ∨ j = w.heap.size + 1) B3 ((B3.setCell ⟨w.heap.size, 0, none⟩ (.string ⟨#[]⟩)).setCell ⟨w.heap.size + 1, 0, none⟩ (werr s.size)) := ((Chg.refl _ _).setCell (.inl rfl) _).setCell (.inr rfl) _
      have hK4 := hc.heap hK3 (by rintro (h | h) <;> omega)
      obtain ⟨B4, hB4⟩ : ∃ B4, (B3.setCell ⟨w.heap.size, 0, none⟩ (.string ⟨#[]⟩)).setCell ⟨w.heap.size + 1, 0, none⟩ (werr s.size) = B4 := ⟨_, rfl⟩
      have hbB4 : Below w.heap.size w B4 := by rw [← hB4]; exact Below.chg hbB3 hc (by omega) (by rintro j (h | h) <;> omega)
      have hs5 := hc.size
      rw [hB4] at g2 g3 hK4 hs5 ⊢
      have hkc : ∀ j, j < n1 + 5 → (B4.putObj (n1 + 5) (.deferred none)).heap[j]? = B4.heap[j]? := fun j hj => World.putObj_heap_other (by omega)
      have e0' := (World.cell?_of_block (w := B4) (a := ⟨w.heap.size, 0, none⟩) (hkc w.heap.size (by omega))).trans g3.cell
      have e1' := (World.cell?_of_block (w := B4) (a := ⟨w.heap.size + 1, 0, none⟩) (hkc (w.heap.size + 1) (by omega))).trans g2.cell
      refine ⟨by simp, .inl ⟨_, _, rfl, run_takeDeferred hK4, ?_⟩⟩
      refine ⟨_, results_cell2 rfl _ _ rfl rfl Tryz.underlying9 Tryz.underlying40 rfl rfl e0' e1', ⟨s.size, by rw [hRv]; rfl⟩, Below.chg hbB4 ((Chg.refl (fun z => w.heap.size ≤ z) B4).putObj (by omega) _) (by omega) (fun z hz => hz)⟩

end Code
end Go.Proofs.YtjnfoocmilbdlaaGreatDoor
/- code's Unbase. -/
namespace Go.Proofs.YtjnfoocmilbdlaaGreatDoor
set_option linter.unusedSimpArgs false
set_option linter.unusedVariables false
namespace Code
open Go.RowKit Go.Shelf Go.Proofs.YtjnfoocmilbdlaaGreatDoorW.PrintWords Go.Proofs.YtjnfoocmilbdlaaGreatDoor.PureB
attribute [local go_sem] Oper.semAt_some
/-- the error's number -/
def ubN (o : Option (List Int)) : Int := match o with | none => 50 | some _ => 0
/-- the text -/
def ubT (o : Option (List Int)) : ByteArray := match o with | none => ⟨#[]⟩ | some l => strOfNums l
set_option maxHeartbeats 2000000 in
theorem Unbase_c (s : ByteArray) (hs : s.size ≤ 4611686018427) (a0 : Addr) (w : World) (h : GA a0 w) :
    Calls Tryz.prog 60 #[.string s] w fun e w' => e = .returned (.tuple #[.string (ubT (unbL (bl s))), .int .i64 (ubN (unbL (bl s)))]) ∧ Below w.heap.size w w' := by
  have HU := Lib.hid (unbase_c s hs w)
  obtain ⟨o, ho⟩ : ∃ o, unbL (bl s) = o := ⟨_, rfl⟩
  rw [ho] at HU ⊢
  have HG := Lib.hid h
  clear ho h
  go_enter Tryz.func60, Tryz.ntmps60
  go_wp2_with (go_at_call 86; refine HU.out.mono ?_)
  rintro e w1 ⟨⟨n, rfl⟩, hb⟩
  cases o with
  | none =>
    have HT := Lib.hid (told_bad n a0 w1 (HG.out.below hb))
    simp only [ugS, ugE]
    go_wp2_with (go_at_call 87; refine HT.out.mono ?_)
    rintro e w2 ⟨rfl, hb2⟩
    go_wp2_with fail
    go_ret2
    exact ⟨rfl, bl_trans hb hb2⟩
  | some l =>
    have HT := Lib.hid (told_nil a0 w1 (HG.out.below hb))
    simp only [ugS, ugE]
    go_wp2_with (go_at_call 87; refine HT.out.mono ?_)
    rintro e w2 ⟨rfl, hb2⟩
    go_wp2_with fail
    go_ret2
    exact ⟨rfl, bl_trans hb hb2⟩
end Code
end Go.Proofs.YtjnfoocmilbdlaaGreatDoor
/- fold's Unfold, isName, Item, readItem, ReadItem. -/
namespace Go.Proofs.YtjnfoocmilbdlaaGreatDoor
set_option linter.unusedSimpArgs false
set_option linter.unusedVariables false
namespace Fold
open Go.RowKit Go.Shelf Go.Proofs.YtjnfoocmilbdlaaGreatDoorW.PrintWords Go.Proofs.YtjnfoocmilbdlaaGreatDoor.PureB
open Go.Proofs.YtjnfoocmilbdlaaGreatDoor.Code (bl bl_len bl_get bl_byte Byt son_bl bl_son bl_extract bl_append baseL unbL ubT ubN)
attribute [local go_sem] Oper.semAt_some
/-- How Unfold ends. -/
def UfE (l : List Int) (w : World) (e : Ending) (w' : World) : Prop := ∃ v, e = .returned (.tuple #[v, .int .i64 (unfE l)]) ∧ rowOf w.heap.size v (unfL l) w' ∧ Below w.heap.size w w'
set_option maxHeartbeats 2000000 in
theorem Unfold_c (s : ByteArray) (hs : s.size ≤ 100000) (a0 a1 a2 a3 : Addr) (M : Int) (w : World) (hG : GA a0 a1 a2 a3 w) (hM : w.cell? ⟨6, 0, none⟩ = some (.int .i64 M)) :
    Calls Tryz.prog 15 #[.string s] w fun e w' => UfE (bl s) w e w' := by
  have hll : (bl s).length = s.size := bl_len s
  by_cases hl : 8000 < s.size
  · have HU := Lib.hid (unfold_large s ⟨hl, hs⟩ a0 a1 a2 a3 M w hG hM)
    have HV := Lib.hid (show unfL (bl s) = [] ∧ unfE (bl s) = 131 by unfold unfL unfE; rw [hll, if_pos hl, if_pos hl]; exact ⟨rfl, rfl⟩)
    have HG := Lib.hid hG
    clear hl hG hM hll
    go_enter Tryz.func15, Tryz.ntmps15
    go_wp2_with fail
    refine HU.out.mono ?_
    rintro e w1 ⟨he, hb⟩
    obtain rfl : e = .returned (.tuple #[.slice none 0 0, werr 0 a0]) := he
    have HT := Lib.hid (told_large 0 a0 a1 a2 a3 w1 (HG.out.below hb))
    go_wp2_with fail
    refine HT.out.mono ?_
    rintro e w2 ⟨rfl, hb2⟩
    go_wp2_with fail
    go_ret2
    exact ⟨.slice none 0 0, by rw [HV.out.2]; rfl, by rw [HV.out.1]; exact World.ownsRow_nil _ _ _ _, bl_trans hb hb2⟩
  · have HU := Lib.hid (unfold_main s (by omega) a0 a1 a2 a3 M w hG hM)
    cases hu : unfO (bl s) with
    | none =>
      rw [hu] at HU
      have HV := Lib.hid (show unfL (bl s) = [] ∧ unfE (bl s) = 150 by unfold unfL unfE; rw [hll, if_neg hl, if_neg hl, hu]; exact ⟨rfl, rfl⟩)
      have HG := Lib.hid hG
      clear hl hG hM hll hu
      go_enter Tryz.func15, Tryz.ntmps15
      go_wp2_with fail
      refine HU.out.mono ?_
      rintro e w1 ⟨he, hb⟩
      obtain ⟨n, rfl⟩ : ∃ n, e = .returned (.tuple #[.slice none 0 0, werr n a1]) := he
      have HT := Lib.hid (told_fold n a0 a1 a2 a3 w1 (HG.out.below hb))
      go_wp2_with fail
      refine HT.out.mono ?_
      rintro e w2 ⟨rfl, hb2⟩
      go_wp2_with fail
      go_ret2
      exact ⟨.slice none 0 0, by rw [HV.out.2]; rfl, by rw [HV.out.1]; exact World.ownsRow_nil _ _ _ _, bl_trans hb hb2⟩
    | some L =>
      rw [hu] at HU
      have HV := Lib.hid (show unfL (bl s) = L ∧ unfE (bl s) = 0 by unfold unfL unfE; rw [hll, if_neg hl, if_neg hl, hu]; exact ⟨rfl, rfl⟩)
      clear hl hG hM hll hu
      go_enter Tryz.func15, Tryz.ntmps15
      go_wp2_with fail
      refine HU.out.mono ?_
      rintro e w1 ⟨he, hb⟩
      obtain ⟨v, rfl, hr⟩ : ∃ v, e = .returned (.tuple #[v, .nilIface]) ∧ rowOf w.heap.size v L w1 := he
      obtain ⟨A', c', rfl⟩ := own_slice hr
      have HR := Lib.hid hr
      have HT := Lib.hid (told_nil w1)
      clear hr
      go_wp2_with fail
      refine HT.out.mono ?_
      rintro e w2 ⟨rfl, hb2⟩
      go_wp2_with fail
      go_ret2
      refine ⟨_, by rw [HV.out.2]; rfl, ?_, bl_trans hb hb2⟩
      rw [HV.out.1]
      exact own_move HR.out (fun r hr => hb2.block r (own_lt HR.out r hr))
/-! Names. -/
def pNm (r : Nat) : Bool := decide (r < 33 ∨ 126 < r ∨ r = 58)
theorem nm_c (x : Nat) (W : World) : FnGives Tryz.prog 51 #[] #[encR x] (.bool (pNm x)) W := by
  show Calls Tryz.prog 51 #[.int .i32 x] W _
  by_cases h0 : x < 33
  · have k0 : (x : Int) < 33 := by omega
    go_enter Tryz.func51, Tryz.ntmps51
    go_wp2
    all_goals (go_ret; exact ⟨by simp [pNm, h0], 0, rfl⟩)
  have k0 : ¬ (x : Int) < 33 := by omega
  by_cases h1 : 126 < x
  · have k1 : (126 : Int) < (x : Int) := by omega
    go_enter Tryz.func51, Tryz.ntmps51
    go_wp2
    all_goals (go_ret; exact ⟨by simp [pNm, h1], 0, rfl⟩)
  have k1 : ¬ (126 : Int) < (x : Int) := by omega
  by_cases h2 : x = 58
  · subst h2
    go_enter Tryz.func51, Tryz.ntmps51
    go_wp2
    all_goals (go_ret; exact ⟨by simp [pNm], 0, rfl⟩)
  have k2 : ¬ (x : Int) = 58 := by omega
  go_enter Tryz.func51, Tryz.ntmps51
  go_wp2
  all_goals go_ret
  all_goals refine ⟨?_, 0, rfl⟩
  all_goals (simp [pNm, h0, h1, h2]; try omega)
def nmF (s : ByteArray) : Bool := (bl s).any fun x => decide (x < 33 ∨ 126 < x ∨ x = 58)
theorem contN_c (s : ByteArray) (w : World) : Calls Tryz.prog 52 #[.string s, .func (.func 51) #[] #[]] w fun e w' => e = .returned (.bool (nmF s)) ∧ Below w.heap.size w w' := by
  refine (Tryz.strings_ContainsFunc_runes 51 #[] (enters_of Tryz.func51 (by kernel_rfl) rfl) pNm s w (fun W x _ _ => nm_c x W)).mono ?_
  rintro e w' ⟨rfl, hb⟩
  refine ⟨?_, hb⟩
  rw [idx_any pNm (fun r hr => by unfold pNm; apply decide_eq_true; omega) (fun x => decide (x < 33 ∨ 126 < x ∨ x = 58)) s (fun b => by unfold pNm; rw [decide_eq_decide]; omega)]
  rfl
theorem nmB_eq (s : ByteArray) : nmB (bl s) = match bl s with | [] => false | c :: _ => decide (c ≠ 35) && !nmF s := by
  unfold nmF nmB
  cases bl s with
  | nil => rfl
  | cons c r =>
    simp only
    congr 1
    rw [Bool.eq_iff_iff, Bool.not_eq_true', List.any_eq_false, List.all_eq_true]
    constructor
    · intro h x hx
      have := h x hx
      rw [decide_eq_true_eq] at this ⊢
      omega
    · intro h x hx
      have := h x hx
      rw [decide_eq_true_eq] at this ⊢
      omega
theorem ne_facts (s : ByteArray) : (s.toList.isEmpty = match bl s with | [] => true | _ :: _ => false) ∧ ((s.toList == ([] : List UInt8)) = match bl s with | [] => true | _ :: _ => false) := by
  have : s.toList = s.data.toList := Lib.toList_data s
  rw [this]
  unfold bl
  cases s.data.toList <;> exact ⟨rfl, rfl⟩
theorem isName_c (s : ByteArray) (hs : s.size ≤ 1000000) (w : World) :
    Calls Tryz.prog 33 #[.string s] w fun e w' => e = .returned (.bool (nmB (bl s))) ∧ Below w.heap.size w w' := by
  obtain ⟨n1, n2⟩ := ne_facts s
  have hn := nmB_eq s
  cases hb : bl s with
  | nil =>
    rw [hb] at n1 n2 hn
    have hn' : nmB [] = false := rfl
    rw [hn']
    clear hn hn' hb
    go_enter Tryz.func33, Tryz.ntmps33
    go_wp2_with fail
    go_ret
    exact ⟨rfl, Below.refl _ _⟩
  | cons c r =>
    have hsz : 0 < s.size := by rw [← bl_len, hb]; simp
    have hc := bl_get s 0 hsz
    rw [hb] at n1 n2 hn hc
    have hc0 : ((s[0]'hsz).toNat : Int) = c := by
      have h1 := bt_nat s 0 hsz
      rw [← h1]
      exact (Option.some.inj hc).symm
    have hn' : nmB (c :: r) = (decide (c ≠ 35) && !nmF s) := hn
    rw [hn']
    clear hn'
    have HN := Lib.hid (contN_c s)
    generalize nmF s = q at HN ⊢
    clear hn hb hc
    by_cases h35 : c = 35
    · subst h35
      go_enter Tryz.func33, Tryz.ntmps33
      go_wp2_with fail
      go_ret
      exact ⟨rfl, Below.refl _ _⟩
    · have hd : decide (c ≠ 35) = true := decide_eq_true h35
      rw [hd]
      clear hd
      go_enter Tryz.func33, Tryz.ntmps33
      go_wp2_with fail
      refine (HN.out _).mono ?_
      rintro e w1 ⟨rfl, hb1⟩
      go_wp2_with fail
      go_ret
      exact ⟨by simp [h35], hb1⟩
end Fold
end Go.Proofs.YtjnfoocmilbdlaaGreatDoor
/- fold's Item, readItem, ReadItem. -/
namespace Go.Proofs.YtjnfoocmilbdlaaGreatDoor
set_option linter.unusedSimpArgs false
set_option linter.unusedVariables false
namespace Fold
open Go.RowKit Go.Shelf Go.Proofs.YtjnfoocmilbdlaaGreatDoorW.PrintWords Go.Proofs.YtjnfoocmilbdlaaGreatDoor.PureB
open Go.Proofs.YtjnfoocmilbdlaaGreatDoor.Code (bl bl_len bl_get bl_byte Byt son_bl bl_son bl_extract bl_append baseL baseL_len unbL ubT ubN)
attribute [local go_sem] Oper.semAt_some
def itS (n v : ByteArray) : ByteArray :=
  if nmB (bl n) = true then
    if v.size = 0 then n ++ ⟨#[58]⟩ else if Utf.sfV v = true then (n ++ ⟨#[58, 32]⟩) ++ v else (n ++ ⟨#[58, 58, 32]⟩) ++ strOfNums (baseL (bl v))
  else ⟨#[]⟩
def itE (n : ByteArray) : Int := if nmB (bl n) = true then 0 else 151
theorem em_facts (v : ByteArray) (h : v.size = 0) : v.toList.isEmpty = true ∧ (v.toList == ([] : List UInt8)) = true := by
  have h1 := ne_facts v
  have : bl v = [] := List.eq_nil_of_length_eq_zero (by rw [bl_len]; exact h)
  rw [this] at h1
  exact h1
theorem em_not (v : ByteArray) (h : ¬ v.size = 0) : v.toList.isEmpty = false ∧ (v.toList == ([] : List UInt8)) = false := by
  have h1 := ne_facts v
  cases hb : bl v with
  | nil => exact absurd (by rw [← bl_len, hb]; rfl) h
  | cons c r => rw [hb] at h1; exact h1
set_option maxHeartbeats 4000000 in
theorem Item_c (n v : ByteArray) (hn : n.size ≤ 100000) (hv : v.size ≤ 100000) (a0 a1 a2 a3 : Addr) (w : World) (hG : GA a0 a1 a2 a3 w) :
    Calls Tryz.prog 19 #[.string n, .string v] w fun e w' => e = .returned (.tuple #[.string (itS n v), .int .i64 (itE n)]) ∧ Below w.heap.size w w' := by
  have HN := Lib.hid (isName_c n (by omega) w)
  have HG := Lib.hid hG
  have HI : ∃ q, nmB (bl n) = q := ⟨_, rfl⟩
  obtain ⟨q, hq⟩ := HI
  rw [hq] at HN
  cases q with
  | false =>
    have HV := Lib.hid (show itS n v = ⟨#[]⟩ ∧ itE n = 151 by unfold itS itE; rw [hq]; exact ⟨rfl, rfl⟩)
    rw [HV.out.1, HV.out.2]
    clear hG hq HV
    go_enter Tryz.func19, Tryz.ntmps19
    go_wp2_with fail
    refine HN.out.mono ?_
    rintro e w1 ⟨rfl, hb1⟩
    have g2 := (HG.out.below hb1).g3
    have HT := Lib.hid (fun W hb => told_item 0 a0 a1 a2 a3 W (HG.out.below hb))
    go_wp2_with fail
    refine (HT.out _ hb1).mono ?_
    rintro e w2 ⟨rfl, hb2⟩
    go_wp2_with fail
    go_ret2
    exact ⟨rfl, bl_trans hb1 hb2⟩
  | true =>
    by_cases h0 : v.size = 0
    · obtain ⟨e1, e2⟩ := em_facts v h0
      have HV := Lib.hid (show itS n v = n ++ ⟨#[58]⟩ ∧ itE n = 0 by unfold itS itE; rw [hq, if_pos rfl, if_pos rfl, if_pos h0]; exact ⟨rfl, rfl⟩)
      rw [HV.out.1, HV.out.2]
      clear hG hq HV h0
      go_enter Tryz.func19, Tryz.ntmps19
      go_wp2_with fail
      refine HN.out.mono ?_
      rintro e w1 ⟨rfl, hb1⟩
      go_wp2_with fail
      go_ret2
      exact ⟨rfl, hb1⟩
    · obtain ⟨e1, e2⟩ := em_not v h0
      have HS := Lib.hid (fun W => Utf.IsSafe_c v (by omega) W)
      obtain ⟨y, hy⟩ : ∃ y, Utf.sfV v = y := ⟨_, rfl⟩
      rw [hy] at HS
      cases y with
      | true =>
        have HV := Lib.hid (show itS n v = (n ++ ⟨#[58, 32]⟩) ++ v ∧ itE n = 0 by unfold itS itE; rw [hq, if_pos rfl, if_pos rfl, if_neg h0, hy, if_pos rfl]; exact ⟨rfl, rfl⟩)
        rw [HV.out.1, HV.out.2]
        clear hG hq HV h0 hy
        go_enter Tryz.func19, Tryz.ntmps19
        go_wp2_with fail
        refine HN.out.mono ?_
        rintro e w1 ⟨rfl, hb1⟩
        go_wp2_with fail
        refine (HS.out _).mono ?_
        rintro e w2 ⟨rfl, hb2⟩
        go_wp2_with fail
        go_ret2
        exact ⟨rfl, bl_trans hb1 hb2⟩
      | false =>
        have HV := Lib.hid (show itS n v = (n ++ ⟨#[58, 58, 32]⟩) ++ strOfNums (baseL (bl v)) ∧ itE n = 0 by unfold itS itE; rw [hq, if_pos rfl, if_pos rfl, if_neg h0, hy, if_neg (by decide)]; exact ⟨rfl, rfl⟩)
        rw [HV.out.1, HV.out.2]
        have HBA := Lib.hid (fun W => Code.Base_c v (by omega) W)
        have hz : (strOfNums (baseL (bl v))).size ≤ 400000 := by rw [son_size, baseL_len, bl_len]; omega
        generalize strOfNums (baseL (bl v)) = bb at *
        clear hG hq HV h0 hy
        go_enter Tryz.func19, Tryz.ntmps19
        go_wp2_with fail
        refine HN.out.mono ?_
        rintro e w1 ⟨rfl, hb1⟩
        go_wp2_with fail
        refine (HS.out _).mono ?_
        rintro e w2 ⟨rfl, hb2⟩
        go_wp2_with fail
        refine (HBA.out _).mono ?_
        rintro e w3 ⟨rfl, hb3⟩
        go_wp2_with fail
        go_ret2
        exact ⟨rfl, bl_trans (bl_trans hb1 hb2) hb3⟩
end Fold
end Go.Proofs.YtjnfoocmilbdlaaGreatDoor
/- fold's readItem, ReadItem. -/
namespace Go.Proofs.YtjnfoocmilbdlaaGreatDoor
set_option linter.unusedSimpArgs false
set_option linter.unusedVariables false
namespace Fold
open Go.RowKit Go.Shelf Go.Proofs.YtjnfoocmilbdlaaGreatDoorW.PrintWords Go.Proofs.YtjnfoocmilbdlaaGreatDoor.PureB
open Go.Proofs.YtjnfoocmilbdlaaGreatDoor.Code (bl bl_len bl_get bl_byte Byt son_bl bl_son bl_extract bl_append baseL baseL_len unbL ubT ubN)
attribute [local go_sem] Oper.semAt_some
/-- does it begin with < ? -/
def st60 (l : List Int) : Bool := match l with | c :: _ => decide (c = 60) | [] => false
/-- an item of a line: its name and its value, or an error's number -/
def riR (l : List Int) : Except Int (List Int × List Int) :=
  if (cutL 58 l).2.2 = false ∨ (cutL 58 l).1 = [] then .error 151
  else if st60 (cutL 58 l).2.1 = true then .error 152
  else if (unC (cutL 58 l).2.1).2 = true then
    match unbL (blanks (unC (cutL 58 l).2.1).1) with
    | none => .error 151
    | some t => .ok ((cutL 58 l).1, t)
  else if Utf.sfV (strOfNums (blanks (cutL 58 l).2.1)) = true then .ok ((cutL 58 l).1, blanks (cutL 58 l).2.1) else .error 151
def rvE (a2 a3 : Addr) (x : Int) : Value := if x = 152 then werr 0 a2 else werr 0 a3
/-- How readItem ends. -/
def RiE (o : Except Int (List Int × List Int)) (a2 a3 : Addr) (w : World) (e : Ending) (w' : World) : Prop :=
  (match o with
  | .error x => e = .returned (.tuple #[.string ⟨#[]⟩, .string ⟨#[]⟩, rvE a2 a3 x])
  | .ok p => e = .returned (.tuple #[.string (strOfNums p.1), .string (strOfNums p.2), .nilIface])) ∧ Below w.heap.size w w'
theorem pre60_c (l : List Int) (hl : Byt l) (b : Bool) (hb : st60 l = b) (W : World) : Calls Tryz.prog 50 #[.string (strOfNums l), .string ⟨#[60]⟩] W fun e w' => e = .returned (.bool b) ∧ w' = W := by
  have h1 : Lib.hasPrefix (strOfNums l).data.toList [60] = b := by
    rw [pre_bl, bl_son l hl, ← hb]
    unfold st60
    cases l with
    | nil => rfl
    | cons c t => rfl
  subst h1
  exact Tryz.strings_HasPrefix (strOfNums l) ⟨#[60]⟩ W
theorem cut_58 (s : ByteArray) (M : Int) (W : World) (hs : s.size ≤ 1000000) (hM : W.cell? ⟨6, 0, none⟩ = some (.int .i64 M)) (a b : List Int) (f : Bool) (h : cutL 58 (bl s) = (a, b, f)) :
    Calls Tryz.prog 58 #[.string s, .string ⟨#[58]⟩] W fun e w' => e = .returned (.tuple #[.string (strOfNums a), .string (strOfNums b), .bool f]) ∧ Below W.heap.size W w' := by
  refine (cut_c 58 s M W hs hM).mono ?_
  rintro e w' ⟨rfl, _, hb, _⟩
  have e10 : (((58 : UInt8).toNat : Nat) : Int) = 58 := rfl
  rw [e10, h]
  exact ⟨rfl, hb⟩
theorem unC_len (l : List Int) : (unC l).1.length ≤ l.length := by
  unfold unC
  cases l with
  | nil => exact Nat.le_refl _
  | cons x r =>
    simp only
    split
    · simp
    · exact Nat.le_refl _
theorem unC_byt (l : List Int) (h : Byt l) : Byt (unC l).1 := by
  unfold unC
  cases l with
  | nil => exact h
  | cons x r =>
    simp only
    split
    · exact fun y hy => h y (by simp [hy])
    · exact h
theorem unC_no (l : List Int) (h : (unC l).2 = false) : (unC l).1 = l := by
  unfold unC at h ⊢
  cases l with
  | nil => rfl
  | cons x r =>
    simp only at h ⊢
    split at h
    · cases h
    · rename_i hx; rw [if_neg hx]
set_option maxRecDepth 100000 in
set_option maxHeartbeats 4000000 in
theorem ri_nocut (s : ByteArray) (hs : s.size ≤ 100000) (a0 a1 a2 a3 b0 : Addr) (M : Int) (w : World) (hG : GA a0 a1 a2 a3 w) (hC : Code.GA b0 w) (hM : w.cell? ⟨6, 0, none⟩ = some (.int .i64 M)) (a b : List Int) (hcut : cutL 58 (bl s) = (a, b, false)) (ha : Byt a) (hbb : Byt b) (hbl : b.length ≤ 100000) (p : Bool) (hp : st60 b = p) :
    Calls Tryz.prog 38 #[.string s] w fun e w' => RiE (.error 151) a2 a3 w e w' := by
  have HC := Lib.hid (cut_58 s M w (by omega) hM a b false hcut)
  have HP := Lib.hid (fun W => pre60_c b hbb p hp W)
  have HG := Lib.hid hG
  have HCO := Lib.hid hC
  have HBB := Lib.hid hbb
  clear hcut hM hG hC hp hbb
  go_enter Tryz.func38, Tryz.ntmps38
  go_wp2_with fail
  refine HC.out.mono ?_
  rintro e w1 ⟨rfl, hb1⟩
  go_wp2_with fail
  have HK := Lib.hid (fun (w' : World) (hb' : Below w1.heap.size w1 w') => (⟨hb', (HG.out.below (bl_trans hb1 hb')).g3, (HG.out.below (bl_trans hb1 hb')).g2⟩ :
    Below w1.heap.size w1 w' ∧ w'.cell? ⟨2, 0, none⟩ = some (ese a3) ∧ w'.cell? ⟨3, 0, none⟩ = some (ese a2)))
  refine wp_only ?_
  refine wp_region_held_drew (S := fun w' => Below w1.heap.size w1 w' ∧ w'.cell? ⟨2, 0, none⟩ = some (ese a3) ∧ w'.cell? ⟨3, 0, none⟩ = some (ese a2)) (by kernel_rfl) (HK.out _ (Below.drew (Below.refl _ _))) (fun hHeld => ?_)
  refine takeD (i := 0) (v := ?v0) (some 20) #[true, false, false, false, false, false, false, false, false, false, false, false, false, false, false] rfl rfl rfl (by kernel_rfl) (by kernel_rfl) (by kernel_rfl) (fun _ _ _ h => h) (Or.inl ⟨by rfl, ?y0⟩) (by assumption) ?r0
  case y0 => intro w hSw; (try dsimp only at hSw); go_simp; (try rfl)
  try simp only [Act.put, List.setIfInBounds_toArray, List.set_cons_zero, List.set_cons_succ]
  refine takeD (i := 1) (v := ?v1) (some 21) #[true, true, false, false, false, false, false, false, false, false, false, false, false, false, false] rfl rfl rfl (by kernel_rfl) (by kernel_rfl) (by kernel_rfl) (fun _ _ _ h => h) (Or.inl ⟨by rfl, ?y1⟩) (by assumption) ?r1
  case y1 => intro w hSw; (try dsimp only at hSw); go_simp; (try rfl)
  try simp only [Act.put, List.setIfInBounds_toArray, List.set_cons_zero, List.set_cons_succ]
  refine takeD (i := 2) (v := ?v2) (some 22) #[true, true, true, false, false, false, false, false, false, false, false, false, false, false, false] rfl rfl rfl (by kernel_rfl) (by kernel_rfl) (by kernel_rfl) (fun _ _ _ h => h) (Or.inl ⟨by rfl, ?y2⟩) (by assumption) ?r2
  case y2 => intro w hSw; (try dsimp only at hSw); go_simp; (try rfl)
  try simp only [Act.put, List.setIfInBounds_toArray, List.set_cons_zero, List.set_cons_succ]
  refine takeD (i := 3) (v := undef) (some 23) #[true, true, true, true, false, false, false, false, false, false, false, false, false, false, false] rfl rfl rfl (by kernel_rfl) (by kernel_rfl) (by kernel_rfl) (fun _ _ _ h => h) (Or.inr ⟨by rfl, rfl⟩) (by assumption) ?r3
  try simp only [Act.put, List.setIfInBounds_toArray, List.set_cons_zero, List.set_cons_succ]
  refine takeD (i := 4) (v := undef) (some 24) #[true, true, true, true, true, false, false, false, false, false, false, false, false, false, false] rfl rfl rfl (by kernel_rfl) (by kernel_rfl) (by kernel_rfl) (fun _ _ _ h => h) (Or.inr ⟨by rfl, rfl⟩) (by assumption) ?r4
  try simp only [Act.put, List.setIfInBounds_toArray, List.set_cons_zero, List.set_cons_succ]
  refine takeD (i := 5) (v := ?v5) (some 25) #[true, true, true, true, true, true, false, false, false, false, false, false, false, false, false] rfl rfl rfl (by kernel_rfl) (by kernel_rfl) (by kernel_rfl) (fun _ _ _ h => h) (Or.inl ⟨by rfl, ?y5⟩) (by assumption) ?r5
  case y5 => intro w hSw; (try dsimp only at hSw); go_simp; (try rfl)
  try simp only [Act.put, List.setIfInBounds_toArray, List.set_cons_zero, List.set_cons_succ]
  refine takeD (i := 6) (v := ?v6) (some 26) #[true, true, true, true, true, true, true, false, false, false, false, false, false, false, false] rfl rfl rfl (by kernel_rfl) (by kernel_rfl) (by kernel_rfl) (fun _ _ _ h => h) (Or.inl ⟨by rfl, ?y6⟩) (by assumption) ?r6
  case y6 => intro w hSw; (try dsimp only at hSw); go_simp; (try rfl)
  try simp only [Act.put, List.setIfInBounds_toArray, List.set_cons_zero, List.set_cons_succ]
  refine takeD (i := 8) (v := ?v8) (some 28) #[true, true, true, true, true, true, true, false, true, false, false, false, false, false, false] rfl rfl rfl (by kernel_rfl) (by kernel_rfl) (by kernel_rfl) (fun _ _ _ h => h) (Or.inl ⟨by rfl, ?y8⟩) (by assumption) ?r8
  case y8 => intro w hSw; (try dsimp only at hSw); go_simp; (try rfl)
  try simp only [Act.put, List.setIfInBounds_toArray, List.set_cons_zero, List.set_cons_succ]
  refine takeD (i := 10) (v := ?v10) (some 30) #[true, true, true, true, true, true, true, false, true, false, true, false, false, false, false] rfl rfl rfl (by kernel_rfl) (by kernel_rfl) (by kernel_rfl) (fun _ _ _ h => h) (Or.inl ⟨by rfl, ?y10⟩) (by assumption) ?r10
  case y10 => intro w hSw; (try dsimp only at hSw); go_simp; (try rfl)
  try simp only [Act.put, List.setIfInBounds_toArray, List.set_cons_zero, List.set_cons_succ]
  refine takeD (i := 7) (v := ?v7) (some 27) #[true, true, true, true, true, true, true, true, true, false, true, false, false, false, false] rfl rfl rfl (by kernel_rfl) (by kernel_rfl) (by kernel_rfl) (fun _ _ _ h => h) (Or.inl ⟨by rfl, ?y7⟩) (by assumption) ?r7
  case y7 => intro w hSw; (try dsimp only at hSw); go_simp; (try rfl)
  try simp only [Act.put, List.setIfInBounds_toArray, List.set_cons_zero, List.set_cons_succ]
  refine wpAnyH_ready (rs := [9]) (by kernel_rfl) (by simp) ?_
  refine AllReadyH.cons rfl (fun K hK => ?_) AllReadyH.nil
  go_simp
  go_at_call 50
  refine (HP.out _).mono ?_
  rintro e w2 ⟨rfl, hw2⟩
  subst w2
  refine hK.out _ _ (HK.out _ (Below.drew (Below.refl _ _))) (fun hHeldN9 => ?_)
  clear hK K
  try simp only [Act.put, List.setIfInBounds_toArray, List.set_cons_zero, List.set_cons_succ]
  refine takeD (i := 11) (v := ?v11) (some 31) #[true, true, true, true, true, true, true, true, true, true, true, true, false, false, false] rfl rfl rfl (by kernel_rfl) (by kernel_rfl) (by kernel_rfl) (fun _ _ _ h => h) (Or.inl ⟨by rfl, ?y11⟩) (by assumption) ?r11
  case y11 => intro w hSw; (try dsimp only at hSw); go_simp; (try rfl)
  try simp only [Act.put, List.setIfInBounds_toArray, List.set_cons_zero, List.set_cons_succ]
  refine wpAnyH_ready (rs := [12]) (by kernel_rfl) (by simp) ?_
  refine AllReadyH.cons rfl (fun K hK => ?_) AllReadyH.nil
  go_simp
  refine hK.out _ _ (HK.out _ ((Below.drew (Below.refl _ _)).alloc (Nat.le_refl _) _)) (fun hHeldN11 => ?_)
  clear hK K
  try simp only [Act.put, List.setIfInBounds_toArray, List.set_cons_zero, List.set_cons_succ]
  refine wpAnyH_ready (rs := [13]) (by kernel_rfl) (by simp) ?_
  refine AllReadyH.cons rfl (fun K hK => ?_) AllReadyH.nil
  go_simp
  go_at_call 24
  refine (first2_true 0 p a3 a2 w1.drew.heap.size _ (World.alloc_heap_new _ _)).mono ?_
  rintro e w2 ⟨rfl, hb2⟩
  have hb2' : Below w1.heap.size w1 w2 := ((Below.drew (Below.refl _ _)).alloc (Nat.le_refl _) _).trans (hb2.mono (show w1.drew.heap.size ≤ _ from by simp))
  refine hK.out _ _ (HK.out _ hb2') (fun hHeldN12 => ?_)
  clear hK K
  try simp only [Act.put, List.setIfInBounds_toArray, List.set_cons_zero, List.set_cons_succ]
  refine takeD (i := 14) (v := ?v14) (some 8) #[true, true, true, true, true, true, true, true, true, true, true, true, true, true, true] rfl rfl rfl (by kernel_rfl) (by kernel_rfl) (by kernel_rfl) (fun _ _ _ h => h) (Or.inl ⟨by rfl, ?y14⟩) (by assumption) ?r14
  case y14 => intro w hSw; (try dsimp only at hSw); go_simp; (try rfl)
  try simp only [Act.put, List.setIfInBounds_toArray, List.set_cons_zero, List.set_cons_succ]
  refine wpAnyH_done (by kernel_rfl) ?_ _
  go_wp2_with fail
  go_ret3
  exact ⟨rfl, bl_trans hb1 hb2'⟩
set_option maxRecDepth 100000 in
set_option maxHeartbeats 4000000 in
theorem ri_noname (s : ByteArray) (hs : s.size ≤ 100000) (a0 a1 a2 a3 b0 : Addr) (M : Int) (w : World) (hG : GA a0 a1 a2 a3 w) (hC : Code.GA b0 w) (hM : w.cell? ⟨6, 0, none⟩ = some (.int .i64 M)) (a b : List Int) (hcut : cutL 58 (bl s) = (a, b, true)) (ha : Byt a) (hbb : Byt b) (hbl : b.length ≤ 100000) (p : Bool) (hp : st60 b = p) (h0 : a.length = 0) :
    Calls Tryz.prog 38 #[.string s] w fun e w' => RiE (.error 151) a2 a3 w e w' := by
  have HC := Lib.hid (cut_58 s M w (by omega) hM a b true hcut)
  have HP := Lib.hid (fun W => pre60_c b hbb p hp W)
  have HG := Lib.hid hG
  obtain ⟨e1, e2⟩ := em_facts (strOfNums a) (by rw [son_size]; exact h0)
  have HCO := Lib.hid hC
  have HBB := Lib.hid hbb
  clear hcut hM hG hC hp hbb
  go_enter Tryz.func38, Tryz.ntmps38
  go_wp2_with fail
  refine HC.out.mono ?_
  rintro e w1 ⟨rfl, hb1⟩
  go_wp2_with fail
  have HK := Lib.hid (fun (w' : World) (hb' : Below w1.heap.size w1 w') => (⟨hb', (HG.out.below (bl_trans hb1 hb')).g3, (HG.out.below (bl_trans hb1 hb')).g2⟩ :
    Below w1.heap.size w1 w' ∧ w'.cell? ⟨2, 0, none⟩ = some (ese a3) ∧ w'.cell? ⟨3, 0, none⟩ = some (ese a2)))
  refine wp_only ?_
  refine wp_region_held_drew (S := fun w' => Below w1.heap.size w1 w' ∧ w'.cell? ⟨2, 0, none⟩ = some (ese a3) ∧ w'.cell? ⟨3, 0, none⟩ = some (ese a2)) (by kernel_rfl) (HK.out _ (Below.drew (Below.refl _ _))) (fun hHeld => ?_)
  refine takeD (i := 0) (v := ?v0) (some 20) #[true, false, false, false, false, false, false, false, false, false, false, false, false, false, false] rfl rfl rfl (by kernel_rfl) (by kernel_rfl) (by kernel_rfl) (fun _ _ _ h => h) (Or.inl ⟨by rfl, ?y0⟩) (by assumption) ?r0
  case y0 => intro w hSw; (try dsimp only at hSw); go_simp; (try rfl)
  try simp only [Act.put, List.setIfInBounds_toArray, List.set_cons_zero, List.set_cons_succ]
  refine takeD (i := 1) (v := ?v1) (some 21) #[true, true, false, false, false, false, false, false, false, false, false, false, false, false, false] rfl rfl rfl (by kernel_rfl) (by kernel_rfl) (by kernel_rfl) (fun _ _ _ h => h) (Or.inl ⟨by rfl, ?y1⟩) (by assumption) ?r1
  case y1 => intro w hSw; (try dsimp only at hSw); go_simp; (try rfl)
  try simp only [Act.put, List.setIfInBounds_toArray, List.set_cons_zero, List.set_cons_succ]
  refine takeD (i := 2) (v := ?v2) (some 22) #[true, true, true, false, false, false, false, false, false, false, false, false, false, false, false] rfl rfl rfl (by kernel_rfl) (by kernel_rfl) (by kernel_rfl) (fun _ _ _ h => h) (Or.inl ⟨by rfl, ?y2⟩) (by assumption) ?r2
  case y2 => intro w hSw; (try dsimp only at hSw); go_simp; (try rfl)
  try simp only [Act.put, List.setIfInBounds_toArray, List.set_cons_zero, List.set_cons_succ]
  refine takeD (i := 3) (v := ?v3) (some 23) #[true, true, true, true, false, false, false, false, false, false, false, false, false, false, false] rfl rfl rfl (by kernel_rfl) (by kernel_rfl) (by kernel_rfl) (fun _ _ _ h => h) (Or.inl ⟨by rfl, ?y3⟩) (by assumption) ?r3
  case y3 => intro w hSw; (try dsimp only at hSw); go_simp; (try rfl)
  try simp only [Act.put, List.setIfInBounds_toArray, List.set_cons_zero, List.set_cons_succ]
  refine takeD (i := 4) (v := ?v4) (some 24) #[true, true, true, true, true, false, false, false, false, false, false, false, false, false, false] rfl rfl rfl (by kernel_rfl) (by kernel_rfl) (by kernel_rfl) (fun _ _ _ h => h) (Or.inl ⟨by rfl, ?y4⟩) (by assumption) ?r4
  case y4 => intro w hSw; (try dsimp only at hSw); go_simp; (try rfl)
  try simp only [Act.put, List.setIfInBounds_toArray, List.set_cons_zero, List.set_cons_succ]
  refine takeD (i := 5) (v := ?v5) (some 25) #[true, true, true, true, true, true, false, false, false, false, false, false, false, false, false] rfl rfl rfl (by kernel_rfl) (by kernel_rfl) (by kernel_rfl) (fun _ _ _ h => h) (Or.inl ⟨by rfl, ?y5⟩) (by assumption) ?r5
  case y5 => intro w hSw; (try dsimp only at hSw); go_simp; (try rfl)
  try simp only [Act.put, List.setIfInBounds_toArray, List.set_cons_zero, List.set_cons_succ]
  refine takeD (i := 6) (v := ?v6) (some 26) #[true, true, true, true, true, true, true, false, false, false, false, false, false, false, false] rfl rfl rfl (by kernel_rfl) (by kernel_rfl) (by kernel_rfl) (fun _ _ _ h => h) (Or.inl ⟨by rfl, ?y6⟩) (by assumption) ?r6
  case y6 => intro w hSw; (try dsimp only at hSw); go_simp; (try rfl)
  try simp only [Act.put, List.setIfInBounds_toArray, List.set_cons_zero, List.set_cons_succ]
  refine takeD (i := 8) (v := ?v8) (some 28) #[true, true, true, true, true, true, true, false, true, false, false, false, false, false, false] rfl rfl rfl (by kernel_rfl) (by kernel_rfl) (by kernel_rfl) (fun _ _ _ h => h) (Or.inl ⟨by rfl, ?y8⟩) (by assumption) ?r8
  case y8 => intro w hSw; (try dsimp only at hSw); go_simp; (try rfl)
  try simp only [Act.put, List.setIfInBounds_toArray, List.set_cons_zero, List.set_cons_succ]
  refine takeD (i := 10) (v := ?v10) (some 30) #[true, true, true, true, true, true, true, false, true, false, true, false, false, false, false] rfl rfl rfl (by kernel_rfl) (by kernel_rfl) (by kernel_rfl) (fun _ _ _ h => h) (Or.inl ⟨by rfl, ?y10⟩) (by assumption) ?r10
  case y10 => intro w hSw; (try dsimp only at hSw); go_simp; (try rfl)
  try simp only [Act.put, List.setIfInBounds_toArray, List.set_cons_zero, List.set_cons_succ]
  refine takeD (i := 7) (v := ?v7) (some 27) #[true, true, true, true, true, true, true, true, true, false, true, false, false, false, false] rfl rfl rfl (by kernel_rfl) (by kernel_rfl) (by kernel_rfl) (fun _ _ _ h => h) (Or.inl ⟨by rfl, ?y7⟩) (by assumption) ?r7
  case y7 => intro w hSw; (try dsimp only at hSw); go_simp; (try rfl)
  try simp only [Act.put, List.setIfInBounds_toArray, List.set_cons_zero, List.set_cons_succ]
  refine wpAnyH_ready (rs := [9]) (by kernel_rfl) (by simp) ?_
  refine AllReadyH.cons rfl (fun K hK => ?_) AllReadyH.nil
  go_simp
  go_at_call 50
  refine (HP.out _).mono ?_
  rintro e w2 ⟨rfl, hw2⟩
  subst w2
  refine hK.out _ _ (HK.out _ (Below.drew (Below.refl _ _))) (fun hHeldN11 => ?_)
  clear hK K
  try simp only [Act.put, List.setIfInBounds_toArray, List.set_cons_zero, List.set_cons_succ]
  refine takeD (i := 11) (v := ?v11) (some 31) #[true, true, true, true, true, true, true, true, true, true, true, true, false, false, false] rfl rfl rfl (by kernel_rfl) (by kernel_rfl) (by kernel_rfl) (fun _ _ _ h => h) (Or.inl ⟨by rfl, ?y11⟩) (by assumption) ?r11
  case y11 => intro w hSw; (try dsimp only at hSw); go_simp; (try rfl)
  try simp only [Act.put, List.setIfInBounds_toArray, List.set_cons_zero, List.set_cons_succ]
  refine wpAnyH_ready (rs := [12]) (by kernel_rfl) (by simp) ?_
  refine AllReadyH.cons rfl (fun K hK => ?_) AllReadyH.nil
  go_simp
  refine hK.out _ _ (HK.out _ ((Below.drew (Below.refl _ _)).alloc (Nat.le_refl _) _)) (fun hHeldN13 => ?_)
  clear hK K
  try simp only [Act.put, List.setIfInBounds_toArray, List.set_cons_zero, List.set_cons_succ]
  refine wpAnyH_ready (rs := [13]) (by kernel_rfl) (by simp) ?_
  refine AllReadyH.cons rfl (fun K hK => ?_) AllReadyH.nil
  go_simp
  go_at_call 24
  refine (first2_true 0 p a3 a2 w1.drew.heap.size _ (World.alloc_heap_new _ _)).mono ?_
  rintro e w2 ⟨rfl, hb2⟩
  have hb2' : Below w1.heap.size w1 w2 := ((Below.drew (Below.refl _ _)).alloc (Nat.le_refl _) _).trans (hb2.mono (show w1.drew.heap.size ≤ _ from by simp))
  refine hK.out _ _ (HK.out _ hb2') (fun hHeldN14 => ?_)
  clear hK K
  try simp only [Act.put, List.setIfInBounds_toArray, List.set_cons_zero, List.set_cons_succ]
  refine takeD (i := 14) (v := ?v14) (some 8) #[true, true, true, true, true, true, true, true, true, true, true, true, true, true, true] rfl rfl rfl (by kernel_rfl) (by kernel_rfl) (by kernel_rfl) (fun _ _ _ h => h) (Or.inl ⟨by rfl, ?y14⟩) (by assumption) ?r14
  case y14 => intro w hSw; (try dsimp only at hSw); go_simp; (try rfl)
  try simp only [Act.put, List.setIfInBounds_toArray, List.set_cons_zero, List.set_cons_succ]
  refine wpAnyH_done (by kernel_rfl) ?_ _
  go_wp2_with fail
  go_ret3
  exact ⟨rfl, bl_trans hb1 hb2'⟩
set_option maxRecDepth 100000 in
set_option maxHeartbeats 4000000 in
theorem ri_url (s : ByteArray) (hs : s.size ≤ 100000) (a0 a1 a2 a3 b0 : Addr) (M : Int) (w : World) (hG : GA a0 a1 a2 a3 w) (hC : Code.GA b0 w) (hM : w.cell? ⟨6, 0, none⟩ = some (.int .i64 M)) (a b : List Int) (hcut : cutL 58 (bl s) = (a, b, true)) (ha : Byt a) (hbb : Byt b) (hbl : b.length ≤ 100000) (hp : st60 b = true) (h0 : 0 < a.length) :
    Calls Tryz.prog 38 #[.string s] w fun e w' => RiE (.error 152) a2 a3 w e w' := by
  have HC := Lib.hid (cut_58 s M w (by omega) hM a b true hcut)
  have HP := Lib.hid (fun W => pre60_c b hbb true hp W)
  have HG := Lib.hid hG
  obtain ⟨e1, e2⟩ := em_not (strOfNums a) (by rw [son_size]; omega)
  have HCO := Lib.hid hC
  have HBB := Lib.hid hbb
  clear hcut hM hG hC hp hbb
  go_enter Tryz.func38, Tryz.ntmps38
  go_wp2_with fail
  refine HC.out.mono ?_
  rintro e w1 ⟨rfl, hb1⟩
  go_wp2_with fail
  have HK := Lib.hid (fun (w' : World) (hb' : Below w1.heap.size w1 w') => (⟨hb', (HG.out.below (bl_trans hb1 hb')).g3, (HG.out.below (bl_trans hb1 hb')).g2⟩ :
    Below w1.heap.size w1 w' ∧ w'.cell? ⟨2, 0, none⟩ = some (ese a3) ∧ w'.cell? ⟨3, 0, none⟩ = some (ese a2)))
  refine wp_only ?_
  refine wp_region_held_drew (S := fun w' => Below w1.heap.size w1 w' ∧ w'.cell? ⟨2, 0, none⟩ = some (ese a3) ∧ w'.cell? ⟨3, 0, none⟩ = some (ese a2)) (by kernel_rfl) (HK.out _ (Below.drew (Below.refl _ _))) (fun hHeld => ?_)
  refine takeD (i := 0) (v := ?v0) (some 20) #[true, false, false, false, false, false, false, false, false, false, false, false, false, false, false] rfl rfl rfl (by kernel_rfl) (by kernel_rfl) (by kernel_rfl) (fun _ _ _ h => h) (Or.inl ⟨by rfl, ?y0⟩) (by assumption) ?r0
  case y0 => intro w hSw; (try dsimp only at hSw); go_simp; (try rfl)
  try simp only [Act.put, List.setIfInBounds_toArray, List.set_cons_zero, List.set_cons_succ]
  refine takeD (i := 1) (v := ?v1) (some 21) #[true, true, false, false, false, false, false, false, false, false, false, false, false, false, false] rfl rfl rfl (by kernel_rfl) (by kernel_rfl) (by kernel_rfl) (fun _ _ _ h => h) (Or.inl ⟨by rfl, ?y1⟩) (by assumption) ?r1
  case y1 => intro w hSw; (try dsimp only at hSw); go_simp; (try rfl)
  try simp only [Act.put, List.setIfInBounds_toArray, List.set_cons_zero, List.set_cons_succ]
  refine takeD (i := 2) (v := ?v2) (some 22) #[true, true, true, false, false, false, false, false, false, false, false, false, false, false, false] rfl rfl rfl (by kernel_rfl) (by kernel_rfl) (by kernel_rfl) (fun _ _ _ h => h) (Or.inl ⟨by rfl, ?y2⟩) (by assumption) ?r2
  case y2 => intro w hSw; (try dsimp only at hSw); go_simp; (try rfl)
  try simp only [Act.put, List.setIfInBounds_toArray, List.set_cons_zero, List.set_cons_succ]
  refine takeD (i := 3) (v := ?v3) (some 23) #[true, true, true, true, false, false, false, false, false, false, false, false, false, false, false] rfl rfl rfl (by kernel_rfl) (by kernel_rfl) (by kernel_rfl) (fun _ _ _ h => h) (Or.inl ⟨by rfl, ?y3⟩) (by assumption) ?r3
  case y3 => intro w hSw; (try dsimp only at hSw); go_simp; (try rfl)
  try simp only [Act.put, List.setIfInBounds_toArray, List.set_cons_zero, List.set_cons_succ]
  refine takeD (i := 4) (v := ?v4) (some 24) #[true, true, true, true, true, false, false, false, false, false, false, false, false, false, false] rfl rfl rfl (by kernel_rfl) (by kernel_rfl) (by kernel_rfl) (fun _ _ _ h => h) (Or.inl ⟨by rfl, ?y4⟩) (by assumption) ?r4
  case y4 => intro w hSw; (try dsimp only at hSw); go_simp; (try rfl)
  try simp only [Act.put, List.setIfInBounds_toArray, List.set_cons_zero, List.set_cons_succ]
  refine takeD (i := 5) (v := ?v5) (some 25) #[true, true, true, true, true, true, false, false, false, false, false, false, false, false, false] rfl rfl rfl (by kernel_rfl) (by kernel_rfl) (by kernel_rfl) (fun _ _ _ h => h) (Or.inl ⟨by rfl, ?y5⟩) (by assumption) ?r5
  case y5 => intro w hSw; (try dsimp only at hSw); go_simp; (try rfl)
  try simp only [Act.put, List.setIfInBounds_toArray, List.set_cons_zero, List.set_cons_succ]
  refine takeD (i := 6) (v := ?v6) (some 26) #[true, true, true, true, true, true, true, false, false, false, false, false, false, false, false] rfl rfl rfl (by kernel_rfl) (by kernel_rfl) (by kernel_rfl) (fun _ _ _ h => h) (Or.inl ⟨by rfl, ?y6⟩) (by assumption) ?r6
  case y6 => intro w hSw; (try dsimp only at hSw); go_simp; (try rfl)
  try simp only [Act.put, List.setIfInBounds_toArray, List.set_cons_zero, List.set_cons_succ]
  refine takeD (i := 8) (v := ?v8) (some 28) #[true, true, true, true, true, true, true, false, true, false, false, false, false, false, false] rfl rfl rfl (by kernel_rfl) (by kernel_rfl) (by kernel_rfl) (fun _ _ _ h => h) (Or.inl ⟨by rfl, ?y8⟩) (by assumption) ?r8
  case y8 => intro w hSw; (try dsimp only at hSw); go_simp; (try rfl)
  try simp only [Act.put, List.setIfInBounds_toArray, List.set_cons_zero, List.set_cons_succ]
  refine takeD (i := 10) (v := ?v10) (some 30) #[true, true, true, true, true, true, true, false, true, false, true, false, false, false, false] rfl rfl rfl (by kernel_rfl) (by kernel_rfl) (by kernel_rfl) (fun _ _ _ h => h) (Or.inl ⟨by rfl, ?y10⟩) (by assumption) ?r10
  case y10 => intro w hSw; (try dsimp only at hSw); go_simp; (try rfl)
  try simp only [Act.put, List.setIfInBounds_toArray, List.set_cons_zero, List.set_cons_succ]
  refine takeD (i := 7) (v := ?v7) (some 27) #[true, true, true, true, true, true, true, true, true, false, true, false, false, false, false] rfl rfl rfl (by kernel_rfl) (by kernel_rfl) (by kernel_rfl) (fun _ _ _ h => h) (Or.inl ⟨by rfl, ?y7⟩) (by assumption) ?r7
  case y7 => intro w hSw; (try dsimp only at hSw); go_simp; (try rfl)
  try simp only [Act.put, List.setIfInBounds_toArray, List.set_cons_zero, List.set_cons_succ]
  refine wpAnyH_ready (rs := [9]) (by kernel_rfl) (by simp) ?_
  refine AllReadyH.cons rfl (fun K hK => ?_) AllReadyH.nil
  go_simp
  go_at_call 50
  refine (HP.out _).mono ?_
  rintro e w2 ⟨rfl, hw2⟩
  subst w2
  refine hK.out _ _ (HK.out _ (Below.drew (Below.refl _ _))) (fun hHeldN11 => ?_)
  clear hK K
  try simp only [Act.put, List.setIfInBounds_toArray, List.set_cons_zero, List.set_cons_succ]
  refine takeD (i := 11) (v := ?v11) (some 31) #[true, true, true, true, true, true, true, true, true, true, true, true, false, false, false] rfl rfl rfl (by kernel_rfl) (by kernel_rfl) (by kernel_rfl) (fun _ _ _ h => h) (Or.inl ⟨by rfl, ?y11⟩) (by assumption) ?r11
  case y11 => intro w hSw; (try dsimp only at hSw); go_simp; (try rfl)
  try simp only [Act.put, List.setIfInBounds_toArray, List.set_cons_zero, List.set_cons_succ]
  refine wpAnyH_ready (rs := [12]) (by kernel_rfl) (by simp) ?_
  refine AllReadyH.cons rfl (fun K hK => ?_) AllReadyH.nil
  go_simp
  refine hK.out _ _ (HK.out _ ((Below.drew (Below.refl _ _)).alloc (Nat.le_refl _) _)) (fun hHeldN13 => ?_)
  clear hK K
  try simp only [Act.put, List.setIfInBounds_toArray, List.set_cons_zero, List.set_cons_succ]
  refine wpAnyH_ready (rs := [13]) (by kernel_rfl) (by simp) ?_
  refine AllReadyH.cons rfl (fun K hK => ?_) AllReadyH.nil
  go_simp
  go_at_call 24
  refine (first2_false_true 0 a3 a2 w1.drew.heap.size _ (World.alloc_heap_new _ _)).mono ?_
  rintro e w2 ⟨rfl, hb2⟩
  have hb2' : Below w1.heap.size w1 w2 := ((Below.drew (Below.refl _ _)).alloc (Nat.le_refl _) _).trans (hb2.mono (show w1.drew.heap.size ≤ _ from by simp))
  refine hK.out _ _ (HK.out _ hb2') (fun hHeldN14 => ?_)
  clear hK K
  try simp only [Act.put, List.setIfInBounds_toArray, List.set_cons_zero, List.set_cons_succ]
  refine takeD (i := 14) (v := ?v14) (some 8) #[true, true, true, true, true, true, true, true, true, true, true, true, true, true, true] rfl rfl rfl (by kernel_rfl) (by kernel_rfl) (by kernel_rfl) (fun _ _ _ h => h) (Or.inl ⟨by rfl, ?y14⟩) (by assumption) ?r14
  case y14 => intro w hSw; (try dsimp only at hSw); go_simp; (try rfl)
  try simp only [Act.put, List.setIfInBounds_toArray, List.set_cons_zero, List.set_cons_succ]
  refine wpAnyH_done (by kernel_rfl) ?_ _
  go_wp2_with fail
  go_ret3
  exact ⟨rfl, bl_trans hb1 hb2'⟩
set_option maxRecDepth 100000 in
set_option maxHeartbeats 4000000 in
theorem ri_base_ok (s : ByteArray) (hs : s.size ≤ 100000) (a0 a1 a2 a3 b0 : Addr) (M : Int) (w : World) (hG : GA a0 a1 a2 a3 w) (hC : Code.GA b0 w) (hM : w.cell? ⟨6, 0, none⟩ = some (.int .i64 M)) (a b : List Int) (hcut : cutL 58 (bl s) = (a, b, true)) (ha : Byt a) (hbb : Byt b) (hbl : b.length ≤ 100000) (hp : st60 b = false) (h0 : 0 < a.length) (c : List Int) (hun : unC b = (c, true)) (d : List Int) (hd : blanks c = d) (t : List Int) (hu : unbL d = some t) :
    Calls Tryz.prog 38 #[.string s] w fun e w' => RiE (.ok (a, t)) a2 a3 w e w' := by
  have HC := Lib.hid (cut_58 s M w (by omega) hM a b true hcut)
  have HP := Lib.hid (fun W => pre60_c b hbb false hp W)
  have HG := Lib.hid hG
  obtain ⟨e1, e2⟩ := em_not (strOfNums a) (by rw [son_size]; omega)
  have hcp := cutp_c (strOfNums b)
  rw [bl_son b hbb, hun] at hcp
  have HCP := Lib.hid hcp
  have hcb : Byt c := by
    have h := unC_byt b hbb
    rw [hun] at h
    exact h
  have hcl : c.length ≤ 100000 := by
    have h := unC_len b
    rw [hun] at h
    exact Nat.le_trans h hbl
  have htl := triml_c (strOfNums c)
  rw [bl_son c hcb, hd] at htl
  have HTL := Lib.hid htl
  have hdb : Byt d := hd ▸ blanks_byt c hcb
  have hdl : d.length ≤ 100000 := by have := blanks_len c; rw [hd] at this; omega
  have hub := fun W h => Code.Unbase_c (strOfNums d) (by rw [son_size]; omega) b0 W h
  rw [bl_son d hdb, hu] at hub
  have HUB := Lib.hid hub
  clear hcp hcb htl hdb hub hu hun hd
  have HCO := Lib.hid hC
  have HBB := Lib.hid hbb
  clear hcut hM hG hC hp hbb
  go_enter Tryz.func38, Tryz.ntmps38
  go_wp2_with fail
  refine HC.out.mono ?_
  rintro e w1 ⟨rfl, hb1⟩
  go_wp2_with fail
  have HK := Lib.hid (fun (w' : World) (hb' : Below w1.heap.size w1 w') => (⟨hb', (HG.out.below (bl_trans hb1 hb')).g3, (HG.out.below (bl_trans hb1 hb')).g2⟩ :
    Below w1.heap.size w1 w' ∧ w'.cell? ⟨2, 0, none⟩ = some (ese a3) ∧ w'.cell? ⟨3, 0, none⟩ = some (ese a2)))
  refine wp_only ?_
  refine wp_region_held_drew (S := fun w' => Below w1.heap.size w1 w' ∧ w'.cell? ⟨2, 0, none⟩ = some (ese a3) ∧ w'.cell? ⟨3, 0, none⟩ = some (ese a2)) (by kernel_rfl) (HK.out _ (Below.drew (Below.refl _ _))) (fun hHeld => ?_)
  refine takeD (i := 0) (v := ?v0) (some 20) #[true, false, false, false, false, false, false, false, false, false, false, false, false, false, false] rfl rfl rfl (by kernel_rfl) (by kernel_rfl) (by kernel_rfl) (fun _ _ _ h => h) (Or.inl ⟨by rfl, ?y0⟩) (by assumption) ?r0
  case y0 => intro w hSw; (try dsimp only at hSw); go_simp; (try rfl)
  try simp only [Act.put, List.setIfInBounds_toArray, List.set_cons_zero, List.set_cons_succ]
  refine takeD (i := 1) (v := ?v1) (some 21) #[true, true, false, false, false, false, false, false, false, false, false, false, false, false, false] rfl rfl rfl (by kernel_rfl) (by kernel_rfl) (by kernel_rfl) (fun _ _ _ h => h) (Or.inl ⟨by rfl, ?y1⟩) (by assumption) ?r1
  case y1 => intro w hSw; (try dsimp only at hSw); go_simp; (try rfl)
  try simp only [Act.put, List.setIfInBounds_toArray, List.set_cons_zero, List.set_cons_succ]
  refine takeD (i := 2) (v := ?v2) (some 22) #[true, true, true, false, false, false, false, false, false, false, false, false, false, false, false] rfl rfl rfl (by kernel_rfl) (by kernel_rfl) (by kernel_rfl) (fun _ _ _ h => h) (Or.inl ⟨by rfl, ?y2⟩) (by assumption) ?r2
  case y2 => intro w hSw; (try dsimp only at hSw); go_simp; (try rfl)
  try simp only [Act.put, List.setIfInBounds_toArray, List.set_cons_zero, List.set_cons_succ]
  refine takeD (i := 3) (v := ?v3) (some 23) #[true, true, true, true, false, false, false, false, false, false, false, false, false, false, false] rfl rfl rfl (by kernel_rfl) (by kernel_rfl) (by kernel_rfl) (fun _ _ _ h => h) (Or.inl ⟨by rfl, ?y3⟩) (by assumption) ?r3
  case y3 => intro w hSw; (try dsimp only at hSw); go_simp; (try rfl)
  try simp only [Act.put, List.setIfInBounds_toArray, List.set_cons_zero, List.set_cons_succ]
  refine takeD (i := 4) (v := ?v4) (some 24) #[true, true, true, true, true, false, false, false, false, false, false, false, false, false, false] rfl rfl rfl (by kernel_rfl) (by kernel_rfl) (by kernel_rfl) (fun _ _ _ h => h) (Or.inl ⟨by rfl, ?y4⟩) (by assumption) ?r4
  case y4 => intro w hSw; (try dsimp only at hSw); go_simp; (try rfl)
  try simp only [Act.put, List.setIfInBounds_toArray, List.set_cons_zero, List.set_cons_succ]
  refine takeD (i := 5) (v := ?v5) (some 25) #[true, true, true, true, true, true, false, false, false, false, false, false, false, false, false] rfl rfl rfl (by kernel_rfl) (by kernel_rfl) (by kernel_rfl) (fun _ _ _ h => h) (Or.inl ⟨by rfl, ?y5⟩) (by assumption) ?r5
  case y5 => intro w hSw; (try dsimp only at hSw); go_simp; (try rfl)
  try simp only [Act.put, List.setIfInBounds_toArray, List.set_cons_zero, List.set_cons_succ]
  refine takeD (i := 6) (v := ?v6) (some 26) #[true, true, true, true, true, true, true, false, false, false, false, false, false, false, false] rfl rfl rfl (by kernel_rfl) (by kernel_rfl) (by kernel_rfl) (fun _ _ _ h => h) (Or.inl ⟨by rfl, ?y6⟩) (by assumption) ?r6
  case y6 => intro w hSw; (try dsimp only at hSw); go_simp; (try rfl)
  try simp only [Act.put, List.setIfInBounds_toArray, List.set_cons_zero, List.set_cons_succ]
  refine takeD (i := 8) (v := ?v8) (some 28) #[true, true, true, true, true, true, true, false, true, false, false, false, false, false, false] rfl rfl rfl (by kernel_rfl) (by kernel_rfl) (by kernel_rfl) (fun _ _ _ h => h) (Or.inl ⟨by rfl, ?y8⟩) (by assumption) ?r8
  case y8 => intro w hSw; (try dsimp only at hSw); go_simp; (try rfl)
  try simp only [Act.put, List.setIfInBounds_toArray, List.set_cons_zero, List.set_cons_succ]
  refine takeD (i := 10) (v := ?v10) (some 30) #[true, true, true, true, true, true, true, false, true, false, true, false, false, false, false] rfl rfl rfl (by kernel_rfl) (by kernel_rfl) (by kernel_rfl) (fun _ _ _ h => h) (Or.inl ⟨by rfl, ?y10⟩) (by assumption) ?r10
  case y10 => intro w hSw; (try dsimp only at hSw); go_simp; (try rfl)
  try simp only [Act.put, List.setIfInBounds_toArray, List.set_cons_zero, List.set_cons_succ]
  refine takeD (i := 7) (v := ?v7) (some 27) #[true, true, true, true, true, true, true, true, true, false, true, false, false, false, false] rfl rfl rfl (by kernel_rfl) (by kernel_rfl) (by kernel_rfl) (fun _ _ _ h => h) (Or.inl ⟨by rfl, ?y7⟩) (by assumption) ?r7
  case y7 => intro w hSw; (try dsimp only at hSw); go_simp; (try rfl)
  try simp only [Act.put, List.setIfInBounds_toArray, List.set_cons_zero, List.set_cons_succ]
  refine wpAnyH_ready (rs := [9]) (by kernel_rfl) (by simp) ?_
  refine AllReadyH.cons rfl (fun K hK => ?_) AllReadyH.nil
  go_simp
  go_at_call 50
  refine (HP.out _).mono ?_
  rintro e w2 ⟨rfl, hw2⟩
  subst w2
  refine hK.out _ _ (HK.out _ (Below.drew (Below.refl _ _))) (fun hHeldN11 => ?_)
  clear hK K
  try simp only [Act.put, List.setIfInBounds_toArray, List.set_cons_zero, List.set_cons_succ]
  refine takeD (i := 11) (v := ?v11) (some 31) #[true, true, true, true, true, true, true, true, true, true, true, true, false, false, false] rfl rfl rfl (by kernel_rfl) (by kernel_rfl) (by kernel_rfl) (fun _ _ _ h => h) (Or.inl ⟨by rfl, ?y11⟩) (by assumption) ?r11
  case y11 => intro w hSw; (try dsimp only at hSw); go_simp; (try rfl)
  try simp only [Act.put, List.setIfInBounds_toArray, List.set_cons_zero, List.set_cons_succ]
  refine wpAnyH_ready (rs := [12]) (by kernel_rfl) (by simp) ?_
  refine AllReadyH.cons rfl (fun K hK => ?_) AllReadyH.nil
  go_simp
  refine hK.out _ _ (HK.out _ ((Below.drew (Below.refl _ _)).alloc (Nat.le_refl _) _)) (fun hHeldN13 => ?_)
  clear hK K
  try simp only [Act.put, List.setIfInBounds_toArray, List.set_cons_zero, List.set_cons_succ]
  refine wpAnyH_ready (rs := [13]) (by kernel_rfl) (by simp) ?_
  refine AllReadyH.cons rfl (fun K hK => ?_) AllReadyH.nil
  go_simp
  go_at_call 24
  refine (first2_false_false 0 a3 a2 w1.drew.heap.size _ (World.alloc_heap_new _ _)).mono ?_
  rintro e w2 ⟨rfl, hb2⟩
  have hb2' : Below w1.heap.size w1 w2 := ((Below.drew (Below.refl _ _)).alloc (Nat.le_refl _) _).trans (hb2.mono (show w1.drew.heap.size ≤ _ from by simp))
  refine hK.out _ _ (HK.out _ hb2') (fun hHeldN14 => ?_)
  clear hK K
  try simp only [Act.put, List.setIfInBounds_toArray, List.set_cons_zero, List.set_cons_succ]
  refine takeD (i := 14) (v := ?v14) (some 8) #[true, true, true, true, true, true, true, true, true, true, true, true, true, true, true] rfl rfl rfl (by kernel_rfl) (by kernel_rfl) (by kernel_rfl) (fun _ _ _ h => h) (Or.inl ⟨by rfl, ?y14⟩) (by assumption) ?r14
  case y14 => intro w hSw; (try dsimp only at hSw); go_simp; (try rfl)
  try simp only [Act.put, List.setIfInBounds_toArray, List.set_cons_zero, List.set_cons_succ]
  refine wpAnyH_done (by kernel_rfl) ?_ _
  have HB2 := Lib.hid (bl_trans hb1 hb2')
  clear hb1 hb2 hb2'
  go_wp2_with fail
  refine (HCP.out _).mono ?_
  rintro e w3 ⟨rfl, hw3⟩
  subst w3
  go_wp2_with fail
  refine (HTL.out _).mono ?_
  rintro e w3 ⟨rfl, hw3⟩
  subst w3
  go_wp2_with fail
  refine (HUB.out _ (HCO.out.below HB2.out)).mono ?_
  rintro e w3 ⟨rfl, hb3⟩
  have hB3 := bl_trans HB2.out hb3
  simp only [ubT, ubN]
  go_wp2_with fail
  go_ret3
  exact ⟨rfl, hB3⟩
set_option maxRecDepth 100000 in
set_option maxHeartbeats 4000000 in
theorem ri_base_no (s : ByteArray) (hs : s.size ≤ 100000) (a0 a1 a2 a3 b0 : Addr) (M : Int) (w : World) (hG : GA a0 a1 a2 a3 w) (hC : Code.GA b0 w) (hM : w.cell? ⟨6, 0, none⟩ = some (.int .i64 M)) (a b : List Int) (hcut : cutL 58 (bl s) = (a, b, true)) (ha : Byt a) (hbb : Byt b) (hbl : b.length ≤ 100000) (hp : st60 b = false) (h0 : 0 < a.length) (c : List Int) (hun : unC b = (c, true)) (d : List Int) (hd : blanks c = d) (hu : unbL d = none) :
    Calls Tryz.prog 38 #[.string s] w fun e w' => RiE (.error 151) a2 a3 w e w' := by
  have HC := Lib.hid (cut_58 s M w (by omega) hM a b true hcut)
  have HP := Lib.hid (fun W => pre60_c b hbb false hp W)
  have HG := Lib.hid hG
  obtain ⟨e1, e2⟩ := em_not (strOfNums a) (by rw [son_size]; omega)
  have hcp := cutp_c (strOfNums b)
  rw [bl_son b hbb, hun] at hcp
  have HCP := Lib.hid hcp
  have hcb : Byt c := by
    have h := unC_byt b hbb
    rw [hun] at h
    exact h
  have hcl : c.length ≤ 100000 := by
    have h := unC_len b
    rw [hun] at h
    exact Nat.le_trans h hbl
  have htl := triml_c (strOfNums c)
  rw [bl_son c hcb, hd] at htl
  have HTL := Lib.hid htl
  have hdb : Byt d := hd ▸ blanks_byt c hcb
  have hdl : d.length ≤ 100000 := by have := blanks_len c; rw [hd] at this; omega
  have hub := fun W h => Code.Unbase_c (strOfNums d) (by rw [son_size]; omega) b0 W h
  rw [bl_son d hdb, hu] at hub
  have HUB := Lib.hid hub
  clear hcp hcb htl hdb hub hu hun hd
  have HCO := Lib.hid hC
  have HBB := Lib.hid hbb
  clear hcut hM hG hC hp hbb
  go_enter Tryz.func38, Tryz.ntmps38
  go_wp2_with fail
  refine HC.out.mono ?_
  rintro e w1 ⟨rfl, hb1⟩
  go_wp2_with fail
  have HK := Lib.hid (fun (w' : World) (hb' : Below w1.heap.size w1 w') => (⟨hb', (HG.out.below (bl_trans hb1 hb')).g3, (HG.out.below (bl_trans hb1 hb')).g2⟩ :
    Below w1.heap.size w1 w' ∧ w'.cell? ⟨2, 0, none⟩ = some (ese a3) ∧ w'.cell? ⟨3, 0, none⟩ = some (ese a2)))
  refine wp_only ?_
  refine wp_region_held_drew (S := fun w' => Below w1.heap.size w1 w' ∧ w'.cell? ⟨2, 0, none⟩ = some (ese a3) ∧ w'.cell? ⟨3, 0, none⟩ = some (ese a2)) (by kernel_rfl) (HK.out _ (Below.drew (Below.refl _ _))) (fun hHeld => ?_)
  refine takeD (i := 0) (v := ?v0) (some 20) #[true, false, false, false, false, false, false, false, false, false, false, false, false, false, false] rfl rfl rfl (by kernel_rfl) (by kernel_rfl) (by kernel_rfl) (fun _ _ _ h => h) (Or.inl ⟨by rfl, ?y0⟩) (by assumption) ?r0
  case y0 => intro w hSw; (try dsimp only at hSw); go_simp; (try rfl)
  try simp only [Act.put, List.setIfInBounds_toArray, List.set_cons_zero, List.set_cons_succ]
  refine takeD (i := 1) (v := ?v1) (some 21) #[true, true, false, false, false, false, false, false, false, false, false, false, false, false, false] rfl rfl rfl (by kernel_rfl) (by kernel_rfl) (by kernel_rfl) (fun _ _ _ h => h) (Or.inl ⟨by rfl, ?y1⟩) (by assumption) ?r1
  case y1 => intro w hSw; (try dsimp only at hSw); go_simp; (try rfl)
  try simp only [Act.put, List.setIfInBounds_toArray, List.set_cons_zero, List.set_cons_succ]
  refine takeD (i := 2) (v := ?v2) (some 22) #[true, true, true, false, false, false, false, false, false, false, false, false, false, false, false] rfl rfl rfl (by kernel_rfl) (by kernel_rfl) (by kernel_rfl) (fun _ _ _ h => h) (Or.inl ⟨by rfl, ?y2⟩) (by assumption) ?r2
  case y2 => intro w hSw; (try dsimp only at hSw); go_simp; (try rfl)
  try simp only [Act.put, List.setIfInBounds_toArray, List.set_cons_zero, List.set_cons_succ]
  refine takeD (i := 3) (v := ?v3) (some 23) #[true, true, true, true, false, false, false, false, false, false, false, false, false, false, false] rfl rfl rfl (by kernel_rfl) (by kernel_rfl) (by kernel_rfl) (fun _ _ _ h => h) (Or.inl ⟨by rfl, ?y3⟩) (by assumption) ?r3
  case y3 => intro w hSw; (try dsimp only at hSw); go_simp; (try rfl)
  try simp only [Act.put, List.setIfInBounds_toArray, List.set_cons_zero, List.set_cons_succ]
  refine takeD (i := 4) (v := ?v4) (some 24) #[true, true, true, true, true, false, false, false, false, false, false, false, false, false, false] rfl rfl rfl (by kernel_rfl) (by kernel_rfl) (by kernel_rfl) (fun _ _ _ h => h) (Or.inl ⟨by rfl, ?y4⟩) (by assumption) ?r4
  case y4 => intro w hSw; (try dsimp only at hSw); go_simp; (try rfl)
  try simp only [Act.put, List.setIfInBounds_toArray, List.set_cons_zero, List.set_cons_succ]
  refine takeD (i := 5) (v := ?v5) (some 25) #[true, true, true, true, true, true, false, false, false, false, false, false, false, false, false] rfl rfl rfl (by kernel_rfl) (by kernel_rfl) (by kernel_rfl) (fun _ _ _ h => h) (Or.inl ⟨by rfl, ?y5⟩) (by assumption) ?r5
  case y5 => intro w hSw; (try dsimp only at hSw); go_simp; (try rfl)
  try simp only [Act.put, List.setIfInBounds_toArray, List.set_cons_zero, List.set_cons_succ]
  refine takeD (i := 6) (v := ?v6) (some 26) #[true, true, true, true, true, true, true, false, false, false, false, false, false, false, false] rfl rfl rfl (by kernel_rfl) (by kernel_rfl) (by kernel_rfl) (fun _ _ _ h => h) (Or.inl ⟨by rfl, ?y6⟩) (by assumption) ?r6
  case y6 => intro w hSw; (try dsimp only at hSw); go_simp; (try rfl)
  try simp only [Act.put, List.setIfInBounds_toArray, List.set_cons_zero, List.set_cons_succ]
  refine takeD (i := 8) (v := ?v8) (some 28) #[true, true, true, true, true, true, true, false, true, false, false, false, false, false, false] rfl rfl rfl (by kernel_rfl) (by kernel_rfl) (by kernel_rfl) (fun _ _ _ h => h) (Or.inl ⟨by rfl, ?y8⟩) (by assumption) ?r8
  case y8 => intro w hSw; (try dsimp only at hSw); go_simp; (try rfl)
  try simp only [Act.put, List.setIfInBounds_toArray, List.set_cons_zero, List.set_cons_succ]
  refine takeD (i := 10) (v := ?v10) (some 30) #[true, true, true, true, true, true, true, false, true, false, true, false, false, false, false] rfl rfl rfl (by kernel_rfl) (by kernel_rfl) (by kernel_rfl) (fun _ _ _ h => h) (Or.inl ⟨by rfl, ?y10⟩) (by assumption) ?r10
  case y10 => intro w hSw; (try dsimp only at hSw); go_simp; (try rfl)
  try simp only [Act.put, List.setIfInBounds_toArray, List.set_cons_zero, List.set_cons_succ]
  refine takeD (i := 7) (v := ?v7) (some 27) #[true, true, true, true, true, true, true, true, true, false, true, false, false, false, false] rfl rfl rfl (by kernel_rfl) (by kernel_rfl) (by kernel_rfl) (fun _ _ _ h => h) (Or.inl ⟨by rfl, ?y7⟩) (by assumption) ?r7
  case y7 => intro w hSw; (try dsimp only at hSw); go_simp; (try rfl)
  try simp only [Act.put, List.setIfInBounds_toArray, List.set_cons_zero, List.set_cons_succ]
  refine wpAnyH_ready (rs := [9]) (by kernel_rfl) (by simp) ?_
  refine AllReadyH.cons rfl (fun K hK => ?_) AllReadyH.nil
  go_simp
  go_at_call 50
  refine (HP.out _).mono ?_
  rintro e w2 ⟨rfl, hw2⟩
  subst w2
  refine hK.out _ _ (HK.out _ (Below.drew (Below.refl _ _))) (fun hHeldN11 => ?_)
  clear hK K
  try simp only [Act.put, List.setIfInBounds_toArray, List.set_cons_zero, List.set_cons_succ]
  refine takeD (i := 11) (v := ?v11) (some 31) #[true, true, true, true, true, true, true, true, true, true, true, true, false, false, false] rfl rfl rfl (by kernel_rfl) (by kernel_rfl) (by kernel_rfl) (fun _ _ _ h => h) (Or.inl ⟨by rfl, ?y11⟩) (by assumption) ?r11
  case y11 => intro w hSw; (try dsimp only at hSw); go_simp; (try rfl)
  try simp only [Act.put, List.setIfInBounds_toArray, List.set_cons_zero, List.set_cons_succ]
  refine wpAnyH_ready (rs := [12]) (by kernel_rfl) (by simp) ?_
  refine AllReadyH.cons rfl (fun K hK => ?_) AllReadyH.nil
  go_simp
  refine hK.out _ _ (HK.out _ ((Below.drew (Below.refl _ _)).alloc (Nat.le_refl _) _)) (fun hHeldN13 => ?_)
  clear hK K
  try simp only [Act.put, List.setIfInBounds_toArray, List.set_cons_zero, List.set_cons_succ]
  refine wpAnyH_ready (rs := [13]) (by kernel_rfl) (by simp) ?_
  refine AllReadyH.cons rfl (fun K hK => ?_) AllReadyH.nil
  go_simp
  go_at_call 24
  refine (first2_false_false 0 a3 a2 w1.drew.heap.size _ (World.alloc_heap_new _ _)).mono ?_
  rintro e w2 ⟨rfl, hb2⟩
  have hb2' : Below w1.heap.size w1 w2 := ((Below.drew (Below.refl _ _)).alloc (Nat.le_refl _) _).trans (hb2.mono (show w1.drew.heap.size ≤ _ from by simp))
  refine hK.out _ _ (HK.out _ hb2') (fun hHeldN14 => ?_)
  clear hK K
  try simp only [Act.put, List.setIfInBounds_toArray, List.set_cons_zero, List.set_cons_succ]
  refine takeD (i := 14) (v := ?v14) (some 8) #[true, true, true, true, true, true, true, true, true, true, true, true, true, true, true] rfl rfl rfl (by kernel_rfl) (by kernel_rfl) (by kernel_rfl) (fun _ _ _ h => h) (Or.inl ⟨by rfl, ?y14⟩) (by assumption) ?r14
  case y14 => intro w hSw; (try dsimp only at hSw); go_simp; (try rfl)
  try simp only [Act.put, List.setIfInBounds_toArray, List.set_cons_zero, List.set_cons_succ]
  refine wpAnyH_done (by kernel_rfl) ?_ _
  have HB2 := Lib.hid (bl_trans hb1 hb2')
  clear hb1 hb2 hb2'
  go_wp2_with fail
  refine (HCP.out _).mono ?_
  rintro e w3 ⟨rfl, hw3⟩
  subst w3
  go_wp2_with fail
  refine (HTL.out _).mono ?_
  rintro e w3 ⟨rfl, hw3⟩
  subst w3
  go_wp2_with fail
  refine (HUB.out _ (HCO.out.below HB2.out)).mono ?_
  rintro e w3 ⟨rfl, hb3⟩
  have hB3 := bl_trans HB2.out hb3
  have g3 := (HG.out.below hB3).g3
  simp only [ubT, ubN]
  go_wp2_with fail
  go_region
  all_goals go_wp2_with fail
  all_goals go_ret3
  all_goals exact ⟨rfl, by repeat (first | exact hB3 | refine Below.drew ?_)⟩
set_option maxRecDepth 100000 in
set_option maxHeartbeats 4000000 in
theorem ri_text_ok (s : ByteArray) (hs : s.size ≤ 100000) (a0 a1 a2 a3 b0 : Addr) (M : Int) (w : World) (hG : GA a0 a1 a2 a3 w) (hC : Code.GA b0 w) (hM : w.cell? ⟨6, 0, none⟩ = some (.int .i64 M)) (a b : List Int) (hcut : cutL 58 (bl s) = (a, b, true)) (ha : Byt a) (hbb : Byt b) (hbl : b.length ≤ 100000) (hp : st60 b = false) (h0 : 0 < a.length) (c : List Int) (hun : unC b = (c, false)) (d : List Int) (hd : blanks c = d) (hcb2 : c = b) (hu : Utf.sfV (strOfNums d) = true) :
    Calls Tryz.prog 38 #[.string s] w fun e w' => RiE (.ok (a, d)) a2 a3 w e w' := by
  have HC := Lib.hid (cut_58 s M w (by omega) hM a b true hcut)
  have HP := Lib.hid (fun W => pre60_c b hbb false hp W)
  have HG := Lib.hid hG
  obtain ⟨e1, e2⟩ := em_not (strOfNums a) (by rw [son_size]; omega)
  have hcp := cutp_c (strOfNums b)
  rw [bl_son b hbb, hun] at hcp
  have HCP := Lib.hid hcp
  have hcb : Byt c := by
    have h := unC_byt b hbb
    rw [hun] at h
    exact h
  have hcl : c.length ≤ 100000 := by
    have h := unC_len b
    rw [hun] at h
    exact Nat.le_trans h hbl
  have htl := triml_c (strOfNums c)
  rw [bl_son c hcb, hd] at htl
  have HTL := Lib.hid htl
  have hdb : Byt d := hd ▸ blanks_byt c hcb
  have hdl : d.length ≤ 100000 := by have := blanks_len c; rw [hd] at this; omega
  subst hcb2
  have hsf := fun W => Utf.IsSafe_c (strOfNums d) (by rw [son_size]; omega) W
  rw [hu] at hsf
  have HSF := Lib.hid hsf
  clear hcp hcb htl hdb hsf hu hun hd
  have HCO := Lib.hid hC
  have HBB := Lib.hid hbb
  clear hcut hM hG hC hp hbb
  go_enter Tryz.func38, Tryz.ntmps38
  go_wp2_with fail
  refine HC.out.mono ?_
  rintro e w1 ⟨rfl, hb1⟩
  go_wp2_with fail
  have HK := Lib.hid (fun (w' : World) (hb' : Below w1.heap.size w1 w') => (⟨hb', (HG.out.below (bl_trans hb1 hb')).g3, (HG.out.below (bl_trans hb1 hb')).g2⟩ :
    Below w1.heap.size w1 w' ∧ w'.cell? ⟨2, 0, none⟩ = some (ese a3) ∧ w'.cell? ⟨3, 0, none⟩ = some (ese a2)))
  refine wp_only ?_
  refine wp_region_held_drew (S := fun w' => Below w1.heap.size w1 w' ∧ w'.cell? ⟨2, 0, none⟩ = some (ese a3) ∧ w'.cell? ⟨3, 0, none⟩ = some (ese a2)) (by kernel_rfl) (HK.out _ (Below.drew (Below.refl _ _))) (fun hHeld => ?_)
  refine takeD (i := 0) (v := ?v0) (some 20) #[true, false, false, false, false, false, false, false, false, false, false, false, false, false, false] rfl rfl rfl (by kernel_rfl) (by kernel_rfl) (by kernel_rfl) (fun _ _ _ h => h) (Or.inl ⟨by rfl, ?y0⟩) (by assumption) ?r0
  case y0 => intro w hSw; (try dsimp only at hSw); go_simp; (try rfl)
  try simp only [Act.put, List.setIfInBounds_toArray, List.set_cons_zero, List.set_cons_succ]
  refine takeD (i := 1) (v := ?v1) (some 21) #[true, true, false, false, false, false, false, false, false, false, false, false, false, false, false] rfl rfl rfl (by kernel_rfl) (by kernel_rfl) (by kernel_rfl) (fun _ _ _ h => h) (Or.inl ⟨by rfl, ?y1⟩) (by assumption) ?r1
  case y1 => intro w hSw; (try dsimp only at hSw); go_simp; (try rfl)
  try simp only [Act.put, List.setIfInBounds_toArray, List.set_cons_zero, List.set_cons_succ]
  refine takeD (i := 2) (v := ?v2) (some 22) #[true, true, true, false, false, false, false, false, false, false, false, false, false, false, false] rfl rfl rfl (by kernel_rfl) (by kernel_rfl) (by kernel_rfl) (fun _ _ _ h => h) (Or.inl ⟨by rfl, ?y2⟩) (by assumption) ?r2
  case y2 => intro w hSw; (try dsimp only at hSw); go_simp; (try rfl)
  try simp only [Act.put, List.setIfInBounds_toArray, List.set_cons_zero, List.set_cons_succ]
  refine takeD (i := 3) (v := ?v3) (some 23) #[true, true, true, true, false, false, false, false, false, false, false, false, false, false, false] rfl rfl rfl (by kernel_rfl) (by kernel_rfl) (by kernel_rfl) (fun _ _ _ h => h) (Or.inl ⟨by rfl, ?y3⟩) (by assumption) ?r3
  case y3 => intro w hSw; (try dsimp only at hSw); go_simp; (try rfl)
  try simp only [Act.put, List.setIfInBounds_toArray, List.set_cons_zero, List.set_cons_succ]
  refine takeD (i := 4) (v := ?v4) (some 24) #[true, true, true, true, true, false, false, false, false, false, false, false, false, false, false] rfl rfl rfl (by kernel_rfl) (by kernel_rfl) (by kernel_rfl) (fun _ _ _ h => h) (Or.inl ⟨by rfl, ?y4⟩) (by assumption) ?r4
  case y4 => intro w hSw; (try dsimp only at hSw); go_simp; (try rfl)
  try simp only [Act.put, List.setIfInBounds_toArray, List.set_cons_zero, List.set_cons_succ]
  refine takeD (i := 5) (v := ?v5) (some 25) #[true, true, true, true, true, true, false, false, false, false, false, false, false, false, false] rfl rfl rfl (by kernel_rfl) (by kernel_rfl) (by kernel_rfl) (fun _ _ _ h => h) (Or.inl ⟨by rfl, ?y5⟩) (by assumption) ?r5
  case y5 => intro w hSw; (try dsimp only at hSw); go_simp; (try rfl)
  try simp only [Act.put, List.setIfInBounds_toArray, List.set_cons_zero, List.set_cons_succ]
  refine takeD (i := 6) (v := ?v6) (some 26) #[true, true, true, true, true, true, true, false, false, false, false, false, false, false, false] rfl rfl rfl (by kernel_rfl) (by kernel_rfl) (by kernel_rfl) (fun _ _ _ h => h) (Or.inl ⟨by rfl, ?y6⟩) (by assumption) ?r6
  case y6 => intro w hSw; (try dsimp only at hSw); go_simp; (try rfl)
  try simp only [Act.put, List.setIfInBounds_toArray, List.set_cons_zero, List.set_cons_succ]
  refine takeD (i := 8) (v := ?v8) (some 28) #[true, true, true, true, true, true, true, false, true, false, false, false, false, false, false] rfl rfl rfl (by kernel_rfl) (by kernel_rfl) (by kernel_rfl) (fun _ _ _ h => h) (Or.inl ⟨by rfl, ?y8⟩) (by assumption) ?r8
  case y8 => intro w hSw; (try dsimp only at hSw); go_simp; (try rfl)
  try simp only [Act.put, List.setIfInBounds_toArray, List.set_cons_zero, List.set_cons_succ]
  refine takeD (i := 10) (v := ?v10) (some 30) #[true, true, true, true, true, true, true, false, true, false, true, false, false, false, false] rfl rfl rfl (by kernel_rfl) (by kernel_rfl) (by kernel_rfl) (fun _ _ _ h => h) (Or.inl ⟨by rfl, ?y10⟩) (by assumption) ?r10
  case y10 => intro w hSw; (try dsimp only at hSw); go_simp; (try rfl)
  try simp only [Act.put, List.setIfInBounds_toArray, List.set_cons_zero, List.set_cons_succ]
  refine takeD (i := 7) (v := ?v7) (some 27) #[true, true, true, true, true, true, true, true, true, false, true, false, false, false, false] rfl rfl rfl (by kernel_rfl) (by kernel_rfl) (by kernel_rfl) (fun _ _ _ h => h) (Or.inl ⟨by rfl, ?y7⟩) (by assumption) ?r7
  case y7 => intro w hSw; (try dsimp only at hSw); go_simp; (try rfl)
  try simp only [Act.put, List.setIfInBounds_toArray, List.set_cons_zero, List.set_cons_succ]
  refine wpAnyH_ready (rs := [9]) (by kernel_rfl) (by simp) ?_
  refine AllReadyH.cons rfl (fun K hK => ?_) AllReadyH.nil
  go_simp
  go_at_call 50
  refine (HP.out _).mono ?_
  rintro e w2 ⟨rfl, hw2⟩
  subst w2
  refine hK.out _ _ (HK.out _ (Below.drew (Below.refl _ _))) (fun hHeldN11 => ?_)
  clear hK K
  try simp only [Act.put, List.setIfInBounds_toArray, List.set_cons_zero, List.set_cons_succ]
  refine takeD (i := 11) (v := ?v11) (some 31) #[true, true, true, true, true, true, true, true, true, true, true, true, false, false, false] rfl rfl rfl (by kernel_rfl) (by kernel_rfl) (by kernel_rfl) (fun _ _ _ h => h) (Or.inl ⟨by rfl, ?y11⟩) (by assumption) ?r11
  case y11 => intro w hSw; (try dsimp only at hSw); go_simp; (try rfl)
  try simp only [Act.put, List.setIfInBounds_toArray, List.set_cons_zero, List.set_cons_succ]
  refine wpAnyH_ready (rs := [12]) (by kernel_rfl) (by simp) ?_
  refine AllReadyH.cons rfl (fun K hK => ?_) AllReadyH.nil
  go_simp
  refine hK.out _ _ (HK.out _ ((Below.drew (Below.refl _ _)).alloc (Nat.le_refl _) _)) (fun hHeldN13 => ?_)
  clear hK K
  try simp only [Act.put, List.setIfInBounds_toArray, List.set_cons_zero, List.set_cons_succ]
  refine wpAnyH_ready (rs := [13]) (by kernel_rfl) (by simp) ?_
  refine AllReadyH.cons rfl (fun K hK => ?_) AllReadyH.nil
  go_simp
  go_at_call 24
  refine (first2_false_false 0 a3 a2 w1.drew.heap.size _ (World.alloc_heap_new _ _)).mono ?_
  rintro e w2 ⟨rfl, hb2⟩
  have hb2' : Below w1.heap.size w1 w2 := ((Below.drew (Below.refl _ _)).alloc (Nat.le_refl _) _).trans (hb2.mono (show w1.drew.heap.size ≤ _ from by simp))
  refine hK.out _ _ (HK.out _ hb2') (fun hHeldN14 => ?_)
  clear hK K
  try simp only [Act.put, List.setIfInBounds_toArray, List.set_cons_zero, List.set_cons_succ]
  refine takeD (i := 14) (v := ?v14) (some 8) #[true, true, true, true, true, true, true, true, true, true, true, true, true, true, true] rfl rfl rfl (by kernel_rfl) (by kernel_rfl) (by kernel_rfl) (fun _ _ _ h => h) (Or.inl ⟨by rfl, ?y14⟩) (by assumption) ?r14
  case y14 => intro w hSw; (try dsimp only at hSw); go_simp; (try rfl)
  try simp only [Act.put, List.setIfInBounds_toArray, List.set_cons_zero, List.set_cons_succ]
  refine wpAnyH_done (by kernel_rfl) ?_ _
  have HB2 := Lib.hid (bl_trans hb1 hb2')
  clear hb1 hb2 hb2'
  go_wp2_with fail
  refine (HCP.out _).mono ?_
  rintro e w3 ⟨rfl, hw3⟩
  subst w3
  go_wp2_with fail
  refine (HTL.out _).mono ?_
  rintro e w3 ⟨rfl, hw3⟩
  subst w3
  go_wp2_with fail
  refine (HSF.out _).mono ?_
  rintro e w3 ⟨rfl, hb3⟩
  have hB3 := bl_trans HB2.out hb3
  go_wp2_with fail
  go_ret3
  exact ⟨rfl, hB3⟩
set_option maxRecDepth 100000 in
set_option maxHeartbeats 4000000 in
theorem ri_text_no (s : ByteArray) (hs : s.size ≤ 100000) (a0 a1 a2 a3 b0 : Addr) (M : Int) (w : World) (hG : GA a0 a1 a2 a3 w) (hC : Code.GA b0 w) (hM : w.cell? ⟨6, 0, none⟩ = some (.int .i64 M)) (a b : List Int) (hcut : cutL 58 (bl s) = (a, b, true)) (ha : Byt a) (hbb : Byt b) (hbl : b.length ≤ 100000) (hp : st60 b = false) (h0 : 0 < a.length) (c : List Int) (hun : unC b = (c, false)) (d : List Int) (hd : blanks c = d) (hcb2 : c = b) (hu : Utf.sfV (strOfNums d) = false) :
    Calls Tryz.prog 38 #[.string s] w fun e w' => RiE (.error 151) a2 a3 w e w' := by
  have HC := Lib.hid (cut_58 s M w (by omega) hM a b true hcut)
  have HP := Lib.hid (fun W => pre60_c b hbb false hp W)
  have HG := Lib.hid hG
  obtain ⟨e1, e2⟩ := em_not (strOfNums a) (by rw [son_size]; omega)
  have hcp := cutp_c (strOfNums b)
  rw [bl_son b hbb, hun] at hcp
  have HCP := Lib.hid hcp
  have hcb : Byt c := by
    have h := unC_byt b hbb
    rw [hun] at h
    exact h
  have hcl : c.length ≤ 100000 := by
    have h := unC_len b
    rw [hun] at h
    exact Nat.le_trans h hbl
  have htl := triml_c (strOfNums c)
  rw [bl_son c hcb, hd] at htl
  have HTL := Lib.hid htl
  have hdb : Byt d := hd ▸ blanks_byt c hcb
  have hdl : d.length ≤ 100000 := by have := blanks_len c; rw [hd] at this; omega
  subst hcb2
  have hsf := fun W => Utf.IsSafe_c (strOfNums d) (by rw [son_size]; omega) W
  rw [hu] at hsf
  have HSF := Lib.hid hsf
  clear hcp hcb htl hdb hsf hu hun hd
  have HCO := Lib.hid hC
  have HBB := Lib.hid hbb
  clear hcut hM hG hC hp hbb
  go_enter Tryz.func38, Tryz.ntmps38
  go_wp2_with fail
  refine HC.out.mono ?_
  rintro e w1 ⟨rfl, hb1⟩
  go_wp2_with fail
  have HK := Lib.hid (fun (w' : World) (hb' : Below w1.heap.size w1 w') => (⟨hb', (HG.out.below (bl_trans hb1 hb')).g3, (HG.out.below (bl_trans hb1 hb')).g2⟩ :
    Below w1.heap.size w1 w' ∧ w'.cell? ⟨2, 0, none⟩ = some (ese a3) ∧ w'.cell? ⟨3, 0, none⟩ = some (ese a2)))
  refine wp_only ?_
  refine wp_region_held_drew (S := fun w' => Below w1.heap.size w1 w' ∧ w'.cell? ⟨2, 0, none⟩ = some (ese a3) ∧ w'.cell? ⟨3, 0, none⟩ = some (ese a2)) (by kernel_rfl) (HK.out _ (Below.drew (Below.refl _ _))) (fun hHeld => ?_)
  refine takeD (i := 0) (v := ?v0) (some 20) #[true, false, false, false, false, false, false, false, false, false, false, false, false, false, false] rfl rfl rfl (by kernel_rfl) (by kernel_rfl) (by kernel_rfl) (fun _ _ _ h => h) (Or.inl ⟨by rfl, ?y0⟩) (by assumption) ?r0
  case y0 => intro w hSw; (try dsimp only at hSw); go_simp; (try rfl)
  try simp only [Act.put, List.setIfInBounds_toArray, List.set_cons_zero, List.set_cons_succ]
  refine takeD (i := 1) (v := ?v1) (some 21) #[true, true, false, false, false, false, false, false, false, false, false, false, false, false, false] rfl rfl rfl (by kernel_rfl) (by kernel_rfl) (by kernel_rfl) (fun _ _ _ h => h) (Or.inl ⟨by rfl, ?y1⟩) (by assumption) ?r1
  case y1 => intro w hSw; (try dsimp only at hSw); go_simp; (try rfl)
  try simp only [Act.put, List.setIfInBounds_toArray, List.set_cons_zero, List.set_cons_succ]
  refine takeD (i := 2) (v := ?v2) (some 22) #[true, true, true, false, false, false, false, false, false, false, false, false, false, false, false] rfl rfl rfl (by kernel_rfl) (by kernel_rfl) (by kernel_rfl) (fun _ _ _ h => h) (Or.inl ⟨by rfl, ?y2⟩) (by assumption) ?r2
  case y2 => intro w hSw; (try dsimp only at hSw); go_simp; (try rfl)
  try simp only [Act.put, List.setIfInBounds_toArray, List.set_cons_zero, List.set_cons_succ]
  refine takeD (i := 3) (v := ?v3) (some 23) #[true, true, true, true, false, false, false, false, false, false, false, false, false, false, false] rfl rfl rfl (by kernel_rfl) (by kernel_rfl) (by kernel_rfl) (fun _ _ _ h => h) (Or.inl ⟨by rfl, ?y3⟩) (by assumption) ?r3
  case y3 => intro w hSw; (try dsimp only at hSw); go_simp; (try rfl)
  try simp only [Act.put, List.setIfInBounds_toArray, List.set_cons_zero, List.set_cons_succ]
  refine takeD (i := 4) (v := ?v4) (some 24) #[true, true, true, true, true, false, false, false, false, false, false, false, false, false, false] rfl rfl rfl (by kernel_rfl) (by kernel_rfl) (by kernel_rfl) (fun _ _ _ h => h) (Or.inl ⟨by rfl, ?y4⟩) (by assumption) ?r4
  case y4 => intro w hSw; (try dsimp only at hSw); go_simp; (try rfl)
  try simp only [Act.put, List.setIfInBounds_toArray, List.set_cons_zero, List.set_cons_succ]
  refine takeD (i := 5) (v := ?v5) (some 25) #[true, true, true, true, true, true, false, false, false, false, false, false, false, false, false] rfl rfl rfl (by kernel_rfl) (by kernel_rfl) (by kernel_rfl) (fun _ _ _ h => h) (Or.inl ⟨by rfl, ?y5⟩) (by assumption) ?r5
  case y5 => intro w hSw; (try dsimp only at hSw); go_simp; (try rfl)
  try simp only [Act.put, List.setIfInBounds_toArray, List.set_cons_zero, List.set_cons_succ]
  refine takeD (i := 6) (v := ?v6) (some 26) #[true, true, true, true, true, true, true, false, false, false, false, false, false, false, false] rfl rfl rfl (by kernel_rfl) (by kernel_rfl) (by kernel_rfl) (fun _ _ _ h => h) (Or.inl ⟨by rfl, ?y6⟩) (by assumption) ?r6
  case y6 => intro w hSw; (try dsimp only at hSw); go_simp; (try rfl)
  try simp only [Act.put, List.setIfInBounds_toArray, List.set_cons_zero, List.set_cons_succ]
  refine takeD (i := 8) (v := ?v8) (some 28) #[true, true, true, true, true, true, true, false, true, false, false, false, false, false, false] rfl rfl rfl (by kernel_rfl) (by kernel_rfl) (by kernel_rfl) (fun _ _ _ h => h) (Or.inl ⟨by rfl, ?y8⟩) (by assumption) ?r8
  case y8 => intro w hSw; (try dsimp only at hSw); go_simp; (try rfl)
  try simp only [Act.put, List.setIfInBounds_toArray, List.set_cons_zero, List.set_cons_succ]
  refine takeD (i := 10) (v := ?v10) (some 30) #[true, true, true, true, true, true, true, false, true, false, true, false, false, false, false] rfl rfl rfl (by kernel_rfl) (by kernel_rfl) (by kernel_rfl) (fun _ _ _ h => h) (Or.inl ⟨by rfl, ?y10⟩) (by assumption) ?r10
  case y10 => intro w hSw; (try dsimp only at hSw); go_simp; (try rfl)
  try simp only [Act.put, List.setIfInBounds_toArray, List.set_cons_zero, List.set_cons_succ]
  refine takeD (i := 7) (v := ?v7) (some 27) #[true, true, true, true, true, true, true, true, true, false, true, false, false, false, false] rfl rfl rfl (by kernel_rfl) (by kernel_rfl) (by kernel_rfl) (fun _ _ _ h => h) (Or.inl ⟨by rfl, ?y7⟩) (by assumption) ?r7
  case y7 => intro w hSw; (try dsimp only at hSw); go_simp; (try rfl)
  try simp only [Act.put, List.setIfInBounds_toArray, List.set_cons_zero, List.set_cons_succ]
  refine wpAnyH_ready (rs := [9]) (by kernel_rfl) (by simp) ?_
  refine AllReadyH.cons rfl (fun K hK => ?_) AllReadyH.nil
  go_simp
  go_at_call 50
  refine (HP.out _).mono ?_
  rintro e w2 ⟨rfl, hw2⟩
  subst w2
  refine hK.out _ _ (HK.out _ (Below.drew (Below.refl _ _))) (fun hHeldN11 => ?_)
  clear hK K
  try simp only [Act.put, List.setIfInBounds_toArray, List.set_cons_zero, List.set_cons_succ]
  refine takeD (i := 11) (v := ?v11) (some 31) #[true, true, true, true, true, true, true, true, true, true, true, true, false, false, false] rfl rfl rfl (by kernel_rfl) (by kernel_rfl) (by kernel_rfl) (fun _ _ _ h => h) (Or.inl ⟨by rfl, ?y11⟩) (by assumption) ?r11
  case y11 => intro w hSw; (try dsimp only at hSw); go_simp; (try rfl)
  try simp only [Act.put, List.setIfInBounds_toArray, List.set_cons_zero, List.set_cons_succ]
  refine wpAnyH_ready (rs := [12]) (by kernel_rfl) (by simp) ?_
  refine AllReadyH.cons rfl (fun K hK => ?_) AllReadyH.nil
  go_simp
  refine hK.out _ _ (HK.out _ ((Below.drew (Below.refl _ _)).alloc (Nat.le_refl _) _)) (fun hHeldN13 => ?_)
  clear hK K
  try simp only [Act.put, List.setIfInBounds_toArray, List.set_cons_zero, List.set_cons_succ]
  refine wpAnyH_ready (rs := [13]) (by kernel_rfl) (by simp) ?_
  refine AllReadyH.cons rfl (fun K hK => ?_) AllReadyH.nil
  go_simp
  go_at_call 24
  refine (first2_false_false 0 a3 a2 w1.drew.heap.size _ (World.alloc_heap_new _ _)).mono ?_
  rintro e w2 ⟨rfl, hb2⟩
  have hb2' : Below w1.heap.size w1 w2 := ((Below.drew (Below.refl _ _)).alloc (Nat.le_refl _) _).trans (hb2.mono (show w1.drew.heap.size ≤ _ from by simp))
  refine hK.out _ _ (HK.out _ hb2') (fun hHeldN14 => ?_)
  clear hK K
  try simp only [Act.put, List.setIfInBounds_toArray, List.set_cons_zero, List.set_cons_succ]
  refine takeD (i := 14) (v := ?v14) (some 8) #[true, true, true, true, true, true, true, true, true, true, true, true, true, true, true] rfl rfl rfl (by kernel_rfl) (by kernel_rfl) (by kernel_rfl) (fun _ _ _ h => h) (Or.inl ⟨by rfl, ?y14⟩) (by assumption) ?r14
  case y14 => intro w hSw; (try dsimp only at hSw); go_simp; (try rfl)
  try simp only [Act.put, List.setIfInBounds_toArray, List.set_cons_zero, List.set_cons_succ]
  refine wpAnyH_done (by kernel_rfl) ?_ _
  have HB2 := Lib.hid (bl_trans hb1 hb2')
  clear hb1 hb2 hb2'
  go_wp2_with fail
  refine (HCP.out _).mono ?_
  rintro e w3 ⟨rfl, hw3⟩
  subst w3
  go_wp2_with fail
  refine (HTL.out _).mono ?_
  rintro e w3 ⟨rfl, hw3⟩
  subst w3
  go_wp2_with fail
  refine (HSF.out _).mono ?_
  rintro e w3 ⟨rfl, hb3⟩
  have hB3 := bl_trans HB2.out hb3
  have g3 := (HG.out.below hB3).g3
  go_wp2_with fail
  go_region
  all_goals go_wp2_with fail
  all_goals go_ret3
  all_goals exact ⟨rfl, by repeat (first | exact hB3 | refine Below.drew ?_)⟩
end Fold
end Go.Proofs.YtjnfoocmilbdlaaGreatDoor
/- fold's readItem, whole; ReadItem. -/
namespace Go.Proofs.YtjnfoocmilbdlaaGreatDoor
set_option linter.unusedSimpArgs false
set_option linter.unusedVariables false
namespace Fold
open Go.RowKit Go.Shelf Go.Proofs.YtjnfoocmilbdlaaGreatDoorW.PrintWords Go.Proofs.YtjnfoocmilbdlaaGreatDoor.PureB
open Go.Proofs.YtjnfoocmilbdlaaGreatDoor.Code (bl bl_len bl_get bl_byte Byt son_bl bl_son bl_extract bl_append baseL baseL_len unbL ubT ubN)
attribute [local go_sem] Oper.semAt_some
theorem readItem_c (s : ByteArray) (hs : s.size ≤ 100000) (a0 a1 a2 a3 b0 : Addr) (M : Int) (w : World) (hG : GA a0 a1 a2 a3 w) (hC : Code.GA b0 w) (hM : w.cell? ⟨6, 0, none⟩ = some (.int .i64 M)) :
    Calls Tryz.prog 38 #[.string s] w fun e w' => RiE (riR (bl s)) a2 a3 w e w' := by
  obtain ⟨⟨a, b, f⟩, hcut⟩ : ∃ q, cutL 58 (bl s) = q := ⟨_, rfl⟩
  have hby := cutL_byt 58 (bl s) (bl_byte s)
  have hln := (cutL_len 58 (bl s)).1
  rw [hcut] at hby hln
  rw [bl_len] at hln
  simp only at hby hln
  have hR : riR (bl s) = if f = false ∨ a = [] then .error 151
      else if st60 b = true then .error 152
      else if (unC b).2 = true then
        match unbL (blanks (unC b).1) with
        | none => .error 151
        | some t => .ok (a, t)
      else if Utf.sfV (strOfNums (blanks b)) = true then .ok (a, blanks b) else .error 151 := by
    unfold riR
    rw [hcut]
    all_goals rfl
  rw [hR]
  clear hR
  cases f with
  | false =>
    rw [if_pos (.inl rfl)]
    exact ri_nocut s hs a0 a1 a2 a3 b0 M w hG hC hM a b hcut hby.1 hby.2 (by omega) _ rfl
  | true =>
    by_cases ha : a = []
    · rw [if_pos (.inr ha)]
      exact ri_noname s hs a0 a1 a2 a3 b0 M w hG hC hM a b hcut hby.1 hby.2 (by omega) _ rfl (by rw [ha]; rfl)
    · have h0 : 0 < a.length := List.length_pos_iff.2 ha
      rw [if_neg (by rintro (h | h); · cases h
                     · exact ha h)]
      cases hp : st60 b with
      | true =>
        rw [if_pos rfl]
        exact ri_url s hs a0 a1 a2 a3 b0 M w hG hC hM a b hcut hby.1 hby.2 (by omega) hp h0
      | false =>
        rw [if_neg (by decide)]
        obtain ⟨⟨c, q⟩, hun⟩ : ∃ q, unC b = q := ⟨_, rfl⟩
        have hno := unC_no b
        rw [hun] at hno ⊢
        cases q with
        | true =>
          simp only [if_true]
          cases hu : unbL (blanks c) with
          | none => exact ri_base_no s hs a0 a1 a2 a3 b0 M w hG hC hM a b hcut hby.1 hby.2 (by omega) hp h0 c hun _ rfl hu
          | some t => exact ri_base_ok s hs a0 a1 a2 a3 b0 M w hG hC hM a b hcut hby.1 hby.2 (by omega) hp h0 c hun _ rfl t hu
        | false =>
          have hcb : c = b := hno rfl
          simp only [Bool.false_eq_true, if_false]
          cases hu : Utf.sfV (strOfNums (blanks b)) with
          | true =>
            simp only [if_true]
            exact ri_text_ok s hs a0 a1 a2 a3 b0 M w hG hC hM a b hcut hby.1 hby.2 (by omega) hp h0 c hun _ (by rw [hcb]) hcb hu
          | false =>
            simp only [Bool.false_eq_true, if_false]
            exact ri_text_no s hs a0 a1 a2 a3 b0 M w hG hC hM a b hcut hby.1 hby.2 (by omega) hp h0 c hun _ (by rw [hcb]) hcb hu
def rdName (o : Except Int (List Int × List Int)) : ByteArray := match o with | .ok p => strOfNums p.1 | .error _ => ⟨#[]⟩
def rdVal (o : Except Int (List Int × List Int)) : ByteArray := match o with | .ok p => strOfNums p.2 | .error _ => ⟨#[]⟩
def rdErr (o : Except Int (List Int × List Int)) : Int := match o with | .ok _ => 0 | .error x => if x = 152 then 152 else 151
set_option maxHeartbeats 2000000 in
theorem ReadItem_c (s : ByteArray) (hs : s.size ≤ 100000) (a0 a1 a2 a3 b0 : Addr) (M : Int) (w : World) (hG : GA a0 a1 a2 a3 w) (hC : Code.GA b0 w) (hM : w.cell? ⟨6, 0, none⟩ = some (.int .i64 M)) :
    Calls Tryz.prog 21 #[.string s] w fun e w' => e = .returned (.tuple #[.string (rdName (riR (bl s))), .string (rdVal (riR (bl s))), .int .i64 (rdErr (riR (bl s)))]) ∧ Below w.heap.size w w' := by
  have HR := Lib.hid (readItem_c s hs a0 a1 a2 a3 b0 M w hG hC hM)
  have HG := Lib.hid hG
  generalize riR (bl s) = o at HR ⊢
  clear hG hC hM
  cases o with
  | ok p =>
    have HT := Lib.hid told_nil
    simp only [rdName, rdVal, rdErr]
    go_enter Tryz.func21, Tryz.ntmps21
    go_wp2_with fail
    refine HR.out.mono ?_
    rintro e w1 ⟨he, hb⟩
    obtain rfl : e = .returned (.tuple #[.string (strOfNums p.1), .string (strOfNums p.2), .nilIface]) := he
    go_wp2_with fail
    refine (HT.out _).mono ?_
    rintro e w2 ⟨rfl, hb2⟩
    go_wp2_with fail
    go_ret3
    exact ⟨rfl, bl_trans hb hb2⟩
  | error x =>
    by_cases hx : x = 152
    · have HX := Lib.hid (show rdErr (.error x) = 152 from if_pos hx)
      have HX2 := Lib.hid (show rvE a2 a3 x = werr 0 a2 from if_pos hx)
      rw [HX.out]
      simp only [rdName, rdVal]
      clear hx
      go_enter Tryz.func21, Tryz.ntmps21
      go_wp2_with fail
      refine HR.out.mono ?_
      rintro e w1 ⟨he, hb⟩
      obtain rfl : e = .returned (.tuple #[.string ⟨#[]⟩, .string ⟨#[]⟩, rvE a2 a3 x]) := he
      rw [HX2.out]
      have HT := Lib.hid (told_url 0 a0 a1 a2 a3 w1 (HG.out.below hb))
      go_wp2_with fail
      refine HT.out.mono ?_
      rintro e w2 ⟨rfl, hb2⟩
      go_wp2_with fail
      go_ret3
      exact ⟨rfl, bl_trans hb hb2⟩
    · have HX := Lib.hid (show rdErr (.error x) = 151 from if_neg hx)
      have HX2 := Lib.hid (show rvE a2 a3 x = werr 0 a3 from if_neg hx)
      rw [HX.out]
      simp only [rdName, rdVal]
      clear hx
      go_enter Tryz.func21, Tryz.ntmps21
      go_wp2_with fail
      refine HR.out.mono ?_
      rintro e w1 ⟨he, hb⟩
      obtain rfl : e = .returned (.tuple #[.string ⟨#[]⟩, .string ⟨#[]⟩, rvE a2 a3 x]) := he
      rw [HX2.out]
      have HT := Lib.hid (told_item 0 a0 a1 a2 a3 w1 (HG.out.below hb))
      go_wp2_with fail
      refine HT.out.mono ?_
      rintro e w2 ⟨rfl, hb2⟩
      go_wp2_with fail
      go_ret3
      exact ⟨rfl, bl_trans hb hb2⟩
end Fold
end Go.Proofs.YtjnfoocmilbdlaaGreatDoor
/- UTF-8, plainly: the model's decoder and encoder, byte by byte. No program in sight. -/
namespace Go.Proofs.YtjnfoocmilbdlaaGreatDoor
set_option linter.unusedSimpArgs false
set_option linter.unusedVariables false
namespace Utf
open Go.RowKit Go.Proofs.YtjnfoocmilbdlaaGreatDoorW.PrintWords
/-- which numbers are signs -/
def vr (c : Int) : Bool := decide (0 ≤ c ∧ c ≤ 1114111 ∧ ¬ (55296 ≤ c ∧ c ≤ 57343))
/-- a sign's bytes -/
def eb (c : Int) : List Int :=
  if c < 128 then [c] else if c < 2048 then [192 + c / 64, 128 + c % 64] else if c < 65536 then [224 + c / 4096, 128 + c / 64 % 64, 128 + c % 64]
  else [240 + c / 262144, 128 + c / 4096 % 64, 128 + c / 64 % 64, 128 + c % 64]
/-- some bytes stand at a place -/
def Pre (s : ByteArray) (i : Nat) (l : List Int) : Prop := i + l.length ≤ s.size ∧ ∀ j : Nat, j < l.length → bt s ((i : Int) + j) = l.getD j 0
theorem bt_get (s : ByteArray) (i : Nat) : bt s (i : Int) = ((s.get! i).toNat : Int) := by
  unfold bt
  split
  · rename_i h
    have h' : i < s.size := by simpa using h
    show ((s[i]'h').toNat : Int) = _
    rw [show s.get! i = s[i]'h' by simp [ByteArray.get!, getElem!_pos, h']; rfl]
  · rename_i h
    have h' : ¬ i < s.size := by simpa using h
    have : s.get! i = 0 := by
      rcases s with ⟨a⟩
      simp only [ByteArray.get!]
      rw [getElem!_neg]
      · rfl
      · exact h'
    simp [this]
/-- the sign that begins at a place: 0 bytes, if there is none -/
def sign1 (s : ByteArray) (i : Nat) : Int × Nat := if Utf8.decode s i = (65533, 1) then (0, 0) else ((Utf8.decode s i).1, (Utf8.decode s i).2)
/-- The decoder in bytes. -/
theorem decode_bt (s : ByteArray) (i : Nat) (h : i < s.size) :
    ∀ b0 b1 b2 b3 : Nat, (b0 : Int) = bt s i → (b1 : Int) = bt s ((i : Int) + 1) → (b2 : Int) = bt s ((i : Int) + 2) → (b3 : Int) = bt s ((i : Int) + 3) →
    Utf8.decode s i = (if b0 < 128 then (b0, 1) else
      if b0 / 32 = 6 ∧ i + 1 < s.size ∧ b1 / 64 = 2 then (if b0 % 32 * 64 + b1 % 64 ≥ 128 then (b0 % 32 * 64 + b1 % 64, 2) else (65533, 1)) else
      if b0 / 16 = 14 ∧ (i + 1 < s.size ∧ b1 / 64 = 2) ∧ (i + 2 < s.size ∧ b2 / 64 = 2) then
        (if b0 % 16 * 4096 + b1 % 64 * 64 + b2 % 64 ≥ 2048 ∧ Utf8.valid ((b0 % 16 * 4096 + b1 % 64 * 64 + b2 % 64 : Nat) : Int) = true then (b0 % 16 * 4096 + b1 % 64 * 64 + b2 % 64, 3) else (65533, 1)) else
      if b0 / 8 = 30 ∧ (i + 1 < s.size ∧ b1 / 64 = 2) ∧ (i + 2 < s.size ∧ b2 / 64 = 2) ∧ (i + 3 < s.size ∧ b3 / 64 = 2) then
        (if b0 % 8 * 262144 + b1 % 64 * 4096 + b2 % 64 * 64 + b3 % 64 ≥ 65536 ∧ Utf8.valid ((b0 % 8 * 262144 + b1 % 64 * 4096 + b2 % 64 * 64 + b3 % 64 : Nat) : Int) = true then (b0 % 8 * 262144 + b1 % 64 * 4096 + b2 % 64 * 64 + b3 % 64, 4) else (65533, 1))
      else (65533, 1)) := by
  intro b0 b1 b2 b3 h0 h1 h2 h3
  have g : ∀ k : Nat, bt s ((i : Int) + k) = ((s.get! (i + k)).toNat : Int) := fun k => by rw [← bt_get]; simp
  have g0 : bt s (i : Int) = ((s.get! (i + 0)).toNat : Int) := by have := g 0; simpa using this
  have g1 : bt s ((i : Int) + 1) = ((s.get! (i + 1)).toNat : Int) := g 1
  have g2 : bt s ((i : Int) + 2) = ((s.get! (i + 2)).toNat : Int) := g 2
  have g3 : bt s ((i : Int) + 3) = ((s.get! (i + 3)).toNat : Int) := g 3
  obtain rfl : b0 = (s.get! (i + 0)).toNat := by rw [g0] at h0; omega
  obtain rfl : b1 = (s.get! (i + 1)).toNat := by rw [g1] at h1; omega
  obtain rfl : b2 = (s.get! (i + 2)).toNat := by rw [g2] at h2; omega
  obtain rfl : b3 = (s.get! (i + 3)).toNat := by rw [g3] at h3; omega
  simp only [Utf8.decode, Utf8.runeError, Bool.and_eq_true, decide_eq_true_eq, beq_iff_eq, and_assoc, ge_iff_le]
theorem valid_vr (c : Int) : Utf8.valid c = vr c := by
  unfold Utf8.valid vr
  rw [Bool.eq_iff_iff]
  simp only [Bool.or_eq_true, Bool.and_eq_true, decide_eq_true_eq]
  omega
/-- What the decoder takes is what the encoder writes. -/
theorem sign1_pre (s : ByteArray) (i : Nat) (h : i < s.size) (hn : (sign1 s i).2 ≠ 0) : vr (sign1 s i).1 = true ∧ (sign1 s i).2 = (eb (sign1 s i).1).length ∧ Pre s i (eb (sign1 s i).1) := by
  have r : ∀ k : Int, ∃ b : Nat, (b : Int) = bt s ((i : Int) + k) ∧ b ≤ 255 := fun k => ⟨(bt s ((i : Int) + k)).toNat, by have := bt_range s ((i : Int) + k); omega, by have := bt_range s ((i : Int) + k); omega⟩
  obtain ⟨b0, h0, r0⟩ := r 0
  obtain ⟨b1, h1, r1⟩ := r 1
  obtain ⟨b2, h2, r2⟩ := r 2
  obtain ⟨b3, h3, r3⟩ := r 3
  rw [Int.add_zero] at h0
  have hd := decode_bt s i h b0 b1 b2 b3 h0 h1 h2 h3
  unfold sign1 at hn ⊢
  by_cases hbad : Utf8.decode s i = (65533, 1)
  · rw [if_pos hbad] at hn; simp at hn
  rw [if_neg hbad]
  have fin : ∀ c n : Nat, Utf8.decode s i = (c, n) → vr c = true → n = (eb c).length → Pre s i (eb c) → vr ((Utf8.decode s i).1 : Int) = true ∧ (Utf8.decode s i).2 = (eb (Utf8.decode s i).1).length ∧ Pre s i (eb (Utf8.decode s i).1) := by
    intro c n e a b c; rw [e]; exact ⟨a, b, c⟩
  have hbad' := hbad
  rw [hd] at hbad'
  have c0 : bt s ((i : Int) + (0 : Nat)) = b0 := by simpa using h0.symm
  have c1 : bt s ((i : Int) + (1 : Nat)) = b1 := h1.symm
  have c2 : bt s ((i : Int) + (2 : Nat)) = b2 := h2.symm
  have c3 : bt s ((i : Int) + (3 : Nat)) = b3 := h3.symm
  split at hd
  · rename_i k
    have e : eb (b0 : Int) = [(b0 : Int)] := by unfold eb; rw [if_pos (by omega)]
    refine fin _ _ hd (by simp [vr]; omega) (by rw [e]; rfl) ⟨by rw [e]; simp; omega, fun j hj => ?_⟩
    rw [e] at hj ⊢
    obtain rfl : j = 0 := by simpa using hj
    exact c0
  rename_i k0
  rw [if_neg k0] at hbad'
  split at hd
  · rename_i k
    rw [if_pos k] at hbad'
    split at hd
    · rename_i k2
      obtain ⟨c, hc⟩ : ∃ c : Nat, c = b0 % 32 * 64 + b1 % 64 := ⟨_, rfl⟩
      rw [← hc] at hd k2
      have e : eb (c : Int) = [192 + (c : Int) / 64, 128 + (c : Int) % 64] := by unfold eb; rw [if_neg (by omega), if_pos (by omega)]
      refine fin _ _ hd (by simp [vr]; omega) (by rw [e]; rfl) ⟨by rw [e]; simp; omega, fun j hj => ?_⟩
      rw [e] at hj ⊢
      rcases (show j = 0 ∨ j = 1 by simp at hj; omega) with rfl | rfl
      · rw [c0]; simp; omega
      · rw [c1]; simp; omega
    · rename_i k2; rw [if_neg k2] at hbad'; exact absurd rfl hbad'
  rename_i k1
  rw [if_neg k1] at hbad'
  split at hd
  · rename_i k
    rw [if_pos k] at hbad'
    split at hd
    · rename_i k2
      obtain ⟨c, hc⟩ : ∃ c : Nat, c = b0 % 16 * 4096 + b1 % 64 * 64 + b2 % 64 := ⟨_, rfl⟩
      rw [← hc] at hd k2
      have hv := k2.2
      rw [valid_vr] at hv
      have e : eb (c : Int) = [224 + (c : Int) / 4096, 128 + (c : Int) / 64 % 64, 128 + (c : Int) % 64] := by unfold eb; rw [if_neg (by omega), if_neg (by omega), if_pos (by omega)]
      refine fin _ _ hd hv (by rw [e]; rfl) ⟨by rw [e]; simp; omega, fun j hj => ?_⟩
      rw [e] at hj ⊢
      rcases (show j = 0 ∨ j = 1 ∨ j = 2 by simp at hj; omega) with rfl | rfl | rfl
      · rw [c0]; simp; omega
      · rw [c1]; simp; omega
      · rw [c2]; simp; omega
    · rename_i k2; rw [if_neg k2] at hbad'; exact absurd rfl hbad'
  rename_i k1'
  rw [if_neg k1'] at hbad'
  split at hd
  · rename_i k
    rw [if_pos k] at hbad'
    split at hd
    · rename_i k2
      obtain ⟨c, hc⟩ : ∃ c : Nat, c = b0 % 8 * 262144 + b1 % 64 * 4096 + b2 % 64 * 64 + b3 % 64 := ⟨_, rfl⟩
      rw [← hc] at hd k2
      have hv := k2.2
      rw [valid_vr] at hv
      have e : eb (c : Int) = [240 + (c : Int) / 262144, 128 + (c : Int) / 4096 % 64, 128 + (c : Int) / 64 % 64, 128 + (c : Int) % 64] := by unfold eb; rw [if_neg (by omega), if_neg (by omega), if_neg (by omega)]
      refine fin _ _ hd hv (by rw [e]; rfl) ⟨by rw [e]; simp; omega, fun j hj => ?_⟩
      rw [e] at hj ⊢
      rcases (show j = 0 ∨ j = 1 ∨ j = 2 ∨ j = 3 by simp at hj; omega) with rfl | rfl | rfl | rfl
      · rw [c0]; simp; omega
      · rw [c1]; simp; omega
      · rw [c2]; simp; omega
      · rw [c3]; simp; omega
    · rename_i k2; rw [if_neg k2] at hbad'; exact absurd rfl hbad'
  · rename_i k3; rw [if_neg k3] at hbad'; exact absurd rfl hbad'
end Utf
end Go.Proofs.YtjnfoocmilbdlaaGreatDoor
/- strings.IndexRune at a rune beyond ASCII, in a text of two bytes of ASCII: there is none; strings.IndexAny at two ASCII bytes, whatever the text. -/
namespace Go.Proofs.YtjnfoocmilbdlaaGreatDoor
set_option linter.unusedSimpArgs false
set_option linter.unusedVariables false
namespace Idx
open Go.RowKit Go.Shelf Go.Proofs.YtjnfoocmilbdlaaGreatDoorW.PrintWords
attribute [local go_sem] Oper.semAt_some
set_option maxHeartbeats 4000000 in
set_option maxRecDepth 1000000 in
theorem short_valid1 (s : ByteArray) (h0 : 2 ≤ s.size) (hs2 : s.size ≤ 1000) (hs : ∀ b ∈ s.data.toList, b.toNat < 128) (r : Int) (hr : 128 ≤ r) (hv : Lib.validRune r = true) (hne : r ≠ 65533)
    (g : ByteArray) (hg : Utf8.encode r = g) (hL : g.size = 2) (hl : 1 < g.size) (hb128 : 128 ≤ (g[1]'hl).toNat) (w : World) :
    Calls Tryz.prog 64 #[.string s, .int .i32 r] w fun e w' => e = .returned (.int .i64 (-1)) ∧ Below w.heap.size w w' := by
  have HV := Tryz.utf8_ValidRune r
  rw [hv] at HV
  have hcv : ∀ W, (convert 21 9 (.int .i32 r)).run Tryz.prog W = .ok (.string g) W := fun W => by
    rw [← hg]; exact run_convert_int_string W _ _ _ _ (by rw [Tryz.underlying21]; rfl) Tryz.underlying9
  have hls : 1 < s.size := by omega
  have ha0 : (s[1]'hls).toNat < 128 := hs _ (Array.getElem_mem_toList (xs := s.data) hls)
  obtain ⟨x, hx⟩ : ∃ x, (s[1]'hls).toNat = x := ⟨_, rfl⟩
  obtain ⟨y, hy⟩ : ∃ y, (g[1]'hl).toNat = y := ⟨_, rfl⟩
  have hy256 : y < 256 := by rw [← hy]; exact (g[1]'hl).toNat_lt
  rw [hy] at hb128
  rw [hx] at ha0
  have hxy : ¬ ((x : Int) = y) := by omega
  have hxy3 : ((x : Int) != y) = true := by simpa using hxy
  have HIB := Lib.hid (Tryz.strings_IndexByte (s.extract 2 s.size) y)
  have hib : Lib.indexByte (s.extract 2 s.size).data.toList (y : Int).toNat.toUInt8 = -1 := by
    apply indexByte_none
    intro b hb e
    have h1 := hs b (mem_extract hb)
    rw [e] at h1
    simp [Nat.toUInt8] at h1
    omega
  rw [hib] at HIB
  have HVV := Lib.hid HV
  have hw2 : IntKind.i64.wrap 2 = 2 := by decide
  have q2 : (2 : Int) ≤ s.size := by omega
  have q3 : 2 ≤ s.size := by omega
  have q5 : (1 : Int) < s.size := by omega
  clear hv hg hib hs HV h0 hs2
  go_enter Tryz.func64, Tryz.ntmps64
  go_wp2_with (go_at_call 92; refine (HVV.out _).mono ?_; rintro e w' ⟨rfl, hw⟩; rw [hw]; clear hw)
  refine wp_scope_straight ?_
  go_wp2_with fail
  refine wp_loop_rounds 1 ?_
  rw [rounds_succ]
  go_wp2_with fail
  refine wp_scope_straight ?_
  go_wp2_with fail
  go_region
  go_wp2_with fail
  go_region_held3 (fun w' => Below w.heap.size w w') (first | assumption | (repeat (first | assumption | exact Below.refl _ _ | refine Below.drew ?_))) (first
    | (go_at_call 91; refine (HIB.out _).mono ?_; rintro e w' ⟨rfl, rfl⟩))
  go_wp2_with fail
  simp only [Exit.noGoto, Exit.inBlock, Exit.then]
  go_ret
  exact ⟨rfl, by first | assumption | (repeat (first | assumption | exact Below.refl _ _ | refine Below.drew ?_))⟩
set_option maxHeartbeats 4000000 in
set_option maxRecDepth 1000000 in
theorem short_valid2 (s : ByteArray) (h0 : s.size = 2) (r : Int) (hr : 128 ≤ r) (hv : Lib.validRune r = true) (hne : r ≠ 65533)
    (g : ByteArray) (hg : Utf8.encode r = g) (hL : g.size = 3) (w : World) :
    Calls Tryz.prog 64 #[.string s, .int .i32 r] w fun e w' => e = .returned (.int .i64 (-1)) ∧ Below w.heap.size w w' := by
  have HV := Tryz.utf8_ValidRune r
  rw [hv] at HV
  have hcv : ∀ W, (convert 21 9 (.int .i32 r)).run Tryz.prog W = .ok (.string g) W := fun W => by
    rw [← hg]; exact run_convert_int_string W _ _ _ _ (by rw [Tryz.underlying21]; rfl) Tryz.underlying9
  have HVV := Lib.hid HV
  clear hv hg HV
  go_enter Tryz.func64, Tryz.ntmps64
  go_wp2_with (go_at_call 92; refine (HVV.out _).mono ?_; rintro e w' ⟨rfl, hw⟩; rw [hw]; clear hw)
  refine wp_scope_straight ?_
  go_wp2_with fail
  refine wp_loop_rounds 1 ?_
  rw [rounds_succ]
  go_wp2_with fail
  simp only [Exit.noGoto, Exit.inBlock, Exit.then]
  go_ret
  exact ⟨rfl, Below.refl _ _⟩
set_option maxHeartbeats 4000000 in
set_option maxRecDepth 1000000 in
theorem short_valid3 (s : ByteArray) (h0 : s.size = 2) (r : Int) (hr : 128 ≤ r) (hv : Lib.validRune r = true) (hne : r ≠ 65533)
    (g : ByteArray) (hg : Utf8.encode r = g) (hL : g.size = 4) (w : World) :
    Calls Tryz.prog 64 #[.string s, .int .i32 r] w fun e w' => e = .returned (.int .i64 (-1)) ∧ Below w.heap.size w w' := by
  have HV := Tryz.utf8_ValidRune r
  rw [hv] at HV
  have hcv : ∀ W, (convert 21 9 (.int .i32 r)).run Tryz.prog W = .ok (.string g) W := fun W => by
    rw [← hg]; exact run_convert_int_string W _ _ _ _ (by rw [Tryz.underlying21]; rfl) Tryz.underlying9
  have HVV := Lib.hid HV
  clear hv hg HV
  go_enter Tryz.func64, Tryz.ntmps64
  go_wp2_with (go_at_call 92; refine (HVV.out _).mono ?_; rintro e w' ⟨rfl, hw⟩; rw [hw]; clear hw)
  refine wp_scope_straight ?_
  go_wp2_with fail
  refine wp_loop_rounds 1 ?_
  rw [rounds_succ]
  go_wp2_with fail
  simp only [Exit.noGoto, Exit.inBlock, Exit.then]
  go_ret
  exact ⟨rfl, Below.refl _ _⟩
/-- strings.IndexRune at whatever rune beyond ASCII that a decoder hands out. -/
theorem short (s : ByteArray) (h0 : s.size = 2) (hs : ∀ b ∈ s.data.toList, b.toNat < 128) (r : Int) (hr : 128 ≤ r) (hv : Lib.validRune r = true) (w : World) :
    Calls Tryz.prog 64 #[.string s, .int .i32 r] w fun e w' => e = .returned (.int .i64 (-1)) ∧ Below w.heap.size w w' := by
  by_cases hne : r = 65533
  · subst hne
    exact high_err s hs w
  · have hv2 : Utf8.valid r = true := by rw [validRune_eq]; exact hv
    obtain ⟨e2, e4, e128⟩ := encode_facts r hv2 hr
    have key : ∀ L, (Utf8.encode r).size = L + 1 → ∀ hl : L < (Utf8.encode r).size, 128 ≤ ((Utf8.encode r)[L]'hl).toNat := fun L hL hl => by
      have : ∀ q, q = L → ∀ h : q < (Utf8.encode r).size, 128 ≤ ((Utf8.encode r)[q]'h).toNat → 128 ≤ ((Utf8.encode r)[L]'hl).toNat := by rintro q rfl h x; exact x
      exact this ((Utf8.encode r).size - 1) (by omega) (by omega) (e128 (by omega))
    rcases (show (Utf8.encode r).size = 2 ∨ (Utf8.encode r).size = 3 ∨ (Utf8.encode r).size = 4 by omega) with e | e | e
    · exact short_valid1 s (by omega) (by omega) hs r hr hv hne _ rfl e (by omega) (key 1 e (by omega)) w
    · exact short_valid2 s h0 r hr hv hne _ rfl e w
    · exact short_valid3 s h0 r hr hv hne _ rfl e w
end Idx
end Go.Proofs.YtjnfoocmilbdlaaGreatDoor
/- strings.IndexAny, ContainsAny at "\r\n", whatever the text. -/
namespace Go.Proofs.YtjnfoocmilbdlaaGreatDoor
set_option linter.unusedSimpArgs false
set_option linter.unusedVariables false
namespace Idx
open Go.RowKit Go.Shelf Go.Proofs.YtjnfoocmilbdlaaGreatDoorW.PrintWords Go.Proofs.YtjnfoocmilbdlaaGreatDoor.Utf
attribute [local go_sem] Oper.semAt_some
theorem eb_high (c : Int) (h : 128 ≤ c) (hv : vr c = true) : ∀ x ∈ eb c, 128 ≤ x := by
  simp only [vr, decide_eq_true_eq] at hv
  intro x hx
  unfold eb at hx
  rw [if_neg (by omega)] at hx
  repeat' split at hx
  all_goals simp at hx
  all_goals omega
/-- what a sign beyond ASCII takes -/
theorem skip_high (s : ByteArray) (pos : Nat) (h : pos < s.size) (ha : 128 ≤ (s[pos]'h).toNat) :
    pos + (Utf8.decode s pos).2 ≤ s.size ∧ ∀ j (hj : j < s.size), pos ≤ j → j < pos + (Utf8.decode s pos).2 → 128 ≤ (s[j]'hj).toNat := by
  have hd := decode_high s pos h ha
  have hs1 : sign1 s pos = if Utf8.decode s pos = (65533, 1) then ((0 : Int), 0) else (((Utf8.decode s pos).1 : Int), (Utf8.decode s pos).2) := rfl
  by_cases hb : Utf8.decode s pos = (65533, 1)
  · rw [hb]
    refine ⟨by show pos + 1 ≤ s.size; omega, fun j hj h1 h2 => ?_⟩
    obtain rfl : j = pos := by have h2' : j < pos + 1 := h2; omega
    exact ha
  · rw [if_neg hb] at hs1
    obtain ⟨h1, h2, h3⟩ := sign1_pre s pos h (by rw [hs1]; show (Utf8.decode s pos).2 ≠ 0; omega)
    rw [hs1] at h1 h2 h3
    simp only at h1 h2 h3
    have he := eb_high _ (by omega) h1
    refine ⟨by have := h3.1; omega, fun j hj h4 h5 => ?_⟩
    have h6 := h3.2 (j - pos) (by omega)
    have h7 : (pos : Int) + ((j - pos : Nat) : Int) = (j : Int) := by omega
    rw [h7] at h6
    have h8 : bt s (j : Int) = ((s[j]'hj).toNat : Int) := PureB.bt_nat s j hj
    rw [h8] at h6
    have h9 : (eb ((Utf8.decode s pos).1 : Int)).getD (j - pos) 0 ∈ eb ((Utf8.decode s pos).1 : Int) := by
      rw [List.getD_eq_getElem?_getD, List.getElem?_eq_getElem (by omega)]
      exact List.getElem_mem _
    have := he _ h9
    omega
def CRLF : ByteArray := ⟨#[13, 10]⟩
theorem crlf_list : CRLF.data.toList = [13, 10] := rfl
theorem crlf_ascii : ∀ b ∈ CRLF.data.toList, b.toNat < 128 := by decide
set_option maxHeartbeats 4000000 in
set_option maxRecDepth 1000000 in
theorem idxAny_short (s : ByteArray) (h8 : s.size ≤ 8) (w : World) :
    Calls Tryz.prog 44 #[.string s, .string CRLF] w fun e w' => e = .returned (.int .i64 (Lib.indexAny s.data.toList CRLF.data.toList)) ∧ Below w.heap.size w w' := by
  have hcs : CRLF.size = 2 := rfl
  have hemp : CRLF.toList.isEmpty = false := by rw [Lib.toList_data]; rfl
  have HSH := Lib.hid (fun W => Tryz.strings_shouldUseASCIISet s.size W)
  have h8z : decide ((8 : Int) < (s.size : Int)) = false := decide_eq_false (by omega)
  rw [h8z] at HSH
  have HHI := Lib.hid (fun c h128 hv W => short CRLF rfl crlf_ascii c h128 hv W)
  have HLO := Lib.hid (fun (x : UInt8) (hx : x.toNat < 128) W => Tryz.strings_IndexRune_ascii CRLF x.toNat W (by omega) (by omega))
  have HCRL := Lib.hid (show ∀ y : UInt8, 128 ≤ y.toNat → CRLF.data.toList.contains y = false from fun y hy => by
    rw [crlf_list]
    simp only [List.contains_cons, List.contains_nil, Bool.or_false, Bool.or_eq_false_iff, beq_eq_false_iff_ne]
    exact ⟨fun e => by subst e; simp at hy, fun e => by subst e; simp at hy⟩)
  generalize hCR : CRLF = cr at *
  clear h8z hCR
  go_enter Tryz.func44, Tryz.ntmps44
  go_wp2_with fail
  refine (HSH.out _).mono ?_
  rintro e w' ⟨rfl, rfl⟩
  go_wp2_with fail
  go_loopw [] (fun wr => ∃ pos : Nat, pos ≤ s.size ∧ wr.heap[w'.heap.size]? = some (.stringIter s pos) ∧ RowKit.Hid (Lib.NoAny s.data.toList cr.data.toList pos) ∧ Below w'.heap.size w' wr) (fun wr => s.size - wr.iterPos w'.heap.size)
  case atStart => exact ⟨0, Nat.zero_le _, World.iter_heap w' s 0, Lib.hid (Lib.NoAny.zero _ _), (Below.refl _ _).alloc (Nat.le_refl _) _⟩
  case round =>
    obtain ⟨pos, hp, hit, HN, hb⟩ := hrel
    have HIT := Lib.hid hit
    by_cases hlt : pos < s.size
    · have hnx0 : ∀ ty, (Instr.next (.pointer (some ⟨w'.heap.size, 0, none⟩)) true ty).run Tryz.prog wr = _ := fun ty => Lib.run_next_any_at wr w'.heap.size s pos ty hit hlt
      have hxl : s.data.toList[pos]? = some (s[pos]'hlt) := Lib.data_getElem? s pos hlt
      obtain ⟨x, hx⟩ : ∃ x : UInt8, s[pos]'hlt = x := ⟨_, rfl⟩
      by_cases ha : x.toNat < 128
      · have hd := decode_ascii s pos hlt (by rw [hx]; exact ha)
        rw [hd, hx] at hnx0
        rw [hx] at hxl
        obtain ⟨W2, hW2⟩ : ∃ W2, wr.iterAt w'.heap.size s (pos + 1) = W2 := ⟨_, rfl⟩
        have hnx : ∀ ty, (Instr.next (.pointer (some ⟨w'.heap.size, 0, none⟩)) true ty).run Tryz.prog wr = .ok (.tuple #[.bool true, .int .i64 pos, .int .i32 x.toNat]) W2 := fun ty => by rw [hnx0]; simp only [hW2]
        have hit2 : W2.heap[w'.heap.size]? = some (.stringIter s (pos + 1)) := by rw [← hW2]; exact Lib.iterAt_heap wr _ s pos _ hit
        have hb2 : Below w'.heap.size w' W2 := by
          rw [← hW2]
          exact hb.trans ⟨rfl, rfl, rfl, by rw [Lib.iterAt_size]; exact Nat.le_refl _, fun k hk => Lib.iterAt_other wr _ k s _ (by omega)⟩
        have hlo := HLO.out x ha
        have hback : ((x.toNat : Int)).toNat.toUInt8 = x := by simp
        rw [hback] at hlo
        have hcon := Lib.contains_iff_indexByte cr.data.toList x
        cases hin : cr.data.toList.contains x with
        | true =>
          rw [hin] at hcon
          have hge : (0 : Int) ≤ Lib.indexByte cr.data.toList x := of_decide_eq_true hcon.symm
          have HR := Lib.hid (Lib.indexAny_hit HN.out hxl hin)
          have HL := Lib.hid hlo
          clear hcon hlo hxl hin hback hW2 hnx0 hd hit hx
          go_wp2_with fail
          refine (HL.out _).mono ?_
          rintro e w2 ⟨rfl, hw2⟩
          subst w2
          go_wp2_with fail
          go_ret
          exact ⟨by rw [HR.out]; try rfl, hb2⟩
        | false =>
          rw [hin] at hcon
          have hge : ¬ ((0 : Int) ≤ Lib.indexByte cr.data.toList x) := of_decide_eq_false hcon.symm
          have HN2 := Lib.hid (HN.out.succ hxl hin)
          have HL := Lib.hid hlo
          have HIT2 := Lib.hid hit2
          clear hcon hlo hxl hin hback hW2 hnx0 hd hit hx
          go_wp2_with fail
          refine (HL.out _).mono ?_
          rintro e w2 ⟨rfl, hw2⟩
          subst w2
          go_wp2_with fail
          go_roundw
          case rel => exact ⟨pos + 1, by omega, HIT2.out, HN2, hb2⟩
          case measure => simp only [World.iterPos, HIT2.out, HIT.out]; omega
      · have h128 : 128 ≤ (s[pos]'hlt).toNat := by rw [hx]; omega
        have hd := decode_high s pos hlt h128
        have hok := Code.decode_ok s pos
        obtain ⟨k1, k2⟩ := skip_high s pos hlt h128
        obtain ⟨⟨c, n⟩, hcn⟩ : ∃ q, Utf8.decode s pos = q := ⟨_, rfl⟩
        rw [hcn] at hd hok k1 k2
        simp only [hcn] at hnx0
        simp only at hd hok k1 k2
        have hn1 := hd.2
        obtain ⟨W2, hW2⟩ : ∃ W2, wr.iterAt w'.heap.size s (pos + n) = W2 := ⟨_, rfl⟩
        have hnx : ∀ ty, (Instr.next (.pointer (some ⟨w'.heap.size, 0, none⟩)) true ty).run Tryz.prog wr = .ok (.tuple #[.bool true, .int .i64 pos, .int .i32 c]) W2 := fun ty => by rw [hnx0, hW2]
        have hit2 : W2.heap[w'.heap.size]? = some (.stringIter s (pos + n)) := by rw [← hW2]; exact Lib.iterAt_heap wr _ s pos _ hit
        have hb2 : Below w'.heap.size w' W2 := by
          rw [← hW2]
          exact hb.trans ⟨rfl, rfl, rfl, by rw [Lib.iterAt_size]; exact Nat.le_refl _, fun k hk => Lib.iterAt_other wr _ k s _ (by omega)⟩
        have hcr : ∀ y : UInt8, 128 ≤ y.toNat → cr.data.toList.contains y = false := fun y hy => by
          have := HCRL.out y hy
          exact this
        have HN2 := Lib.hid (show Lib.NoAny s.data.toList cr.data.toList (pos + n) from fun j b hj hbj => by
          by_cases h1 : j < pos
          · exact HN.out j b h1 hbj
          · have hjs : j < s.size := by omega
            have h3 : s.data.toList[j]? = some (s[j]'hjs) := Lib.data_getElem? s j hjs
            rw [h3] at hbj
            obtain rfl := Option.some.inj hbj
            exact hcr _ (k2 j hjs (by omega) hj))
        have HL := Lib.hid (HHI.out (c : Int) (by omega) hok)
        have HIT2 := Lib.hid hit2
        clear hxl hW2 hnx0 hd hok hit hx k2 hcn h128 hcr
        go_wp2_with fail
        refine (HL.out _).mono ?_
        rintro e w2 ⟨rfl, hbw⟩
        have HIT3 := Lib.hid ((Chg.of_below (S := fun _ => False) hbw).heap HIT2.out (fun h => h))
        have hs2 : w'.heap.size ≤ W2.heap.size := hb2.size
        go_wp2_with fail
        go_roundw
        case rel => exact ⟨pos + n, k1, HIT3.out, HN2, hb2.trans (hbw.mono hs2)⟩
        case measure => simp only [World.iterPos, HIT3.out, HIT.out]; omega
    · obtain rfl : pos = s.size := by omega
      have hnx : ∀ ty, (Instr.next (.pointer (some ⟨w'.heap.size, 0, none⟩)) true ty).run Tryz.prog wr = _ := fun ty => Lib.run_next_end_at wr w'.heap.size s s.size ty hit hlt
      have HR := Lib.hid (Lib.indexAny_none (s := s.data.toList) (chars := cr.data.toList) (by rw [← Lib.size_eq]; exact HN.out))
      clear hit
      go_wp2_with fail
      refine bodyPost_ret (v := .int .i64 (-1)) (by simp [results, Tryz.results44, go_sem]) rfl ⟨by rw [HR.out], hb⟩
end Idx
end Go.Proofs.YtjnfoocmilbdlaaGreatDoor
