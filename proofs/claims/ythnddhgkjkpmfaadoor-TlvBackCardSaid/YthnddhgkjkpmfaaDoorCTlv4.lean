/- CTlv4: own texts of this seat, laid as one. -/
import Derived.Test.YthnddhgkjkpmfaaDoorCTlv3
/- tlv's isShaped. -/
namespace Go.Proofs.YthnddhgkjkpmfaaDoor
set_option linter.unusedSimpArgs false
set_option linter.unusedVariables false
namespace Tlv
open Go.RowKit Go.Shelf Go.Proofs.YthnddhgkjkpmfaaDoorW.PrintWords Go.Proofs.YthnddhgkjkpmfaaDoor.KTlv Go.Proofs.YthnddhgkjkpmfaaDoor.PureB
attribute [local go_sem] Oper.semAt_some
theorem bits_all : ∀ n : Nat, n < 256 → Go.bits .and .i64 (n : Int) 31 = (n : Int) % 32 ∧ (Go.bits .and .i64 (n : Int) 32 != 0) = decide ((n : Int) / 32 % 2 = 1) := by decide +kernel
theorem inner_f (t : Int) (h0 : 0 ≤ t) (h1 : t ≤ 255) : LTlvO.tlv_isInner.f t = some (inner t) := by
  have := (bits_all t.toNat (by omega)).2
  rw [show ((t.toNat : Nat) : Int) = t by omega] at this
  unfold LTlvO.tlv_isInner.f inner
  rw [this]
theorem one_f (n : Nd) : LTlvO.tlv_isOne.f n.f0 n.f1 n.f2 = some (one n) := by
  unfold LTlvO.tlv_isOne.f one
  by_cases h0 : n.f0 < 0
  · rw [if_pos h0, decide_eq_false (show ¬ 0 ≤ n.f0 by omega)]; rfl
  rw [if_neg h0, decide_eq_true (show 0 ≤ n.f0 by omega)]
  by_cases h1 : n.f0 > 255
  · rw [if_pos h1, decide_eq_false (show ¬ n.f0 ≤ 255 by omega)]; rfl
  rw [if_neg h1, decide_eq_true (show n.f0 ≤ 255 by omega)]
  have h2 := (bits_all n.f0.toNat (by omega)).1
  rw [show ((n.f0.toNat : Nat) : Int) = n.f0 by omega] at h2
  rw [h2, inner_f n.f0 (by omega) (by omega)]
  by_cases h3 : n.f0 % 32 = 31
  · rw [if_pos h3, decide_eq_false (show ¬ (n.f0 % 32 ≠ 31) by omega)]; rfl
  rw [if_neg h3, decide_eq_true h3]
  simp only [Option.bind_some, Bool.true_and]
  by_cases h4 : inner n.f0 = true
  · rw [if_pos h4, if_pos h4]
    congr 1
    rw [Bool.eq_iff_iff, decide_eq_true_eq, beq_iff_eq]
    exact toList_nil
  · rw [if_neg h4, if_neg h4]
    congr 1
    rw [Bool.eq_iff_iff, decide_eq_true_eq, beq_iff_eq]
    omega
theorem one_c (x : El) (w : World) (hC : Kd.C k24 w x.a x.x.f2.length x.x.f2) (hc : x.x.f2.length ≤ x.c) :
    Calls Tryd.prog 48 #[x.v] w fun e w' => e = .returned (.bool (one x.x)) ∧ Below w.heap.size w w' :=
  LTlvO.tlv_isOne.calls x.x.f0 x.x.f1 x.a x.c x.x.f2 _ w hC hc (one_f x.x)
theorem take_all {α : Type} {L : List α} {k : Nat} {x : α} {p : α → Bool} (h : L[k]? = some x) (ha : (L.take k).all p = true) (hx : p x = true) : (L.take (k + 1)).all p = true := by
  rw [List.take_add_one, h, List.all_append, ha]
  simp [hx]
theorem all_not {α : Type} {L : List α} {k : Nat} {x : α} {p : α → Bool} (h : L[k]? = some x) (hx : p x = false) : L.all p = false := by
  cases ha : L.all p with
  | false => rfl
  | true =>
    have := List.all_eq_true.1 ha x (List.mem_of_getElem? h)
    rw [this] at hx
    cases hx
def okE (p : Int × El) : Bool := okAt (p.1, p.2.x)
theorem all_map (L : List (Int × El)) : (L.map (fun p => (p.1, p.2.x))).all okAt = L.all okE := by
  induction L with
  | nil => rfl
  | cons p L ih => rw [List.map_cons, List.all_cons, List.all_cons, ih]; rfl
structure Cnt (w : World) (L : List (Int × El)) (k : Nat) (U : Nat → Prop) (A : World) : Prop where
  r : A.heap[w.heap.size + 1]? = some (.cells #[.bool false] 4 (0, 0))
  n : A.heap[w.heap.size + 2]? = some (.cells #[.int .i64 k] 3 (0, 0))
  ur : U (w.heap.size + 1)
  un : U (w.heap.size + 2)
  bw : Below w.heap.size w A
  sz : w.heap.size + 4 ≤ A.heap.size
  kl : k ≤ 200
  ok : (L.take k).all okE = true
structure Met (w : World) (b : Bool) (U : Nat → Prop) (A : World) : Prop where
  r : A.heap[w.heap.size + 1]? = some (.cells #[.bool false] 4 (0, 0))
  ur : U (w.heap.size + 1)
  bw : Below w.heap.size w A
  sz : w.heap.size + 4 ≤ A.heap.size
  no : b = false
theorem Cnt.chg {w : World} {L : List (Int × El)} {k : Nat} {U : Nat → Prop} {A B : World} (h : Cnt w L k U A) (hc : Chg (fun j => ¬ U j ∧ ¬ j < w.heap.size) A B) : Cnt w L k U B :=
  ⟨hc.heap h.r (fun e => e.1 h.ur), hc.heap h.n (fun e => e.1 h.un), h.ur, h.un, Below.chg h.bw hc (by have := h.sz; omega) (fun _ hk => Nat.le_of_not_lt hk.2), Nat.le_trans h.sz hc.size, h.kl, h.ok⟩
theorem Met.chg {w : World} {b : Bool} {U : Nat → Prop} {A B : World} (h : Met w b U A) (hc : Chg (fun j => ¬ U j ∧ ¬ j < w.heap.size) A B) : Met w b U B :=
  ⟨hc.heap h.r (fun e => e.1 h.ur), h.ur, Below.chg h.bw hc (by have := h.sz; omega) (fun _ hk => Nat.le_of_not_lt hk.2), Nat.le_trans h.sz hc.size, h.no⟩
theorem Cnt.step {w : World} {L : List (Int × El)} {k : Nat} {U U' : Nat → Prop} {A B : World} (h : Cnt w L k U A) (hb : Below A.heap.size A B) (hU : ∀ j, U j → U' j) : Cnt w L k U' B :=
  ⟨(hb.block _ (Array.getElem?_eq_some_iff.1 h.r).1).trans h.r, (hb.block _ (Array.getElem?_eq_some_iff.1 h.n).1).trans h.n, hU _ h.ur, hU _ h.un, Below.chg h.bw (Chg.of_below (S := fun _ => False) hb) (by have := h.sz; omega) (fun _ h => h.elim), Nat.le_trans h.sz hb.size, h.kl, h.ok⟩
set_option maxRecDepth 100000 in
set_option maxHeartbeats 4000000 in
theorem shaped_c (x : Nd) (a : Option Addr) (c : Nat) (w : World) (hC : Kd.C k24 w a x.f2.length x.f2) (hc : x.f2.length ≤ c) (hk : ∀ p ∈ pre 1 x, p.2.f2.length ≤ 1000) :
    Calls Tryd.prog 34 #[.agg #[.int .i64 x.f0, .string x.f1, .slice a x.f2.length c]] w fun e w' => e = .returned (.bool (shaped x)) ∧ Below w.heap.size w w' := by
  obtain ⟨hmap, hall⟩ := preE_spec w _ ⟨x, a, c⟩ 1 (Nat.lt_succ_self _) hC hc
  have hk' : ∀ p ∈ preE w 1 ⟨x, a, c⟩, p.2.x.f2.length ≤ 1000 := fun p hp => hk (p.1, p.2.x) (by rw [← hmap]; exact List.mem_map.2 ⟨p, hp, rfl⟩)
  have hit := trees_it (9 - 1) (by decide) w ⟨x, a, c⟩ (w.heap.size + 3) hC hc hk'
  obtain ⟨L, hL⟩ : ∃ L, preE w 1 ⟨x, a, c⟩ = L := ⟨_, rfl⟩
  rw [hL] at hit hall hmap
  have hsh : shaped x = (decide (L.length ≤ 200) && L.all okE) := by
    unfold shaped
    rw [← hmap, all_map, List.length_map]
  have HS := Lib.hid hsh
  have HALL := Lib.hid hall
  have HIT := Lib.hid hit
  obtain ⟨b, hb⟩ : ∃ b, shaped x = b := ⟨_, rfl⟩
  rw [hb] at HS ⊢
  clear hk hk' hC hc hit hall hmap hsh hL hb
  refine (callsIn_wide (n := 9)).1 ?_
  refine callsIn_of_wp_marks Tryd.func34 rfl trivial ?_ rfl
  simp only [Tryd.ntmps34, List.size_toArray, List.length_cons, List.length_nil, Nat.reduceAdd, Nat.reduceSub, Array.replicate_succ, Array.replicate_zero, List.push_toArray, List.append_toArray, List.nil_append, List.cons_append]
  gi_wp2_with fail
  refine ⟨trivial, (callsIn_wide.2 (trees_any x.f0 x.f1 a x.f2.length c _)).mono ?_⟩
  rintro e w2 ⟨rfl, rfl⟩
  gi_wp2_with fail
  have hsz : ((((w.alloc (.cells #[.int .i64 x.f0, .string x.f1, .slice a x.f2.length c] 24)).alloc (.cells #[.bool false] 4)).alloc (.cells #[.int .i64 0] 3)).alloc (.cells #[.int .i64 x.f0, .string x.f1, .slice a x.f2.length c] 24)).heap.size = w.heap.size + 4 := by simp
  have hB0 : Below w.heap.size w ((((w.alloc (.cells #[.int .i64 x.f0, .string x.f1, .slice a x.f2.length c] 24)).alloc (.cells #[.bool false] 4)).alloc (.cells #[.int .i64 0] 3)).alloc (.cells #[.int .i64 x.f0, .string x.f1, .slice a x.f2.length c] 24)) := bl_alloc (bl_alloc (bl_alloc (bl_alloc (Below.refl _ _) _) _) _) _
  have z1 : (((w.alloc (.cells #[.int .i64 x.f0, .string x.f1, .slice a x.f2.length c] 24)).alloc (.cells #[.bool false] 4)).alloc (.cells #[.int .i64 0] 3)).heap[w.heap.size + 2]? = some (.cells #[.int .i64 0] 3 (0, 0)) := by
    have := World.alloc_heap_new ((w.alloc (.cells #[.int .i64 x.f0, .string x.f1, .slice a x.f2.length c] 24)).alloc (.cells #[.bool false] 4)) (.cells #[.int .i64 0] 3)
    simpa using this
  have z2 : (((w.alloc (.cells #[.int .i64 x.f0, .string x.f1, .slice a x.f2.length c] 24)).alloc (.cells #[.bool false] 4)).alloc (.cells #[.int .i64 0] 3)).heap[w.heap.size + 1]? = some (.cells #[.bool false] 4 (0, 0)) := by
    have := World.alloc_heap_new (w.alloc (.cells #[.int .i64 x.f0, .string x.f1, .slice a x.f2.length c] 24)) (.cells #[.bool false] 4)
    refine ((Chg.refl (fun _ => False) _).alloc _).heap ?_ (by simp)
    simpa using this
  have k1 : ((((w.alloc (.cells #[.int .i64 x.f0, .string x.f1, .slice a x.f2.length c] 24)).alloc (.cells #[.bool false] 4)).alloc (.cells #[.int .i64 0] 3)).alloc (.cells #[.int .i64 x.f0, .string x.f1, .slice a x.f2.length c] 24)).heap[w.heap.size + 1]? = some (.cells #[.bool false] 4 (0, 0)) :=
    ((Chg.refl (fun _ => False) _).alloc _).heap z2 (by simp)
  have k2 : ((((w.alloc (.cells #[.int .i64 x.f0, .string x.f1, .slice a x.f2.length c] 24)).alloc (.cells #[.bool false] 4)).alloc (.cells #[.int .i64 0] 3)).alloc (.cells #[.int .i64 x.f0, .string x.f1, .slice a x.f2.length c] 24)).heap[w.heap.size + 2]? = some (.cells #[.int .i64 (0 : Nat)] 3 (0, 0)) :=
    ((Chg.refl (fun _ => False) _).alloc _).heap z1 (by simp)
  have k3 : ((((w.alloc (.cells #[.int .i64 x.f0, .string x.f1, .slice a x.f2.length c] 24)).alloc (.cells #[.bool false] 4)).alloc (.cells #[.int .i64 0] 3)).alloc (.cells #[.int .i64 x.f0, .string x.f1, .slice a x.f2.length c] 24)).heap[w.heap.size + 3]? = some (.cells #[.int .i64 x.f0, .string x.f1, .slice a x.f2.length c] 24 (0, 0)) := by
    have := World.alloc_heap_new (((w.alloc (.cells #[.int .i64 x.f0, .string x.f1, .slice a x.f2.length c] 24)).alloc (.cells #[.bool false] 4)).alloc (.cells #[.int .i64 0] 3)) (.cells #[.int .i64 x.f0, .string x.f1, .slice a x.f2.length c] 24)
    simpa using this
  obtain ⟨Z, hZ⟩ : ∃ Z, ((((w.alloc (.cells #[.int .i64 x.f0, .string x.f1, .slice a x.f2.length c] 24)).alloc (.cells #[.bool false] 4)).alloc (.cells #[.int .i64 0] 3)).alloc (.cells #[.int .i64 x.f0, .string x.f1, .slice a x.f2.length c] 24)) = Z := ⟨_, rfl⟩
  rw [hZ] at hsz hB0 k1 k2 k3 ⊢
  clear hZ z1 z2
  refine wpIn_range_itK rfl (by decide) (gf := 61) (lb := #[.pointer (some ⟨w.heap.size + 3, 0, none⟩)]) rfl trivial (enters_of Tryd.func61 (by kernel_rfl) rfl)
    HIT.out (fun j hj => by omega) (fun j => j = w.heap.size + 1 ∨ j = w.heap.size + 2) (fun j hj => ⟨by omega, by omega⟩)
    (fun W hc hs2 => ⟨hc.heap k3 (by simp), by rintro ((e | e) | (e | e)) <;> omega, Below.chg hB0 hc (by omega) (fun _ h => h.elim), by have := hc.size; omega⟩) (fun _ => rfl)
    (fun k U A => Cnt w L k U A) (fun cd _ U A => cd = .ret ∧ Met w b U A) (fun k U A h => h.kl)
    (fun k U A B h _ hc => h.chg hc) (fun cd k U A B h hc => ⟨h.1, h.2.chg hc⟩) (fun _ _ h _ => h) ⟨k1, k2, .inl rfl, .inr rfl, hB0, by omega, by omega, rfl⟩
    (fun p a' A => ∃ nb : Nat, Z.heap.size + 2 ≤ nb ∧ A.heap[nb]? = some (.cells #[.int .i64 p.2.x.f0, .string p.2.x.f1, .slice p.2.a p.2.x.f2.length p.2.c] 24 (0, 0)) ∧ ∃ v0 v1 v6 v7 v8 v9 v10 v11 v12 v13 v14 v15 v16 v17 v18 v19 v20 v21 v22 v23 v24 v25 v26 v27 v28 : Value, a' = { tmps := #[v0, v1, .pointer (some ⟨w.heap.size + 1, 0, none⟩), .pointer (some ⟨w.heap.size + 2, 0, none⟩), .int .i64 p.1, .pointer (some ⟨nb, 0, none⟩), v6, v7, v8, v9, v10, v11, v12, v13, v14, v15, v16, v17, v18, v19, v20, v21, v22, v23, v24, v25, v26, v27, v28], defers := [] })
    ?hAx ?assign ?body ?done ?stop
  case hAx =>
    rintro p a' A B ⟨nb, h1, h2, h3⟩ hc
    exact ⟨nb, h1, hc.heap h2 (fun h => by rcases h with h | h <;> omega), h3⟩
  case assign =>
    intro l k p U A K hx hi hU hs2 hK
    simp only [El.v]
    gi_wp2_with fail
    have hbn := bl_alloc (Below.refl A.heap.size A) (.cells #[.int .i64 p.2.x.f0, .string p.2.x.f1, .slice p.2.a p.2.x.f2.length p.2.c] 24)
    exact hK _ (fun j => U j ∨ j = A.heap.size) _ ⟨fun j hj => hj.imp id (fun e => by omega), fun j hj => by
      rcases hj with hj | hj
      · have := (hU j hj).1; simp; omega
      · simp; omega, (Chg.refl _ _).alloc _⟩ (hi.step hbn (fun _ h => .inl h)) ⟨A.heap.size, hs2, World.alloc_heap_new A _, _, _, _, _, _, _, _, _, _, _, _, _, _, _, _, _, _, _, _, _, _, _, _, _, _, rfl⟩
  case body =>
    rintro k p U a' A hr0 hx hI hU hs2 ⟨nb, hnb, hrow, v0, v1, v6, v7, v8, v9, v10, v11, v12, v13, v14, v15, v16, v17, v18, v19, v20, v21, v22, v23, v24, v25, v26, v27, v28, rfl⟩
    have cR := cell_of_row A (w.heap.size + 1) 0 _ _ _ hI.r
    have cN := cell_of_row A (w.heap.size + 2) 0 _ _ _ hI.n
    have c0 := cell_of_row A nb 0 _ _ _ hrow
    have c1 := cell_of_row A nb 1 _ _ _ hrow
    have c2 := cell_of_row A nb 2 _ _ _ hrow
    simp at cR cN c0 c1 c2
    have hkl := hI.kl
    have hsA := hI.sz
    have q1 : w.heap.size + 1 ≠ nb := by omega
    have q2 : w.heap.size + 2 ≠ nb := by omega
    obtain ⟨i, hi⟩ : ∃ i : Int, (k : Int) + 1 = i := ⟨_, rfl⟩
    have hw : wrap64 ((k : Int) + 1) = i := by unfold wrap64; omega
    have HI := Lib.hid hI
    have HX := Lib.hid hx
    have HU := Lib.hid hU
    have HIi := Lib.hid hi
    have hlen : k < L.length := (List.getElem?_eq_some_iff.1 hx).1
    have hUB : ∀ B, Chg (fun j => j = w.heap.size + 1 ∨ j = w.heap.size + 2) A B → UStep U A U B := fun B hc => ⟨fun _ h => .inl h, fun j hj => Nat.lt_of_lt_of_le (HU.out j hj).1 hc.size, hc.mono (fun j hj => hj.elim (fun e => e ▸ HI.out.ur) (fun e => e ▸ HI.out.un))⟩
    have HUB := Lib.hid hUB
    have HLEN := Lib.hid hlen
    have hmet : ∀ B, Chg (fun j => j = w.heap.size + 1 ∨ j = w.heap.size + 2) A B → B.heap[w.heap.size + 1]? = some (.cells #[.bool false] 4 (0, 0)) → b = false → Met w b U B := fun B hc hr hbf =>
      ⟨hr, HI.out.ur, Below.chg HI.out.bw hc (by omega) (fun j hj => by omega), Nat.le_trans HI.out.sz hc.size, hbf⟩
    have HMET := Lib.hid hmet
    clear hI hx hU hi hlen hUB hmet
    have fR : A.frozen? ⟨w.heap.size + 1, 0, none⟩ = false := Boxed.frozen HI.out.r
    have fN : A.frozen? ⟨w.heap.size + 2, 0, none⟩ = false := Boxed.frozen HI.out.n
    have n12 : w.heap.size + 1 ≠ w.heap.size + 2 := by omega
    have n21 : w.heap.size + 2 ≠ w.heap.size + 1 := by omega
    have hcs : ∀ v, Chg (fun j => j = w.heap.size + 1 ∨ j = w.heap.size + 2) A (A.setCell ⟨w.heap.size + 2, 0, none⟩ v) := fun v => (Chg.refl _ A).setCell (.inr rfl) v
    have HCS := Lib.hid hcs
    clear hcs
    by_cases h1 : 200 < (k : Int) + 1
    · have g1 := eq_true h1
      have hbf : RowKit.Hid (b = false) := by
        have e2 := HLEN.out
        rw [HS.out, decide_eq_false (show ¬ L.length ≤ 200 by omega)]; rfl
      clear h1
      gi_wp2_with fail
      refine ⟨trivial, ?_⟩
      gi_wp2_with fail
      refine ⟨U, HUB.out _ ((HCS.out _).setCell (.inl rfl) _), rfl, HMET.out _ ((HCS.out _).setCell (.inl rfl) _) (Boxed.set _ (Boxed.other HI.out.r n12 _)) hbf.out⟩
    have g1 := eq_false h1
    have HK1 := Lib.hid (show k + 1 ≤ 200 by omega)
    clear h1
    have hno : ∀ _ : okE p = false, b = false := fun h => by rw [HS.out, all_not HX.out h, Bool.and_false]
    have HNO := Lib.hid hno
    clear hno
    by_cases h2 : 12 < p.1
    · have g2 := eq_true h2
      have hbf : RowKit.Hid (b = false) := HNO.out (by unfold okE okAt; rw [decide_eq_false (show ¬ p.1 ≤ 12 by omega)]; rfl)
      clear h2
      gi_wp2_with fail
      refine ⟨trivial, ?_⟩
      gi_wp2_with fail
      refine ⟨U, HUB.out _ ((HCS.out _).setCell (.inl rfl) _), rfl, HMET.out _ ((HCS.out _).setCell (.inl rfl) _) (Boxed.set _ (Boxed.other HI.out.r n12 _)) hbf.out⟩
    have g2 := eq_false h2
    have HD := Lib.hid (show p.1 ≤ 12 by omega)
    clear h2
    have hA2 : Below w.heap.size w (A.setCell ⟨w.heap.size + 2, 0, none⟩ (.int .i64 ((k : Int) + 1))) := Below.chg HI.out.bw (HCS.out _) (by omega) (fun j hj => by omega)
    have hpm := HALL.out p (List.mem_of_getElem? HX.out)
    have HC := Lib.hid (one_c p.2 _ (Kd.C_below hpm.2 hA2) hpm.1)
    have HB2 := Lib.hid hA2
    clear hA2 hpm
    gi_wp2_with fail
    refine ⟨trivial, ((callsIn_wide.2 HC.out).inRound _).mono ?_⟩
    rintro e w3 ⟨rfl, hb3⟩
    have hch : Chg (fun j => j = w.heap.size + 1 ∨ j = w.heap.size + 2) A w3 := (HCS.out _).trans (Chg.of_below hb3)
    have hr3 : w3.heap[w.heap.size + 1]? = some (.cells #[.bool false] 4 (0, 0)) := (hb3.block _ (by simp; omega)).trans (Boxed.other HI.out.r n12 _)
    have hn3 : w3.heap[w.heap.size + 2]? = some (.cells #[.int .i64 ((k : Int) + 1)] 3 (0, 0)) := (hb3.block _ (by simp; omega)).trans (Boxed.set _ HI.out.n)
    have hq3 : w3.heap[nb]? = some (.cells #[.int .i64 p.2.x.f0, .string p.2.x.f1, .slice p.2.a p.2.x.f2.length p.2.c] 24 (0, 0)) := (hb3.block _ (by simp; exact (Array.getElem?_eq_some_iff.1 hrow).1)).trans (((Chg.refl (fun j => j = w.heap.size + 2) A).setCell rfl _).heap hrow (by omega))
    have d1 := cell_of_row w3 nb 1 _ _ _ hq3
    have dR := cell_of_row w3 (w.heap.size + 1) 0 _ _ _ hr3
    simp at d1 dR
    have fR3 : w3.frozen? ⟨w.heap.size + 1, 0, none⟩ = false := Boxed.frozen hr3
    have HCH := Lib.hid hch
    have HR3 := Lib.hid hr3
    have HN3 := Lib.hid hn3
    clear hch hr3 hn3 hq3 hb3 c0 c1 c2 cR cN hrow
    by_cases h3 : one p.2.x = true
    · rw [h3]
      by_cases h4 : 4000 < (p.2.x.f1.size : Int)
      · have g4 := eq_true h4
        have hbf : RowKit.Hid (b = false) := HNO.out (by unfold okE okAt; rw [decide_eq_false (show ¬ p.2.x.f1.size ≤ 4000 by omega), Bool.and_false, Bool.and_false])
        clear h4 h3
        gi_wp2_with fail
        exact ⟨U, HUB.out _ (HCH.out.setCell (.inl rfl) _), rfl, HMET.out _ (HCH.out.setCell (.inl rfl) _) (Boxed.set _ HR3.out) hbf.out⟩
      · have g4 := eq_false h4
        have hok : okE p = true := by
          unfold okE okAt
          rw [h3, decide_eq_true HD.out, decide_eq_true (show p.2.x.f1.size ≤ 4000 by omega)]; rfl
        have HOK := Lib.hid hok
        clear h4 h3 hok
        gi_wp2_with fail
        exact ⟨U, HUB.out _ HCH.out, HR3.out, by have := HN3.out; rwa [show (k : Int) + 1 = ((k + 1 : Nat) : Int) by omega] at this, HI.out.ur, HI.out.un, Below.chg HI.out.bw HCH.out (by have := HI.out.sz; omega) (fun j hj => by omega), Nat.le_trans HI.out.sz HCH.out.size, HK1.out, take_all HX.out HI.out.ok HOK.out⟩
    · have h5 : one p.2.x = false := by simpa using h3
      rw [h5]
      have hbf : RowKit.Hid (b = false) := HNO.out (by unfold okE okAt; rw [h5, Bool.false_and, Bool.and_false])
      clear h3 h5
      gi_wp2_with fail
      exact ⟨U, HUB.out _ (HCH.out.setCell (.inl rfl) _), rfl, HMET.out _ (HCH.out.setCell (.inl rfl) _) (Boxed.set _ HR3.out) hbf.out⟩
  case done =>
    rintro U B hI _ hU hs2 hK
    have cR := cell_of_row B (w.heap.size + 1) 0 _ _ _ hI.r
    simp at cR
    have fR : B.frozen? ⟨w.heap.size + 1, 0, none⟩ = false := Boxed.frozen hI.r
    have hbt : RowKit.Hid (b = true) := by
      have h1 := hI.kl
      have h2 := hI.ok
      rw [List.take_length] at h2
      rw [HS.out, h2, decide_eq_true h1]; rfl
    have HI := Lib.hid hI
    have HK := Lib.hid hK
    clear hI hK
    gi_wp2_with fail
    have hT : (B.setCell ⟨w.heap.size + 1, 0, none⟩ (.bool true)).heap[Z.heap.size]? = some (.deferred (some [])) := ((Chg.refl (fun j => j = w.heap.size + 1) B).setCell rfl _).heap HK.out (by omega)
    refine ⟨by simp, .inl ⟨_, _, rfl, run_takeDeferred hT, ?_⟩⟩
    have hrr : ∀ o, ((B.setCell ⟨w.heap.size + 1, 0, none⟩ (.bool true)).putObj Z.heap.size o).cell? ⟨w.heap.size + 1, 0, none⟩ = some (.bool true) := fun o =>
      Boxed.cell (t := 4) (((Chg.refl (fun j => j = Z.heap.size) _).putObj rfl o).heap (Boxed.set (.bool true) HI.out.r) (by omega))
    refine ⟨.bool true, by simp [results, Tryd.results34, go_sem, hrr], by rw [hbt.out], ?_⟩
    exact Below.chg (Below.chg HI.out.bw ((Chg.refl (fun j => j = w.heap.size + 1) B).setCell rfl _) (by have := HI.out.sz; omega) (fun j hj => by omega)) ((Chg.refl (fun z => w.heap.size ≤ z) _).putObj (by omega) _) (by have := HI.out.sz; simp; omega) (fun z hz => hz)
  case stop =>
    rintro cd k U B hk ⟨rfl, hM⟩ hU hs2 hK
    have cR := cell_of_row B (w.heap.size + 1) 0 _ _ _ hM.r
    simp at cR
    have HM := Lib.hid hM
    have HK := Lib.hid hK
    clear hM hK
    gi_wp2_with fail
    refine ⟨by simp, .inl ⟨_, _, rfl, run_takeDeferred HK.out, ?_⟩⟩
    have hrr : ∀ o, (B.putObj Z.heap.size o).cell? ⟨w.heap.size + 1, 0, none⟩ = some (.bool false) := fun o =>
      Boxed.cell (t := 4) (((Chg.refl (fun j => j = Z.heap.size) _).putObj rfl o).heap HM.out.r (by omega))
    refine ⟨.bool false, by simp [results, Tryd.results34, go_sem, hrr], by rw [HM.out.no], ?_⟩
    exact Below.chg HM.out.bw ((Chg.refl (fun z => w.heap.size ≤ z) _).putObj (by omega) _) (by have := HM.out.sz; omega) (fun z hz => hz)
end Tlv
end Go.Proofs.YthnddhgkjkpmfaaDoor
/- tlv's Same: slices.EqualFunc over rows of trees, and trees. -/
namespace Go.Proofs.YthnddhgkjkpmfaaDoor
set_option linter.unusedSimpArgs false
set_option linter.unusedVariables false
namespace Tlv
open Go.RowKit Go.Shelf Go.Proofs.YthnddhgkjkpmfaaDoorW.PrintWords Go.Proofs.YthnddhgkjkpmfaaDoor.KTlv Go.Proofs.YthnddhgkjkpmfaaDoor.PureB
attribute [local go_sem] Oper.semAt_some
def SameAt (x : Nd) : Prop := ∀ (y : Nd) (A A' : Option Addr) (c c' : Nat) (w : World), Kd.C k24 w A x.f2.length x.f2 → Kd.C k24 w A' y.f2.length y.f2 →
  Calls Tryd.prog 23 #[.agg #[.int .i64 x.f0, .string x.f1, .slice A x.f2.length c], .agg #[.int .i64 y.f0, .string y.f1, .slice A' y.f2.length c']] w fun e w' => e = .returned (.bool (same x y)) ∧ Below w.heap.size w w'
theorem sameL_len : ∀ xs ys : List Nd, xs.length ≠ ys.length → sameL xs ys = false := by
  intro xs ys h
  cases hs : sameL xs ys with
  | false => rfl
  | true => exact absurd (congrArg List.length ((sameL_iff xs ys).1 hs)) h
set_option maxRecDepth 100000 in
set_option maxHeartbeats 4000000 in
theorem eqf_c (xs ys : List Nd) (A A' : Option Addr) (c c' : Nat) (w : World) (hx : Kd.C k24 w A xs.length xs) (hy : Kd.C k24 w A' ys.length ys) (hS : ∀ x ∈ xs, SameAt x) :
    Calls Tryd.prog 37 #[.slice A xs.length c, .slice A' ys.length c', .func (.func 23) #[] #[]] w
      fun e w' => e = .returned (.bool (sameL xs ys)) ∧ Below w.heap.size w w' := by
  obtain ⟨es, h1, hr, he⟩ := rows_of hx
  obtain ⟨es', h1', hr', he'⟩ := rows_of hy
  have hmx := Kd.C_max hx
  have hl : es.length = xs.length := by rw [← h1, List.length_map]
  have hl' : es'.length = ys.length := by rw [← h1', List.length_map]
  by_cases hn : xs.length = ys.length
  case neg =>
    have hf := sameL_len xs ys hn
    have hn2 : ¬ ((xs.length : Int) = (ys.length : Int)) := by omega
    clear hS hx hy hr hr' he he'
    go_enter Tryd.func37, Tryd.ntmps37
    go_wp2_with fail
    all_goals (go_ret; exact ⟨by rw [hf]; rfl, Below.refl _ _⟩)
  obtain ⟨n, hN⟩ : ∃ n : Nat, xs.length = n := ⟨_, rfl⟩
  have hN' : ys.length = n := by omega
  rw [hN, hN']
  have HS := Lib.hid hS
  have HR := Lib.hid hr
  have HR' := Lib.hid hr'
  have HE := Lib.hid he
  have HE' := Lib.hid he'
  have H1 := Lib.hid h1
  have H1' := Lib.hid h1'
  have HL : RowKit.Hid (es.length = n) := by rw [hl, hN]; rfl
  have HL' : RowKit.Hid (es'.length = n) := by rw [hl', hN']; rfl
  rw [hN] at hmx
  clear hS hr hr' he he' hx hy hl hl' hn hN hN' h1 h1'
  go_enter Tryd.func37, Tryd.ntmps37
  go_wp2_with fail
  go_loopw [17] (fun v wr => ∃ k : Nat, v = .int .i64 k ∧ k ≤ n ∧ Below w.heap.size w wr ∧ RowKit.Hid (sameL xs ys = sameL (xs.drop k) (ys.drop k)))
    (fun v _ => n - (intOf v).toNat)
  case atStart => exact ⟨0, rfl, Nat.zero_le _, Below.refl _ _, rfl⟩
  case round =>
    obtain ⟨k, rfl, hk, hb, hq⟩ := hrel
    have HB := Lib.hid hb
    by_cases hlt : k < n
    · obtain ⟨e, hee⟩ : ∃ e, es[k]? = some e := ⟨_, List.getElem?_eq_getElem (by rw [HL.out]; omega)⟩
      obtain ⟨e', hee'⟩ : ∃ e, es'[k]? = some e := ⟨_, List.getElem?_eq_getElem (by rw [HL'.out]; omega)⟩
      obtain ⟨ad, hA, h3⟩ := (HR.out.below hb).2 (by intro h; rw [h] at hee; simp at hee)
      obtain ⟨ad', hA', h3'⟩ := (HR'.out.below hb).2 (by intro h; rw [h] at hee'; simp at hee')
      obtain ⟨d0, d1, d2⟩ := h3 k e hee
      obtain ⟨g0, g1, g2⟩ := h3' k e' hee'
      have hxk : xs[k]? = some e.x := by rw [← H1.out, List.getElem?_map, hee]; rfl
      have hyk : ys[k]? = some e'.x := by rw [← H1'.out, List.getElem?_map, hee']; rfl
      have hst : sameL (xs.drop k) (ys.drop k) = (same e.x e'.x && sameL (xs.drop (k + 1)) (ys.drop (k + 1))) := by
        obtain ⟨hi, hx⟩ := List.getElem?_eq_some_iff.1 hxk
        obtain ⟨hi', hx'⟩ := List.getElem?_eq_some_iff.1 hyk
        rw [List.drop_eq_getElem_cons hi, List.drop_eq_getElem_cons hi', hx, hx']
        rfl
      have HST := Lib.hid hst
      have hSx : SameAt e.x := HS.out _ (List.mem_of_getElem? hxk)
      have hC := (HE.out e (List.mem_of_getElem? hee)).2
      have hC' := (HE'.out e' (List.mem_of_getElem? hee')).2
      have HSX := Lib.hid (fun W (hW : Below w.heap.size w W) => hSx e'.x e.a e'.a e.c e'.c W (Kd.C_below hC hW) (Kd.C_below hC' hW))
      have q0 : (k : Int) < n := by omega
      have p0 : 0 ≤ (k : Int) := by omega
      have hlt1 := lt_of_cell d0
      have hlt2 := lt_of_cell d1
      have hlt3 := lt_of_cell d2
      have hlt1' := lt_of_cell g0
      have hlt2' := lt_of_cell g1
      have hlt3' := lt_of_cell g2
      have hw1 : wrap64 ((k : Int) + 1) = ((k + 1 : Nat) : Int) := by unfold wrap64; omega
      clear hee hee' h3 h3' hxk hyk hst hSx hC hC' hb
      rw [hA, hA']
      replace p0 := eq_true p0
      replace q0 := eq_true q0
      go_wp2_with fail
      have hB1 := bl_alloc (bl_alloc HB.out (.cells #[.int .i64 e.x.f0, .string e.x.f1, .slice e.a e.x.f2.length e.c] 24)) (.cells #[.int .i64 e'.x.f0, .string e'.x.f1, .slice e'.a e'.x.f2.length e'.c] 24)
      refine (HSX.out _ hB1).mono ?_
      rintro r W2 ⟨rfl, hb2⟩
      have HB2 := Lib.hid (bl_trans hB1 hb2)
      clear hb2 hB1
      cases hs : same e.x e'.x with
      | true =>
        go_wp2_with fail
        go_roundw
        case rel => exact ⟨k + 1, rfl, by omega, HB2.out, by rw [hq.out, HST.out, hs]; rfl⟩
        case measure => simp [intOf]; omega
      | false =>
        go_wp2_with fail
        go_ret
        exact ⟨by rw [hq.out, HST.out, hs]; rfl, HB2.out⟩
    · obtain rfl : k = n := by omega
      have hfin : sameL xs ys = true := by
        rw [hq.out, List.drop_eq_nil_of_le (by rw [← H1.out, List.length_map, HL.out]; exact Nat.le_refl _), List.drop_eq_nil_of_le (by rw [← H1'.out, List.length_map, HL'.out]; exact Nat.le_refl _)]
        rfl
      clear hq
      go_wp2_with fail
      go_ret
      exact ⟨by rw [hfin]; rfl, HB.out⟩
set_option maxHeartbeats 4000000 in
theorem Same_step (t t' : Int) (s s' : ByteArray) (xs ys : List Nd) (A A' : Option Addr) (c c' : Nat) (w : World) (hx : Kd.C k24 w A xs.length xs) (hy : Kd.C k24 w A' ys.length ys) (hS : ∀ k ∈ xs, SameAt k) :
    Calls Tryd.prog 23 #[.agg #[.int .i64 t, .string s, .slice A xs.length c], .agg #[.int .i64 t', .string s', .slice A' ys.length c']] w
      fun e w' => e = .returned (.bool (decide (t = t') && (decide (s = s') && sameL xs ys))) ∧ Below w.heap.size w w' := by
  have HQ := Lib.hid (fun W (hW : Below w.heap.size w W) => eqf_c xs ys A A' c c' W (Kd.C_below hx hW) (Kd.C_below hy hW) hS)
  obtain ⟨nx, hnx⟩ : ∃ n, xs.length = n := ⟨_, rfl⟩
  obtain ⟨ny, hny⟩ : ∃ n, ys.length = n := ⟨_, rfl⟩
  obtain ⟨b, hb⟩ : ∃ b, sameL xs ys = b := ⟨_, rfl⟩
  rw [hnx, hny, hb] at HQ
  rw [hnx, hny, hb]
  clear hx hy hS hnx hny hb
  have HB := Lib.hid (bl_alloc (bl_alloc (Below.refl w.heap.size w) (.cells #[.int .i64 t, .string s, .slice A nx c] 24)) (.cells #[.int .i64 t', .string s', .slice A' ny c'] 24))
  by_cases h0 : t = t'
  · subst h0
    by_cases h1 : s = s'
    · subst h1
      go_enter Tryd.func23, Tryd.ntmps23
      go_wp2_with fail
      refine (HQ.out _ HB.out).mono ?_
      rintro r W2 ⟨rfl, hb2⟩
      have HB2 := Lib.hid (bl_trans HB.out hb2)
      clear hb2 HQ
      go_wp2_with fail
      go_ret
      exact ⟨by simp, HB2.out⟩
    · have h2 : decide (s = s') = false := decide_eq_false h1
      have e1 : (s.toList == s'.toList) = false := by
        rw [beq_eq_false_iff_ne]
        intro h; exact h1 (toList_inj.1 h)
      rw [h2]
      clear h2 h1
      go_enter Tryd.func23, Tryd.ntmps23
      go_wp2_with fail
      go_ret
      exact ⟨by simp, HB.out⟩
  · have h2 : decide (t = t') = false := decide_eq_false h0
    have e1 : (t == t') = false := by rw [beq_eq_false_iff_ne]; exact h0
    rw [h2]
    clear h2 h0
    go_enter Tryd.func23, Tryd.ntmps23
    go_wp2_with fail
    go_ret
    exact ⟨by simp, HB.out⟩
theorem kid_lt {t : Int} {s : ByteArray} {ks : List Nd} {k : Nd} (h : k ∈ ks) : SizeOf.sizeOf k < SizeOf.sizeOf (S24.mk t s ks) := by
  have := List.sizeOf_lt_of_mem h
  simp only [S24.mk.sizeOf_spec]
  omega
theorem Same_c (x : Nd) : SameAt x := by
  suffices h : ∀ n, ∀ x : Nd, SizeOf.sizeOf x < n → SameAt x from h _ x (Nat.lt_succ_self _)
  intro n
  induction n with
  | zero => intro x hx; exact absurd hx (Nat.not_lt_zero _)
  | succ n ih =>
    intro x hx
    obtain ⟨t, s, ks⟩ := x
    intro y A A' c c' w h1 h2
    have := Same_step t y.f0 s y.f1 ks y.f2 A A' c c' w h1 h2 (fun k hk => ih k (by have := kid_lt (t := t) (s := s) hk; omega))
    rw [same]
    exact this
end Tlv
end Go.Proofs.YthnddhgkjkpmfaaDoor
/- What the printed laws of trees stand on: errors and the sentinels that they wrap; size's functions, told, isShaped, laid, Same, in the printer's form. -/
namespace Go.Proofs.YthnddhgkjkpmfaaDoor.ExtTlvC
set_option linter.unusedSimpArgs false
set_option linter.unusedVariables false
open Go.RowKit Go.Proofs.YthnddhgkjkpmfaaDoorW.PrintWords Go.Proofs.YthnddhgkjkpmfaaDoor.KTlv Go.Proofs.YthnddhgkjkpmfaaDoor.Tlv
structure Gl where
  a0 : Addr
  a1 : Addr
  a2 : Addr
  a3 : Addr
inductive Er where
  | short (n : Int)
  | form (n : Int)
  | tag (n : Int)
  | node (n : Int)
  | len (n x : Int)
def Er.z : Er := .short 0
def Er.num : Er → Int
  | .short _ => 10
  | .form _ => 11
  | .tag _ => 20
  | .node _ => 21
  | .len _ x => x
abbrev GC2 (G : Gl) : Value := .iface 148 (.pointer (some G.a0))
abbrev GC1 (G : Gl) : Value := .iface 148 (.pointer (some G.a1))
abbrev GC3 (G : Gl) : Value := .iface 148 (.pointer (some G.a2))
abbrev GC0 (G : Gl) : Value := .iface 148 (.pointer (some G.a3))
def Er.val (G : Gl) : Er → Value
  | .short n => .agg #[.int .i64 n, .iface 148 (.pointer (some G.a0))]
  | .form n => .agg #[.int .i64 n, .iface 148 (.pointer (some G.a1))]
  | .tag n => .agg #[.int .i64 n, .iface 148 (.pointer (some G.a2))]
  | .node n => .agg #[.int .i64 n, .iface 148 (.pointer (some G.a3))]
  | .len n x => .agg #[.int .i64 n, .iface 64 (.agg #[.int .i64 x])]
def errW (G : Gl) : Option Er → Value
  | none => .nilIface
  | some q => .iface 51 (q.val G)
theorem errW_none (G : Gl) : errW G none = .nilIface := rfl
theorem errW_some (G : Gl) (q : Er) : errW G (some q) = .iface 51 (q.val G) := rfl
theorem Er.v0 (G : Gl) (n : Int) : (Er.short n).val G = .agg #[.int .i64 n, .iface 148 (.pointer (some G.a0))] := rfl
theorem Er.v1 (G : Gl) (n : Int) : (Er.form n).val G = .agg #[.int .i64 n, .iface 148 (.pointer (some G.a1))] := rfl
theorem Er.v2 (G : Gl) (n : Int) : (Er.tag n).val G = .agg #[.int .i64 n, .iface 148 (.pointer (some G.a2))] := rfl
theorem Er.v3 (G : Gl) (n : Int) : (Er.node n).val G = .agg #[.int .i64 n, .iface 148 (.pointer (some G.a3))] := rfl
theorem Er.v4 (G : Gl) (n x : Int) : (Er.len n x).val G = .agg #[.int .i64 n, .iface 64 (.agg #[.int .i64 x])] := rfl
theorem eW (G : Gl) : errW G none = .nilIface ∧ (∀ q : Er, errW G (some q) = .iface 51 (q.val G)) ∧ (∀ n : Int, (Er.short n).val G = .agg #[.int .i64 n, .iface 148 (.pointer (some G.a0))]) ∧
    (∀ n : Int, (Er.form n).val G = .agg #[.int .i64 n, .iface 148 (.pointer (some G.a1))]) ∧ (∀ n : Int, (Er.tag n).val G = .agg #[.int .i64 n, .iface 148 (.pointer (some G.a2))]) ∧
    (∀ n : Int, (Er.node n).val G = .agg #[.int .i64 n, .iface 148 (.pointer (some G.a3))]) ∧ (∀ n x : Int, (Er.len n x).val G = .agg #[.int .i64 n, .iface 64 (.agg #[.int .i64 x])]) :=
  ⟨rfl, fun _ => rfl, fun _ => rfl, fun _ => rfl, fun _ => rfl, fun _ => rfl, fun _ _ => rfl⟩
def GW (G : Gl) (w : World) : Prop := (∃ a0 a1 a2, Size.GA a0 a1 a2 w) ∧ Tlv.GA G.a0 G.a1 G.a2 G.a3 w
theorem GW.below {G : Gl} {w w' : World} (h : GW G w) (hb : Below w.heap.size w w') : GW G w' := by
  obtain ⟨⟨a0, a1, a2, h1⟩, h2⟩ := h
  exact ⟨⟨a0, a1, a2, h1.below hb⟩, h2.below hb⟩
theorem GW.old {G : Gl} {w : World} (h : GW G w) : ExtTlvB.GW w := ⟨h.1, _, _, _, _, h.2⟩
theorem GW.c2 {G : Gl} {w : World} (h : GW G w) : w.cell? ⟨2, 0, none⟩ = some (GC2 G) := h.2.g0
theorem GW.lt2 {G : Gl} {w : World} (h : GW G w) : 2 < w.heap.size := lt_of_cell h.2.g0
theorem GW.c1 {G : Gl} {w : World} (h : GW G w) : w.cell? ⟨1, 0, none⟩ = some (GC1 G) := h.2.g1
theorem GW.lt1 {G : Gl} {w : World} (h : GW G w) : 1 < w.heap.size := lt_of_cell h.2.g1
theorem GW.c3 {G : Gl} {w : World} (h : GW G w) : w.cell? ⟨3, 0, none⟩ = some (GC3 G) := h.2.g2
theorem GW.c0 {G : Gl} {w : World} (h : GW G w) : w.cell? ⟨0, 0, none⟩ = some (GC0 G) := h.2.g3
theorem GW.lt0 {G : Gl} {w : World} (h : GW G w) : 0 < w.heap.size := lt_of_cell h.2.g3
theorem of_if {α : Type} {c : Prop} [Decidable c] {a b : α} (h : (if c then some a else none) = some b) : c ∧ a = b := by
  split at h
  · rename_i hc; exact ⟨hc, Option.some.inj h⟩
  · cases h
def size_Encode.f (a0 : Int) : Option (ByteArray × Int) := some (Size.encS a0, Size.encE a0)
theorem size_Encode.calls {G : Gl} (a0 : Int) (r1 : ByteArray) (r2 : Int) (w : World) (hG : GW G w) (h : size_Encode.f a0 = some (r1, r2)) :
    Calls Tryd.prog 25 #[.int .i64 a0] w fun e w' => e = .returned (.tuple #[.string r1, .int .i64 r2]) ∧ Below w.heap.size w w' := by
  obtain ⟨⟨b0, b1, b2, hG⟩, _⟩ := hG
  cases h
  exact Size.Encode_c a0 b0 b1 b2 w hG
def size_Size.f (a0 : Int) : Option (Int × Int) := some (((Size.encS a0).size : Int), Size.encE a0)
theorem size_Size.calls {G : Gl} (a0 : Int) (r1 r2 : Int) (w : World) (hG : GW G w) (h : size_Size.f a0 = some (r1, r2)) :
    Calls Tryd.prog 26 #[.int .i64 a0] w fun e w' => e = .returned (.tuple #[.int .i64 r1, .int .i64 r2]) ∧ Below w.heap.size w w' := by
  obtain ⟨⟨b0, b1, b2, hG⟩, _⟩ := hG
  cases h
  exact Size.Size_c a0 b0 b1 b2 w hG
def size_Decode.f (a0 : ByteArray) (a1 : Int) : Option (Int × Int × Int) := if a0.size ≤ 100000 then some (Size.decS a0 a1) else none
theorem size_Decode.calls {G : Gl} (a0 : ByteArray) (a1 : Int) (r1 r2 r3 : Int) (w : World) (hG : GW G w) (h : size_Decode.f a0 a1 = some (r1, r2, r3)) :
    Calls Tryd.prog 70 #[.string a0, .int .i64 a1] w fun e w' => e = .returned (.tuple #[.int .i64 r1, .int .i64 r2, .int .i64 r3]) ∧ Below w.heap.size w w' := by
  obtain ⟨⟨b0, b1, b2, hG⟩, _⟩ := hG
  obtain ⟨hs, h⟩ := of_if h
  have := Size.Decode_c a0 a1 b0 b1 b2 w hG hs
  rw [h] at this
  exact this
def tlv_told.f (a0 : Option Er) : Option Int := some (match a0 with
  | none => 0
  | some q => q.num)
theorem tlv_told.calls {G : Gl} (a0 : Option Er) (r : Int) (w : World) (hG : GW G w) (h : tlv_told.f a0 = some r) :
    Calls Tryd.prog 28 #[errW G a0] w fun e w' => e = .returned (.int .i64 r) ∧ Below w.heap.size w w' := by
  obtain rfl := Option.some.inj h
  cases a0 with
  | none => exact Tlv.told_nil _ _ _ _ w hG.2
  | some q =>
    cases q with
    | short n => exact Tlv.told_short n _ _ _ _ w hG.2
    | form n => exact Tlv.told_form n _ _ _ _ w hG.2
    | tag n => exact Tlv.told_tag n _ _ _ _ w hG.2
    | node n => exact Tlv.told_node n _ _ _ _ w hG.2
    | len n x => exact Tlv.told_len n x _ _ _ _ w hG.2
def few (x : Nd) : Bool := (pre 1 x).all fun p => decide (p.2.f2.length ≤ 1000)
def tlv_isShaped.f (a0_0 : Int) (a0_1 : ByteArray) (l0_2 : List Nd) : Option Bool := if few ⟨a0_0, a0_1, l0_2⟩ = true then some (shaped ⟨a0_0, a0_1, l0_2⟩) else none
theorem tlv_isShaped.calls (a0_0 : Int) (a0_1 : ByteArray) (A0_2 : Option Addr) (c0_2 : Nat) (l0_2 : List Nd) (r : Bool) (w : World) (hr0_2 : Kd.C k24 w A0_2 l0_2.length l0_2) (hc0_2 : l0_2.length ≤ c0_2) (h : tlv_isShaped.f a0_0 a0_1 l0_2 = some r) :
    Calls Tryd.prog 34 #[.agg #[.int .i64 a0_0, .string a0_1, .slice A0_2 l0_2.length c0_2]] w fun e w' => e = .returned (.bool r) ∧ Below w.heap.size w w' := by
  obtain ⟨hf, rfl⟩ := of_if h
  refine Tlv.shaped_c ⟨a0_0, a0_1, l0_2⟩ A0_2 c0_2 w hr0_2 hc0_2 fun p hp => ?_
  have := List.all_eq_true.1 hf p hp
  simpa using this
def tlv_laid.f (a0_0 : Int) (a0_1 : ByteArray) (l0_2 : List Nd) : Option ByteArray := if shaped ⟨a0_0, a0_1, l0_2⟩ = true then some (laid ⟨a0_0, a0_1, l0_2⟩) else none
theorem tlv_laid.calls {G : Gl} (a0_0 : Int) (a0_1 : ByteArray) (A0_2 : Option Addr) (c0_2 : Nat) (l0_2 : List Nd) (r : ByteArray) (w : World) (hr0_2 : Kd.C k24 w A0_2 l0_2.length l0_2) (hc0_2 : l0_2.length ≤ c0_2) (hG : GW G w) (h : tlv_laid.f a0_0 a0_1 l0_2 = some r) :
    Calls Tryd.prog 29 #[.agg #[.int .i64 a0_0, .string a0_1, .slice A0_2 l0_2.length c0_2]] w fun e w' => e = .returned (.string r) ∧ Below w.heap.size w w' := by
  obtain ⟨hf, rfl⟩ := of_if h
  obtain ⟨h1, h2, h3⟩ := shaped_le hf
  exact LTlvB.tlv_laid.calls (2 * (pre 1 (⟨a0_0, a0_1, l0_2⟩ : Nd)).length) a0_0 a0_1 A0_2 c0_2 l0_2 _ w hr0_2 hc0_2 hG.old (laid_f _ ⟨a0_0, a0_1, l0_2⟩ (Nat.lt_succ_self _) 1 _ (Nat.le_refl _) (by omega) (by omega) h2)
def tlv_Same.f (a0_0 : Int) (a0_1 : ByteArray) (l0_2 : List Nd) (a1_0 : Int) (a1_1 : ByteArray) (l1_2 : List Nd) : Option Bool := some (same ⟨a0_0, a0_1, l0_2⟩ ⟨a1_0, a1_1, l1_2⟩)
theorem tlv_Same.calls (a0_0 : Int) (a0_1 : ByteArray) (A0_2 : Option Addr) (c0_2 : Nat) (l0_2 : List Nd) (a1_0 : Int) (a1_1 : ByteArray) (A1_2 : Option Addr) (c1_2 : Nat) (l1_2 : List Nd) (r : Bool) (w : World) (hr0_2 : Kd.C k24 w A0_2 l0_2.length l0_2) (hc0_2 : l0_2.length ≤ c0_2) (hr1_2 : Kd.C k24 w A1_2 l1_2.length l1_2) (hc1_2 : l1_2.length ≤ c1_2) (h : tlv_Same.f a0_0 a0_1 l0_2 a1_0 a1_1 l1_2 = some r) :
    Calls Tryd.prog 23 #[.agg #[.int .i64 a0_0, .string a0_1, .slice A0_2 l0_2.length c0_2], .agg #[.int .i64 a1_0, .string a1_1, .slice A1_2 l1_2.length c1_2]] w fun e w' => e = .returned (.bool r) ∧ Below w.heap.size w w' := by
  obtain rfl := Option.some.inj h
  exact Tlv.Same_c ⟨a0_0, a0_1, l0_2⟩ ⟨a1_0, a1_1, l1_2⟩ A0_2 A1_2 c0_2 c1_2 w hr0_2 hr1_2
theorem tmod_size (s : ByteArray) (n : Int) : Int.tmod (s.size : Int) n = (s.size : Int) % n := Int.tmod_eq_emod_of_nonneg (by omega)
theorem u8_wrap (x : Int) : IntKind.u8.wrap x = x % 256 := by rw [IntKind.wrap_u8]
theorem some_set (W : World) (p : Addr) (x : Value) (q : Addr) : ((W.setCell p x).cell? q).isSome = (W.cell? q).isSome := ExtTlvA.some_set W p x q
end Go.Proofs.YthnddhgkjkpmfaaDoor.ExtTlvC
/- What the package-level variables of one package hold. -/
namespace Go.Proofs.YthnddhgkjkpmfaaDoor
set_option linter.unusedSimpArgs false
set_option linter.unusedVariables false
namespace TlvL
open Go.RowKit
structure GA (a0 a1 a2 a3 a4 a5 a6 : Addr) (w : World) : Prop where
  et : w.cell? ⟨7, 0, none⟩ = some (.iface 116 (.agg #[.pointer (some ⟨9, 49, none⟩)]))
  g0 : w.cell? ⟨5, 0, none⟩ = some (.iface 148 (.pointer (some a0)))
  g1 : w.cell? ⟨6, 0, none⟩ = some (.iface 148 (.pointer (some a1)))
  g2 : w.cell? ⟨4, 0, none⟩ = some (.iface 148 (.pointer (some a2)))
  g3 : w.cell? ⟨2, 0, none⟩ = some (.iface 148 (.pointer (some a3)))
  g4 : w.cell? ⟨1, 0, none⟩ = some (.iface 148 (.pointer (some a4)))
  g5 : w.cell? ⟨3, 0, none⟩ = some (.iface 148 (.pointer (some a5)))
  g6 : w.cell? ⟨0, 0, none⟩ = some (.iface 148 (.pointer (some a6)))
  n01 : a0 ≠ a1
  n02 : a0 ≠ a2
  n03 : a0 ≠ a3
  n04 : a0 ≠ a4
  n05 : a0 ≠ a5
  n06 : a0 ≠ a6
  n12 : a1 ≠ a2
  n13 : a1 ≠ a3
  n14 : a1 ≠ a4
  n15 : a1 ≠ a5
  n16 : a1 ≠ a6
  n23 : a2 ≠ a3
  n24 : a2 ≠ a4
  n25 : a2 ≠ a5
  n26 : a2 ≠ a6
  n34 : a3 ≠ a4
  n35 : a3 ≠ a5
  n36 : a3 ≠ a6
  n45 : a4 ≠ a5
  n46 : a4 ≠ a6
  n56 : a5 ≠ a6
  h0 : ∃ c t, w.heap[a0.block]? = some (.cells c t (0, 0))
  h1 : ∃ c t, w.heap[a1.block]? = some (.cells c t (0, 0))
  h2 : ∃ c t, w.heap[a2.block]? = some (.cells c t (0, 0))
  h3 : ∃ c t, w.heap[a3.block]? = some (.cells c t (0, 0))
  h4 : ∃ c t, w.heap[a4.block]? = some (.cells c t (0, 0))
  h5 : ∃ c t, w.heap[a5.block]? = some (.cells c t (0, 0))
  h6 : ∃ c t, w.heap[a6.block]? = some (.cells c t (0, 0))
theorem GA.below {a0 a1 a2 a3 a4 a5 a6 : Addr} {w w' : World} (h : GA a0 a1 a2 a3 a4 a5 a6 w) (hb : Below w.heap.size w w') : GA a0 a1 a2 a3 a4 a5 a6 w' where
  et := (hb.cell (lt_of_cell h.et)).trans h.et
  g0 := (hb.cell (lt_of_cell h.g0)).trans h.g0
  g1 := (hb.cell (lt_of_cell h.g1)).trans h.g1
  g2 := (hb.cell (lt_of_cell h.g2)).trans h.g2
  g3 := (hb.cell (lt_of_cell h.g3)).trans h.g3
  g4 := (hb.cell (lt_of_cell h.g4)).trans h.g4
  g5 := (hb.cell (lt_of_cell h.g5)).trans h.g5
  g6 := (hb.cell (lt_of_cell h.g6)).trans h.g6
  n01 := h.n01
  n02 := h.n02
  n03 := h.n03
  n04 := h.n04
  n05 := h.n05
  n06 := h.n06
  n12 := h.n12
  n13 := h.n13
  n14 := h.n14
  n15 := h.n15
  n16 := h.n16
  n23 := h.n23
  n24 := h.n24
  n25 := h.n25
  n26 := h.n26
  n34 := h.n34
  n35 := h.n35
  n36 := h.n36
  n45 := h.n45
  n46 := h.n46
  n56 := h.n56
  h0 := by obtain ⟨c, t, hc⟩ := h.h0; exact ⟨c, t, (hb.block _ (Array.getElem?_eq_some_iff.1 hc).1).trans hc⟩
  h1 := by obtain ⟨c, t, hc⟩ := h.h1; exact ⟨c, t, (hb.block _ (Array.getElem?_eq_some_iff.1 hc).1).trans hc⟩
  h2 := by obtain ⟨c, t, hc⟩ := h.h2; exact ⟨c, t, (hb.block _ (Array.getElem?_eq_some_iff.1 hc).1).trans hc⟩
  h3 := by obtain ⟨c, t, hc⟩ := h.h3; exact ⟨c, t, (hb.block _ (Array.getElem?_eq_some_iff.1 hc).1).trans hc⟩
  h4 := by obtain ⟨c, t, hc⟩ := h.h4; exact ⟨c, t, (hb.block _ (Array.getElem?_eq_some_iff.1 hc).1).trans hc⟩
  h5 := by obtain ⟨c, t, hc⟩ := h.h5; exact ⟨c, t, (hb.block _ (Array.getElem?_eq_some_iff.1 hc).1).trans hc⟩
  h6 := by obtain ⟨c, t, hc⟩ := h.h6; exact ⟨c, t, (hb.block _ (Array.getElem?_eq_some_iff.1 hc).1).trans hc⟩
end TlvL
end Go.Proofs.YthnddhgkjkpmfaaDoor
/- What the rows' list of package-level variables gives: what they hold (errors of errors.New's make, and utf8's two tables where they are listed). And a start that meets it. -/
namespace Go.Proofs.YthnddhgkjkpmfaaDoor
set_option linter.unusedSimpArgs false
set_option linter.unusedVariables false
namespace TlvL
open Go.RowKit Go.ChangeShapes Go.WideShapes Go.ChangeAt
theorem star : "*" ++ "errors.errorString" = "*errors.errorString" := by decide
theorem rowES (u : TypeId) (h : Tryd.prog.typeName? 3 u = some "*errors.errorString") : u = 148 :=
  typeName_ptr_named (nm := "errors.errorString") (by rw [star]; kernel_rfl) (by kernel_rfl) (by decide) u (by rw [star]; exact h)
theorem cellsES : Tryd.prog.cellsOf 168 = 1 := by kernel_rfl
theorem cellsStr : Tryd.prog.cellsOf 9 = 1 := by kernel_rfl
theorem etN : Tryd.prog.globalNamed "errors.errorType" = some 7 := by kernel_rfl
theorem rtT : (Tryd.prog.cutTypes.find? (·.1 == "internal/reflectlite.rtype")).map (·.2) = some 116 := by kernel_rfl
theorem tsize : Tryd.prog.types.size = 180 := by kernel_rfl
theorem oneRow : ((List.range 180).filter fun t => Tryd.prog.rowNamed t [101, 114, 114, 111, 114]) = [49] := by kernel_rfl
theorem gn0 : Tryd.prog.globalNamed "latiner/size.errShort" = some 5 := by kernel_rfl
theorem gt0 : (Tryd.prog.globals[5]?).map (·.type) = some 49 := by kernel_rfl
theorem gn1 : Tryd.prog.globalNamed "latiner/size.errForm" = some 6 := by kernel_rfl
theorem gt1 : (Tryd.prog.globals[6]?).map (·.type) = some 49 := by kernel_rfl
theorem gn2 : Tryd.prog.globalNamed "latiner/size.errSize" = some 4 := by kernel_rfl
theorem gt2 : (Tryd.prog.globals[4]?).map (·.type) = some 49 := by kernel_rfl
theorem gn3 : Tryd.prog.globalNamed "latiner/tlv.errShort" = some 2 := by kernel_rfl
theorem gt3 : (Tryd.prog.globals[2]?).map (·.type) = some 49 := by kernel_rfl
theorem gn4 : Tryd.prog.globalNamed "latiner/tlv.errForm" = some 1 := by kernel_rfl
theorem gt4 : (Tryd.prog.globals[1]?).map (·.type) = some 49 := by kernel_rfl
theorem gn5 : Tryd.prog.globalNamed "latiner/tlv.errTag" = some 3 := by kernel_rfl
theorem gt5 : (Tryd.prog.globals[3]?).map (·.type) = some 49 := by kernel_rfl
theorem gn6 : Tryd.prog.globalNamed "latiner/tlv.errNode" = some 0 := by kernel_rfl
theorem gt6 : (Tryd.prog.globals[0]?).map (·.type) = some 49 := by kernel_rfl
def laid : List (String × DataW Unit) := [("errors.errorType", Rows.laid_errors_errorType), ("latiner/size.errShort", Rows.laid_latiner_size_errShort), ("latiner/size.errForm", Rows.laid_latiner_size_errForm), ("latiner/size.errSize", Rows.laid_latiner_size_errSize), ("latiner/tlv.errShort", Rows.laid_latiner_tlv_errShort), ("latiner/tlv.errForm", Rows.laid_latiner_tlv_errForm), ("latiner/tlv.errTag", Rows.laid_latiner_tlv_errTag), ("latiner/tlv.errNode", Rows.laid_latiner_tlv_errNode)]
set_option maxRecDepth 10000 in
theorem ga_of_laid0 {W : World} (h : laidMetH Tryd.prog laid W) : ∃ a0 a1 a2 a3 a4 a5 a6, GA a0 a1 a2 a3 a4 a5 a6 W := by
  have h' : laidMet Tryd.prog [("latiner/size.errShort", Rows.laid_latiner_size_errShort), ("latiner/size.errForm", Rows.laid_latiner_size_errForm), ("latiner/size.errSize", Rows.laid_latiner_size_errSize), ("latiner/tlv.errShort", Rows.laid_latiner_tlv_errShort), ("latiner/tlv.errForm", Rows.laid_latiner_tlv_errForm), ("latiner/tlv.errTag", Rows.laid_latiner_tlv_errTag), ("latiner/tlv.errNode", Rows.laid_latiner_tlv_errNode)] W ∧ handlesMet Tryd.prog [("errors.errorType", Rows.laid_errors_errorType)] W := h
  obtain ⟨hl, hh⟩ := h'
  clear h
  have het : W.cell? ⟨7, 0, none⟩ = some (.iface 116 (.agg #[.pointer (some ⟨9, 49, none⟩)])) := by
    obtain ⟨name, u, ty, e1, e2, e3, e4, e5⟩ := hh _ (List.mem_singleton.2 rfl)
    have en : name = [101, 114, 114, 111, 114] := (Option.some.inj e1).symm
    subst en
    obtain rfl := Option.some.inj (rtT.symm.trans e2)
    have hm : ty ∈ (List.range 180).filter fun t => Tryd.prog.rowNamed t [101, 114, 114, 111, 114] := List.mem_filter.2 ⟨List.mem_range.2 (by rw [← tsize]; exact e3), e4⟩
    rw [oneRow] at hm
    obtain rfl := List.mem_singleton.1 hm
    have hh : typeHandle Tryd.prog 49 = .pointer (some ⟨9, 49, none⟩) := by kernel_rfl
    rw [hh] at e5
    simpa using World.var?_cell etN e5 0
  obtain ⟨ps, ⟨g0', t0', cs0, f0, p0, q0, hg0', ht0', hv0, hd0, ⟨g1', t1', cs1, f1, p1, q1, hg1', ht1', hv1, hd1, ⟨g2', t2', cs2, f2, p2, q2, hg2', ht2', hv2, hd2, ⟨g3', t3', cs3, f3, p3, q3, hg3', ht3', hv3, hd3, ⟨g4', t4', cs4, f4, p4, q4, hg4', ht4', hv4, hd4, ⟨g5', t5', cs5, f5, p5, q5, hg5', ht5', hv5, hd5, ⟨g6', t6', cs6, f6, p6, q6, hg6', ht6', hv6, hd6, _, e6⟩, e5⟩, e4⟩, e3⟩, e2⟩, e1⟩, e0⟩, hnd, hrows⟩ := hl
  obtain rfl := Option.some.inj (gn0.symm.trans hg0')
  obtain rfl := Option.some.inj (gt0.symm.trans ht0')
  obtain rfl := Option.some.inj (gn1.symm.trans hg1')
  obtain rfl := Option.some.inj (gt1.symm.trans ht1')
  obtain rfl := Option.some.inj (gn2.symm.trans hg2')
  obtain rfl := Option.some.inj (gt2.symm.trans ht2')
  obtain rfl := Option.some.inj (gn3.symm.trans hg3')
  obtain rfl := Option.some.inj (gt3.symm.trans ht3')
  obtain rfl := Option.some.inj (gn4.symm.trans hg4')
  obtain rfl := Option.some.inj (gt4.symm.trans ht4')
  obtain rfl := Option.some.inj (gn5.symm.trans hg5')
  obtain rfl := Option.some.inj (gt5.symm.trans ht5')
  obtain rfl := Option.some.inj (gn6.symm.trans hg6')
  obtain rfl := Option.some.inj (gt6.symm.trans ht6')
  subst e6
  subst e5
  subst e4
  subst e3
  subst e2
  subst e1
  subst e0
  obtain ⟨l0⟩ := cs0
  obtain ⟨l1⟩ := cs1
  obtain ⟨l2⟩ := cs2
  obtain ⟨l3⟩ := cs3
  obtain ⟨l4⟩ := cs4
  obtain ⟨l5⟩ := cs5
  obtain ⟨l6⟩ := cs6
  have ok0 : ∀ u v, l0 = [.iface u v] → Value.okWide Tryd.prog W .any 0 u v := fun u v e => by
    subst e
    exact (hrows 5 0 (by simp [MemPlace.row])).2 u v (by simpa using World.var?_cell hg0' hv0 0)
  have ok1 : ∀ u v, l1 = [.iface u v] → Value.okWide Tryd.prog W .any 0 u v := fun u v e => by
    subst e
    exact (hrows 6 0 (by simp [MemPlace.row])).2 u v (by simpa using World.var?_cell hg1' hv1 0)
  have ok2 : ∀ u v, l2 = [.iface u v] → Value.okWide Tryd.prog W .any 0 u v := fun u v e => by
    subst e
    exact (hrows 4 0 (by simp [MemPlace.row])).2 u v (by simpa using World.var?_cell hg2' hv2 0)
  have ok3 : ∀ u v, l3 = [.iface u v] → Value.okWide Tryd.prog W .any 0 u v := fun u v e => by
    subst e
    exact (hrows 2 0 (by simp [MemPlace.row])).2 u v (by simpa using World.var?_cell hg3' hv3 0)
  have ok4 : ∀ u v, l4 = [.iface u v] → Value.okWide Tryd.prog W .any 0 u v := fun u v e => by
    subst e
    exact (hrows 1 0 (by simp [MemPlace.row])).2 u v (by simpa using World.var?_cell hg4' hv4 0)
  have ok5 : ∀ u v, l5 = [.iface u v] → Value.okWide Tryd.prog W .any 0 u v := fun u v e => by
    subst e
    exact (hrows 3 0 (by simp [MemPlace.row])).2 u v (by simpa using World.var?_cell hg5' hv5 0)
  have ok6 : ∀ u v, l6 = [.iface u v] → Value.okWide Tryd.prog W .any 0 u v := fun u v e => by
    subst e
    exact (hrows 0 0 (by simp [MemPlace.row])).2 u v (by simpa using World.var?_cell hg6' hv6 0)
  obtain ⟨a0, s0, rfl, hc0, hs0, hz0, rfl⟩ := errorString_of_trod Tryd.underlying49 rowES Tryd.underlying148 Tryd.underlying168 rfl rfl Tryd.underlying9 cellsES cellsStr hd0 ok0
  obtain ⟨a1, s1, rfl, hc1, hs1, hz1, rfl⟩ := errorString_of_trod Tryd.underlying49 rowES Tryd.underlying148 Tryd.underlying168 rfl rfl Tryd.underlying9 cellsES cellsStr hd1 ok1
  obtain ⟨a2, s2, rfl, hc2, hs2, hz2, rfl⟩ := errorString_of_trod Tryd.underlying49 rowES Tryd.underlying148 Tryd.underlying168 rfl rfl Tryd.underlying9 cellsES cellsStr hd2 ok2
  obtain ⟨a3, s3, rfl, hc3, hs3, hz3, rfl⟩ := errorString_of_trod Tryd.underlying49 rowES Tryd.underlying148 Tryd.underlying168 rfl rfl Tryd.underlying9 cellsES cellsStr hd3 ok3
  obtain ⟨a4, s4, rfl, hc4, hs4, hz4, rfl⟩ := errorString_of_trod Tryd.underlying49 rowES Tryd.underlying148 Tryd.underlying168 rfl rfl Tryd.underlying9 cellsES cellsStr hd4 ok4
  obtain ⟨a5, s5, rfl, hc5, hs5, hz5, rfl⟩ := errorString_of_trod Tryd.underlying49 rowES Tryd.underlying148 Tryd.underlying168 rfl rfl Tryd.underlying9 cellsES cellsStr hd5 ok5
  obtain ⟨a6, s6, rfl, hc6, hs6, hz6, rfl⟩ := errorString_of_trod Tryd.underlying49 rowES Tryd.underlying148 Tryd.underlying168 rfl rfl Tryd.underlying9 cellsES cellsStr hd6 ok6
  obtain ⟨c0, t0, hb0⟩ := (hrows a0.block a0.off (by simp [MemPlace.row])).1
  obtain ⟨c1, t1, hb1⟩ := (hrows a1.block a1.off (by simp [MemPlace.row])).1
  obtain ⟨c2, t2, hb2⟩ := (hrows a2.block a2.off (by simp [MemPlace.row])).1
  obtain ⟨c3, t3, hb3⟩ := (hrows a3.block a3.off (by simp [MemPlace.row])).1
  obtain ⟨c4, t4, hb4⟩ := (hrows a4.block a4.off (by simp [MemPlace.row])).1
  obtain ⟨c5, t5, hb5⟩ := (hrows a5.block a5.off (by simp [MemPlace.row])).1
  obtain ⟨c6, t6, hb6⟩ := (hrows a6.block a6.off (by simp [MemPlace.row])).1
  refine ⟨a0, a1, a2, a3, a4, a5, a6, het, (by simpa using World.var?_cell gn0 hv0 0), (by simpa using World.var?_cell gn1 hv1 0), (by simpa using World.var?_cell gn2 hv2 0), (by simpa using World.var?_cell gn3 hv3 0), (by simpa using World.var?_cell gn4 hv4 0), (by simpa using World.var?_cell gn5 hv5 0), (by simpa using World.var?_cell gn6 hv6 0), ?_, ?_, ?_, ?_, ?_, ?_, ?_, ?_, ?_, ?_, ?_, ?_, ?_, ?_, ?_, ?_, ?_, ?_, ?_, ?_, ?_, ⟨c0, t0, hb0⟩, ⟨c1, t1, hb1⟩, ⟨c2, t2, hb2⟩, ⟨c3, t3, hb3⟩, ⟨c4, t4, hb4⟩, ⟨c5, t5, hb5⟩, ⟨c6, t6, hb6⟩⟩
  all_goals (rintro rfl; simp [MemPlace.row, List.nodup_append] at hnd)
theorem ga_of_laid {W : World} (h : laidMetH Tryd.prog laid W) : ∃ G, ExtTlvC.GW G W := by
  obtain ⟨a0, a1, a2, a3, a4, a5, a6, h0⟩ := ga_of_laid0 h
  exact ⟨⟨a3, a4, a5, a6⟩, ⟨a0, a1, a2, ⟨h0.et, h0.g0, h0.g1, h0.g2, h0.n01, h0.n02, h0.n12, h0.h0, h0.h1, h0.h2⟩⟩, ⟨h0.et, h0.g3, h0.g4, h0.g5, h0.g6, h0.n34, h0.n35, h0.n36, h0.n45, h0.n46, h0.n56, h0.h3, h0.h4, h0.h5, h0.h6⟩⟩
noncomputable def rowStart (os : Os) : World := World.doorLaid Tryd.prog 400 os
theorem rowStart_os (os : Os) : (rowStart os).os = os := rfl
theorem rowStart_shaped (os : Os) (args : Array Value) : ((rowStart os).forCall (fun _ _ => 0) ⟨#[], args, []⟩).Shaped Tryd.prog := World.shaped_of_RefB (by kernel_rfl) (by kernel_rfl)
theorem door_met (os : Os) (args : Array Value) : laidMetH Tryd.prog laid ((rowStart os).forCall (fun _ _ => 0) ⟨#[], args, []⟩).memory :=
  laidMetH_of_parts3 (fuel := 8) (laidMet_of_run' 8 (by kernel_rfl) (by kernel_rfl)) (by kernel_rfl) (by kernel_rfl)
theorem own : ownKnob Tryd.prog.godebug = none := by kernel_rfl
end TlvL
end Go.Proofs.YthnddhgkjkpmfaaDoor
/- Trees, plainly: what Decode, Whole and Encode answer has to do with one another. No program in sight. -/
namespace Go.Proofs.YthnddhgkjkpmfaaDoor
set_option linter.unusedSimpArgs false
set_option linter.unusedVariables false
namespace Tlv
open Go.RowKit Go.Proofs.YthnddhgkjkpmfaaDoorW.PrintWords Go.Proofs.YthnddhgkjkpmfaaDoor.PureB Go.Proofs.YthnddhgkjkpmfaaDoor.KTlv
theorem right_parts {x : Nd} (h : right x = true) : (pre 1 x).length ≤ 200 ∧ (pre 1 x).all okAt = true ∧ (laid x).size ≤ 4000 := by
  unfold right shaped at h
  simpa only [Bool.and_eq_true, decide_eq_true_eq, and_assoc] using h
theorem right_of {x : Nd} (h1 : (pre 1 x).length ≤ 200) (h2 : (pre 1 x).all okAt = true) (h3 : (laid x).size ≤ 4000) : right x = true := by
  unfold right shaped
  simp only [Bool.and_eq_true, decide_eq_true_eq]
  exact ⟨⟨h1, h2⟩, h3⟩
theorem rd_err {s : ByteArray} : ∀ (f : Nat) (a n e d x a' n' : Int), rd s f a n e d = (.error x, a', n') → x ≠ 0 := by
  intro f
  induction f with
  | zero => intro a n e d x a' n' h; rw [rd] at h; simp only [Prod.mk.injEq, Except.error.injEq] at h; omega
  | succ f ih =>
    intro a n e d x a' n' h
    have hk : ∀ (t te d : Int) (k : Nat) (acc : List Nd) (a n x a' n' : Int), rdK (fun a n => rd s f a n te (d + 1)) t te k acc a n = (.error x, a', n') → x ≠ 0 := by
      intro t te d k
      induction k with
      | zero => intro acc a n x a' n' h; rw [rdK] at h; simp only [Prod.mk.injEq, Except.error.injEq] at h; omega
      | succ k ihk =>
        intro acc a n x a' n' h
        rw [rdK] at h
        split at h
        · cases hr : rd s f a n te (d + 1) with
          | mk r q =>
            obtain ⟨a1, n1⟩ := q
            rw [hr] at h
            cases r with
            | error y => simp only [Prod.mk.injEq, Except.error.injEq] at h; rw [← h.1]; exact ih _ _ _ _ _ _ _ hr
            | ok z => exact ihk _ _ _ _ _ _ h
        · cases h
    rw [rd] at h
    cases hh : hd s a n e d with
    | mk r a1 =>
      rw [hh] at h
      cases r with
      | error y =>
        simp only [Prod.mk.injEq, Except.error.injEq] at h
        rw [← h.1]
        unfold hd at hh
        split at hh
        · simp only [Prod.mk.injEq, Except.error.injEq] at hh; omega
        split at hh
        · simp only [Prod.mk.injEq, Except.error.injEq] at hh; omega
        split at hh
        · simp only [Prod.mk.injEq, Except.error.injEq] at hh; omega
        split at hh
        · rename_i h4; simp only [Prod.mk.injEq, Except.error.injEq] at hh; rw [← hh.1]; exact h4
        split at hh
        · simp only [Prod.mk.injEq, Except.error.injEq] at hh; omega
        · cases hh
      | ok q =>
        obtain ⟨t, te⟩ := q
        simp only at h
        split at h
        · exact hk _ _ _ _ _ _ _ _ _ _ h
        · cases h
theorem dec_laid {x : Nd} (h : right x = true) {s : ByteArray} {a : Int} (hs : Sits s a (laid x)) : dec s a = (x, a + (laid x).size, 0) := by
  obtain ⟨h1, h2, h3⟩ := right_parts h
  have h4 := hs.1
  have h5 := hs.2.1
  unfold dec
  rw [if_neg (by omega), rd_laid _ x (Nat.lt_succ_self _) 13 a 0 s.size 1 h2 (by omega) hs h5 (Int.le_refl _) (by omega) (by omega) (by omega)]
  simp only
  rw [if_pos h]
theorem dec_ok {s : ByteArray} {a : Int} (h : (dec s a).2.2 = 0) : right (dec s a).1 = true ∧ a + ((laid (dec s a).1).size : Nat) ≤ (dec s a).2.1 ∧ a + 2 ≤ (dec s a).2.1 ∧ (dec s a).2.1 ≤ s.size ∧ 0 ≤ a := by
  unfold dec at h ⊢
  split at h
  · exact absurd h (by simp)
  rename_i ha
  rw [if_neg ha]
  cases hr : rd s 13 a 0 s.size 1 with
  | mk r q =>
    obtain ⟨a', n'⟩ := q
    rw [hr] at h
    cases r with
    | error x => exact absurd h (rd_err _ _ _ _ _ _ _ _ hr)
    | ok y =>
      simp only at h ⊢
      by_cases hy : right y = true
      · rw [if_pos hy]
        obtain ⟨g1, g2, g3, _⟩ := rd_ok 13 a 0 s.size 1 y a' n' (by omega) (Int.le_refl _) (Int.le_refl _) hr
        exact ⟨hy, g1, g2, g3, by omega⟩
      · rw [if_neg hy] at h
        exact absurd h (by simp)
theorem dec_no {s : ByteArray} {a : Int} (h : ¬ (dec s a).2.2 = 0) : (dec s a).1 = z ∧ (dec s a).2.1 = 0 := by
  unfold dec at h ⊢
  split
  · exact ⟨rfl, rfl⟩
  rename_i ha
  rw [if_neg ha] at h
  cases hr : rd s 13 a 0 s.size 1 with
  | mk r q =>
    obtain ⟨a', n'⟩ := q
    rw [hr] at h
    cases r with
    | error x => exact ⟨rfl, rfl⟩
    | ok y =>
      simp only at h ⊢
      by_cases hy : right y = true
      · rw [if_pos hy] at h; exact absurd rfl h
      · rw [if_neg hy]; exact ⟨rfl, rfl⟩
theorem whole_laid {x : Nd} (h : right x = true) : whole (laid x) = (x, 0) := by
  have := dec_laid h (sits_self (laid x))
  unfold whole
  rw [this]
  simp
theorem whole_more {x : Nd} (h : right x = true) (r : ByteArray) (hr : 1 ≤ r.size) : whole (laid x ++ r) = (z, 11) := by
  have hs : Sits (laid x ++ r) 0 (laid x) := by
    have := sits_mid ⟨#[]⟩ (laid x) r
    rw [nil_app] at this
    exact this
  have := dec_laid h hs
  unfold whole
  rw [this, if_pos]
  refine ⟨rfl, ?_⟩
  rw [ByteArray.size_append]
  simp only
  omega
theorem laid_inj {x y : Nd} (hx : right x = true) (hy : right y = true) (h : laid x = laid y) : x = y := by
  have h1 := whole_laid hx
  rw [h, whole_laid hy] at h1
  exact (congrArg Prod.fst h1).symm
theorem cut_bt (s : ByteArray) (k : Nat) (i : Int) (h0 : 0 ≤ i) (h1 : i < k) (h2 : k ≤ s.size) : bt (s.extract 0 k) i = bt s i := by
  have := bt_extract s 0 k i.toNat (by omega) h2
  rw [show ((i.toNat : Nat) : Int) = i by omega] at this
  rw [this]
  simp
theorem dec_short {s : ByteArray} {a n : Int} (hn : ¬ (n < 0 ∨ 16777215 < n)) (h : Sits s a (Size.encS n)) (k : Nat) (hk : a ≤ k) (hk2 : (k : Int) < a + ((Size.encS n).size : Nat)) : Size.decS (s.extract 0 k) a = (0, 0, 10) := by
  have h0 := h.1
  have h1 := h.2.1
  have hz := SizeQ.enc_size n hn
  have hcz : (s.extract 0 k).size = k := by rw [extract_size s 0 k (by omega)]; omega
  have hb : ∀ (xs : List Int) (x : Int), Size.encS n = strOfNums xs → xs[0]? = some x → 0 ≤ x → x < 256 → a < k → bt (s.extract 0 k) a = x := by
    intro xs x e hx p0 p1 hak
    rw [cut_bt s k a h0 hak (by omega)]
    have hl : 0 < (Size.encS n).size := by rw [e, son_size]; exact (List.getElem?_eq_some_iff.1 hx).1
    have := h.2.2 0 hl
    rw [e, bt_son xs 0 x hx p0 p1] at this
    simpa using this
  by_cases hak : a < k
  · rcases SizeQ.enc_cases n hn with ⟨h2, e⟩ | ⟨h2, h3, e⟩ | ⟨h2, h3, e⟩ | ⟨h2, h3, e⟩
    · rw [if_pos h2] at hz; omega
    · rw [if_neg (by omega), if_pos h3] at hz
      unfold Size.decS
      rw [if_pos (by rw [hcz]; omega), hcz, hb _ 129 e rfl (by decide) (by decide) hak, if_neg (by decide), if_neg (by decide), if_pos (by omega)]
    · rw [if_neg (by omega), if_neg (by omega), if_pos h3] at hz
      unfold Size.decS
      rw [if_pos (by rw [hcz]; omega), hcz, hb _ 130 e rfl (by decide) (by decide) hak, if_neg (by decide), if_neg (by decide), if_pos (by omega)]
    · rw [if_neg (by omega), if_neg (by omega), if_neg (by omega)] at hz
      unfold Size.decS
      rw [if_pos (by rw [hcz]; omega), hcz, hb _ 131 e rfl (by decide) (by decide) hak, if_neg (by decide), if_neg (by decide), if_pos (by omega)]
  · unfold Size.decS
    rw [if_neg (by rw [hcz]; omega)]
theorem cut_cut (s : ByteArray) (k : Nat) (h : k ≤ s.size) : (s.extract 0 k).extract 0 k = s.extract 0 k := by
  have h1 := extract_size s 0 k h
  have := extract_size (s.extract 0 k) 0 k (by omega)
  refine ba_ext (by omega) fun j hj => ?_
  have := bt_extract (s.extract 0 k) 0 k j (by omega) (by omega)
  rw [this]
  congr 1
  simp
theorem dec_cut {x : Nd} (h : right x = true) (k : Nat) (hk : k < (laid x).size) : (dec ((laid x).extract 0 k) 0).2.2 = 10 := by
  obtain ⟨h1, h2, h3⟩ := right_parts h
  obtain ⟨t, b, ks⟩ := x
  obtain ⟨hx, _⟩ := all_pre h2
  obtain ⟨k1, k2, k3, k4, _⟩ := (okAt_iff _ _).1 hx
  simp only at k1 k2 k3 k4
  have hs := sits_self (laid ⟨t, b, ks⟩)
  rw [laid] at hk hs h3 ⊢
  obtain ⟨B, hB⟩ : ∃ B, laidL ks ++ b = B := ⟨_, rfl⟩
  rw [hB] at hk hs h3 ⊢
  have hz := joined_size t B
  have hnn : ¬ ((B.size : Int) < 0 ∨ 16777215 < (B.size : Int)) := by omega
  have hs' := hs
  unfold joined at hs'
  have hs1 := (sits_app.1 (sits_app.1 hs').1).2
  rw [ByteArray.append_assoc] at hs'
  have hbt := bt_tag hs' k2 k3
  rw [son_size] at hs1
  rw [← ByteArray.append_assoc] at hbt
  have hs1' : Sits (joined t B) 1 (Size.encS (B.size : Int)) := hs1
  have hbt' : bt (joined t B) 0 = t := hbt
  obtain ⟨S, hS⟩ : ∃ S, joined t B = S := ⟨_, rfl⟩
  rw [hS] at hs1' hbt' hk hz ⊢
  have hcz : (S.extract 0 k).size = k := by rw [extract_size S 0 k (by omega)]; omega
  have key : hd (S.extract 0 k) 0 0 (S.extract 0 k).size 1 = (.error 10, (hd (S.extract 0 k) 0 0 (S.extract 0 k).size 1).2) := by
    unfold hd
    rw [hcz, if_neg (by omega)]
    by_cases c0 : k < 1
    · rw [if_pos (by omega)]
    rw [if_neg (by omega), cut_bt S k 0 (by omega) (by omega) (by omega), hbt', if_neg k4, show ((k : Nat) : Int).toNat = k by omega, cut_cut S k (by omega)]
    by_cases c1 : (k : Int) < 1 + ((Size.encS (B.size : Int)).size : Nat)
    · rw [show (0 : Int) + 1 = 1 from rfl, dec_short hnn hs1' k (by omega) c1]
      rfl
    · have hd := dec_sits hnn (sits_cut (e := k) hs1' (by omega) (by omega))
      rw [show ((k : Nat) : Int).toNat = k by omega] at hd
      rw [show (0 : Int) + 1 = 1 from rfl, hd, if_neg (by simp), if_pos (by simp only; omega)]
  unfold dec
  rw [if_neg (by omega), rd, key]
theorem shift_ok {d d' : Int} (hd : d' ≤ d) : ∀ (m : Nat) (x : Nd), SizeOf.sizeOf x < m → (pre d x).all okAt = true → (pre d' x).all okAt = true := by
  intro m
  induction m generalizing d d' with
  | zero => intro x h; exact absurd h (Nat.not_lt_zero _)
  | succ m ih =>
    rintro ⟨t, b, ks⟩ hx h
    obtain ⟨h1, h2⟩ := all_pre h
    rw [pre, List.all_cons, Bool.and_eq_true]
    obtain ⟨k1, k2⟩ := (okAt_iff _ _).1 h1
    refine ⟨(okAt_iff _ _).2 ⟨by omega, k2⟩, all_preL fun y hy => ih (by omega) y ?_ (h2 y hy)⟩
    have := List.sizeOf_lt_of_mem hy
    simp only [S24.mk.sizeOf_spec] at hx
    omega
theorem right_kid {t : Int} {b : ByteArray} {ks : List Nd} (h : right ⟨t, b, ks⟩ = true) {y : Nd} (hy : y ∈ ks) : right y = true ∧ (laid y).size ≤ (laidL ks).size := by
  obtain ⟨h1, h2, h3⟩ := right_parts h
  obtain ⟨_, h5⟩ := all_pre h2
  have hl := laidL_mem hy
  have hz := joined_size t (laidL ks ++ b)
  have hz2 : ((laidL ks ++ b).size : Nat) = (laidL ks).size + b.size := ByteArray.size_append
  rw [laid] at h3
  refine ⟨right_of ?_ (shift_ok (d := 1 + 1) (by omega) _ y (Nat.lt_succ_self _) (h5 y hy)) (by omega), hl⟩
  rw [pre, List.length_cons] at h1
  have h6 : ∀ l : List Nd, y ∈ l → (pre (1 + 1) y).length ≤ (preL (1 + 1) l).length := by
    intro l
    induction l with
    | nil => intro h; cases h
    | cons k l ih =>
      intro h
      rw [preL, List.length_append]
      rcases List.mem_cons.1 h with rfl | h
      · omega
      · have := ih h; omega
  have := h6 ks hy
  rw [pre_len' 1 (1 + 1) y]
  omega
theorem whole_long {t : Int} {b : ByteArray} (h : right ⟨t, b, []⟩ = true) (hb : b.size ≤ 65535) :
    whole (strOfNums [t] ++ strOfNums [131, 0] ++ strOfNums [(b.size : Int) / 256, (b.size : Int) % 256] ++ b) = (⟨t, b, []⟩, 0) := by
  obtain ⟨h1, h2, h3⟩ := right_parts h
  obtain ⟨hx, _⟩ := all_pre h2
  obtain ⟨k1, k2, k3, k4, k5, _⟩ := (okAt_iff _ _).1 hx
  simp only at k1 k2 k3 k4 k5
  obtain ⟨S, hS⟩ : ∃ S, strOfNums [t] ++ strOfNums [131, 0] ++ strOfNums [(b.size : Int) / 256, (b.size : Int) % 256] ++ b = S := ⟨_, rfl⟩
  have hs := sits_self S
  have hz : S.size = 5 + b.size := by
    rw [← hS, ByteArray.size_append, ByteArray.size_append, ByteArray.size_append]
    rfl
  have hs' := hs
  conv at hs' => arg 3; rw [← hS]
  have s4 := (sits_app.1 hs').2
  have s3 := (sits_app.1 (sits_app.1 hs').1).2
  have s2 := (sits_app.1 (sits_app.1 (sits_app.1 hs').1).1).2
  have s1 := (sits_app.1 (sits_app.1 (sits_app.1 hs').1).1).1
  rw [ByteArray.size_append, ByteArray.size_append] at s4
  rw [ByteArray.size_append] at s3
  have s4 : Sits S 5 b := s4
  have s3 : Sits S 3 (strOfNums [(b.size : Int) / 256, (b.size : Int) % 256]) := s3
  have s2 : Sits S 1 (strOfNums [131, 0]) := s2
  have b0 : bt S 0 = t := by
    have := s1.2.2 0 (by rw [son_size]; simp)
    rw [bt_son [t] 0 t rfl k2 (by omega)] at this
    simpa using this
  have b1 : bt S 1 = 131 := by
    have := s2.2.2 0 (by rw [son_size]; simp)
    rw [bt_son [131, 0] 0 131 rfl (by decide) (by decide)] at this
    simpa using this
  have b2 : bt S 2 = 0 := by
    have := s2.2.2 1 (by rw [son_size]; simp)
    rw [bt_son [131, 0] 1 0 rfl (by decide) (by decide)] at this
    simpa using this
  have b3 : bt S 3 = (b.size : Int) / 256 := by
    have := s3.2.2 0 (by rw [son_size]; simp)
    rw [bt_son [(b.size : Int) / 256, (b.size : Int) % 256] 0 _ rfl (by omega) (by omega)] at this
    simpa using this
  have b4 : bt S 4 = (b.size : Int) % 256 := by
    have := s3.2.2 1 (by rw [son_size]; simp)
    rw [bt_son [(b.size : Int) / 256, (b.size : Int) % 256] 1 _ rfl (by omega) (by omega)] at this
    simpa using this
  rw [hS]
  clear hS hs' s1 s2 s3
  have hfull : S.extract 0 ((S.size : Nat) : Int).toNat = S := by
    have := sits_eq (e := S.size) hs (by omega)
    simp at this ⊢
  have hd1 : Size.decS S 1 = ((b.size : Int), 5, 0) := by
    unfold Size.decS
    rw [if_pos (by omega), b1, if_neg (by decide), if_neg (by decide), if_neg (by omega), show ((131 : Int) - 128).toNat = 3 from rfl, SizeQ.vl3, show (1 : Int) + 1 = 2 from rfl, show (2 : Int) + 1 = 3 from rfl, show (2 : Int) + 2 = 4 from rfl, b2, b3, b4, if_neg (by omega)]
    simp only [Prod.mk.injEq, and_true]; omega
  have hh : hd S 0 0 S.size 1 = (.ok (t, S.size), 5) := by
    unfold hd
    rw [if_neg (by omega), if_neg (by omega), b0, if_neg k4, hfull, show (0 : Int) + 1 = 1 from rfl, hd1, if_neg (by simp), if_neg (by simp only; omega)]
    simp only [Prod.mk.injEq, Except.ok.injEq, and_true, true_and]; omega
  have hdec : dec S 0 = ((⟨t, b, []⟩ : Nd), (S.size : Int), (0 : Int)) := by
    unfold dec
    rw [if_neg (by omega), rd, hh]
    simp only
    by_cases hi : inner t = true
    · have hb0 := k5 hi
      rw [if_pos hi, rdK, if_neg (by omega), ← nil_of_size hb0]
      simp only
      rw [if_pos h, show ((5 : Int)) = S.size by omega]
    · rw [if_neg hi, sits_eq s4 (by omega)]
      simp only
      rw [if_pos h]
  unfold whole
  rw [hdec]
  simp
end Tlv
end Go.Proofs.YthnddhgkjkpmfaaDoor
-- Written by this repo's own program over the kit's printer: YthnddhgkjkpmfaaDoor.LTlvC
namespace Go.Proofs.YthnddhgkjkpmfaaDoor.LTlvC
open Go.Proofs.YthnddhgkjkpmfaaDoor.ExtTlvC
open Go.Proofs.YthnddhgkjkpmfaaDoor.KTlv
open Go.RowKit Go.Proofs.YthnddhgkjkpmfaaDoorW.PrintWords Go.Proofs.YthnddhgkjkpmfaaDoorW.PrintLast Go.Proofs.YthnddhgkjkpmfaaDoorW.PrintMore
attribute [local go_sem] max2_int min2_int max_two min_two max_three min_three max_four min_four   -- for this text's walks alone
attribute [local go_sem] some_set
set_option linter.unusedVariables false
set_option linter.unusedSimpArgs false
variable {G : Gl}
theorem info24 : (Tryd.prog.info? 24).map (fun i => (i.zero, i.size, i.bytes)) = some (some (.agg #[(.int .i64 0), (.string ⟨#[]⟩), (.slice none 0 0)]), 3, 48) := by kernel_rfl
end Go.Proofs.YthnddhgkjkpmfaaDoor.LTlvC
-- Written by this repo's own program over the kit's printer: YthnddhgkjkpmfaaDoor.LTlvC
namespace Go.Proofs.YthnddhgkjkpmfaaDoor.LTlvC
open Go.Proofs.YthnddhgkjkpmfaaDoor.ExtTlvC
open Go.Proofs.YthnddhgkjkpmfaaDoor.KTlv
open Go.RowKit Go.Proofs.YthnddhgkjkpmfaaDoorW.PrintWords Go.Proofs.YthnddhgkjkpmfaaDoorW.PrintLast Go.Proofs.YthnddhgkjkpmfaaDoorW.PrintMore
attribute [local go_sem] max2_int min2_int max_two min_two max_three min_three max_four min_four   -- for this text's walks alone
attribute [local go_sem] some_set
set_option linter.unusedVariables false
set_option linter.unusedSimpArgs false
variable {G : Gl}
def IsS74 (w0 W : World) (g : Nat) (f0 : ByteArray) (f1 : Int) (f2 : Int) : Prop := W.heap[g]? = some (.cells #[.string f0, .int .i64 f1, .int .i64 f2] 74 (0, 0)) ∧ w0.heap.size ≤ g
theorem IsS74.grown {w0 W : World} {g : Nat} {f0 : ByteArray} {f1 : Int} {f2 : Int} {W1 : World} {row : Option Nat} (h : IsS74 w0 W g f0 f1 f2) (hw : W.grownBy W1 row) (hne : some g ≠ row) : IsS74 w0 W1 g f0 f1 f2 := by
 obtain ⟨hb, hg⟩ := h
 exact ⟨blk_grown hb hw hne, hg⟩
theorem IsS74.kept {w0 W : World} {g : Nat} {f0 : ByteArray} {f1 : Int} {f2 : Int} {W1 : World} {S : Nat → Prop} (h : IsS74 w0 W g f0 f1 f2) (hk : Kept W W1 S) (hne : ¬ S g) : IsS74 w0 W1 g f0 f1 f2 := by
 obtain ⟨hb, hg⟩ := h
 exact ⟨blk_kept hb hk hne, hg⟩
theorem IsS74.below {w0 W : World} {g : Nat} {f0 : ByteArray} {f1 : Int} {f2 : Int} {W1 : World} (h : IsS74 w0 W g f0 f1 f2) (hw : Below W.heap.size W W1) : IsS74 w0 W1 g f0 f1 f2 := h.grown (grown_of_below hw none) (by simp)
theorem IsS74.alloc {w0 W : World} {g : Nat} {f0 : ByteArray} {f1 : Int} {f2 : Int} (h : IsS74 w0 W g f0 f1 f2) (o : Obj) : IsS74 w0 (W.alloc o) g f0 f1 f2 := h.below (below_alloc (Below.refl _ _) o)
theorem IsS74.drewN {w0 W : World} {g : Nat} {f0 : ByteArray} {f1 : Int} {f2 : Int} (h : IsS74 w0 W g f0 f1 f2) (m : Nat) : IsS74 w0 (W.drewN m) g f0 f1 f2 := h
theorem IsS74.drew {w0 W : World} {g : Nat} {f0 : ByteArray} {f1 : Int} {f2 : Int} (h : IsS74 w0 W g f0 f1 f2) : IsS74 w0 W.drew g f0 f1 f2 := h
theorem IsS74.apart {w0 W : World} {g : Nat} {f0 : ByteArray} {f1 : Int} {f2 : Int} {α : Type} {d : Kd α} {e : Nat} {base : Nat} {ok : Nat → Prop} {v : Value} {xs : List α} (h : IsS74 w0 W g f0 f1 f2) (ho : d.R e W base ok v xs) (ht : ∀ q, q ∈ e :: d.E → q ≠ 74) : d.R e W base (fun k => ok k ∧ k ≠ g) v xs := by
 obtain ⟨hb, hg⟩ := h
 exact Kd.R_types ho hb ht
theorem IsS74.own_ne {w0 W : World} {g : Nat} {f0 : ByteArray} {f1 : Int} {f2 : Int} {α : Type} {d : Kd α} {e : Nat} {base : Nat} {ok : Nat → Prop} {v : Value} {xs : List α} (h : IsS74 w0 W g f0 f1 f2) (ho : d.R e W base ok v xs) (ht : e ≠ 74) : some g ≠ v.ownBlock := by
 obtain ⟨hb, hg⟩ := h
 exact Kd.R_ne ho hb ht
theorem IsS74.lt {w0 W : World} {g : Nat} {f0 : ByteArray} {f1 : Int} {f2 : Int} (h : IsS74 w0 W g f0 f1 f2) : g < W.heap.size := by
 obtain ⟨hb, hg⟩ := h
 exact blk_lt hb
theorem IsS74.ge {w0 W : World} {g : Nat} {f0 : ByteArray} {f1 : Int} {f2 : Int} (h : IsS74 w0 W g f0 f1 f2) : w0.heap.size ≤ g := by
 obtain ⟨hb, hg⟩ := h
 exact hg
theorem IsS74.far {w0 W : World} {g : Nat} {f0 : ByteArray} {f1 : Int} {f2 : Int} {p : Addr} (h : IsS74 w0 W g f0 f1 f2) (hne : g ≠ p.block) (u : Value) : IsS74 w0 (W.setCell p u) g f0 f1 f2 := by
 obtain ⟨hb, hg⟩ := h
 exact ⟨blk_far hb hne u, hg⟩
theorem cellS74_0 {W : World} {g : Nat} {f0 : ByteArray} {f1 : Int} {f2 : Int} (h : W.heap[g]? = some (.cells #[.string f0, .int .i64 f1, .int .i64 f2] 74 (0, 0))) : W.cell? ⟨g, 0, none⟩ = some (.string f0) := (blk_cell h 0).trans rfl
theorem cellS74_1 {W : World} {g : Nat} {f0 : ByteArray} {f1 : Int} {f2 : Int} (h : W.heap[g]? = some (.cells #[.string f0, .int .i64 f1, .int .i64 f2] 74 (0, 0))) : W.cell? ⟨g, 1, none⟩ = some (.int .i64 f1) := (blk_cell h 1).trans rfl
theorem IsS74.set_1 {w0 W : World} {g : Nat} {f0 : ByteArray} {f1 : Int} {f2 : Int} (h : IsS74 w0 W g f0 f1 f2) (x : Int) : IsS74 w0 (W.setCell ⟨g, 1, none⟩ (.int .i64 x)) g f0 x f2 := by
 obtain ⟨hb, hg⟩ := h
 exact ⟨by simpa using blk_set hb 1 (.int .i64 x), hg⟩
theorem cellS74_2 {W : World} {g : Nat} {f0 : ByteArray} {f1 : Int} {f2 : Int} (h : W.heap[g]? = some (.cells #[.string f0, .int .i64 f1, .int .i64 f2] 74 (0, 0))) : W.cell? ⟨g, 2, none⟩ = some (.int .i64 f2) := (blk_cell h 2).trans rfl
theorem IsS74.set_2 {w0 W : World} {g : Nat} {f0 : ByteArray} {f1 : Int} {f2 : Int} (h : IsS74 w0 W g f0 f1 f2) (x : Int) : IsS74 w0 (W.setCell ⟨g, 2, none⟩ (.int .i64 x)) g f0 f1 x := by
 obtain ⟨hb, hg⟩ := h
 exact ⟨by simpa using blk_set hb 2 (.int .i64 x), hg⟩
def tlv_text_has.f (s0_0 : ByteArray) (s0_1 : Int) (s0_2 : Int) (a1 : Int) (a2 : Int) : Option (Bool × ByteArray × Int × Int) := some (decide (a1 ≤ (wrap64 (a2 - s0_1))), s0_0, s0_1, s0_2)
set_option maxHeartbeats 8000000 in
set_option maxRecDepth 100000 in
theorem tlv_text_has.calls (g : Nat) (s0_0 : ByteArray) (s0_1 : Int) (s0_2 : Int) (a1 : Int) (a2 : Int) (r1 : Bool) (r2 : ByteArray) (r3 : Int) (r4 : Int) (w0 w : World) (hI : IsS74 w0 w g s0_0 s0_1 s0_2) (hB : Below w0.heap.size w0 w) (h : tlv_text_has.f s0_0 s0_1 s0_2 a1 a2 = some (r1, r2, r3, r4)) :
  Calls Tryd.prog 69 #[.pointer (some ⟨g, 0, none⟩), .int .i64 a1, .int .i64 a2] w fun e w' => e = .returned (.bool r1) ∧ IsS74 w0 w' g r2 r3 r4 ∧ Below w0.heap.size w0 w' ∧ KeepBut w w' g none := by
 have HI0 := Aside0.mk hI
 have HK := Aside0.mk (KeepBut.refl w g none)
 have HL := Aside0.mk hB.size
 clear hI
 have HW0 := Aside0.mk hB.size
 have HB := Aside0.mk hB
 clear hB
 have H : (some (decide (a1 ≤ (wrap64 (a2 - s0_1))), s0_0, s0_1, s0_2)) = some (r1, r2, r3, r4) := h
 clear h
 simp only [Option.some.injEq, Prod.mk.injEq] at H
 obtain ⟨rfl, rfl, rfl, rfl⟩ := H
 obtain ⟨HGz4, hgz4⟩ := HI0.out
 have hcz4_0 := cellS74_0 HGz4
 have hcz4_1 := cellS74_1 HGz4
 have hcz4_2 := cellS74_2 HGz4
 have hfz4_0 := blk_frozen HGz4 0
 have hfz4_1 := blk_frozen HGz4 1
 have hfz4_2 := blk_frozen HGz4 2
 clear HGz4 hgz4
 go_enter Tryd.func69, Tryd.ntmps69
 go_wp2
 go_ret
 exact ⟨q2_, q5_, q3_, q1_⟩
end Go.Proofs.YthnddhgkjkpmfaaDoor.LTlvC
-- Written by this repo's own program over the kit's printer: YthnddhgkjkpmfaaDoor.LTlvC
namespace Go.Proofs.YthnddhgkjkpmfaaDoor.LTlvC
open Go.Proofs.YthnddhgkjkpmfaaDoor.ExtTlvC
open Go.Proofs.YthnddhgkjkpmfaaDoor.KTlv
open Go.RowKit Go.Proofs.YthnddhgkjkpmfaaDoorW.PrintWords Go.Proofs.YthnddhgkjkpmfaaDoorW.PrintLast Go.Proofs.YthnddhgkjkpmfaaDoorW.PrintMore
attribute [local go_sem] max2_int min2_int max_two min_two max_three min_three max_four min_four   -- for this text's walks alone
attribute [local go_sem] some_set
set_option linter.unusedVariables false
set_option linter.unusedSimpArgs false
variable {G : Gl}
def tlv_reader_head.f (s0_0 : ByteArray) (s0_1 : Int) (s0_2 : Int) (a1 : Int) (a2 : Int) : Option (Int × Int × Option Er × ByteArray × Int × Int) := if (wrap64 (s0_2 + 1)) > 200 then (some (0, 0, some (Er.node s0_1), s0_0, s0_1, wrap64 (s0_2 + 1))) else (if a2 > 12 then (some (0, 0, some (Er.node s0_1), s0_0, s0_1, wrap64 (s0_2 + 1))) else ((tlv_text_has.f s0_0 s0_1 (wrap64 (s0_2 + 1)) 1 a1).bind fun bt101 => (if bt101.1 = true then (if 0 ≤ bt101.2.2.1 then (if bt101.2.2.1 < (bt101.2.1.size : Int) then (if (Go.bits .and .i64 (wrap64 (bt bt101.2.1 bt101.2.2.1)) 31) = 31 then (some (0, 0, some (Er.tag bt101.2.2.1), bt101.2.1, bt101.2.2.1, bt101.2.2.2)) else (if 0 ≤ a1 then (if a1 ≤ (bt101.2.1.size : Int) then ((size_Decode.f (bt101.2.1.extract 0 (a1 : Int).toNat) (wrap64 (bt101.2.2.1 + 1))).bind fun bt105 => (if bt105.2.2 = 0 then ((tlv_text_has.f bt101.2.1 bt105.2.1 bt101.2.2.2 bt105.1 a1).bind fun bt108 => (if bt108.1 = true then (some (wrap64 (bt bt101.2.1 bt101.2.2.1), wrap64 (bt105.2.1 + bt105.1), none, bt108.2.1, bt108.2.2.1, bt108.2.2.2)) else (some (0, 0, some (Er.short bt108.2.2.1), bt108.2.1, bt108.2.2.1, bt108.2.2.2)))) else (some (0, 0, some (Er.len bt101.2.2.1 bt105.2.2), bt101.2.1, bt101.2.2.1, bt101.2.2.2)))) else (none)) else (none))) else (none)) else (none)) else (some (0, 0, some (Er.short bt101.2.2.1), bt101.2.1, bt101.2.2.1, bt101.2.2.2)))))
def tlv_reader_head.T5 : Bool × List (List Nat × List Nat) := (true, [([], []), ([0], [0]), ([1], [1]), ([2], [2]), ([3], [3]), ([], []), ([4, 5], [4, 5]), ([6], [6]), ([], []), ([8, 8], []), ([7, 9, 0, 1, 2, 3, 4, 5, 6, 7, 8, 9], [7])])
def tlv_reader_head.B5 : List Nat := [0, 1, 3, 7, 15, 0, 63, 127, 0, 256, 1023]
theorem tlv_reader_head.tab5 : rtab .any (opsOf Tryd.f59 5) = tlv_reader_head.T5 := by kernel_rfl
theorem tlv_reader_head.bits5 : waitsOk tlv_reader_head.T5.2 tlv_reader_head.B5 = true := by kernel_rfl
def tlv_reader_head.T6 : Bool × List (List Nat × List Nat) := (true, [([], []), ([0], [0]), ([1], [1]), ([2], [2]), ([3], [3]), ([], []), ([4, 5], [4, 5]), ([6], [6]), ([], []), ([8, 8], []), ([7, 9, 0, 1, 2, 3, 4, 5, 6, 7, 8, 9], [7])])
def tlv_reader_head.B6 : List Nat := [0, 1, 3, 7, 15, 0, 63, 127, 0, 256, 1023]
theorem tlv_reader_head.tab6 : rtab .any (opsOf Tryd.f59 6) = tlv_reader_head.T6 := by kernel_rfl
theorem tlv_reader_head.bits6 : waitsOk tlv_reader_head.T6.2 tlv_reader_head.B6 = true := by kernel_rfl
def tlv_reader_head.T7 : Bool × List (List Nat × List Nat) := (true, [([], []), ([0], [0]), ([1], [1]), ([2], [2]), ([3], [3]), ([], []), ([5], [5]), ([6], [6]), ([7], [7]), ([8], [8]), ([4, 9], [4, 9]), ([10], [10]), ([11, 0, 1, 2, 3, 4, 5, 6, 7, 8, 9, 10, 11], [11])])
def tlv_reader_head.B7 : List Nat := [0, 1, 3, 7, 15, 0, 32, 96, 224, 480, 1023, 2047, 4095]
theorem tlv_reader_head.tab7 : rtab .any (opsOf Tryd.f59 7) = tlv_reader_head.T7 := by kernel_rfl
theorem tlv_reader_head.bits7 : waitsOk tlv_reader_head.T7.2 tlv_reader_head.B7 = true := by kernel_rfl
def tlv_reader_head.T9 : Bool × List (List Nat × List Nat) := (true, [([], []), ([0], [0]), ([1], [1]), ([2], [2]), ([3], [3]), ([], []), ([4, 5], [4, 5]), ([6], [6]), ([], []), ([8, 8], []), ([7, 9, 0, 1, 2, 3, 4, 5, 6, 7, 8, 9], [7])])
def tlv_reader_head.B9 : List Nat := [0, 1, 3, 7, 15, 0, 63, 127, 0, 256, 1023]
theorem tlv_reader_head.tab9 : rtab .any (opsOf Tryd.f59 9) = tlv_reader_head.T9 := by kernel_rfl
theorem tlv_reader_head.bits9 : waitsOk tlv_reader_head.T9.2 tlv_reader_head.B9 = true := by kernel_rfl
def tlv_reader_head.T10 : Bool × List (List Nat × List Nat) := (true, [([], []), ([0], [0]), ([1], [1]), ([2], [2]), ([3], [3]), ([], []), ([4, 5], [4, 5]), ([], []), ([7], [7]), ([8], [8]), ([9], [9]), ([10], [10]), ([11], [11]), ([6, 12], [6, 12]), ([13], [13]), ([14], [14]), ([14], [14]), ([14], [14]), ([15, 13, 0, 1, 2, 3, 4, 5, 6, 7, 8, 9, 10, 11, 12, 13, 14, 15], [15]), ([16, 18, 0, 1, 2, 3, 4, 5, 6, 7, 8, 9, 10, 11, 12, 13, 14, 15, 16, 18], [16]), ([17, 19, 0, 1, 2, 3, 4, 5, 6, 7, 8, 9, 10, 11, 12, 13, 14, 15, 16, 17, 18, 19], [17])])
def tlv_reader_head.B10 : List Nat := [0, 1, 3, 7, 15, 0, 63, 0, 128, 384, 896, 1920, 3968, 8191, 16383, 32767, 32767, 32767, 65535, 393215, 1048575]
theorem tlv_reader_head.tab10 : rtab .any (opsOf Tryd.f59 10) = tlv_reader_head.T10 := by kernel_rfl
theorem tlv_reader_head.bits10 : waitsOk tlv_reader_head.T10.2 tlv_reader_head.B10 = true := by kernel_rfl
def tlv_reader_head.T12 : Bool × List (List Nat × List Nat) := (true, [([], []), ([0], [0]), ([1], [1]), ([2], [2]), ([3], [3]), ([], []), ([5], [5]), ([6], [6]), ([4, 7], [4, 7]), ([8], [8]), ([], []), ([10, 10], []), ([9, 11, 0, 1, 2, 3, 4, 5, 6, 7, 8, 9, 10, 11], [9])])
def tlv_reader_head.B12 : List Nat := [0, 1, 3, 7, 15, 0, 32, 96, 255, 511, 0, 1024, 4095]
theorem tlv_reader_head.tab12 : rtab .any (opsOf Tryd.f59 12) = tlv_reader_head.T12 := by kernel_rfl
theorem tlv_reader_head.bits12 : waitsOk tlv_reader_head.T12.2 tlv_reader_head.B12 = true := by kernel_rfl
def tlv_reader_head.T15 : Bool × List (List Nat × List Nat) := (true, [([], []), ([0], [0]), ([1], [1]), ([2], [2]), ([3], [3]), ([], []), ([4, 5], [4, 5]), ([6], [6]), ([], []), ([8, 8], []), ([7, 9, 0, 1, 2, 3, 4, 5, 6, 7, 8, 9], [7])])
def tlv_reader_head.B15 : List Nat := [0, 1, 3, 7, 15, 0, 63, 127, 0, 256, 1023]
theorem tlv_reader_head.tab15 : rtab .any (opsOf Tryd.f59 15) = tlv_reader_head.T15 := by kernel_rfl
theorem tlv_reader_head.bits15 : waitsOk tlv_reader_head.T15.2 tlv_reader_head.B15 = true := by kernel_rfl
set_option maxHeartbeats 8000000 in
set_option maxRecDepth 100000 in
theorem tlv_reader_head.calls (g : Nat) (s0_0 : ByteArray) (s0_1 : Int) (s0_2 : Int) (a1 : Int) (a2 : Int) (r1 : Int) (r2 : Int) (r3 : Option Er) (r4 : ByteArray) (r5 : Int) (r6 : Int) (w0 w : World) (hI : IsS74 w0 w g s0_0 s0_1 s0_2) (hB : Below w0.heap.size w0 w) (hG : GW G w0) (h : tlv_reader_head.f s0_0 s0_1 s0_2 a1 a2 = some (r1, r2, r3, r4, r5, r6)) :
  Calls Tryd.prog 59 #[.pointer (some ⟨g, 0, none⟩), .int .i64 a1, .int .i64 a2] w fun e w' => e = .returned (.tuple #[.int .i64 r1, .int .i64 r2, errW G r3]) ∧ IsS74 w0 w' g r4 r5 r6 ∧ Below w0.heap.size w0 w' ∧ KeepBut w w' g none := by
 have hu64 := Tryd.underlying64
 have hu49 := Tryd.underlying49
 have HI0 := Aside0.mk hI
 have HK := Aside0.mk (KeepBut.refl w g none)
 have HL := Aside0.mk hB.size
 clear hI
 have HW0 := Aside0.mk hB.size
 have HB := Aside0.mk hB
 clear hB
 have H : (if (wrap64 (s0_2 + 1)) > 200 then (some (0, 0, some (Er.node s0_1), s0_0, s0_1, wrap64 (s0_2 + 1))) else (if a2 > 12 then (some (0, 0, some (Er.node s0_1), s0_0, s0_1, wrap64 (s0_2 + 1))) else ((tlv_text_has.f s0_0 s0_1 (wrap64 (s0_2 + 1)) 1 a1).bind fun bt101 => (if bt101.1 = true then (if 0 ≤ bt101.2.2.1 then (if bt101.2.2.1 < (bt101.2.1.size : Int) then (if (Go.bits .and .i64 (wrap64 (bt bt101.2.1 bt101.2.2.1)) 31) = 31 then (some (0, 0, some (Er.tag bt101.2.2.1), bt101.2.1, bt101.2.2.1, bt101.2.2.2)) else (if 0 ≤ a1 then (if a1 ≤ (bt101.2.1.size : Int) then ((size_Decode.f (bt101.2.1.extract 0 (a1 : Int).toNat) (wrap64 (bt101.2.2.1 + 1))).bind fun bt105 => (if bt105.2.2 = 0 then ((tlv_text_has.f bt101.2.1 bt105.2.1 bt101.2.2.2 bt105.1 a1).bind fun bt108 => (if bt108.1 = true then (some (wrap64 (bt bt101.2.1 bt101.2.2.1), wrap64 (bt105.2.1 + bt105.1), none, bt108.2.1, bt108.2.2.1, bt108.2.2.2)) else (some (0, 0, some (Er.short bt108.2.2.1), bt108.2.1, bt108.2.2.1, bt108.2.2.2)))) else (some (0, 0, some (Er.len bt101.2.2.1 bt105.2.2), bt101.2.1, bt101.2.2.1, bt101.2.2.2)))) else (none)) else (none))) else (none)) else (none)) else (some (0, 0, some (Er.short bt101.2.2.1), bt101.2.1, bt101.2.2.1, bt101.2.2.2)))))) = some (r1, r2, r3, r4, r5, r6) := h
 clear h
 by_cases c4 : (wrap64 (s0_2 + 1)) > 200
 ·rw [if_pos c4] at H
  have c4b0 : decide (200 < (wrap64 (s0_2 + 1))) = true := decide_eq_true c4
  clear c4
  simp only [Option.some.injEq, Prod.mk.injEq] at H
  obtain ⟨rfl, rfl, rfl, rfl, rfl, rfl⟩ := H
  obtain ⟨HGz5, hgz5⟩ := HI0.out
  have hcz5_0 := cellS74_0 HGz5
  have hcz5_1 := cellS74_1 HGz5
  have hcz5_2 := cellS74_2 HGz5
  have hfz5_0 := blk_frozen HGz5 0
  have hfz5_1 := blk_frozen HGz5 1
  have hfz5_2 := blk_frozen HGz5 2
  clear HGz5 hgz5
  go_enter Tryd.func59, Tryd.ntmps59
  try go_wp2
  have n0_ : Aside0 (IsS74 w0 (w.setCell ⟨g, 2, none⟩ (.int .i64 (wrap64 (s0_2 + 1)))) g s0_0 s0_1 (wrap64 (s0_2 + 1))) := ⟨q5_⟩
  have n1_ : Aside0 (KeepBut w (w.setCell ⟨g, 2, none⟩ (.int .i64 (wrap64 (s0_2 + 1)))) g none) := ⟨q1_⟩
  have n2_ : Aside0 (Below w0.heap.size w0 (w.setCell ⟨g, 2, none⟩ (.int .i64 (wrap64 (s0_2 + 1))))) := ⟨q3_⟩
  (try clear HI0)
  (try clear HK)
  (try clear HB)
  generalize (w.setCell ⟨g, 2, none⟩ (.int .i64 (wrap64 (s0_2 + 1)))) = w6 at n0_ n1_ n2_ ⊢
  have HI0 := n0_
  have HK := n1_
  have HB := n2_
  clear n0_ n1_ n2_
  have n0_ := Aside0.mk (IsS74.drew HI0.out)
  have n1_ := Aside0.mk (keep_drew HK.out)
  have n2_ := Aside0.mk (below_drew1 HB.out)
  clear HI0
  clear HK
  clear HB
  have HI0 := n0_
  have HK := n1_
  have HB := n2_
  clear n0_ n1_ n2_
  refine start_ (n := 11) (S := fun w' => w'.cell? ⟨g, 0, none⟩ = some (.string s0_0) ∧ w'.cell? ⟨g, 1, none⟩ = some (.int .i64 s0_1) ∧ w'.cell? ⟨g, 2, none⟩ = some (.int .i64 (wrap64 (s0_2 + 1))) ∧ w'.cell? ⟨0, 0, none⟩ = some (GC0 G)) (ds := []) #[false, false, false, false, false, false, false, false, false, false, false] (by kernel_rfl) rfl rfl ⟨(cellS74_0 HI0.out.1), (cellS74_1 HI0.out.1), (cellS74_2 HI0.out.1), (GW.c0 (GW.below hG q3_))⟩ (fun hHeld => ?_); refine with_tabW tlv_reader_head.tab5 tlv_reader_head.bits5 (fun HT_ HW_ => ?_)
  generalize w6.drew = w7 at HI0 HK HB hHeld ⊢
  refine p_ 0 (some 36) ?_
  refine p_ 1 (some 37) ?_
  refine p_ 2 (some 38) ?_
  refine p_ 3 (some 39) ?_
  refine p_ 8 (some 6) ?_
  refine p_ 9 (some 7) ?_
  refine t1_ 4 (some 40) ?_
  refine t1_ 5 (some 41) ?_
  refine p_ 6 (some 42) ?_
  refine p_ 7 (some 43) ?_
  refine p_ 10 (some 8) ?_
  refine done_ (done_of HT_.out (by kernel_rfl)) ?_
  try go_wp2
  go_ret3
  exact ⟨q2_, q5_, q3_, q1_⟩
 ·rw [if_neg c4] at H
  have c4b0 : decide (200 < (wrap64 (s0_2 + 1))) = false := decide_eq_false c4
  clear c4
  by_cases c8 : a2 > 12
  ·rw [if_pos c8] at H
   have c8b0 : decide (12 < a2) = true := decide_eq_true c8
   clear c8
   simp only [Option.some.injEq, Prod.mk.injEq] at H
   obtain ⟨rfl, rfl, rfl, rfl, rfl, rfl⟩ := H
   obtain ⟨HGz9, hgz9⟩ := HI0.out
   have hcz9_0 := cellS74_0 HGz9
   have hcz9_1 := cellS74_1 HGz9
   have hcz9_2 := cellS74_2 HGz9
   have hfz9_0 := blk_frozen HGz9 0
   have hfz9_1 := blk_frozen HGz9 1
   have hfz9_2 := blk_frozen HGz9 2
   clear HGz9 hgz9
   go_enter Tryd.func59, Tryd.ntmps59
   try go_wp2
   have n0_ : Aside0 (IsS74 w0 (w.setCell ⟨g, 2, none⟩ (.int .i64 (wrap64 (s0_2 + 1)))) g s0_0 s0_1 (wrap64 (s0_2 + 1))) := ⟨q5_⟩
   have n1_ : Aside0 (KeepBut w (w.setCell ⟨g, 2, none⟩ (.int .i64 (wrap64 (s0_2 + 1)))) g none) := ⟨q1_⟩
   have n2_ : Aside0 (Below w0.heap.size w0 (w.setCell ⟨g, 2, none⟩ (.int .i64 (wrap64 (s0_2 + 1))))) := ⟨q3_⟩
   (try clear HI0)
   (try clear HK)
   (try clear HB)
   generalize (w.setCell ⟨g, 2, none⟩ (.int .i64 (wrap64 (s0_2 + 1)))) = w10 at n0_ n1_ n2_ ⊢
   have HI0 := n0_
   have HK := n1_
   have HB := n2_
   clear n0_ n1_ n2_
   have n0_ := Aside0.mk (IsS74.drew HI0.out)
   have n1_ := Aside0.mk (keep_drew HK.out)
   have n2_ := Aside0.mk (below_drew1 HB.out)
   clear HI0
   clear HK
   clear HB
   have HI0 := n0_
   have HK := n1_
   have HB := n2_
   clear n0_ n1_ n2_
   refine start_ (n := 11) (S := fun w' => w'.cell? ⟨g, 0, none⟩ = some (.string s0_0) ∧ w'.cell? ⟨g, 1, none⟩ = some (.int .i64 s0_1) ∧ w'.cell? ⟨g, 2, none⟩ = some (.int .i64 (wrap64 (s0_2 + 1))) ∧ w'.cell? ⟨0, 0, none⟩ = some (GC0 G)) (ds := []) #[false, false, false, false, false, false, false, false, false, false, false] (by kernel_rfl) rfl rfl ⟨(cellS74_0 HI0.out.1), (cellS74_1 HI0.out.1), (cellS74_2 HI0.out.1), (GW.c0 (GW.below hG q3_))⟩ (fun hHeld => ?_); refine with_tabW tlv_reader_head.tab5 tlv_reader_head.bits5 (fun HT_ HW_ => ?_)
   generalize w10.drew = w11 at HI0 HK HB hHeld ⊢
   refine p_ 0 (some 36) ?_
   refine p_ 1 (some 37) ?_
   refine p_ 2 (some 38) ?_
   refine p_ 3 (some 39) ?_
   refine p_ 8 (some 6) ?_
   refine p_ 9 (some 7) ?_
   refine t1_ 4 (some 40) ?_
   refine t1_ 5 (some 41) ?_
   refine p_ 6 (some 42) ?_
   refine p_ 7 (some 43) ?_
   refine p_ 10 (some 8) ?_
   refine done_ (done_of HT_.out (by kernel_rfl)) ?_
   try go_wp2
   go_ret3
   exact ⟨q2_, q5_, q3_, q1_⟩
  ·rw [if_neg c8] at H
   have c8b0 : decide (12 < a2) = false := decide_eq_false c8
   clear c8
   replace H := Option.bind_eq_some_iff.mp H
   obtain ⟨⟨t101, t102, t103, t104⟩, A120, H⟩ := H
   replace H : (if t101 = true then (if 0 ≤ t103 then (if t103 < (t102.size : Int) then (if (Go.bits .and .i64 (wrap64 (bt t102 t103)) 31) = 31 then (some (0, 0, some (Er.tag t103), t102, t103, t104)) else (if 0 ≤ a1 then (if a1 ≤ (t102.size : Int) then ((size_Decode.f (t102.extract 0 (a1 : Int).toNat) (wrap64 (t103 + 1))).bind fun bt105 => (if bt105.2.2 = 0 then ((tlv_text_has.f t102 bt105.2.1 t104 bt105.1 a1).bind fun bt108 => (if bt108.1 = true then (some (wrap64 (bt t102 t103), wrap64 (bt105.2.1 + bt105.1), none, bt108.2.1, bt108.2.2.1, bt108.2.2.2)) else (some (0, 0, some (Er.short bt108.2.2.1), bt108.2.1, bt108.2.2.1, bt108.2.2.2)))) else (some (0, 0, some (Er.len t103 bt105.2.2), t102, t103, t104)))) else (none)) else (none))) else (none)) else (none)) else (some (0, 0, some (Er.short t103), t102, t103, t104))) = some (r1, r2, r3, r4, r5, r6) := H
   have A12 := Aside0.mk A120
   clear A120
   by_cases c13 : t101 = true
   ·subst c13
    have H1 : (if 0 ≤ t103 then (if t103 < (t102.size : Int) then (if (Go.bits .and .i64 (wrap64 (bt t102 t103)) 31) = 31 then (some (0, 0, some (Er.tag t103), t102, t103, t104)) else (if 0 ≤ a1 then (if a1 ≤ (t102.size : Int) then ((size_Decode.f (t102.extract 0 (a1 : Int).toNat) (wrap64 (t103 + 1))).bind fun bt105 => (if bt105.2.2 = 0 then ((tlv_text_has.f t102 bt105.2.1 t104 bt105.1 a1).bind fun bt108 => (if bt108.1 = true then (some (wrap64 (bt t102 t103), wrap64 (bt105.2.1 + bt105.1), none, bt108.2.1, bt108.2.2.1, bt108.2.2.2)) else (some (0, 0, some (Er.short bt108.2.2.1), bt108.2.1, bt108.2.2.1, bt108.2.2.2)))) else (some (0, 0, some (Er.len t103 bt105.2.2), t102, t103, t104)))) else (none)) else (none))) else (none)) else (none)) = some (r1, r2, r3, r4, r5, r6) := by rw [if_pos rfl] at H; exact H
    clear H
    have H := H1
    clear H1
    by_cases c14 : 0 ≤ t103
    ·rw [if_pos c14] at H
     have c14b0 : decide (0 ≤ t103) = true := decide_eq_true c14
     clear c14
     by_cases c15 : t103 < (t102.size : Int)
     ·rw [if_pos c15] at H
      have c15b0 : decide (t103 < (t102.size : Int)) = true := decide_eq_true c15
      clear c15
      by_cases c17 : (Go.bits .and .i64 (wrap64 (bt t102 t103)) 31) = 31
      ·rw [if_pos c17] at H
       have c17b0 : ((Go.bits .and .i64 (wrap64 (bt t102 t103)) 31) == 31) = true := beq_iff_eq.mpr c17
       have c17b1 : ((Go.bits .and .i64 (wrap64 (bt t102 t103)) 31) != 31) = false := bne_eq_false_iff_eq.mpr c17
       clear c17
       simp only [Option.some.injEq, Prod.mk.injEq] at H
       obtain ⟨rfl, rfl, rfl, rfl, rfl, rfl⟩ := H
       obtain ⟨HGz18, hgz18⟩ := HI0.out
       have hcz18_0 := cellS74_0 HGz18
       have hcz18_1 := cellS74_1 HGz18
       have hcz18_2 := cellS74_2 HGz18
       have hfz18_0 := blk_frozen HGz18 0
       have hfz18_1 := blk_frozen HGz18 1
       have hfz18_2 := blk_frozen HGz18 2
       clear HGz18 hgz18
       go_enter Tryd.func59, Tryd.ntmps59
       try go_wp2_with (first | ((with_reducible refine gate_callee (f := 69) rfl ?_); refine goesL_ (some 34) rfl rfl Tryd.func69 (by kernel_rfl) rfl #[.pointer (some ⟨g, 0, none⟩), .int .i64 1, .int .i64 a1] rfl argq ?_; (with_reducible refine (tlv_text_has.calls g s0_0 s0_1 (wrap64 (s0_2 + 1)) 1 a1 true t102 t103 t104 w0 _ ?side1 ?side2 A12.out).mono ?_); (case side1 => repeat (first | (with_reducible first | exact HI0.out | apply IsS74.alloc | apply IsS74.drewN | apply IsS74.drew | apply IsS74.set_0 | apply IsS74.set_1 | apply IsS74.set_2) | exact HI0.out)); (case side2 => repeat (first | (with_reducible first | exact HB.out | apply below_alloc | apply pw_below_drewN | apply below_drew1 | refine below_set ?_ (IsS74.ge HI0.out)) | exact HB.out)); rintro e w19 ⟨rfl, hi, hb, hk⟩; refine ⟨_, rfl, ?_⟩; have n0_ := Aside0.mk (KeepBut.trans q1_ hk (.inl rfl)); have n1_ := Aside0.mk (hb); have n2_ := Aside0.mk (hi); clear HK; clear HB; clear HI0; have HK := n0_; have HB := n1_; have HI0 := n2_; clear n0_ n1_ n2_; (try clear hb); (try clear hb2); (try clear hk); (try clear hi)))
       have n0_ := Aside0.mk (IsS74.drew HI0.out)
       have n1_ := Aside0.mk (keep_drew HK.out)
       have n2_ := Aside0.mk (below_drew1 HB.out)
       clear HI0
       clear HK
       clear HB
       have HI0 := n0_
       have HK := n1_
       have HB := n2_
       clear n0_ n1_ n2_
       have p16 : 0 ≤ (t103 : Int) := of_decide_eq_true q7_
       have q16 : t103 < (t102.size : Int) := of_decide_eq_true q7_
       have hx16 := bt_at t102 t103
       replace p16 := eq_true p16
       replace q16 := eq_true q16
       refine start_ (n := 13) (S := fun w' => w'.cell? ⟨g, 0, none⟩ = some (.string t102) ∧ w'.cell? ⟨g, 1, none⟩ = some (.int .i64 t103) ∧ w'.cell? ⟨g, 2, none⟩ = some (.int .i64 t104)) (ds := []) #[false, false, false, false, false, false, false, false, false, false, false, false, false] (by kernel_rfl) rfl rfl ⟨(cellS74_0 HI0.out.1), (cellS74_1 HI0.out.1), (cellS74_2 HI0.out.1)⟩ (fun hHeld => ?_); refine with_tabW tlv_reader_head.tab7 tlv_reader_head.bits7 (fun HT_ HW_ => ?_)
       generalize w19.drew = w20 at HI0 HK HB hHeld ⊢
       refine p_ 0 (some 52) ?_
       refine p_ 1 (some 53) ?_
       refine p_ 2 (some 54) ?_
       refine p_ 3 (some 55) ?_
       refine p_ 5 (some 57) ?_
       refine p_ 6 (some 58) ?_
       refine p_ 7 (some 59) ?_
       refine p_ 8 (some 60) ?_
       refine t0_ 4 (some 56) ?_
       refine t0_ 9 (some 61) ?_
       refine t0_ 10 (some 62) ?_
       refine p_ 11 (some 63) ?_
       refine p_ 12 (some 9) ?_
       refine done_ (done_of HT_.out (by kernel_rfl)) ?_
       try go_wp2
       have n0_ := Aside0.mk (IsS74.drew HI0.out)
       have n1_ := Aside0.mk (keep_drew HK.out)
       have n2_ := Aside0.mk (below_drew1 HB.out)
       clear HI0
       clear HK
       clear HB
       have HI0 := n0_
       have HK := n1_
       have HB := n2_
       clear n0_ n1_ n2_
       refine start_ (n := 11) (S := fun w' => w'.cell? ⟨g, 0, none⟩ = some (.string t102) ∧ w'.cell? ⟨g, 1, none⟩ = some (.int .i64 t103) ∧ w'.cell? ⟨g, 2, none⟩ = some (.int .i64 t104) ∧ w'.cell? ⟨3, 0, none⟩ = some (GC3 G)) (ds := []) #[false, false, false, false, false, false, false, false, false, false, false] (by kernel_rfl) rfl rfl ⟨(cellS74_0 HI0.out.1), (cellS74_1 HI0.out.1), (cellS74_2 HI0.out.1), (GW.c3 (GW.below hG q3_))⟩ (fun hHeld => ?_); refine with_tabW tlv_reader_head.tab9 tlv_reader_head.bits9 (fun HT_ HW_ => ?_)
       generalize w20.drew = w21 at HI0 HK HB hHeld ⊢
       refine p_ 0 (some 67) ?_
       refine p_ 1 (some 68) ?_
       refine p_ 2 (some 69) ?_
       refine p_ 3 (some 70) ?_
       refine p_ 8 (some 6) ?_
       refine p_ 9 (some 7) ?_
       refine t1_ 4 (some 71) ?_
       refine t1_ 5 (some 72) ?_
       refine p_ 6 (some 73) ?_
       refine p_ 7 (some 74) ?_
       refine p_ 10 (some 8) ?_
       refine done_ (done_of HT_.out (by kernel_rfl)) ?_
       try go_wp2
       go_ret3
       exact ⟨q2_, q5_, q3_, q1_⟩
      ·rw [if_neg c17] at H
       have c17b0 : ((Go.bits .and .i64 (wrap64 (bt t102 t103)) 31) == 31) = false := beq_eq_false_iff_ne.mpr c17
       have c17b1 : ((Go.bits .and .i64 (wrap64 (bt t102 t103)) 31) != 31) = true := bne_iff_ne.mpr c17
       by_cases c22 : 0 ≤ a1
       ·rw [if_pos c22] at H
        have c22b0 := eq_true c22
        have c22b1 : decide (0 ≤ a1) = true := decide_eq_true c22
        clear c22
        by_cases c23 : a1 ≤ (t102.size : Int)
        ·rw [if_pos c23] at H
         have c23b0 := eq_true c23
         have c23b1 : decide (a1 ≤ (t102.size : Int)) = true := decide_eq_true c23
         clear c23
         replace H := Option.bind_eq_some_iff.mp H
         obtain ⟨⟨t105, t106, t107⟩, A240, H⟩ := H
         replace H : (if t107 = 0 then ((tlv_text_has.f t102 t106 t104 t105 a1).bind fun bt108 => (if bt108.1 = true then (some (wrap64 (bt t102 t103), wrap64 (t106 + t105), none, bt108.2.1, bt108.2.2.1, bt108.2.2.2)) else (some (0, 0, some (Er.short bt108.2.2.1), bt108.2.1, bt108.2.2.1, bt108.2.2.2)))) else (some (0, 0, some (Er.len t103 t107), t102, t103, t104))) = some (r1, r2, r3, r4, r5, r6) := H
         have A24 := Aside0.mk A240
         clear A240
         by_cases c25 : t107 = 0
         ·rw [if_pos c25] at H
          have c25b0 : (t107 == 0) = true := beq_iff_eq.mpr c25
          have c25b1 : (t107 != 0) = false := bne_eq_false_iff_eq.mpr c25
          clear c25
          replace H := Option.bind_eq_some_iff.mp H
          obtain ⟨⟨t108, t109, t110, t111⟩, A260, H⟩ := H
          replace H : (if t108 = true then (some (wrap64 (bt t102 t103), wrap64 (t106 + t105), none, t109, t110, t111)) else (some (0, 0, some (Er.short t110), t109, t110, t111))) = some (r1, r2, r3, r4, r5, r6) := H
          have A26 := Aside0.mk A260
          clear A260
          by_cases c27 : t108 = true
          ·subst c27
           have H1 : (some (wrap64 (bt t102 t103), wrap64 (t106 + t105), none, t109, t110, t111)) = some (r1, r2, r3, r4, r5, r6) := by rw [if_pos rfl] at H; exact H
           clear H
           have H := H1
           clear H1
           simp only [Option.some.injEq, Prod.mk.injEq] at H
           obtain ⟨rfl, rfl, rfl, rfl, rfl, rfl⟩ := H
           obtain ⟨HGz28, hgz28⟩ := HI0.out
           have hcz28_0 := cellS74_0 HGz28
           have hcz28_1 := cellS74_1 HGz28
           have hcz28_2 := cellS74_2 HGz28
           have hfz28_0 := blk_frozen HGz28 0
           have hfz28_1 := blk_frozen HGz28 1
           have hfz28_2 := blk_frozen HGz28 2
           clear HGz28 hgz28
           go_enter Tryd.func59, Tryd.ntmps59
           try go_wp2_with (first | ((with_reducible refine gate_callee (f := 69) rfl ?_); refine goesL_ (some 34) rfl rfl Tryd.func69 (by kernel_rfl) rfl #[.pointer (some ⟨g, 0, none⟩), .int .i64 1, .int .i64 a1] rfl argq ?_; (with_reducible refine (tlv_text_has.calls g s0_0 s0_1 (wrap64 (s0_2 + 1)) 1 a1 true t102 t103 t104 w0 _ ?side1 ?side2 A12.out).mono ?_); (case side1 => repeat (first | (with_reducible first | exact HI0.out | apply IsS74.alloc | apply IsS74.drewN | apply IsS74.drew | apply IsS74.set_0 | apply IsS74.set_1 | apply IsS74.set_2) | exact HI0.out)); (case side2 => repeat (first | (with_reducible first | exact HB.out | apply below_alloc | apply pw_below_drewN | apply below_drew1 | refine below_set ?_ (IsS74.ge HI0.out)) | exact HB.out)); rintro e w29 ⟨rfl, hi, hb, hk⟩; refine ⟨_, rfl, ?_⟩; have n0_ := Aside0.mk (KeepBut.trans q1_ hk (.inl rfl)); have n1_ := Aside0.mk (hb); have n2_ := Aside0.mk (hi); clear HK; clear HB; clear HI0; have HK := n0_; have HB := n1_; have HI0 := n2_; clear n0_ n1_ n2_; (try clear hb); (try clear hb2); (try clear hk); (try clear hi)))
           have n0_ := Aside0.mk (IsS74.drew HI0.out)
           have n1_ := Aside0.mk (keep_drew HK.out)
           have n2_ := Aside0.mk (below_drew1 HB.out)
           clear HI0
           clear HK
           clear HB
           have HI0 := n0_
           have HK := n1_
           have HB := n2_
           clear n0_ n1_ n2_
           have p16 : 0 ≤ (t103 : Int) := of_decide_eq_true q7_
           have q16 : t103 < (t102.size : Int) := of_decide_eq_true q7_
           have hx16 := bt_at t102 t103
           replace p16 := eq_true p16
           replace q16 := eq_true q16
           refine start_ (n := 13) (S := fun w' => w'.cell? ⟨g, 0, none⟩ = some (.string t102) ∧ w'.cell? ⟨g, 1, none⟩ = some (.int .i64 t103) ∧ w'.cell? ⟨g, 2, none⟩ = some (.int .i64 t104)) (ds := []) #[false, false, false, false, false, false, false, false, false, false, false, false, false] (by kernel_rfl) rfl rfl ⟨(cellS74_0 HI0.out.1), (cellS74_1 HI0.out.1), (cellS74_2 HI0.out.1)⟩ (fun hHeld => ?_); refine with_tabW tlv_reader_head.tab7 tlv_reader_head.bits7 (fun HT_ HW_ => ?_)
           generalize w29.drew = w30 at HI0 HK HB hHeld ⊢
           refine p_ 0 (some 52) ?_
           refine p_ 1 (some 53) ?_
           refine p_ 2 (some 54) ?_
           refine p_ 3 (some 55) ?_
           refine p_ 5 (some 57) ?_
           refine p_ 6 (some 58) ?_
           refine p_ 7 (some 59) ?_
           refine p_ 8 (some 60) ?_
           refine t0_ 4 (some 56) ?_
           refine t0_ 9 (some 61) ?_
           refine t0_ 10 (some 62) ?_
           refine p_ 11 (some 63) ?_
           refine p_ 12 (some 9) ?_
           refine done_ (done_of HT_.out (by kernel_rfl)) ?_
           try go_wp2
           have n0_ := Aside0.mk (IsS74.drew HI0.out)
           have n1_ := Aside0.mk (keep_drew HK.out)
           have n2_ := Aside0.mk (below_drew1 HB.out)
           clear HI0
           clear HK
           clear HB
           have HI0 := n0_
           have HK := n1_
           have HB := n2_
           clear n0_ n1_ n2_
           refine start_ (n := 21) (S := fun w' => w'.cell? ⟨g, 0, none⟩ = some (.string t102) ∧ w'.cell? ⟨g, 1, none⟩ = some (.int .i64 t103) ∧ w'.cell? ⟨g, 2, none⟩ = some (.int .i64 t104)) (ds := []) #[false, false, false, false, false, false, false, false, false, false, false, false, false, false, false, false, false, false, false, false, false] (by kernel_rfl) rfl rfl ⟨(cellS74_0 HI0.out.1), (cellS74_1 HI0.out.1), (cellS74_2 HI0.out.1)⟩ (fun hHeld => ?_); refine with_tabW tlv_reader_head.tab10 tlv_reader_head.bits10 (fun HT_ HW_ => ?_)
           generalize w30.drew = w31 at HI0 HK HB hHeld ⊢
           refine p_ 0 (some 76) ?_
           refine p_ 1 (some 77) ?_
           refine p_ 2 (some 78) ?_
           refine p_ 3 (some 79) ?_
           refine p_ 5 (some 81) ?_
           refine p_ 7 (some 83) ?_
           refine p_ 8 (some 84) ?_
           refine p_ 9 (some 85) ?_
           refine p_ 10 (some 86) ?_
           refine t0_ 4 (some 80) ?_
           refine p_ 6 (some 82) ?_
           refine t0_ 11 (some 87) ?_
           refine p_ 12 (some 88) ?_
           refine one_ (i := 13) (N := some 89) #[true, true, true, true, true, true, true, true, true, true, true, true, true, true, false, false, false, false, false, false, false] rfl rfl (one_of HT_.out (by kernel_rfl)) (by decide) (fun K hK => ?_)
           refine goes_ Tryd.func70 (by kernel_rfl) rfl #[.string (t102.extract 0 (a1 : Int).toNat), .int .i64 (wrap64 (t103 + 1))] (by rfl) rfl rfl argq ?_
           with_reducible refine (size_Decode.calls (G := G) (t102.extract 0 (a1 : Int).toNat) (wrap64 (t103 + 1)) t105 t106 t107 _ ?side1 A24.out).mono ?_
           (case side1 => first | exact hG | exact GW.below hG q3_)
           rintro e w32 ⟨rfl, hb⟩
           refine ⟨_, rfl, ?_⟩
           have n0_ := Aside0.mk (IsS74.below q5_ hb)
           have n1_ := Aside0.mk (KeepBut.trans q1_ (KeepBut.of_below hb g none) (.inl rfl))
           have n2_ := Aside0.mk (below_step q3_ hb)
           clear HI0
           clear HK
           clear HB
           have HI0 := n0_
           have HK := n1_
           have HB := n2_
           clear n0_ n1_ n2_
           (try clear hb)
           (try clear hb2)
           (try clear hk)
           (try clear hi)
           refine hK.out _ _ ⟨(cellS74_0 HI0.out.1), (cellS74_1 HI0.out.1), (cellS74_2 HI0.out.1)⟩ (fun hHeld => ?_)
           clear hK K
           refine norm_ (a' := ?_) ?_ ?_
           rotate_left
           ·show Act.put _ (some 89) _ = _
            exact putq
           refine p_ 14 (some 75) ?_
           refine p_ 15 (some 90) ?_
           refine p_ 16 (some 91) ?_
           refine p_ 17 (some 92) ?_
           refine p_ 18 (some 10) ?_
           refine p_ 19 (some 11) ?_
           refine p_ 20 (some 12) ?_
           refine done_ (done_of HT_.out (by kernel_rfl)) ?_
           obtain ⟨HGz33, hgz33⟩ := HI0.out
           have hcz33_0 := cellS74_0 HGz33
           have hcz33_1 := cellS74_1 HGz33
           have hcz33_2 := cellS74_2 HGz33
           have hfz33_0 := blk_frozen HGz33 0
           have hfz33_1 := blk_frozen HGz33 1
           have hfz33_2 := blk_frozen HGz33 2
           clear HGz33 hgz33
           try go_wp2_with (first | ((with_reducible refine gate_callee (f := 69) rfl ?_); refine goesL_ (some 115) rfl rfl Tryd.func69 (by kernel_rfl) rfl #[.pointer (some ⟨g, 0, none⟩), .int .i64 t105, .int .i64 a1] rfl argq ?_; (with_reducible refine (tlv_text_has.calls g t102 t106 t104 t105 a1 true t109 t110 t111 w0 _ ?side1 ?side2 A26.out).mono ?_); (case side1 => repeat (first | (with_reducible first | exact HI0.out | apply IsS74.alloc | apply IsS74.drewN | apply IsS74.drew | apply IsS74.set_0 | apply IsS74.set_1 | apply IsS74.set_2) | exact HI0.out)); (case side2 => repeat (first | (with_reducible first | exact HB.out | apply below_alloc | apply pw_below_drewN | apply below_drew1 | refine below_set ?_ (IsS74.ge HI0.out)) | exact HB.out)); rintro e w34 ⟨rfl, hi, hb, hk⟩; refine ⟨_, rfl, ?_⟩; have n0_ := Aside0.mk (KeepBut.trans q1_ hk (.inl rfl)); have n1_ := Aside0.mk (hb); have n2_ := Aside0.mk (hi); clear HK; clear HB; clear HI0; have HK := n0_; have HB := n1_; have HI0 := n2_; clear n0_ n1_ n2_; (try clear hb); (try clear hb2); (try clear hk); (try clear hi)))
           go_ret3
           exact ⟨q2_, q5_, q3_, q1_⟩
          ·replace c27 := Bool.eq_false_iff.mpr c27
           subst c27
           have H1 : (some (0, 0, some (Er.short t110), t109, t110, t111)) = some (r1, r2, r3, r4, r5, r6) := by rw [if_neg (show ¬ (false = true) by decide)] at H; exact H
           clear H
           have H := H1
           clear H1
           simp only [Option.some.injEq, Prod.mk.injEq] at H
           obtain ⟨rfl, rfl, rfl, rfl, rfl, rfl⟩ := H
           obtain ⟨HGz35, hgz35⟩ := HI0.out
           have hcz35_0 := cellS74_0 HGz35
           have hcz35_1 := cellS74_1 HGz35
           have hcz35_2 := cellS74_2 HGz35
           have hfz35_0 := blk_frozen HGz35 0
           have hfz35_1 := blk_frozen HGz35 1
           have hfz35_2 := blk_frozen HGz35 2
           clear HGz35 hgz35
           go_enter Tryd.func59, Tryd.ntmps59
           try go_wp2_with (first | ((with_reducible refine gate_callee (f := 69) rfl ?_); refine goesL_ (some 34) rfl rfl Tryd.func69 (by kernel_rfl) rfl #[.pointer (some ⟨g, 0, none⟩), .int .i64 1, .int .i64 a1] rfl argq ?_; (with_reducible refine (tlv_text_has.calls g s0_0 s0_1 (wrap64 (s0_2 + 1)) 1 a1 true t102 t103 t104 w0 _ ?side1 ?side2 A12.out).mono ?_); (case side1 => repeat (first | (with_reducible first | exact HI0.out | apply IsS74.alloc | apply IsS74.drewN | apply IsS74.drew | apply IsS74.set_0 | apply IsS74.set_1 | apply IsS74.set_2) | exact HI0.out)); (case side2 => repeat (first | (with_reducible first | exact HB.out | apply below_alloc | apply pw_below_drewN | apply below_drew1 | refine below_set ?_ (IsS74.ge HI0.out)) | exact HB.out)); rintro e w36 ⟨rfl, hi, hb, hk⟩; refine ⟨_, rfl, ?_⟩; have n0_ := Aside0.mk (KeepBut.trans q1_ hk (.inl rfl)); have n1_ := Aside0.mk (hb); have n2_ := Aside0.mk (hi); clear HK; clear HB; clear HI0; have HK := n0_; have HB := n1_; have HI0 := n2_; clear n0_ n1_ n2_; (try clear hb); (try clear hb2); (try clear hk); (try clear hi)))
           have n0_ := Aside0.mk (IsS74.drew HI0.out)
           have n1_ := Aside0.mk (keep_drew HK.out)
           have n2_ := Aside0.mk (below_drew1 HB.out)
           clear HI0
           clear HK
           clear HB
           have HI0 := n0_
           have HK := n1_
           have HB := n2_
           clear n0_ n1_ n2_
           have p16 : 0 ≤ (t103 : Int) := of_decide_eq_true q7_
           have q16 : t103 < (t102.size : Int) := of_decide_eq_true q7_
           have hx16 := bt_at t102 t103
           replace p16 := eq_true p16
           replace q16 := eq_true q16
           refine start_ (n := 13) (S := fun w' => w'.cell? ⟨g, 0, none⟩ = some (.string t102) ∧ w'.cell? ⟨g, 1, none⟩ = some (.int .i64 t103) ∧ w'.cell? ⟨g, 2, none⟩ = some (.int .i64 t104)) (ds := []) #[false, false, false, false, false, false, false, false, false, false, false, false, false] (by kernel_rfl) rfl rfl ⟨(cellS74_0 HI0.out.1), (cellS74_1 HI0.out.1), (cellS74_2 HI0.out.1)⟩ (fun hHeld => ?_); refine with_tabW tlv_reader_head.tab7 tlv_reader_head.bits7 (fun HT_ HW_ => ?_)
           generalize w36.drew = w37 at HI0 HK HB hHeld ⊢
           refine p_ 0 (some 52) ?_
           refine p_ 1 (some 53) ?_
           refine p_ 2 (some 54) ?_
           refine p_ 3 (some 55) ?_
           refine p_ 5 (some 57) ?_
           refine p_ 6 (some 58) ?_
           refine p_ 7 (some 59) ?_
           refine p_ 8 (some 60) ?_
           refine t0_ 4 (some 56) ?_
           refine t0_ 9 (some 61) ?_
           refine t0_ 10 (some 62) ?_
           refine p_ 11 (some 63) ?_
           refine p_ 12 (some 9) ?_
           refine done_ (done_of HT_.out (by kernel_rfl)) ?_
           try go_wp2
           have n0_ := Aside0.mk (IsS74.drew HI0.out)
           have n1_ := Aside0.mk (keep_drew HK.out)
           have n2_ := Aside0.mk (below_drew1 HB.out)
           clear HI0
           clear HK
           clear HB
           have HI0 := n0_
           have HK := n1_
           have HB := n2_
           clear n0_ n1_ n2_
           refine start_ (n := 21) (S := fun w' => w'.cell? ⟨g, 0, none⟩ = some (.string t102) ∧ w'.cell? ⟨g, 1, none⟩ = some (.int .i64 t103) ∧ w'.cell? ⟨g, 2, none⟩ = some (.int .i64 t104)) (ds := []) #[false, false, false, false, false, false, false, false, false, false, false, false, false, false, false, false, false, false, false, false, false] (by kernel_rfl) rfl rfl ⟨(cellS74_0 HI0.out.1), (cellS74_1 HI0.out.1), (cellS74_2 HI0.out.1)⟩ (fun hHeld => ?_); refine with_tabW tlv_reader_head.tab10 tlv_reader_head.bits10 (fun HT_ HW_ => ?_)
           generalize w37.drew = w38 at HI0 HK HB hHeld ⊢
           refine p_ 0 (some 76) ?_
           refine p_ 1 (some 77) ?_
           refine p_ 2 (some 78) ?_
           refine p_ 3 (some 79) ?_
           refine p_ 5 (some 81) ?_
           refine p_ 7 (some 83) ?_
           refine p_ 8 (some 84) ?_
           refine p_ 9 (some 85) ?_
           refine p_ 10 (some 86) ?_
           refine t0_ 4 (some 80) ?_
           refine p_ 6 (some 82) ?_
           refine t0_ 11 (some 87) ?_
           refine p_ 12 (some 88) ?_
           refine one_ (i := 13) (N := some 89) #[true, true, true, true, true, true, true, true, true, true, true, true, true, true, false, false, false, false, false, false, false] rfl rfl (one_of HT_.out (by kernel_rfl)) (by decide) (fun K hK => ?_)
           refine goes_ Tryd.func70 (by kernel_rfl) rfl #[.string (t102.extract 0 (a1 : Int).toNat), .int .i64 (wrap64 (t103 + 1))] (by rfl) rfl rfl argq ?_
           with_reducible refine (size_Decode.calls (G := G) (t102.extract 0 (a1 : Int).toNat) (wrap64 (t103 + 1)) t105 t106 t107 _ ?side1 A24.out).mono ?_
           (case side1 => first | exact hG | exact GW.below hG q3_)
           rintro e w39 ⟨rfl, hb⟩
           refine ⟨_, rfl, ?_⟩
           have n0_ := Aside0.mk (IsS74.below q5_ hb)
           have n1_ := Aside0.mk (KeepBut.trans q1_ (KeepBut.of_below hb g none) (.inl rfl))
           have n2_ := Aside0.mk (below_step q3_ hb)
           clear HI0
           clear HK
           clear HB
           have HI0 := n0_
           have HK := n1_
           have HB := n2_
           clear n0_ n1_ n2_
           (try clear hb)
           (try clear hb2)
           (try clear hk)
           (try clear hi)
           refine hK.out _ _ ⟨(cellS74_0 HI0.out.1), (cellS74_1 HI0.out.1), (cellS74_2 HI0.out.1)⟩ (fun hHeld => ?_)
           clear hK K
           refine norm_ (a' := ?_) ?_ ?_
           rotate_left
           ·show Act.put _ (some 89) _ = _
            exact putq
           refine p_ 14 (some 75) ?_
           refine p_ 15 (some 90) ?_
           refine p_ 16 (some 91) ?_
           refine p_ 17 (some 92) ?_
           refine p_ 18 (some 10) ?_
           refine p_ 19 (some 11) ?_
           refine p_ 20 (some 12) ?_
           refine done_ (done_of HT_.out (by kernel_rfl)) ?_
           obtain ⟨HGz40, hgz40⟩ := HI0.out
           have hcz40_0 := cellS74_0 HGz40
           have hcz40_1 := cellS74_1 HGz40
           have hcz40_2 := cellS74_2 HGz40
           have hfz40_0 := blk_frozen HGz40 0
           have hfz40_1 := blk_frozen HGz40 1
           have hfz40_2 := blk_frozen HGz40 2
           clear HGz40 hgz40
           try go_wp2_with (first | ((with_reducible refine gate_callee (f := 69) rfl ?_); refine goesL_ (some 115) rfl rfl Tryd.func69 (by kernel_rfl) rfl #[.pointer (some ⟨g, 0, none⟩), .int .i64 t105, .int .i64 a1] rfl argq ?_; (with_reducible refine (tlv_text_has.calls g t102 t106 t104 t105 a1 false t109 t110 t111 w0 _ ?side1 ?side2 A26.out).mono ?_); (case side1 => repeat (first | (with_reducible first | exact HI0.out | apply IsS74.alloc | apply IsS74.drewN | apply IsS74.drew | apply IsS74.set_0 | apply IsS74.set_1 | apply IsS74.set_2) | exact HI0.out)); (case side2 => repeat (first | (with_reducible first | exact HB.out | apply below_alloc | apply pw_below_drewN | apply below_drew1 | refine below_set ?_ (IsS74.ge HI0.out)) | exact HB.out)); rintro e w41 ⟨rfl, hi, hb, hk⟩; refine ⟨_, rfl, ?_⟩; have n0_ := Aside0.mk (KeepBut.trans q1_ hk (.inl rfl)); have n1_ := Aside0.mk (hb); have n2_ := Aside0.mk (hi); clear HK; clear HB; clear HI0; have HK := n0_; have HB := n1_; have HI0 := n2_; clear n0_ n1_ n2_; (try clear hb); (try clear hb2); (try clear hk); (try clear hi)))
           have n0_ := Aside0.mk (IsS74.drew HI0.out)
           have n1_ := Aside0.mk (keep_drew HK.out)
           have n2_ := Aside0.mk (below_drew1 HB.out)
           clear HI0
           clear HK
           clear HB
           have HI0 := n0_
           have HK := n1_
           have HB := n2_
           clear n0_ n1_ n2_
           refine start_ (n := 11) (S := fun w' => w'.cell? ⟨g, 0, none⟩ = some (.string t109) ∧ w'.cell? ⟨g, 1, none⟩ = some (.int .i64 t110) ∧ w'.cell? ⟨g, 2, none⟩ = some (.int .i64 t111) ∧ w'.cell? ⟨2, 0, none⟩ = some (GC2 G)) (ds := []) #[false, false, false, false, false, false, false, false, false, false, false] (by kernel_rfl) rfl rfl ⟨(cellS74_0 HI0.out.1), (cellS74_1 HI0.out.1), (cellS74_2 HI0.out.1), (GW.c2 (GW.below hG q3_))⟩ (fun hHeld => ?_); refine with_tabW tlv_reader_head.tab15 tlv_reader_head.bits15 (fun HT_ HW_ => ?_)
           generalize w41.drew = w42 at HI0 HK HB hHeld ⊢
           refine p_ 0 (some 117) ?_
           refine p_ 1 (some 118) ?_
           refine p_ 2 (some 119) ?_
           refine p_ 3 (some 120) ?_
           refine p_ 8 (some 6) ?_
           refine p_ 9 (some 7) ?_
           refine t1_ 4 (some 121) ?_
           refine t1_ 5 (some 122) ?_
           refine p_ 6 (some 123) ?_
           refine p_ 7 (some 124) ?_
           refine p_ 10 (some 8) ?_
           refine done_ (done_of HT_.out (by kernel_rfl)) ?_
           try go_wp2
           go_ret3
           exact ⟨q2_, q5_, q3_, q1_⟩
         ·rw [if_neg c25] at H
          have c25b0 : (t107 == 0) = false := beq_eq_false_iff_ne.mpr c25
          have c25b1 : (t107 != 0) = true := bne_iff_ne.mpr c25
          simp only [Option.some.injEq, Prod.mk.injEq] at H
          obtain ⟨rfl, rfl, rfl, rfl, rfl, rfl⟩ := H
          obtain ⟨HGz43, hgz43⟩ := HI0.out
          have hcz43_0 := cellS74_0 HGz43
          have hcz43_1 := cellS74_1 HGz43
          have hcz43_2 := cellS74_2 HGz43
          have hfz43_0 := blk_frozen HGz43 0
          have hfz43_1 := blk_frozen HGz43 1
          have hfz43_2 := blk_frozen HGz43 2
          clear HGz43 hgz43
          go_enter Tryd.func59, Tryd.ntmps59
          try go_wp2_with (first | ((with_reducible refine gate_callee (f := 69) rfl ?_); refine goesL_ (some 34) rfl rfl Tryd.func69 (by kernel_rfl) rfl #[.pointer (some ⟨g, 0, none⟩), .int .i64 1, .int .i64 a1] rfl argq ?_; (with_reducible refine (tlv_text_has.calls g s0_0 s0_1 (wrap64 (s0_2 + 1)) 1 a1 true t102 t103 t104 w0 _ ?side1 ?side2 A12.out).mono ?_); (case side1 => repeat (first | (with_reducible first | exact HI0.out | apply IsS74.alloc | apply IsS74.drewN | apply IsS74.drew | apply IsS74.set_0 | apply IsS74.set_1 | apply IsS74.set_2) | exact HI0.out)); (case side2 => repeat (first | (with_reducible first | exact HB.out | apply below_alloc | apply pw_below_drewN | apply below_drew1 | refine below_set ?_ (IsS74.ge HI0.out)) | exact HB.out)); rintro e w44 ⟨rfl, hi, hb, hk⟩; refine ⟨_, rfl, ?_⟩; have n0_ := Aside0.mk (KeepBut.trans q1_ hk (.inl rfl)); have n1_ := Aside0.mk (hb); have n2_ := Aside0.mk (hi); clear HK; clear HB; clear HI0; have HK := n0_; have HB := n1_; have HI0 := n2_; clear n0_ n1_ n2_; (try clear hb); (try clear hb2); (try clear hk); (try clear hi)))
          have n0_ := Aside0.mk (IsS74.drew HI0.out)
          have n1_ := Aside0.mk (keep_drew HK.out)
          have n2_ := Aside0.mk (below_drew1 HB.out)
          clear HI0
          clear HK
          clear HB
          have HI0 := n0_
          have HK := n1_
          have HB := n2_
          clear n0_ n1_ n2_
          have p16 : 0 ≤ (t103 : Int) := of_decide_eq_true q7_
          have q16 : t103 < (t102.size : Int) := of_decide_eq_true q7_
          have hx16 := bt_at t102 t103
          replace p16 := eq_true p16
          replace q16 := eq_true q16
          refine start_ (n := 13) (S := fun w' => w'.cell? ⟨g, 0, none⟩ = some (.string t102) ∧ w'.cell? ⟨g, 1, none⟩ = some (.int .i64 t103) ∧ w'.cell? ⟨g, 2, none⟩ = some (.int .i64 t104)) (ds := []) #[false, false, false, false, false, false, false, false, false, false, false, false, false] (by kernel_rfl) rfl rfl ⟨(cellS74_0 HI0.out.1), (cellS74_1 HI0.out.1), (cellS74_2 HI0.out.1)⟩ (fun hHeld => ?_); refine with_tabW tlv_reader_head.tab7 tlv_reader_head.bits7 (fun HT_ HW_ => ?_)
          generalize w44.drew = w45 at HI0 HK HB hHeld ⊢
          refine p_ 0 (some 52) ?_
          refine p_ 1 (some 53) ?_
          refine p_ 2 (some 54) ?_
          refine p_ 3 (some 55) ?_
          refine p_ 5 (some 57) ?_
          refine p_ 6 (some 58) ?_
          refine p_ 7 (some 59) ?_
          refine p_ 8 (some 60) ?_
          refine t0_ 4 (some 56) ?_
          refine t0_ 9 (some 61) ?_
          refine t0_ 10 (some 62) ?_
          refine p_ 11 (some 63) ?_
          refine p_ 12 (some 9) ?_
          refine done_ (done_of HT_.out (by kernel_rfl)) ?_
          try go_wp2
          have n0_ := Aside0.mk (IsS74.drew HI0.out)
          have n1_ := Aside0.mk (keep_drew HK.out)
          have n2_ := Aside0.mk (below_drew1 HB.out)
          clear HI0
          clear HK
          clear HB
          have HI0 := n0_
          have HK := n1_
          have HB := n2_
          clear n0_ n1_ n2_
          refine start_ (n := 21) (S := fun w' => w'.cell? ⟨g, 0, none⟩ = some (.string t102) ∧ w'.cell? ⟨g, 1, none⟩ = some (.int .i64 t103) ∧ w'.cell? ⟨g, 2, none⟩ = some (.int .i64 t104)) (ds := []) #[false, false, false, false, false, false, false, false, false, false, false, false, false, false, false, false, false, false, false, false, false] (by kernel_rfl) rfl rfl ⟨(cellS74_0 HI0.out.1), (cellS74_1 HI0.out.1), (cellS74_2 HI0.out.1)⟩ (fun hHeld => ?_); refine with_tabW tlv_reader_head.tab10 tlv_reader_head.bits10 (fun HT_ HW_ => ?_)
          generalize w45.drew = w46 at HI0 HK HB hHeld ⊢
          refine p_ 0 (some 76) ?_
          refine p_ 1 (some 77) ?_
          refine p_ 2 (some 78) ?_
          refine p_ 3 (some 79) ?_
          refine p_ 5 (some 81) ?_
          refine p_ 7 (some 83) ?_
          refine p_ 8 (some 84) ?_
          refine p_ 9 (some 85) ?_
          refine p_ 10 (some 86) ?_
          refine t0_ 4 (some 80) ?_
          refine p_ 6 (some 82) ?_
          refine t0_ 11 (some 87) ?_
          refine p_ 12 (some 88) ?_
          refine one_ (i := 13) (N := some 89) #[true, true, true, true, true, true, true, true, true, true, true, true, true, true, false, false, false, false, false, false, false] rfl rfl (one_of HT_.out (by kernel_rfl)) (by decide) (fun K hK => ?_)
          refine goes_ Tryd.func70 (by kernel_rfl) rfl #[.string (t102.extract 0 (a1 : Int).toNat), .int .i64 (wrap64 (t103 + 1))] (by rfl) rfl rfl argq ?_
          with_reducible refine (size_Decode.calls (G := G) (t102.extract 0 (a1 : Int).toNat) (wrap64 (t103 + 1)) t105 t106 t107 _ ?side1 A24.out).mono ?_
          (case side1 => first | exact hG | exact GW.below hG q3_)
          rintro e w47 ⟨rfl, hb⟩
          refine ⟨_, rfl, ?_⟩
          have n0_ := Aside0.mk (IsS74.below q5_ hb)
          have n1_ := Aside0.mk (KeepBut.trans q1_ (KeepBut.of_below hb g none) (.inl rfl))
          have n2_ := Aside0.mk (below_step q3_ hb)
          clear HI0
          clear HK
          clear HB
          have HI0 := n0_
          have HK := n1_
          have HB := n2_
          clear n0_ n1_ n2_
          (try clear hb)
          (try clear hb2)
          (try clear hk)
          (try clear hi)
          refine hK.out _ _ ⟨(cellS74_0 HI0.out.1), (cellS74_1 HI0.out.1), (cellS74_2 HI0.out.1)⟩ (fun hHeld => ?_)
          clear hK K
          refine norm_ (a' := ?_) ?_ ?_
          rotate_left
          ·show Act.put _ (some 89) _ = _
           exact putq
          refine p_ 14 (some 75) ?_
          refine p_ 15 (some 90) ?_
          refine p_ 16 (some 91) ?_
          refine p_ 17 (some 92) ?_
          refine p_ 18 (some 10) ?_
          refine p_ 19 (some 11) ?_
          refine p_ 20 (some 12) ?_
          refine done_ (done_of HT_.out (by kernel_rfl)) ?_
          try go_wp2
          have n0_ := Aside0.mk (IsS74.drew HI0.out)
          have n1_ := Aside0.mk (keep_drew HK.out)
          have n2_ := Aside0.mk (below_drew1 HB.out)
          clear HI0
          clear HK
          clear HB
          have HI0 := n0_
          have HK := n1_
          have HB := n2_
          clear n0_ n1_ n2_
          refine start_ (n := 13) (S := fun w' => w'.cell? ⟨g, 0, none⟩ = some (.string t102) ∧ w'.cell? ⟨g, 1, none⟩ = some (.int .i64 t103) ∧ w'.cell? ⟨g, 2, none⟩ = some (.int .i64 t104)) (ds := []) #[false, false, false, false, false, false, false, false, false, false, false, false, false] (by kernel_rfl) rfl rfl ⟨(cellS74_0 HI0.out.1), (cellS74_1 HI0.out.1), (cellS74_2 HI0.out.1)⟩ (fun hHeld => ?_); refine with_tabW tlv_reader_head.tab12 tlv_reader_head.bits12 (fun HT_ HW_ => ?_)
          generalize w47.drew = w48 at HI0 HK HB hHeld ⊢
          refine p_ 0 (some 95) ?_
          refine p_ 1 (some 96) ?_
          refine p_ 2 (some 97) ?_
          refine p_ 3 (some 98) ?_
          refine p_ 5 (some 100) ?_
          refine p_ 6 (some 101) ?_
          refine p_ 7 (some 102) ?_
          refine p_ 10 (some 6) ?_
          refine p_ 11 (some 7) ?_
          refine t0_ 4 (some 99) ?_
          refine p_ 8 (some 103) ?_
          refine p_ 9 (some 104) ?_
          refine p_ 12 (some 8) ?_
          refine done_ (done_of HT_.out (by kernel_rfl)) ?_
          try go_wp2
          go_ret3
          exact ⟨q2_, q5_, q3_, q1_⟩
        ·rw [if_neg c23] at H
         exact absurd H (by simp)
       ·rw [if_neg c22] at H
        exact absurd H (by simp)
     ·rw [if_neg c15] at H
      exact absurd H (by simp)
    ·rw [if_neg c14] at H
     exact absurd H (by simp)
   ·replace c13 := Bool.eq_false_iff.mpr c13
    subst c13
    have H1 : (some (0, 0, some (Er.short t103), t102, t103, t104)) = some (r1, r2, r3, r4, r5, r6) := by rw [if_neg (show ¬ (false = true) by decide)] at H; exact H
    clear H
    have H := H1
    clear H1
    simp only [Option.some.injEq, Prod.mk.injEq] at H
    obtain ⟨rfl, rfl, rfl, rfl, rfl, rfl⟩ := H
    obtain ⟨HGz49, hgz49⟩ := HI0.out
    have hcz49_0 := cellS74_0 HGz49
    have hcz49_1 := cellS74_1 HGz49
    have hcz49_2 := cellS74_2 HGz49
    have hfz49_0 := blk_frozen HGz49 0
    have hfz49_1 := blk_frozen HGz49 1
    have hfz49_2 := blk_frozen HGz49 2
    clear HGz49 hgz49
    go_enter Tryd.func59, Tryd.ntmps59
    try go_wp2_with (first | ((with_reducible refine gate_callee (f := 69) rfl ?_); refine goesL_ (some 34) rfl rfl Tryd.func69 (by kernel_rfl) rfl #[.pointer (some ⟨g, 0, none⟩), .int .i64 1, .int .i64 a1] rfl argq ?_; (with_reducible refine (tlv_text_has.calls g s0_0 s0_1 (wrap64 (s0_2 + 1)) 1 a1 false t102 t103 t104 w0 _ ?side1 ?side2 A12.out).mono ?_); (case side1 => repeat (first | (with_reducible first | exact HI0.out | apply IsS74.alloc | apply IsS74.drewN | apply IsS74.drew | apply IsS74.set_0 | apply IsS74.set_1 | apply IsS74.set_2) | exact HI0.out)); (case side2 => repeat (first | (with_reducible first | exact HB.out | apply below_alloc | apply pw_below_drewN | apply below_drew1 | refine below_set ?_ (IsS74.ge HI0.out)) | exact HB.out)); rintro e w50 ⟨rfl, hi, hb, hk⟩; refine ⟨_, rfl, ?_⟩; have n0_ := Aside0.mk (KeepBut.trans q1_ hk (.inl rfl)); have n1_ := Aside0.mk (hb); have n2_ := Aside0.mk (hi); clear HK; clear HB; clear HI0; have HK := n0_; have HB := n1_; have HI0 := n2_; clear n0_ n1_ n2_; (try clear hb); (try clear hb2); (try clear hk); (try clear hi)))
    have n0_ := Aside0.mk (IsS74.drew HI0.out)
    have n1_ := Aside0.mk (keep_drew HK.out)
    have n2_ := Aside0.mk (below_drew1 HB.out)
    clear HI0
    clear HK
    clear HB
    have HI0 := n0_
    have HK := n1_
    have HB := n2_
    clear n0_ n1_ n2_
    refine start_ (n := 11) (S := fun w' => w'.cell? ⟨g, 0, none⟩ = some (.string t102) ∧ w'.cell? ⟨g, 1, none⟩ = some (.int .i64 t103) ∧ w'.cell? ⟨g, 2, none⟩ = some (.int .i64 t104) ∧ w'.cell? ⟨2, 0, none⟩ = some (GC2 G)) (ds := []) #[false, false, false, false, false, false, false, false, false, false, false] (by kernel_rfl) rfl rfl ⟨(cellS74_0 HI0.out.1), (cellS74_1 HI0.out.1), (cellS74_2 HI0.out.1), (GW.c2 (GW.below hG q3_))⟩ (fun hHeld => ?_); refine with_tabW tlv_reader_head.tab6 tlv_reader_head.bits6 (fun HT_ HW_ => ?_)
    generalize w50.drew = w51 at HI0 HK HB hHeld ⊢
    refine p_ 0 (some 44) ?_
    refine p_ 1 (some 45) ?_
    refine p_ 2 (some 46) ?_
    refine p_ 3 (some 47) ?_
    refine p_ 8 (some 6) ?_
    refine p_ 9 (some 7) ?_
    refine t1_ 4 (some 48) ?_
    refine t1_ 5 (some 49) ?_
    refine p_ 6 (some 50) ?_
    refine p_ 7 (some 51) ?_
    refine p_ 10 (some 8) ?_
    refine done_ (done_of HT_.out (by kernel_rfl)) ?_
    try go_wp2
    go_ret3
    exact ⟨q2_, q5_, q3_, q1_⟩
end Go.Proofs.YthnddhgkjkpmfaaDoor.LTlvC
