/- A second law for 'for x := range f { .. }' of this repo's own: the loop's side holds a set U of blocks that may grow from round to round; the iterator turns no block of U, the loop's body turns blocks of U alone, and new ones; neither turns a block of Rd. -/
import Derived.Test.YtkjmabehphgmkaaDoorIter
namespace Go.Proofs.YtkjmabehphgmkaaDoor
set_option linter.unusedSimpArgs false
set_option linter.unusedVariables false
open Go.RowKit

/-- A second change whose blocks, as far as they lay at the begin, are S's. -/
theorem Chg.trans' {S T : Nat → Prop} {A B C : World} (h : Chg S A B) (k : Chg T B C) (hT : ∀ j, j < A.heap.size → T j → S j) : Chg S A C :=
  ⟨k.os.trans h.os, k.tape.trans h.tape, k.output.trans h.output, Nat.le_trans h.size k.size, fun i hi hs => (k.block i (Nat.lt_of_lt_of_le hi h.size) (fun e => hs (hT i hi e))).trans (h.block i hi hs)⟩

/-- From A to B the loop's side turned blocks of U alone; U' holds what it holds now. -/
structure UStep (U : Nat → Prop) (A : World) (U' : Nat → Prop) (B : World) : Prop where
  old : ∀ j, U' j → U j ∨ A.heap.size ≤ j
  lt : ∀ j, U' j → j < B.heap.size
  chg : Chg U A B
theorem UStep.same {U : Nat → Prop} {A B : World} (hU : ∀ j, U j → j < A.heap.size) (h : Chg U A B) : UStep U A U B := ⟨fun _ h => .inl h, fun j hj => Nat.lt_of_lt_of_le (hU j hj) h.size, h⟩
theorem UStep.trans {U U' U'' : Nat → Prop} {A B C : World} (h : UStep U A U' B) (k : UStep U' B U'' C) : UStep U A U'' C :=
  ⟨fun j hj => by
      rcases k.old j hj with h1 | h1
      · exact h.old j h1
      · exact .inr (Nat.le_trans h.chg.size h1),
    k.lt, ⟨k.chg.os.trans h.chg.os, k.chg.tape.trans h.chg.tape, k.chg.output.trans h.chg.output, Nat.le_trans h.chg.size k.chg.size, fun i hi hs => (k.chg.block i (Nat.lt_of_lt_of_le hi h.chg.size) (fun h' => by
      rcases h.old i h' with h2 | h2
      · exact hs h2
      · omega)).trans (h.chg.block i hi hs)⟩⟩

/-- The contract of an iterator that goes through xs; W0: what it asks at its begin of the loop's blocks and of the world; E: what holds behind it, if it came to its end. -/
def IterD {α : Type} (F : Fence) (n : Nat) (P : Program) (g : Nat) (lb : Array Value) (encs : α → Array Value) (xs : List α) (Rd : Nat → Prop) (W0 : (Nat → Prop) → World → Prop) (E : World → Prop) : Prop :=
  ∀ (l : Nat) (J Jx : Nat → (Nat → Prop) → World → Prop) (U0 : Nat → Prop) (W : World), W0 U0 W → (∀ j, U0 j → j < W.heap.size ∧ ¬ Rd j) → (∀ j, Rd j → j < W.heap.size) →
    (∀ k U A B, J k U A → Chg (fun j => ¬ U j ∧ ¬ Rd j) A B → J k U B) → (∀ k U A B, Jx k U A → Chg (fun j => ¬ U j ∧ ¬ Rd j) A B → Jx k U B) →
    (∀ k x U A, xs[k]? = some x → (∀ j, U j → j < A.heap.size ∧ ¬ Rd j) → J k U A → YieldAt F (n - 1) P l (encs x) A fun e B =>
      (e = .returned (.bool true) ∧ ∃ U', UStep U A U' B ∧ J (k + 1) U' B) ∨ (e = .returned (.bool false) ∧ ∃ U', UStep U A U' B ∧ Jx (k + 1) U' B)) →
    J 0 U0 W →
    CallsIn F n P g (#[.func (.yield l) #[] #[]] ++ lb) W fun e B => (∃ v, e = .returned v) ∧ W.heap.size ≤ B.heap.size ∧ ((∃ U, (∀ j, U j → j < B.heap.size ∧ ¬ Rd j) ∧ J xs.length U B ∧ E B) ∨ ∃ k, k ≤ xs.length ∧ ∃ U, (∀ j, U j → j < B.heap.size ∧ ¬ Rd j) ∧ Jx k U B)

/-- The loop's own two blocks. -/
def LZ (z : Nat) (k : Nat) : Prop := k = z ∨ k = z + 1
/-- How a round's body may be left. -/
def itPostD (I : Nat → (Nat → Prop) → World → Prop) (Ix : Code → Nat → (Nat → Prop) → World → Prop) (U : Nat → Prop) (k : Nat) (A : World) : Exit → Act → World → Prop
  | .normal, _, B => ∃ U', UStep U A U' B ∧ I k U' B
  | .ret, _, B => ∃ U', UStep U A U' B ∧ Ix .ret k U' B
  | .exit id, _, B => ∃ U', UStep U A U' B ∧ Ix (.exit id) k U' B
  | .goto t, _, B => ∃ U', UStep U A U' B ∧ Ix (.goto t) k U' B
  | .panic _, _, _ => False
  | .outgrown, _, _ => False

variable {F : Fence} {n : Nat} {P : Program}

theorem wpIn_range_itD {α : Type} {g : Operand} {ps : Array Tmp} {assign body : Code} {Q : Exit → Act → World → Prop} {a : Act} {w : World}
    (hro : F.round = none) (h1 : 1 ≤ n) {gf : Nat} {lb : Array Value} (hg : a.eval g = .func (.func gf) #[] lb) (hFg : F.fn gf) (eg : ∀ args w, (callFunc gf args).run P w = .ok (.enter gf args) w)
    {encs : α → Array Value} {xs : List α} {Rd : Nat → Prop} {W0 : (Nat → Prop) → World → Prop} {E : World → Prop} (hit : IterD F (n - 1) P gf lb encs xs Rd W0 E) (hRd : ∀ j, Rd j → j < w.heap.size)
    (U0 : Nat → Prop) (hU0 : ∀ j, U0 j → j < w.heap.size ∧ ¬ Rd j)
    (hW0 : ∀ W, Chg (fun _ => False) w W → W.heap.size = w.heap.size + 2 → W0 (fun j => U0 j ∨ LZ w.heap.size j) W) (hps : ∀ x, (encs x).size = ps.size)
    (I : Nat → (Nat → Prop) → World → Prop) (Ix : Code → Nat → (Nat → Prop) → World → Prop)
    (hI : ∀ k U A B, I k U A → w.heap.size + 2 ≤ B.heap.size → Chg (fun j => ¬ U j ∧ ¬ Rd j) A B → I k U B) (hIx : ∀ c k U A B, Ix c k U A → Chg (fun j => ¬ U j ∧ ¬ Rd j) A B → Ix c k U B)
    (hE : ∀ A B, E A → Chg (LZ w.heap.size) A B → E B) (h0 : I 0 U0 w)
    (Ax : α → Act → World → Prop) (hAx : ∀ x a' A B, Ax x a' A → Chg (LZ w.heap.size) A B → Ax x a' B)
    (hassign : ∀ (l k : Nat) (x : α) (U : Nat → Prop) (A : World) (K : Act → World → Prop), xs[k]? = some x → I k U A → (∀ j, U j → j < A.heap.size ∧ ¬ Rd j) → w.heap.size + 2 ≤ A.heap.size →
      (∀ a' U1 B, UStep U A U1 B → I k U1 B → Ax x a' B → K a' B) →
      assign.wpIn (F.inRound l) (n - 1 - 1) P (Exit.then K (fun _ _ _ => False)) { tmps := (ps.zip (encs x)).foldl (fun t (p, v) => t.setIfInBounds p v) a.tmps, defers := [] } A)
    (hbody : ∀ (k : Nat) (x : α) (U : Nat → Prop) (a' : Act) (A : World), (∃ r, A.heap[w.heap.size + 1]? = some (.loop r)) → xs[k]? = some x → I k U A → (∀ j, U j → j < A.heap.size ∧ ¬ Rd j) → w.heap.size + 2 ≤ A.heap.size → Ax x a' A →
      body.wpIn (F.inRound (w.heap.size + 1)) (n - 1 - 1) P (itPostD I Ix U (k + 1) A) a' A)
    (hdone : ∀ (U : Nat → Prop) (B : World), I xs.length U B → E B → (∀ j, U j → j < B.heap.size ∧ ¬ Rd j) → w.heap.size + 2 ≤ B.heap.size → B.heap[w.heap.size]? = some (.deferred (some [])) → Q .normal { a with defers := { target := .collected w.heap.size, args := #[] } :: a.defers } B)
    (hstop : ∀ (c : Code) (k : Nat) (U : Nat → Prop) (B : World), k ≤ xs.length → Ix c k U B → (∀ j, U j → j < B.heap.size ∧ ¬ Rd j) → w.heap.size + 2 ≤ B.heap.size → B.heap[w.heap.size]? = some (.deferred (some [])) → c.wpIn F n P Q { a with defers := { target := .collected w.heap.size, args := #[] } :: a.defers } B) :
    (Code.rangeFunc g ps assign body).wpIn F n P Q a w := by
  refine wpIn_rangeFunc ?_
  intro fn hfn
  rw [hro]
  obtain ⟨rec, hrec⟩ : ∃ rec : LoopState → Option Code → Loop, rec = fun st pe => { state := st, pending := pe, fn, tmps := a.tmps, params := ps, assign, body, defers := w.heap.size } := ⟨_, rfl⟩
  obtain ⟨W1, hW1⟩ : ∃ W1, (w.alloc (.deferred (some []))).alloc (.loop (rec .ready none)) = W1 := ⟨_, rfl⟩
  have hs1 : W1.heap.size = w.heap.size + 2 := by rw [← hW1]; simp
  have hL1 : W1.heap[w.heap.size + 1]? = some (.loop (rec .ready none)) := by
    rw [← hW1]; have := World.alloc_heap_new (w.alloc (.deferred (some []))) (.loop (rec .ready none)); rwa [World.size_alloc] at this
  have hK1 : W1.heap[w.heap.size]? = some (.deferred (some [])) := by
    rw [← hW1]; exact (Below.heap_alloc _ _ _ (by simp)).trans (World.alloc_heap_new w _)
  have hC1 : ∀ S, Chg S w W1 := fun S => by rw [← hW1]; exact ((Chg.refl S w).alloc _).alloc _
  obtain ⟨z, hz⟩ : ∃ z, w.heap.size = z := ⟨_, rfl⟩
  have hI1 : I 0 U0 W1 := hI _ _ _ _ h0 (by omega) (hC1 _)
  -- what the loop hands to the iterator: U and the loop's own blocks
  obtain ⟨UL, hUL⟩ : ∃ UL : (Nat → Prop) → Nat → Prop, UL = fun U j => U j ∨ LZ z j := ⟨_, rfl⟩
  have ulz : ∀ U, UL U z := fun U => by rw [hUL]; exact .inr (.inl rfl)
  have ulz1 : ∀ U, UL U (z + 1) := fun U => by rw [hUL]; exact .inr (.inr rfl)
  have ulU : ∀ U j, U j → UL U j := fun U j h => by rw [hUL]; exact .inl h
  -- a change of the iterator's leaves U alone, and the loop's blocks
  have jI : ∀ {U A B}, Chg (fun j => ¬ UL U j ∧ ¬ Rd j) A B → Chg (fun j => ¬ U j ∧ ¬ Rd j) A B := fun h => h.mono (fun k hk => ⟨fun hS => hk.1 (ulU _ _ hS), hk.2⟩)
  have jR : ∀ j, LZ z j → ¬ Rd j := fun j hj hr => by
    have := hRd j hr
    rcases hj with hj | hj <;> omega
  have jZ : ∀ {U : Nat → Prop} {A B : World}, (∀ j, U j → ¬ LZ z j) → Chg (LZ z) A B → Chg (fun j => ¬ U j ∧ ¬ Rd j) A B := fun hu h => h.mono (fun k hk => ⟨fun hS => hu k hS hk, jR k hk⟩)
  refine ⟨w.heap.size + 1, [{ target := .collected w.heap.size, args := #[] }], W1, { target := .fn (.func gf) lb, args := #[.func (.yield (w.heap.size + 1)) #[] #[]] }, W1, gf,
    #[.func (.yield (w.heap.size + 1)) #[] #[]] ++ lb, W1, ?_, ?_, ?_, ?_, fun _ => h1, ?_⟩
  · rw [← hW1, hrec]; exact run_enterLoop_outer _ _ _ _ _
  · simp only [resolve, hg]
    simp [go_sem]
  · intro f' hf'; simp [Target.leads] at hf'; subst hf'; exact hFg
  · simp [invoke, go_sem, eg]
  · simp only [hz] at *
    refine (hit (z + 1)
      (fun k U W => ∃ U', U = UL U' ∧ (∀ j, U' j → ¬ LZ z j) ∧ z + 2 ≤ W.heap.size ∧ I k U' W ∧ W.heap[z + 1]? = some (.loop (rec .ready none)) ∧ W.heap[z]? = some (.deferred (some [])))
      (fun k U W => ∃ U', U = UL U' ∧ (∀ j, U' j → ¬ LZ z j) ∧ z + 2 ≤ W.heap.size ∧ ∃ c, Ix c k U' W ∧ W.heap[z + 1]? = some (.loop (rec .done (some c))) ∧ W.heap[z]? = some (.deferred (some [])))
      (UL U0) W1 (by rw [hUL]; exact hW0 _ (hC1 _) hs1)
      (fun j hj => by
        rw [hUL] at hj
        rcases hj with hj | hj
        · have := hU0 j hj; exact ⟨by omega, this.2⟩
        · exact ⟨by rcases hj with hj | hj <;> omega, jR j hj⟩)
      (fun j hj => by have := hRd j hj; omega)
      (fun k U A B hs hc => by
        obtain ⟨U', rfl, hu, hsz, hi, hl, hk⟩ := hs
        exact ⟨U', rfl, hu, Nat.le_trans hsz hc.size, hI k U' A B hi (Nat.le_trans hsz hc.size) (jI hc), hc.heap hl (fun h => h.1 (ulz1 _)), hc.heap hk (fun h => h.1 (ulz _))⟩)
      (fun k U A B hs hc => by
        obtain ⟨U', rfl, hu, hsz, c, hx, hl, hk⟩ := hs
        exact ⟨U', rfl, hu, Nat.le_trans hsz hc.size, c, hIx c k U' A B hx (jI hc), hc.heap hl (fun h => h.1 (ulz1 _)), hc.heap hk (fun h => h.1 (ulz _))⟩)
      ?_ ⟨U0, rfl, fun j hj h => by
        have h1' := (hU0 j hj).1
        rcases h with h | h <;> omega, by omega, hI1, hL1, hK1⟩).mono ?_
    · rintro k x U W hx hUlt ⟨U, rfl, hu, hsz, hi, hl, hk⟩
      have hUl : ∀ j, U j → j < W.heap.size ∧ ¬ Rd j := fun j hj => hUlt j (ulU _ _ hj)
      have hy := run_yield (P := P) (args := encs x) hl (by rw [hrec]; exact hps x)
      rw [hrec] at hy
      refine ⟨fn, _, assign, body, hy, roundIn_of_wpIn hfn (hassign _ k x U W _ hx hi hUl hsz ?_)⟩
      clear hy
      intro a' U1 Wa hca hia hax
      have hnz : ¬ U z := fun h => hu _ h (.inl rfl)
      have hnz1 : ¬ U (z + 1) := fun h => hu _ h (.inr rfl)
      have hl' := hca.chg.heap hl hnz1
      have hk' := hca.chg.heap hk hnz
      have hlt : z + 1 < Wa.heap.size := (Array.getElem?_eq_some_iff.1 hl').1
      have hu1 : ∀ j, U1 j → ¬ LZ z j := fun j hj h => by
        rcases hca.old j hj with h2 | h2
        · exact hu j h2 h
        · rcases h with h | h <;> omega
      refine ⟨_, run_beginRound hl' (by rw [hrec]), ?_⟩
      obtain ⟨W2, hW2⟩ : ∃ W2, Wa.putObj (z + 1) (.loop { rec .ready none with state := .busy }) = W2 := ⟨_, rfl⟩
      have hl2 : W2.heap[z + 1]? = some (.loop { rec .ready none with state := .busy }) := by rw [← hW2]; exact World.putObj_heap_same hlt
      have hk2 : W2.heap[z]? = some (.deferred (some [])) := by rw [← hW2]; exact (World.putObj_heap_other (by omega)).trans hk'
      have hc2 : Chg (LZ z) Wa W2 := by rw [← hW2]; exact (Chg.refl _ _).putObj (.inr rfl) _
      have hs2 : Wa.heap.size = W2.heap.size := by rw [← hW2]; simp
      have hsa := hca.chg.size
      rw [hW2]
      have hlt1 : ∀ j, U1 j → j < W2.heap.size ∧ ¬ Rd j := fun j hj => ⟨by have := hca.lt j hj; omega, fun hr => by
        rcases hca.old j hj with h2 | h2
        · exact (hUl j h2).2 hr
        · have := hRd j hr; omega⟩
      refine wpIn_mono (hbody k x U1 a' _ ⟨_, hl2⟩ hx (hI _ _ _ _ hia (by omega) (jZ hu1 hc2)) hlt1 (by omega) (hAx x a' _ _ hax hc2)) ?_
      have fin : ∀ (jump : Option Code) (U3 : Nat → Prop) (W3 : World), UStep U1 W2 U3 W3 →
          (Instr.endRound (z + 1) jump).run P W3 = .ok (.bool jump.isNone) (W3.putObj (z + 1) (.loop (rec (if jump.isNone then .ready else .done) jump))) ∧
          (W3.putObj (z + 1) (.loop (rec (if jump.isNone then .ready else .done) jump))).heap[z + 1]? = some (.loop (rec (if jump.isNone then .ready else .done) jump)) ∧
          (W3.putObj (z + 1) (.loop (rec (if jump.isNone then .ready else .done) jump))).heap[z]? = some (.deferred (some [])) ∧
          Chg (LZ z) W3 (W3.putObj (z + 1) (.loop (rec (if jump.isNone then .ready else .done) jump))) ∧ (∀ j, U3 j → ¬ LZ z j) ∧
          UStep (UL U) W (UL U3) (W3.putObj (z + 1) (.loop (rec (if jump.isNone then .ready else .done) jump))) ∧ z + 2 ≤ (W3.putObj (z + 1) (.loop (rec (if jump.isNone then .ready else .done) jump))).heap.size := fun jump U3 W3 hk3 => by
        have hl3 := hk3.chg.heap hl2 (fun h => hu1 _ h (.inr rfl))
        have := run_endRound (P := P) jump hl3
        rw [hrec] at this ⊢
        have hs3 := hk3.chg.size
        have hps : ∀ (o : Obj), (W3.putObj (z + 1) o).heap.size = W3.heap.size := fun o => by simp
        have cz : ∀ (o : Obj), Chg (LZ z) W3 (W3.putObj (z + 1) o) := fun o => (Chg.refl _ _).putObj (.inr rfl) _
        have hu3 : ∀ j, U3 j → ¬ LZ z j := fun j hj h => by
          rcases hk3.old j hj with h2 | h2
          · exact hu1 j h2 h
          · rcases h with h | h <;> omega
        refine ⟨this, World.putObj_heap_same (Array.getElem?_eq_some_iff.1 hl3).1, (World.putObj_heap_other (by omega)).trans (hk3.chg.heap hk2 (fun h => hu1 _ h (.inl rfl))), cz _, hu3, ⟨fun j hj => ?_, fun j hj => ?_, ?_⟩, by rw [hps]; omega⟩
        · rw [hUL] at hj ⊢
          rcases hj with hj | hj
          · rcases hk3.old j hj with h2 | h2
            · rcases hca.old j h2 with h4 | h4
              · exact .inl (.inl h4)
              · exact .inr h4
            · right; omega
          · exact .inl (.inr hj)
        · rw [hps]
          rw [hUL] at hj
          rcases hj with hj | hj | hj
          · exact hk3.lt j hj
          · omega
          · omega
        · have c1 : Chg (UL U) W Wa := hca.chg.mono (ulU _)
          have c2 : Chg (UL U) Wa W2 := hc2.mono (fun j h => by rw [hUL]; exact .inr h)
          have c3 : Chg (UL U) W W3 := (c1.trans c2).trans' hk3.chg (fun j hj hU => by
            rcases hca.old j hU with h4 | h4
            · exact ulU _ _ h4
            · omega)
          exact c3.trans ((cz _).mono (fun j h => by rw [hUL]; exact .inr h))
      rintro e a3 W3 hp
      cases e with
      | normal =>
        obtain ⟨U3, hk3, hi3⟩ := hp
        obtain ⟨hr, hl4, hk4, hc4, hu3, hst, hs4⟩ := fin none U3 W3 hk3
        exact ⟨_, _, hr, .inl ⟨rfl, _, hst, U3, rfl, hu3, hs4, hI _ _ _ _ hi3 hs4 (jZ hu3 hc4), hl4, hk4⟩⟩
      | ret =>
        obtain ⟨U3, hk3, hi3⟩ := hp
        obtain ⟨hr, hl4, hk4, hc4, hu3, hst, hs4⟩ := fin (some .ret) U3 W3 hk3
        exact ⟨_, _, hr, .inr ⟨rfl, _, hst, U3, rfl, hu3, hs4, .ret, hIx _ _ _ _ _ hi3 (jZ hu3 hc4), hl4, hk4⟩⟩
      | exit id =>
        obtain ⟨U3, hk3, hi3⟩ := hp
        obtain ⟨hr, hl4, hk4, hc4, hu3, hst, hs4⟩ := fin (some (.exit id)) U3 W3 hk3
        exact ⟨_, _, hr, .inr ⟨rfl, _, hst, U3, rfl, hu3, hs4, .exit id, hIx _ _ _ _ _ hi3 (jZ hu3 hc4), hl4, hk4⟩⟩
      | goto t =>
        obtain ⟨U3, hk3, hi3⟩ := hp
        obtain ⟨hr, hl4, hk4, hc4, hu3, hst, hs4⟩ := fin (some (.goto t)) U3 W3 hk3
        exact ⟨_, _, hr, .inr ⟨rfl, _, hst, U3, rfl, hu3, hs4, .goto t, hIx _ _ _ _ _ hi3 (jZ hu3 hc4), hl4, hk4⟩⟩
      | panic ch => exact hp.elim
      | outgrown => exact hp.elim
    · rintro e W2 ⟨⟨v, rfl⟩, hs2, (⟨U, hlt, ⟨U, rfl, hu, hsz, hi, hl, hk⟩, hE2⟩ | ⟨k, hkle, U, hlt, U, rfl, hu, hsz, c, hi, hl, hk⟩)⟩
      · have cz : ∀ o, Chg (LZ z) W2 (W2.putObj (z + 1) o) := fun o => (Chg.refl _ _).putObj (.inr rfl) _
        have hps : ∀ (o : Obj), (W2.putObj (z + 1) o).heap.size = W2.heap.size := fun o => by simp
        exact ⟨none, _, by have := run_endLoop (P := P) hl (by rw [hrec]; simp); rw [hrec] at this; exact this,
          hdone U _ (hI _ _ _ _ hi (by rw [hps]; exact hsz) (jZ hu (cz _))) (hE _ _ hE2 (cz _)) (fun j hj => ⟨by rw [hps]; exact (hlt j (ulU _ _ hj)).1, (hlt j (ulU _ _ hj)).2⟩) (by rw [hps]; exact hsz) ((World.putObj_heap_other (by omega)).trans hk)⟩
      · have cz : ∀ o, Chg (LZ z) W2 (W2.putObj (z + 1) o) := fun o => (Chg.refl _ _).putObj (.inr rfl) _
        have hps : ∀ (o : Obj), (W2.putObj (z + 1) o).heap.size = W2.heap.size := fun o => by simp
        exact ⟨some c, _, by have := run_endLoop (P := P) hl (by rw [hrec]; simp); rw [hrec] at this; exact this,
          hstop c k U _ hkle (hIx _ _ _ _ _ hi (jZ hu (cz _))) (fun j hj => ⟨by rw [hps]; exact (hlt j (ulU _ _ hj)).1, (hlt j (ulU _ _ hj)).2⟩) (by rw [hps]; exact hsz) ((World.putObj_heap_other (by omega)).trans hk)⟩

/-- The same where the assignment to the loop's left sides lays nothing. -/
theorem wpIn_range_itD1 {α : Type} {g : Operand} {ps : Array Tmp} {assign body : Code} {Q : Exit → Act → World → Prop} {a : Act} {w : World}
    (hro : F.round = none) (h1 : 1 ≤ n) {gf : Nat} {lb : Array Value} (hg : a.eval g = .func (.func gf) #[] lb) (hFg : F.fn gf) (eg : ∀ args w, (callFunc gf args).run P w = .ok (.enter gf args) w)
    {encs : α → Array Value} {xs : List α} {Rd : Nat → Prop} {W0 : (Nat → Prop) → World → Prop} {E : World → Prop} (hit : IterD F (n - 1) P gf lb encs xs Rd W0 E) (hRd : ∀ j, Rd j → j < w.heap.size)
    (U0 : Nat → Prop) (hU0 : ∀ j, U0 j → j < w.heap.size ∧ ¬ Rd j)
    (hW0 : ∀ W, Chg (fun _ => False) w W → W.heap.size = w.heap.size + 2 → W0 (fun j => U0 j ∨ LZ w.heap.size j) W) (hps : ∀ x, (encs x).size = ps.size)
    (I : Nat → (Nat → Prop) → World → Prop) (Ix : Code → Nat → (Nat → Prop) → World → Prop)
    (hI : ∀ k U A B, I k U A → w.heap.size + 2 ≤ B.heap.size → Chg (fun j => ¬ U j ∧ ¬ Rd j) A B → I k U B) (hIx : ∀ c k U A B, Ix c k U A → Chg (fun j => ¬ U j ∧ ¬ Rd j) A B → Ix c k U B)
    (hE : ∀ A B, E A → Chg (LZ w.heap.size) A B → E B) (h0 : I 0 U0 w) (a₁ : α → Act)
    (hassign : ∀ (l : Nat) (x : α) (A : World) (K : Act → World → Prop), K (a₁ x) A →
      assign.wpIn (F.inRound l) (n - 1 - 1) P (Exit.then K (fun _ _ _ => False)) { tmps := (ps.zip (encs x)).foldl (fun t (p, v) => t.setIfInBounds p v) a.tmps, defers := [] } A)
    (hbody : ∀ (k : Nat) (x : α) (U : Nat → Prop) (A : World), (∃ r, A.heap[w.heap.size + 1]? = some (.loop r)) → xs[k]? = some x → I k U A → (∀ j, U j → j < A.heap.size ∧ ¬ Rd j) → w.heap.size + 2 ≤ A.heap.size →
      body.wpIn (F.inRound (w.heap.size + 1)) (n - 1 - 1) P (itPostD I Ix U (k + 1) A) (a₁ x) A)
    (hdone : ∀ (U : Nat → Prop) (B : World), I xs.length U B → E B → (∀ j, U j → j < B.heap.size ∧ ¬ Rd j) → w.heap.size + 2 ≤ B.heap.size → B.heap[w.heap.size]? = some (.deferred (some [])) → Q .normal { a with defers := { target := .collected w.heap.size, args := #[] } :: a.defers } B)
    (hstop : ∀ (c : Code) (k : Nat) (U : Nat → Prop) (B : World), k ≤ xs.length → Ix c k U B → (∀ j, U j → j < B.heap.size ∧ ¬ Rd j) → w.heap.size + 2 ≤ B.heap.size → B.heap[w.heap.size]? = some (.deferred (some [])) → c.wpIn F n P Q { a with defers := { target := .collected w.heap.size, args := #[] } :: a.defers } B) :
    (Code.rangeFunc g ps assign body).wpIn F n P Q a w :=
  wpIn_range_itD hro h1 hg hFg eg hit hRd U0 hU0 hW0 hps I Ix hI hIx hE h0 (fun x a' _ => a' = a₁ x) (fun _ _ _ _ h _ => h)
    (fun l k x U A K _ hi hlt _ hK => hassign l x A K (hK _ _ _ (UStep.same (fun j hj => (hlt j hj).1) (Chg.refl _ _)) hi rfl)) (fun k x U a' A hr hx hi hlt hs ha => by subst ha; exact hbody k x U A hr hx hi hlt hs) hdone hstop
end Go.Proofs.YtkjmabehphgmkaaDoor
