/- A law for 'for x := range f { .. }' of this repo's own: the iterator may keep state of its own in blocks of a set SI that the loop's body leaves alone; the body's blocks are left alone by the iterator. -/
import Derived.Test.YtkjmabehphgmkaaDoorBase
import Derived.RangeFuncNested
import Derived.RangeFuncBound
import Derived.RangeFuncCalls
import Derived.RangeFuncLeaves
import Derived.Shelf.Abstract
import Derived.Shelf.RegionOpen
import Derived.OwnWalkIn
import Derived.TacticsInMore
import Derived.LoopNIn
import Derived.LoopIn
import Derived.Maps.AppendAt
import Derived.RegionTactic
import Derived.LoopTactic
import Derived.Outline
namespace Go.Proofs.YtkjmabehphgmkaaDoor
set_option linter.unusedSimpArgs false
set_option linter.unusedVariables false
open Go.RowKit

/-- From A to B blocks of S alone are turned, and new ones are laid. -/
structure Chg (S : Nat → Prop) (A B : World) : Prop where
  os : B.os = A.os
  tape : B.tape = A.tape
  output : B.output = A.output
  size : A.heap.size ≤ B.heap.size
  block : ∀ k, k < A.heap.size → ¬ S k → B.heap[k]? = A.heap[k]?
theorem Chg.refl (S : Nat → Prop) (A : World) : Chg S A A := ⟨rfl, rfl, rfl, Nat.le_refl _, fun _ _ _ => rfl⟩
theorem Chg.trans {S : Nat → Prop} {A B C : World} (h : Chg S A B) (k : Chg S B C) : Chg S A C :=
  ⟨k.os.trans h.os, k.tape.trans h.tape, k.output.trans h.output, Nat.le_trans h.size k.size, fun i hi hs => (k.block i (Nat.lt_of_lt_of_le hi h.size) hs).trans (h.block i hi hs)⟩
theorem Chg.mono {S T : Nat → Prop} {A B : World} (h : Chg S A B) (hst : ∀ k, S k → T k) : Chg T A B := ⟨h.os, h.tape, h.output, h.size, fun k hk hs => h.block k hk (fun hS => hs (hst k hS))⟩
theorem Chg.alloc {S : Nat → Prop} {A B : World} (h : Chg S A B) (o : Obj) : Chg S A (B.alloc o) :=
  h.trans ⟨rfl, rfl, rfl, by simp, fun k hk _ => Below.heap_alloc _ _ _ hk⟩
theorem Chg.drew {S : Nat → Prop} {A B : World} (h : Chg S A B) : Chg S A B.drew := ⟨h.os, h.tape, h.output, h.size, h.block⟩
theorem Chg.drewN {S : Nat → Prop} {A B : World} (h : Chg S A B) (n : Nat) : Chg S A (B.drewN n) := ⟨h.os, h.tape, h.output, h.size, h.block⟩
theorem Chg.setCell {S : Nat → Prop} {A B : World} (h : Chg S A B) {p : Addr} (hp : S p.block) (v : Value) : Chg S A (B.setCell p v) :=
  h.trans ⟨rfl, rfl, rfl, by simp [World.setCell], fun k _ hs => Below.heap_setCell _ _ _ _ (fun e => hs (e ▸ hp))⟩
/-- A store into a block that came behind A. -/
theorem Chg.setNew {S : Nat → Prop} {A B : World} (h : Chg S A B) {p : Addr} (hp : A.heap.size ≤ p.block) (v : Value) : Chg S A (B.setCell p v) :=
  ⟨h.os, h.tape, h.output, Nat.le_trans h.size (by simp [World.setCell]), fun k hk hs => (Below.heap_setCell _ _ _ _ (fun e => by omega)).trans (h.block k hk hs)⟩
theorem Chg.putObj {S : Nat → Prop} {A B : World} (h : Chg S A B) {l : Nat} (hl : S l) (o : Obj) : Chg S A (B.putObj l o) :=
  h.trans ⟨rfl, rfl, rfl, by simp, fun k _ hs => World.putObj_heap_other (fun e => hs (e ▸ hl))⟩
theorem Chg.below {S : Nat → Prop} {A B : World} (h : Chg S A B) {C : World} {n : Nat} (hb : Below n B C) (hn : ∀ k, k < A.heap.size → ¬ S k → k < n) : Chg S A C :=
  ⟨hb.os.trans h.os, hb.tape.trans h.tape, hb.output.trans h.output, Nat.le_trans h.size hb.size, fun k hk hs => (hb.block k (hn k hk hs)).trans (h.block k hk hs)⟩
/-- A call that leaves all that lay alone. -/
theorem Chg.call {S : Nat → Prop} {A B : World} (h : Chg S A B) {C : World} (hb : Below B.heap.size B C) : Chg S A C := h.below hb (fun _ hk _ => Nat.lt_of_lt_of_le hk h.size)
theorem Chg.grown {S : Nat → Prop} {A B : World} (h : Chg S A B) {C : World} {row : Option Nat} (hg : B.grownBy C row) (hr : ∀ r, row = some r → S r ∨ A.heap.size ≤ r) : Chg S A C :=
  ⟨hg.os.trans h.os, hg.tape.trans h.tape, hg.output.trans h.output, Nat.le_trans h.size hg.size, fun k hk hs => (hg.block k (Nat.lt_of_lt_of_le hk h.size) (fun e => by rcases hr k e.symm with h1 | h1; exact hs h1; omega)).trans (h.block k hk hs)⟩
theorem Below.chg {n : Nat} {a A B : World} (h : Below n a A) {S : Nat → Prop} (hc : Chg S A B) (hn : n ≤ A.heap.size) (hs : ∀ k, S k → n ≤ k) : Below n a B :=
  h.trans ⟨hc.os, hc.tape, hc.output, hc.size, fun k hk => hc.block k (by omega) (fun e => by have := hs k e; omega)⟩
theorem Chg.cell {S : Nat → Prop} {A B : World} (h : Chg S A B) {a : Addr} {v : Value} (hv : A.cell? a = some v) (hs : ¬ S a.block) : B.cell? a = some v :=
  (World.cell?_of_block (w := A) (h.block a.block (lt_of_cell hv) hs)).trans hv
theorem Chg.heap {S : Nat → Prop} {A B : World} (h : Chg S A B) {k : Nat} {o : Obj} (hv : A.heap[k]? = some o) (hs : ¬ S k) : B.heap[k]? = some o :=
  (h.block k (Array.getElem?_eq_some_iff.1 hv).1 hs).trans hv
theorem Chg.of_below {S : Nat → Prop} {A B : World} (h : Below A.heap.size A B) : Chg S A B := (Chg.refl S A).call h

/-- The contract of an iterator that goes through xs. -/
def Iter {α : Type} (F : Fence) (n : Nat) (P : Program) (g : Nat) (lb : Array Value) (encs : α → Array Value) (SI : Nat → Prop) (xs : List α) (W0 : World → Prop) : Prop :=
  ∀ (l : Nat) (J Jx : Nat → World → Prop) (W : World), W0 W → (∀ k A B, J k A → Chg SI A B → J k B) → (∀ k A B, Jx k A → Chg SI A B → Jx k B) →
    (∀ k x A, xs[k]? = some x → J k A → YieldAt F (n - 1) P l (encs x) A fun e B =>
      (e = .returned (.bool true) ∧ J (k + 1) B ∧ Chg (fun j => ¬ SI j) A B) ∨ (e = .returned (.bool false) ∧ Jx (k + 1) B)) →
    J 0 W →
    CallsIn F n P g (#[.func (.yield l) #[] #[]] ++ lb) W fun e B => (∃ v, e = .returned v) ∧ (J xs.length B ∨ ∃ k, k ≤ xs.length ∧ Jx k B)

/-- What the loop itself and its iterator turn. -/
def SJ (SI : Nat → Prop) (z : Nat) (k : Nat) : Prop := SI k ∨ k = z ∨ k = z + 1

/-- How a round's body may be left. -/
def itPost (T : Nat → Prop) (I : Nat → World → Prop) (Ix : Code → Nat → World → Prop) (k : Nat) (A : World) : Exit → Act → World → Prop
  | .normal, _, B => Chg (fun j => ¬ T j) A B ∧ I k B
  | .ret, _, B => Chg (fun j => ¬ T j) A B ∧ Ix .ret k B
  | .exit id, _, B => Chg (fun j => ¬ T j) A B ∧ Ix (.exit id) k B
  | .goto t, _, B => Chg (fun j => ¬ T j) A B ∧ Ix (.goto t) k B
  | .panic _, _, _ => False
  | .outgrown, _, _ => False

variable {F : Fence} {n : Nat} {P : Program}

theorem wpIn_range_it {α : Type} {g : Operand} {ps : Array Tmp} {assign body : Code} {Q : Exit → Act → World → Prop} {a : Act} {w : World}
    (hro : F.round = none) (h1 : 1 ≤ n) {gf : Nat} {lb : Array Value} (hg : a.eval g = .func (.func gf) #[] lb) (hFg : F.fn gf) (eg : ∀ args w, (callFunc gf args).run P w = .ok (.enter gf args) w)
    {encs : α → Array Value} {SI : Nat → Prop} {xs : List α} {W0 : World → Prop} (hit : Iter F (n - 1) P gf lb encs SI xs W0)
    (hW0 : ∀ W, Chg (fun _ => False) w W → W0 W) (hSI : ∀ k, SI k → k < w.heap.size ∨ w.heap.size + 2 ≤ k) (hps : ∀ x, (encs x).size = ps.size)
    (I : Nat → World → Prop) (Ix : Code → Nat → World → Prop) (hI : ∀ k A B, I k A → Chg (SJ SI w.heap.size) A B → I k B) (hIx : ∀ c k A B, Ix c k A → Chg (SJ SI w.heap.size) A B → Ix c k B) (h0 : I 0 w)
    (Ax : α → Act → World → Prop) (hAx : ∀ x a' A B, Ax x a' A → Chg (SJ SI w.heap.size) A B → Ax x a' B)
    (hassign : ∀ (l k : Nat) (x : α) (A : World) (K : Act → World → Prop), xs[k]? = some x → I k A → (∀ a' B, Chg (fun j => ¬ SJ SI w.heap.size j) A B → I k B → Ax x a' B → K a' B) →
      assign.wpIn (F.inRound l) (n - 1 - 1) P (Exit.then K (fun _ _ _ => False)) { tmps := (ps.zip (encs x)).foldl (fun t (p, v) => t.setIfInBounds p v) a.tmps, defers := [] } A)
    (hbody : ∀ (k : Nat) (x : α) (a' : Act) (A : World), (∃ r, A.heap[w.heap.size + 1]? = some (.loop r)) → xs[k]? = some x → I k A → Ax x a' A → body.wpIn (F.inRound (w.heap.size + 1)) (n - 1 - 1) P (itPost (SJ SI w.heap.size) I Ix (k + 1) A) a' A)
    (hdone : ∀ (B : World), I xs.length B → B.heap[w.heap.size]? = some (.deferred (some [])) → Q .normal { a with defers := { target := .collected w.heap.size, args := #[] } :: a.defers } B)
    (hstop : ∀ (c : Code) (k : Nat) (B : World), k ≤ xs.length → Ix c k B → B.heap[w.heap.size]? = some (.deferred (some [])) → c.wpIn F n P Q { a with defers := { target := .collected w.heap.size, args := #[] } :: a.defers } B) :
    (Code.rangeFunc g ps assign body).wpIn F n P Q a w := by
  refine wpIn_rangeFunc ?_
  intro fn hfn
  rw [hro]
  obtain ⟨rec, hrec⟩ : ∃ rec : LoopState → Option Code → Loop, rec = fun st pe => { state := st, pending := pe, fn, tmps := a.tmps, params := ps, assign, body, defers := w.heap.size } := ⟨_, rfl⟩
  obtain ⟨W1, hW1⟩ : ∃ W1, (w.alloc (.deferred (some []))).alloc (.loop (rec .ready none)) = W1 := ⟨_, rfl⟩
  have hL1 : W1.heap[w.heap.size + 1]? = some (.loop (rec .ready none)) := by
    rw [← hW1]; have := World.alloc_heap_new (w.alloc (.deferred (some []))) (.loop (rec .ready none)); rwa [World.size_alloc] at this
  have hK1 : W1.heap[w.heap.size]? = some (.deferred (some [])) := by
    rw [← hW1]; exact (Below.heap_alloc _ _ _ (by simp)).trans (World.alloc_heap_new w _)
  have hC1 : ∀ S, Chg S w W1 := fun S => by rw [← hW1]; exact ((Chg.refl S w).alloc _).alloc _
  have hI1 : I 0 W1 := hI _ _ _ h0 (hC1 _)
  have hnl : ¬ SI (w.heap.size + 1) := fun h => by have := hSI _ h; omega
  have hnd : ¬ SI w.heap.size := fun h => by have := hSI _ h; omega
  have jl : SJ SI w.heap.size (w.heap.size + 1) := .inr (.inr rfl)
  have jd : SJ SI w.heap.size w.heap.size := .inr (.inl rfl)
  have jm : ∀ k, SI k → SJ SI w.heap.size k := fun k h => .inl h
  have jn : ∀ {A B : World}, Chg (fun j => ¬ SJ SI w.heap.size j) A B → Chg (fun j => ¬ SI j) A B := fun h => h.mono (fun k hk hS => hk (jm k hS))
  refine ⟨w.heap.size + 1, [{ target := .collected w.heap.size, args := #[] }], W1, { target := .fn (.func gf) lb, args := #[.func (.yield (w.heap.size + 1)) #[] #[]] }, W1, gf,
    #[.func (.yield (w.heap.size + 1)) #[] #[]] ++ lb, W1, ?_, ?_, ?_, ?_, fun _ => h1, ?_⟩
  · rw [← hW1, hrec]; exact run_enterLoop_outer _ _ _ _ _
  · simp only [resolve, hg]
    simp [go_sem]
  · intro f' hf'; simp [Target.leads] at hf'; subst hf'; exact hFg
  · simp [invoke, go_sem, eg]
  · refine (hit (w.heap.size + 1)
      (fun k W => I k W ∧ W.heap[w.heap.size + 1]? = some (.loop (rec .ready none)) ∧ W.heap[w.heap.size]? = some (.deferred (some [])))
      (fun k W => ∃ c, Ix c k W ∧ W.heap[w.heap.size + 1]? = some (.loop (rec .done (some c))) ∧ W.heap[w.heap.size]? = some (.deferred (some [])))
      W1 (hW0 _ (hC1 _))
      (fun k A B hs hc => ⟨hI k A B hs.1 (hc.mono jm), hc.heap hs.2.1 hnl, hc.heap hs.2.2 hnd⟩)
      (fun k A B hs hc => by
        obtain ⟨c, hx, hl, hk⟩ := hs
        exact ⟨c, hIx c k A B hx (hc.mono jm), hc.heap hl hnl, hc.heap hk hnd⟩)
      ?_ ⟨hI1, hL1, hK1⟩).mono ?_
    · rintro k x W hx ⟨hi, hl, hk⟩
      have hy := run_yield (P := P) (args := encs x) hl (by rw [hrec]; exact hps x)
      rw [hrec] at hy
      refine ⟨fn, _, assign, body, hy, roundIn_of_wpIn hfn (hassign _ k x W _ hx hi ?_)⟩
      clear hy
      intro a' Wa hca hia hax
      have hl' := hca.heap hl (fun h => h jl)
      have hk' := hca.heap hk (fun h => h jd)
      have hlt : w.heap.size + 1 < Wa.heap.size := (Array.getElem?_eq_some_iff.1 hl').1
      refine ⟨_, run_beginRound hl' (by rw [hrec]), ?_⟩
      obtain ⟨W2, hW2⟩ : ∃ W2, Wa.putObj (w.heap.size + 1) (.loop { rec .ready none with state := .busy }) = W2 := ⟨_, rfl⟩
      have hl2 : W2.heap[w.heap.size + 1]? = some (.loop { rec .ready none with state := .busy }) := by rw [← hW2]; exact World.putObj_heap_same hlt
      have hk2 : W2.heap[w.heap.size]? = some (.deferred (some [])) := by rw [← hW2]; exact (World.putObj_heap_other (by omega)).trans hk'
      have hc2 : Chg (SJ SI w.heap.size) Wa W2 := by rw [← hW2]; exact (Chg.refl _ _).putObj jl _
      have hc2' : Chg (fun j => ¬ SI j) W W2 := by rw [← hW2]; exact (jn hca).putObj hnl _
      rw [hW2]
      refine wpIn_mono (hbody k x a' _ ⟨_, hl2⟩ hx (hI _ _ _ hia hc2) (hAx x a' _ _ hax hc2)) ?_
      have fin : ∀ (jump : Option Code) (W3 : World), Chg (fun j => ¬ SJ SI w.heap.size j) W2 W3 →
          (Instr.endRound (w.heap.size + 1) jump).run P W3 = .ok (.bool jump.isNone) (W3.putObj (w.heap.size + 1) (.loop (rec (if jump.isNone then .ready else .done) jump))) ∧
          (W3.putObj (w.heap.size + 1) (.loop (rec (if jump.isNone then .ready else .done) jump))).heap[w.heap.size + 1]? = some (.loop (rec (if jump.isNone then .ready else .done) jump)) ∧
          (W3.putObj (w.heap.size + 1) (.loop (rec (if jump.isNone then .ready else .done) jump))).heap[w.heap.size]? = some (.deferred (some [])) ∧
          Chg (SJ SI w.heap.size) W3 (W3.putObj (w.heap.size + 1) (.loop (rec (if jump.isNone then .ready else .done) jump))) := fun jump W3 hk3 => by
        have hl3 := hk3.heap hl2 (fun h => h jl)
        have := run_endRound (P := P) jump hl3
        rw [hrec] at this ⊢
        exact ⟨this, World.putObj_heap_same (Array.getElem?_eq_some_iff.1 hl3).1, (World.putObj_heap_other (by omega)).trans (hk3.heap hk2 (fun h => h jd)), (Chg.refl _ _).putObj jl _⟩
      rintro e a3 W3 hp
      cases e with
      | normal =>
        obtain ⟨hk3, hi3⟩ := hp
        obtain ⟨hr, hl4, hk4, hc4⟩ := fin none W3 hk3
        exact ⟨_, _, hr, .inl ⟨rfl, ⟨hI _ _ _ hi3 hc4, hl4, hk4⟩, (hc2'.trans (jn hk3)).putObj hnl _⟩⟩
      | ret =>
        obtain ⟨hk3, hi3⟩ := hp
        obtain ⟨hr, hl4, hk4, hc4⟩ := fin (some .ret) W3 hk3
        exact ⟨_, _, hr, .inr ⟨rfl, .ret, hIx _ _ _ _ hi3 hc4, hl4, hk4⟩⟩
      | exit id =>
        obtain ⟨hk3, hi3⟩ := hp
        obtain ⟨hr, hl4, hk4, hc4⟩ := fin (some (.exit id)) W3 hk3
        exact ⟨_, _, hr, .inr ⟨rfl, .exit id, hIx _ _ _ _ hi3 hc4, hl4, hk4⟩⟩
      | goto t =>
        obtain ⟨hk3, hi3⟩ := hp
        obtain ⟨hr, hl4, hk4, hc4⟩ := fin (some (.goto t)) W3 hk3
        exact ⟨_, _, hr, .inr ⟨rfl, .goto t, hIx _ _ _ _ hi3 hc4, hl4, hk4⟩⟩
      | panic ch => exact hp.elim
      | outgrown => exact hp.elim
    · rintro e W2 ⟨⟨v, rfl⟩, (⟨hi, hl, hk⟩ | ⟨k, hkle, c, hi, hl, hk⟩)⟩
      · exact ⟨none, _, by have := run_endLoop (P := P) hl (by rw [hrec]; simp); rw [hrec] at this; exact this, hdone _ (hI _ _ _ hi ((Chg.refl _ _).putObj jl _)) ((World.putObj_heap_other (by omega)).trans hk)⟩
      · exact ⟨some c, _, by have := run_endLoop (P := P) hl (by rw [hrec]; simp); rw [hrec] at this; exact this, hstop c k _ hkle (hIx _ _ _ _ hi ((Chg.refl _ _).putObj jl _)) ((World.putObj_heap_other (by omega)).trans hk)⟩

/-- The same where the assignment to the loop's left sides lays nothing. -/
theorem wpIn_range_it1 {α : Type} {g : Operand} {ps : Array Tmp} {assign body : Code} {Q : Exit → Act → World → Prop} {a : Act} {w : World}
    (hro : F.round = none) (h1 : 1 ≤ n) {gf : Nat} {lb : Array Value} (hg : a.eval g = .func (.func gf) #[] lb) (hFg : F.fn gf) (eg : ∀ args w, (callFunc gf args).run P w = .ok (.enter gf args) w)
    {encs : α → Array Value} {SI : Nat → Prop} {xs : List α} {W0 : World → Prop} (hit : Iter F (n - 1) P gf lb encs SI xs W0)
    (hW0 : ∀ W, Chg (fun _ => False) w W → W0 W) (hSI : ∀ k, SI k → k < w.heap.size ∨ w.heap.size + 2 ≤ k) (hps : ∀ x, (encs x).size = ps.size)
    (I : Nat → World → Prop) (Ix : Code → Nat → World → Prop) (hI : ∀ k A B, I k A → Chg (SJ SI w.heap.size) A B → I k B) (hIx : ∀ c k A B, Ix c k A → Chg (SJ SI w.heap.size) A B → Ix c k B) (h0 : I 0 w) (a₁ : α → Act)
    (hassign : ∀ (l : Nat) (x : α) (A : World) (K : Act → World → Prop), K (a₁ x) A →
      assign.wpIn (F.inRound l) (n - 1 - 1) P (Exit.then K (fun _ _ _ => False)) { tmps := (ps.zip (encs x)).foldl (fun t (p, v) => t.setIfInBounds p v) a.tmps, defers := [] } A)
    (hbody : ∀ (k : Nat) (x : α) (A : World), (∃ r, A.heap[w.heap.size + 1]? = some (.loop r)) → xs[k]? = some x → I k A → body.wpIn (F.inRound (w.heap.size + 1)) (n - 1 - 1) P (itPost (SJ SI w.heap.size) I Ix (k + 1) A) (a₁ x) A)
    (hdone : ∀ (B : World), I xs.length B → B.heap[w.heap.size]? = some (.deferred (some [])) → Q .normal { a with defers := { target := .collected w.heap.size, args := #[] } :: a.defers } B)
    (hstop : ∀ (c : Code) (k : Nat) (B : World), k ≤ xs.length → Ix c k B → B.heap[w.heap.size]? = some (.deferred (some [])) → c.wpIn F n P Q { a with defers := { target := .collected w.heap.size, args := #[] } :: a.defers } B) :
    (Code.rangeFunc g ps assign body).wpIn F n P Q a w :=
  wpIn_range_it hro h1 hg hFg eg hit hW0 hSI hps I Ix hI hIx h0 (fun x a' _ => a' = a₁ x) (fun _ _ _ _ h _ => h)
    (fun l k x A K _ hi hK => hassign l x A K (hK _ _ (Chg.refl _ _) hi rfl)) (fun k x a' A hr hx hi ha => by subst ha; exact hbody k x A hr hx hi) hdone hstop

theorem ownsRow_chg {W W' : World} {base : Nat} {e : TypeId} {size : Nat} {v : Value} {n : Nat} {xs : List Value} (h : W.ownsRow base e size v n xs) {S : Nat → Prop} (hc : Chg S W W') (hs : ∀ k, S k → k < base) : W'.ownsRow base e size v n xs := by
  obtain ⟨h1, h2⟩ := h
  refine ⟨h1, ?_⟩
  rcases h2 with h2 | ⟨g, cap, cur, hv, hg, hh, r⟩
  · exact .inl h2
  · exact .inr ⟨g, cap, cur, hv, hg, hc.heap hh (fun hS => by have := hs g hS; omega), r⟩
theorem Boxed_chg {W W' : World} {B : Nat} {t : TypeId} {v : Value} (h : Boxed W B t v) {S : Nat → Prop} (hc : Chg S W W') (hs : ¬ S B) : Boxed W' B t v := hc.heap h hs

/-- 'out = append(out, ..)', out in a box. -/
theorem box_appended {W w1 : World} {base B : Nat} {t e : TypeId} {size : Nat} {v v' : Value} {k m : Nat} {xs ys : List Value} {tmp : Obj}
    (hv : Boxed W B t v) (hte : t ≠ e) (hrow : W.ownsRow base e size v k xs) (hown' : w1.ownsRow base e size v' m ys) (hgrow : (W.alloc tmp).grownBy w1 v.ownBlock) :
    Boxed w1 B t v ∧ Boxed (w1.setCell ⟨B, 0, none⟩ v') B t v' ∧ (w1.setCell ⟨B, 0, none⟩ v').ownsRow base e size v' m ys ∧
      ∀ S : Nat → Prop, S B → (∀ k, base ≤ k → S k) → Chg S W (w1.setCell ⟨B, 0, none⟩ v') := by
  have hv1 : Boxed w1 B t v := (hv.alloc tmp).kept hgrow (hv.not_row hte hrow)
  refine ⟨hv1, hv1.set v', hown'.kept (grownBy_setCell' w1 B v') (.inr (hv1.not_row hte hown').symm), fun S hB hS => ?_⟩
  refine Chg.setCell (Chg.grown ((Chg.refl S W).alloc tmp) hgrow fun r er => .inl (hS r ?_)) hB v'
  rcases hrow.2 with ⟨rfl, _⟩ | ⟨g, cap, cur, rfl, hb, _, _⟩
  · simp [Value.ownBlock] at er
  · obtain rfl : g = r := by simpa [Value.ownBlock] using er
    exact hb
end Go.Proofs.YtkjmabehphgmkaaDoor
