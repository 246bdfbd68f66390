/- utf's check, Right, Bad, Signs. -/
import Derived.Test.YtkjmabehphgmkaaDoorUtfW
namespace Go.Proofs.YtkjmabehphgmkaaDoor
set_option linter.unusedSimpArgs false
set_option linter.unusedVariables false
namespace Utf
open Go.RowKit Go.Shelf Go.Proofs.YtkjmabehphgmkaaDoorW.PrintWords
attribute [local go_sem] Oper.semAt_some
/-- What check answers. -/
def chkV (s : ByteArray) : Value := if bad s < 0 then .nilIface else werr (bad s)
theorem below_chgU {w A B : World} {U : Nat → Prop} (h : Below w.heap.size w A) (hs : w.heap.size ≤ A.heap.size) (hc : Chg (fun j => ¬ U j ∧ ¬ j < w.heap.size) A B) : Below w.heap.size w B :=
  Below.chg h hc hs (fun _ hk => Nat.le_of_not_lt hk.2)
theorem nLZ {z k : Nat} (h : k ≠ z ∧ k ≠ z + 1) : ¬ (False ∨ LZ z k) := by
  rintro (e | e | e)
  · exact e
  · exact h.1 e
  · exact h.2 e
set_option maxRecDepth 100000 in
set_option maxHeartbeats 2000000 in
theorem check_c (s : ByteArray) (hs : s.size ≤ 4611686018427387904) (a0 : Addr) (w : World) (h : GU a0 w) :
    Calls Tryd.prog 32 #[.agg #[.string s]] w fun e w' => e = .returned (chkV s) ∧ Below w.heap.size w w' := by
  have hT := h.tabs
  have hit := signs_it (9 - 1) (by decide) s hs (w.heap.size + 2) (w.heap.size + 3) (w.heap.size + 1) (fun j => j < w.heap.size) (tabs_lt hT).1 (tabs_lt hT).2 (by omega)
  refine (callsIn_wide (n := 9)).1 ?_
  refine callsIn_of_wp_marks Tryd.func32 rfl trivial ?_ rfl
  simp only [Tryd.ntmps32, List.size_toArray, List.length_cons, List.length_nil, Nat.reduceAdd, Nat.reduceSub, Array.replicate_succ, Array.replicate_zero, List.push_toArray, List.append_toArray, List.nil_append, List.cons_append]
  have HIT := Lib.hid hit
  have HT := Lib.hid hT
  clear hit hT h
  gi_wp2_with fail
  refine ⟨trivial, (callsIn_wide.2 (signs_any s (w.heap.size + 1) _)).mono ?_⟩
  rintro e w2 ⟨rfl, rfl⟩
  gi_wp2_with fail
  have hsz : ((((w.alloc (.cells #[.string s] 59)).alloc (.cells #[.nilIface] 39)).alloc (.cells #[.string s] 43)).alloc (.cells #[.pointer (some ⟨w.heap.size + 1, 0, none⟩)] 45)).heap.size = w.heap.size + 4 := by simp
  have c1 : Chg (fun _ => False) w ((((w.alloc (.cells #[.string s] 59)).alloc (.cells #[.nilIface] 39)).alloc (.cells #[.string s] 43)).alloc (.cells #[.pointer (some ⟨w.heap.size + 1, 0, none⟩)] 45)) := ((((Chg.refl _ w).alloc _).alloc _).alloc _).alloc _
  have k1 : ((((w.alloc (.cells #[.string s] 59)).alloc (.cells #[.nilIface] 39)).alloc (.cells #[.string s] 43)).alloc (.cells #[.pointer (some ⟨w.heap.size + 1, 0, none⟩)] 45)).heap[w.heap.size + 1]? = some (.cells #[.nilIface] 39 (0, 0)) := by
    have := World.alloc_heap_new (w.alloc (.cells #[.string s] 59)) (.cells #[.nilIface] 39)
    exact (((Chg.refl (fun _ => False) _).alloc _).alloc _).heap (by simpa using this) (by simp)
  have k2 : ((((w.alloc (.cells #[.string s] 59)).alloc (.cells #[.nilIface] 39)).alloc (.cells #[.string s] 43)).alloc (.cells #[.pointer (some ⟨w.heap.size + 1, 0, none⟩)] 45)).heap[w.heap.size + 2]? = some (.cells #[.string s] 43 (0, 0)) := by
    have := World.alloc_heap_new ((w.alloc (.cells #[.string s] 59)).alloc (.cells #[.nilIface] 39)) (.cells #[.string s] 43)
    exact ((Chg.refl (fun _ => False) _).alloc _).heap (by simpa using this) (by simp)
  have k3 : ((((w.alloc (.cells #[.string s] 59)).alloc (.cells #[.nilIface] 39)).alloc (.cells #[.string s] 43)).alloc (.cells #[.pointer (some ⟨w.heap.size + 1, 0, none⟩)] 45)).heap[w.heap.size + 3]? = some (.cells #[.pointer (some ⟨w.heap.size + 1, 0, none⟩)] 45 (0, 0)) := by
    have := World.alloc_heap_new (((w.alloc (.cells #[.string s] 59)).alloc (.cells #[.nilIface] 39)).alloc (.cells #[.string s] 43)) (.cells #[.pointer (some ⟨w.heap.size + 1, 0, none⟩)] 45)
    simpa using this
  refine wpIn_range_itD1 rfl (by decide) (gf := 40) (lb := #[.pointer (some ⟨w.heap.size + 2, 0, none⟩), .pointer (some ⟨w.heap.size + 3, 0, none⟩)]) rfl trivial (enters_of Tryd.func40 (by kernel_rfl) rfl)
    HIT.out (fun j hj => by rw [hsz]; omega) (fun _ => False) (fun _ h => h.elim)
    (fun W hc hs2 => ⟨hc.heap k2 (by simp), hc.heap k3 (by simp), hc.heap k1 (by simp), nLZ (by rw [hsz]; omega), nLZ (by rw [hsz]; omega), nLZ (by rw [hsz]; omega), tabs_chg HT.out (c1.trans hc) (by simp) (by simp)⟩) (fun _ => rfl)
    (fun _ _ A => Below w.heap.size w A ∧ w.heap.size ≤ A.heap.size) (fun _ _ _ _ => False)
    (fun k U A B hb _ hc => ⟨below_chgU hb.1 hb.2 hc, Nat.le_trans hb.2 hc.size⟩) (fun _ _ _ _ _ h _ => h) ?hE ⟨bl_alloc (bl_alloc (bl_alloc (bl_alloc (Below.refl _ _) _) _) _) _, by rw [hsz]; omega⟩
    ?a1 ?assign ?body ?done ?stop
  case assign =>
    intro l x A K hK
    gi_wp2
    exact hK
  case stop => rintro c j U B _ h; exact h.elim
  case hE =>
    intro A B hE hc
    exact hc.heap hE (by rw [hsz]; unfold LZ; omega)
  case body =>
    rintro j x U A _ hx hb hU hs2
    gi_wp2
    exact ⟨U, UStep.same (fun j hj => (hU j hj).1) (Chg.refl _ _), hb⟩
  case done =>
    rintro U B ⟨hb, hbs⟩ hE hU hs2 hK
    have hE' : Boxed B (w.heap.size + 1) 39 (chkV s) := hE
    have hc := hE'.cell
    rw [hsz] at hs2
    clear hE hE'
    gi_wp2_with fail
    refine ⟨by simp, .inl ⟨_, _, rfl, run_takeDeferred hK, ?_⟩⟩
    exact ⟨_, results_tmp rfl _ _ _, rfl, Below.chg hb ((Chg.refl (fun z => w.heap.size ≤ z) B).putObj (by rw [hsz]; omega) _) hbs (fun z hz => hz)⟩
end Utf
end Go.Proofs.YtkjmabehphgmkaaDoor
