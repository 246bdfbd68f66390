/- utf's exported functions as plain Lean functions, with their contracts in the printer's form. -/
import Derived.Test.YtkjmabehphgmkaaDoorUtfW5
namespace Go.Proofs.YtkjmabehphgmkaaDoor.ExtUtf
set_option linter.unusedSimpArgs false
set_option linter.unusedVariables false
open Go.RowKit Go.Proofs.YtkjmabehphgmkaaDoorW.PrintWords Go.Proofs.YtkjmabehphgmkaaDoor.Utf
theorem lit1_size (x : UInt8) : (⟨#[x]⟩ : ByteArray).size = 1 := rfl
/-- What the package variables hold. -/
def GW (w : World) : Prop := ∃ a0, GU a0 w
theorem GW.below {w w' : World} (h : GW w) (hb : Below w.heap.size w w') : GW w' := by obtain ⟨a0, h⟩ := h; exact ⟨a0, h.below hb⟩
theorem of_if {α : Type} {c : Prop} [Decidable c] {a b : α} (h : (if c then some a else none) = some b) : c ∧ a = b := by
  split at h
  · rename_i hc; exact ⟨hc, Option.some.inj h⟩
  · cases h
def utf_Right.f (a0 : ByteArray) : Option Bool := if a0.size ≤ 1000000 then some (decide (bad a0 < 0)) else none
theorem utf_Right.calls (a0 : ByteArray) (r : Bool) (w : World) (hG : GW w) (h : utf_Right.f a0 = some r) :
    Calls Tryd.prog 17 #[.string a0] w fun e w' => e = .returned (.bool r) ∧ Below w.heap.size w w' := by
  obtain ⟨b0, hG⟩ := hG
  obtain ⟨hs, rfl⟩ := of_if h
  exact Right_c a0 (by omega) b0 w hG
def utf_Bad.f (a0 : ByteArray) : Option Int := if a0.size ≤ 1000000 then some (bad a0) else none
theorem utf_Bad.calls (a0 : ByteArray) (r : Int) (w : World) (hG : GW w) (h : utf_Bad.f a0 = some r) :
    Calls Tryd.prog 19 #[.string a0] w fun e w' => e = .returned (.int .i64 r) ∧ Below w.heap.size w w' := by
  obtain ⟨b0, hG⟩ := hG
  obtain ⟨hs, rfl⟩ := of_if h
  exact Bad_c a0 (by omega) b0 w hG
def utf_Signs.f (a0 : ByteArray) : Option (List Int × Int) := if a0.size ≤ 1000000 then some (sgV a0, sgE a0) else none
theorem utf_Signs.calls (a0 : ByteArray) (r1 : List Int) (r2 : Int) (w : World) (hG : GW w) (h : utf_Signs.f a0 = some (r1, r2)) :
    Calls Tryd.prog 13 #[.string a0] w fun e w' => ∃ v0_ : Value, e = .returned (.tuple #[v0_, .int .i64 r2]) ∧ Kd.R (Kd.int .i64) 3 w' w.heap.size (fun _ => True) v0_ r1 ∧ Below w.heap.size w w' := by
  obtain ⟨b0, hG⟩ := hG
  obtain ⟨hs, h⟩ := of_if h
  obtain ⟨rfl, rfl⟩ := Prod.mk.inj h
  refine (Signs_c a0 (by omega) b0 w hG).mono ?_
  rintro e w' ⟨v, rfl, ho, hb⟩
  exact ⟨v, rfl, Kd.R_of_own ho (fun _ _ => trivial), hb⟩
def utf_Text.f (l0 : List Int) : Option (ByteArray × Int) := if l0.length ≤ 1000000 then some (txS l0, txE l0) else none
theorem utf_Text.calls (A0 : Option Addr) (c0 : Nat) (l0 : List Int) (r1 : ByteArray) (r2 : Int) (w : World) (hr0 : Kd.C (Kd.int .i64) w A0 l0.length l0) (hc0 : l0.length ≤ c0) (hG : GW w) (h : utf_Text.f l0 = some (r1, r2)) :
    Calls Tryd.prog 15 #[.slice A0 l0.length c0] w fun e w' => e = .returned (.tuple #[.string r1, .int .i64 r2]) ∧ Below w.heap.size w w' := by
  obtain ⟨b0, hG⟩ := hG
  obtain ⟨hs, h⟩ := of_if h
  obtain ⟨rfl, rfl⟩ := Prod.mk.inj h
  exact Text_c A0 c0 l0 b0 w hs hr0 hG
def utf_IsSafe.f (a0 : ByteArray) : Option Bool := if a0.size ≤ 1000000 then some (sfV a0) else none
theorem utf_IsSafe.calls (a0 : ByteArray) (r : Bool) (w : World) (hG : GW w) (h : utf_IsSafe.f a0 = some r) :
    Calls Tryd.prog 22 #[.string a0] w fun e w' => e = .returned (.bool r) ∧ Below w.heap.size w w' := by
  obtain ⟨hs, rfl⟩ := of_if h
  exact IsSafe_c a0 (by omega) w
end Go.Proofs.YtkjmabehphgmkaaDoor.ExtUtf
