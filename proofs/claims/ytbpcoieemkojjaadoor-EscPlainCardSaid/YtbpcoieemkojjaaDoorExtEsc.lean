/- esc's exported functions as plain Lean functions, with their contracts in the printer's form. -/
import Derived.Test.YtbpcoieemkojjaaDoorEscW9
import Derived.Test.YtbpcoieemkojjaaDoorCodeRH
namespace Go.Proofs.YtbpcoieemkojjaaDoor.ExtEsc
set_option linter.unusedSimpArgs false
set_option linter.unusedVariables false
open Go.RowKit Go.Proofs.YtbpcoieemkojjaaDoorW.PrintWords Go.Proofs.YtbpcoieemkojjaaDoor.Esc
open Go.Proofs.YtbpcoieemkojjaaDoor.Code (bl hexL)
theorem lit1_size (x : UInt8) : (⟨#[x]⟩ : ByteArray).size = 1 := rfl
/-- What the package variables hold. -/
def GW (w : World) : Prop := (∃ a0, Code.GA a0 w) ∧ (∃ b0, Esc.GA b0 w) ∧ Lib.Utf8Tabs 4 5 w
theorem GW.below {w w' : World} (h : GW w) (hb : Below w.heap.size w w') : GW w' := by
  obtain ⟨⟨a0, h1⟩, ⟨b0, h2⟩, h3⟩ := h
  exact ⟨⟨a0, h1.below hb⟩, ⟨b0, h2.below hb⟩, Utf.tabs_below h3 hb⟩
theorem of_if {α : Type} {c : Prop} [Decidable c] {a b : α} (h : (if c then some a else none) = some b) : c ∧ a = b := by
  split at h
  · rename_i hc; exact ⟨hc, Option.some.inj h⟩
  · cases h
def esc_Filter.f (a0 : ByteArray) : Option ByteArray := if a0.size ≤ 1000000 then some (strOfNums (fltL (bl a0))) else none
theorem esc_Filter.calls (a0 : ByteArray) (r : ByteArray) (w : World) (hG : GW w) (h : esc_Filter.f a0 = some r) :
    Calls Tryd.prog 15 #[.string a0] w fun e w' => e = .returned (.string r) ∧ Below w.heap.size w w' := by
  obtain ⟨hs, rfl⟩ := of_if h
  exact Filter_c a0 (by omega) w
def esc_Name.f (a0 : ByteArray) : Option ByteArray := if a0.size ≤ 1000000 then some (strOfNums (namL (bl a0))) else none
theorem esc_Name.calls (a0 : ByteArray) (r : ByteArray) (w : World) (hG : GW w) (h : esc_Name.f a0 = some r) :
    Calls Tryd.prog 17 #[.string a0] w fun e w' => e = .returned (.string r) ∧ Below w.heap.size w w' := by
  obtain ⟨hs, rfl⟩ := of_if h
  exact Name_c a0 (by omega) w
def esc_ReadFilter.f (a0 : ByteArray) : Option (ByteArray × Int) := if a0.size ≤ 1000000 then some (rdS (readT false a0), rdN (readT false a0)) else none
theorem esc_ReadFilter.calls (a0 : ByteArray) (r1 : ByteArray) (r2 : Int) (w : World) (hG : GW w) (h : esc_ReadFilter.f a0 = some (r1, r2)) :
    Calls Tryd.prog 11 #[.string a0] w fun e w' => e = .returned (.tuple #[.string r1, .int .i64 r2]) ∧ Below w.heap.size w w' := by
  obtain ⟨⟨b0, hG⟩, ⟨b1, hE⟩, hT⟩ := hG
  obtain ⟨hs, h⟩ := of_if h
  obtain ⟨rfl, rfl⟩ := Prod.mk.inj h
  exact ReadFilter_c a0 (by omega) b0 b1 w hT hG hE
def esc_ReadName.f (a0 : ByteArray) : Option (ByteArray × Int) := if a0.size ≤ 1000000 then some (rdS (readT true a0), rdN (readT true a0)) else none
theorem esc_ReadName.calls (a0 : ByteArray) (r1 : ByteArray) (r2 : Int) (w : World) (hG : GW w) (h : esc_ReadName.f a0 = some (r1, r2)) :
    Calls Tryd.prog 13 #[.string a0] w fun e w' => e = .returned (.tuple #[.string r1, .int .i64 r2]) ∧ Below w.heap.size w w' := by
  obtain ⟨⟨b0, hG⟩, ⟨b1, hE⟩, hT⟩ := hG
  obtain ⟨hs, h⟩ := of_if h
  obtain ⟨rfl, rfl⟩ := Prod.mk.inj h
  exact ReadName_c a0 (by omega) b0 b1 w hT hG hE
def latinerref05_Hex.f (a0 : ByteArray) : Option ByteArray := if a0.size ≤ 1000000 then some (strOfNums (hexL (bl a0))) else none
theorem latinerref05_Hex.calls (a0 : ByteArray) (r : ByteArray) (w : World) (hG : GW w) (h : latinerref05_Hex.f a0 = some r) :
    Calls Tryd.prog 28 #[.string a0] w fun e w' => e = .returned (.string r) ∧ Below w.heap.size w w' := by
  obtain ⟨hs, rfl⟩ := of_if h
  exact Code.rHex_c a0 hs w
end Go.Proofs.YtbpcoieemkojjaaDoor.ExtEsc
