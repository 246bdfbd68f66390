/- size's exported functions as plain Lean functions, with their contracts in the printer's form. -/
import Derived.Test.YtmfnenlinhljkaaDoorSizeD
namespace Go.Proofs.YtmfnenlinhljkaaDoor.ExtSize
set_option linter.unusedSimpArgs false
set_option linter.unusedVariables false
open Go.RowKit Go.Proofs.YtmfnenlinhljkaaDoorW.PrintWords Go.Proofs.YtmfnenlinhljkaaDoor.Size
/-- What the package variables hold. -/
def GW (w : World) : Prop := ∃ a0 a1 a2, GA a0 a1 a2 w
theorem GW.below {w w' : World} (h : GW w) (hb : Below w.heap.size w w') : GW w' := by obtain ⟨a0, a1, a2, h⟩ := h; exact ⟨a0, a1, a2, h.below hb⟩
def size_Encode.f (a0 : Int) : Option (ByteArray × Int) := some (encS a0, encE a0)
theorem size_Encode.calls (a0 : Int) (r1 : ByteArray) (r2 : Int) (w : World) (hG : GW w) (h : size_Encode.f a0 = some (r1, r2)) :
    Calls Tryd.prog 27 #[.int .i64 a0] w fun e w' => e = .returned (.tuple #[.string r1, .int .i64 r2]) ∧ Below w.heap.size w w' := by
  obtain ⟨b0, b1, b2, hG⟩ := hG
  cases h
  exact Encode_c a0 b0 b1 b2 w hG
def size_Size.f (a0 : Int) : Option (Int × Int) := some (((encS a0).size : Int), encE a0)
theorem size_Size.calls (a0 : Int) (r1 r2 : Int) (w : World) (hG : GW w) (h : size_Size.f a0 = some (r1, r2)) :
    Calls Tryd.prog 31 #[.int .i64 a0] w fun e w' => e = .returned (.tuple #[.int .i64 r1, .int .i64 r2]) ∧ Below w.heap.size w w' := by
  obtain ⟨b0, b1, b2, hG⟩ := hG
  cases h
  exact Size_c a0 b0 b1 b2 w hG
def size_Decode.f (a0 : ByteArray) (a1 : Int) : Option (Int × Int × Int) := if a0.size ≤ 1000 then some (decS a0 a1) else none
theorem size_Decode.calls (a0 : ByteArray) (a1 : Int) (r1 r2 r3 : Int) (w : World) (hG : GW w) (h : size_Decode.f a0 a1 = some (r1, r2, r3)) :
    Calls Tryd.prog 29 #[.string a0, .int .i64 a1] w fun e w' => e = .returned (.tuple #[.int .i64 r1, .int .i64 r2, .int .i64 r3]) ∧ Below w.heap.size w w' := by
  obtain ⟨b0, b1, b2, hG⟩ := hG
  unfold size_Decode.f at h
  split at h
  · rename_i hs
    have h := Option.some.inj h
    have := Decode_c a0 a1 b0 b1 b2 w hG hs
    rw [h] at this
    exact this
  · cases h
end Go.Proofs.YtmfnenlinhljkaaDoor.ExtSize
