/- prim's exported functions as plain Lean functions, with their contracts in the printer's form. -/
import Derived.Test.YtmfnenlinhljkaaDoorPrimT4
namespace Go.Proofs.YtmfnenlinhljkaaDoor.ExtPrim
set_option linter.unusedSimpArgs false
set_option linter.unusedVariables false
open Go.RowKit Go.Proofs.YtmfnenlinhljkaaDoorW.PrintWords Go.Proofs.YtmfnenlinhljkaaDoor.Prim
/-- What the package variables hold. -/
def GW (w : World) : Prop := ∃ aN aB, GA aN aB w
theorem GW.below {w w' : World} (h : GW w) (hb : Below w.heap.size w w') : GW w' := by obtain ⟨aN, aB, h⟩ := h; exact ⟨aN, aB, h.below hb⟩
def prim_Int.f (a0 : Int) : Option (ByteArray × Int) := some (if wid a0 = 0 then (⟨#[]⟩, 30) else (strOfNums (byts (wid a0) a0), 0))
theorem prim_Int.calls (a0 : Int) (r1 : ByteArray) (r2 : Int) (w : World) (hG : GW w) (h : prim_Int.f a0 = some (r1, r2)) :
    Calls Tryd.prog 17 #[.int .i64 a0] w fun e w' => e = .returned (.tuple #[.string r1, .int .i64 r2]) ∧ Below w.heap.size w w' := by
  obtain ⟨aN, aB, hG⟩ := hG
  unfold prim_Int.f at h
  split at h
  · rename_i h0
    cases h
    exact Int_no a0 aN aB w hG h0
  · rename_i h0
    cases h
    exact Int_yes a0 w h0
def prim_ReadInt.f (a0 : ByteArray) : Option (Int × Int) := some (if okInt a0 = true then (rdv a0, 0) else (0, 30))
theorem prim_ReadInt.calls (a0 : ByteArray) (r1 r2 : Int) (w : World) (hG : GW w) (h : prim_ReadInt.f a0 = some (r1, r2)) :
    Calls Tryd.prog 19 #[.string a0] w fun e w' => e = .returned (.tuple #[.int .i64 r1, .int .i64 r2]) ∧ Below w.heap.size w w' := by
  obtain ⟨aN, aB, hG⟩ := hG
  unfold prim_ReadInt.f at h
  split at h
  · rename_i h0
    cases h
    exact ReadInt_yes a0 w h0
  · rename_i h0
    cases h
    exact ReadInt_no a0 aN aB w hG (by simpa using h0)
def prim_ReadBool.f (a0 : ByteArray) : Option (Bool × Int) := some (if a0.size = 1 then (bt a0 0 != 0, 0) else (false, 31))
theorem prim_ReadBool.calls (a0 : ByteArray) (r1 : Bool) (r2 : Int) (w : World) (hG : GW w) (h : prim_ReadBool.f a0 = some (r1, r2)) :
    Calls Tryd.prog 21 #[.string a0] w fun e w' => e = .returned (.tuple #[.bool r1, .int .i64 r2]) ∧ Below w.heap.size w w' := by
  obtain ⟨aN, aB, hG⟩ := hG
  unfold prim_ReadBool.f at h
  split at h
  · rename_i h0
    cases h
    exact ReadBool_yes a0 w h0
  · rename_i h0
    cases h
    exact ReadBool_no a0 aN aB w hG h0
end Go.Proofs.YtmfnenlinhljkaaDoor.ExtPrim
