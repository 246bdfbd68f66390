-- Written by this repo's own program over the kit's printer: YtmfnenlinhljkaaDoor.LSize
import Derived.Test.YtmfnenlinhljkaaDoorProg
import Derived.Test.YtmfnenlinhljkaaDoorExtSize
import Derived.Below
import Derived.Deep.Draws
import Derived.Deep.AppendLies
import Derived.Maps.AppendAt
import Derived.OwnWalk
import Derived.Laws.BytesArg
import Derived.Laws.MakeOwn
import Derived.Laws.OwnMore
import Derived.Deep.OwnRows
import Derived.Tactics
import Derived.Lib.ConvBytes
import Derived.Laws.Slices
import Derived.WalkKit
import Derived.KernelRfl
import Derived.RowKit3
import Derived.Deep.LoopGhost
import Derived.Deep.QuietTactic
import Derived.BigQuiet
import Derived.WideLaws
import Derived.Deep.DeepCutAuto
import Derived.Deep.CutBlock
import Derived.Deep.RegionHeld3
import Derived.Laws.Rows
import Derived.Lib.AppendStr
import Derived.ArgAppend
import Derived.Laws.IdiomCopy
import Derived.OrdersHeld
import Derived.Laws.BitsLemmas
import Derived.RowKit
import Derived.Test.YtmfnenlinhljkaaDoorWWords
import Derived.Test.YtmfnenlinhljkaaDoorWLast
import Derived.Test.YtmfnenlinhljkaaDoorWTab
import Derived.Test.YtmfnenlinhljkaaDoorWFour
import Derived.Test.YtmfnenlinhljkaaDoorWQPut
import Derived.Test.YtmfnenlinhljkaaDoorWApart
import Derived.Test.YtmfnenlinhljkaaDoorWArr
import Derived.Test.YtmfnenlinhljkaaDoorWZeros
import Derived.Test.YtmfnenlinhljkaaDoorWFoot
import Derived.Test.YtmfnenlinhljkaaDoorWKept
import Derived.Test.YtmfnenlinhljkaaDoorWShare
import Derived.Test.YtmfnenlinhljkaaDoorWN
import Derived.Test.YtmfnenlinhljkaaDoorWFootNe
import Derived.Test.YtmfnenlinhljkaaDoorWAt
import Derived.Test.YtmfnenlinhljkaaDoorWEqStruct
import Derived.Test.YtmfnenlinhljkaaDoorWRepsOne
import Derived.Test.YtmfnenlinhljkaaDoorWInv
import Derived.Test.YtmfnenlinhljkaaDoorWInvWords
import Derived.Test.YtmfnenlinhljkaaDoorWGuard
import Derived.Test.YtmfnenlinhljkaaDoorWNEv
import Derived.Test.YtmfnenlinhljkaaDoorWMore
namespace Go.Proofs.YtmfnenlinhljkaaDoor.LSize
open Go.Proofs.YtmfnenlinhljkaaDoor.ExtSize
open Go.RowKit Go.Proofs.YtmfnenlinhljkaaDoorW.PrintWords Go.Proofs.YtmfnenlinhljkaaDoorW.PrintLast Go.Proofs.YtmfnenlinhljkaaDoorW.PrintMore
attribute [local go_sem] max2_int min2_int max_two min_two max_three min_three max_four min_four   -- for this text's walks alone
set_option linter.unusedVariables false
set_option linter.unusedSimpArgs false



def errW : Option Int → Value
  | none => .nilIface
  | some c => .iface 0 (.int .i64 c)
theorem errW_none : errW none = .nilIface := rfl
theorem errW_some (c : Int) : errW (some c) = .iface 0 (.int .i64 c) := rfl

theorem info5 : (Tryd.prog.info? 5).map (fun i => (i.zero, i.size, i.bytes)) = some (some (.int .u8 0), 1, 1) := by kernel_rfl
-- the values' own types

end Go.Proofs.YtmfnenlinhljkaaDoor.LSize
