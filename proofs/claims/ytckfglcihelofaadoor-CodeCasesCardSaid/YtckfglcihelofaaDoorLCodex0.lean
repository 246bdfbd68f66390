-- Written by this repo's own program over the kit's printer: YtckfglcihelofaaDoor.LCode
import Derived.Test.YtckfglcihelofaaDoorProg
import Derived.Test.YtckfglcihelofaaDoorKB
import Derived.Below
import Derived.Deep.Draws
import Derived.Deep.AppendLies
import Derived.Maps.AppendAt
import Derived.OwnWalk
import Derived.Laws.BytesArg
import Derived.Laws.MakeOwn
import Derived.Laws.OwnMore
import Derived.Deep.OwnRows
import Derived.Tactics
import Derived.Lib.ConvBytes
import Derived.Laws.Slices
import Derived.WalkKit
import Derived.KernelRfl
import Derived.RowKit3
import Derived.Deep.LoopGhost
import Derived.Deep.QuietTactic
import Derived.BigQuiet
import Derived.WideLaws
import Derived.Deep.DeepCutAuto
import Derived.Deep.CutBlock
import Derived.Deep.RegionHeld3
import Derived.Laws.Rows
import Derived.Lib.AppendStr
import Derived.ArgAppend
import Derived.Laws.IdiomCopy
import Derived.OrdersHeld
import Derived.Laws.BitsLemmas
import Derived.RowKit
import Derived.Test.YtckfglcihelofaaDoorWWords
import Derived.Test.YtckfglcihelofaaDoorWLast
import Derived.Test.YtckfglcihelofaaDoorWTab
import Derived.Test.YtckfglcihelofaaDoorWFour
import Derived.Test.YtckfglcihelofaaDoorWQPut
import Derived.Test.YtckfglcihelofaaDoorWApart
import Derived.Test.YtckfglcihelofaaDoorWArr
import Derived.Test.YtckfglcihelofaaDoorWZeros
import Derived.Test.YtckfglcihelofaaDoorWFoot
import Derived.Test.YtckfglcihelofaaDoorWKept
import Derived.Test.YtckfglcihelofaaDoorWShare
import Derived.Test.YtckfglcihelofaaDoorWN
import Derived.Test.YtckfglcihelofaaDoorWFootNe
import Derived.Test.YtckfglcihelofaaDoorWAt
import Derived.Test.YtckfglcihelofaaDoorWEqStruct
import Derived.Test.YtckfglcihelofaaDoorWRepsOne
import Derived.Test.YtckfglcihelofaaDoorWInv
import Derived.Test.YtckfglcihelofaaDoorWInvWords
import Derived.Test.YtckfglcihelofaaDoorWGuard
import Derived.Test.YtckfglcihelofaaDoorWNEv
import Derived.Test.YtckfglcihelofaaDoorWMore
namespace Go.Proofs.YtckfglcihelofaaDoor.LCode
open Go.Proofs.YtckfglcihelofaaDoor.ExtCode
open Go.RowKit Go.Proofs.YtckfglcihelofaaDoorW.PrintWords Go.Proofs.YtckfglcihelofaaDoorW.PrintLast Go.Proofs.YtckfglcihelofaaDoorW.PrintMore
attribute [local go_sem] max2_int min2_int max_two min_two max_three min_three max_four min_four   -- for this text's walks alone
set_option linter.unusedVariables false
set_option linter.unusedSimpArgs false



def errW : Option Int → Value
  | none => .nilIface
  | some c => .iface 0 (.int .i64 c)
theorem errW_none : errW none = .nilIface := rfl
theorem errW_some (c : Int) : errW (some c) = .iface 0 (.int .i64 c) := rfl

theorem info5 : (Tryd.prog.info? 5).map (fun i => (i.zero, i.size, i.bytes)) = some (some (.int .u8 0), 1, 1) := by kernel_rfl
-- the values' own types

end Go.Proofs.YtckfglcihelofaaDoor.LCode
