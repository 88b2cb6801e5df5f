import Derived.Test.YtokcmaehojljdaaDoorProg
import Derived.Below
import Derived.Deep.Draws
import Derived.Deep.AppendLies
import Derived.Maps.AppendAt
import Derived.OwnWalk
import Derived.Laws.BytesArg
import Derived.Laws.MakeOwn
import Derived.Laws.OwnMore
import Derived.Deep.OwnRows
import Derived.Tactics
import Derived.Lib.ConvBytes
import Derived.Laws.Slices
import Derived.WalkKit
import Derived.KernelRfl
import Derived.RowKit3
import Derived.Deep.LoopGhost
import Derived.Deep.QuietTactic
import Derived.BigQuiet
import Derived.WideLaws
import Derived.Deep.DeepCutAuto
import Derived.Deep.CutBlock
import Derived.Deep.RegionHeld3
import Derived.Laws.Rows
import Derived.Lib.AppendStr
import Derived.ArgAppend
import Derived.Laws.IdiomCopy
import Derived.OrdersHeld
import Derived.Laws.BitsLemmas
import Derived.RowKit
import Derived.Test.YtokcmaehojljdaaDoorWWords
import Derived.Test.YtokcmaehojljdaaDoorWLast
import Derived.Test.YtokcmaehojljdaaDoorWTab
import Derived.Test.YtokcmaehojljdaaDoorWFour
import Derived.Test.YtokcmaehojljdaaDoorWQPut
import Derived.Test.YtokcmaehojljdaaDoorWApart
import Derived.Test.YtokcmaehojljdaaDoorWArr
import Derived.Test.YtokcmaehojljdaaDoorWZeros
import Derived.Test.YtokcmaehojljdaaDoorWFoot
import Derived.Test.YtokcmaehojljdaaDoorWKept
import Derived.Test.YtokcmaehojljdaaDoorWShare
import Derived.Test.YtokcmaehojljdaaDoorWN
import Derived.Test.YtokcmaehojljdaaDoorWFootNe
import Derived.Test.YtokcmaehojljdaaDoorWAt
import Derived.Test.YtokcmaehojljdaaDoorWEqStruct
import Derived.Test.YtokcmaehojljdaaDoorWRepsOne
import Derived.Test.YtokcmaehojljdaaDoorWInv
import Derived.Test.YtokcmaehojljdaaDoorWInvWords
import Derived.Test.YtokcmaehojljdaaDoorWGuard
import Derived.Test.YtokcmaehojljdaaDoorWNEv
import Derived.Test.YtokcmaehojljdaaDoorWMore
namespace Go.Proofs.YtokcmaehojljdaaDoor.PWire
open Go.RowKit Go.Proofs.YtokcmaehojljdaaDoorW.PrintWords Go.Proofs.YtokcmaehojljdaaDoorW.PrintLast Go.Proofs.YtokcmaehojljdaaDoorW.PrintMore
attribute [local go_sem] max2_int min2_int max_two min_two max_three min_three max_four min_four   -- for this text's walks alone
set_option linter.unusedVariables false
set_option linter.unusedSimpArgs false



def errW : Option Int → Value
  | none => .nilIface
  | some c => .iface 0 (.int .i64 c)
theorem errW_none : errW none = .nilIface := rfl
theorem errW_some (c : Int) : errW (some c) = .iface 0 (.int .i64 c) := rfl

theorem info5 : (Tryd.prog.info? 5).map (fun i => (i.zero, i.size, i.bytes)) = some (some (.int .u8 0), 1, 1) := by kernel_rfl
-- the values' own types

end Go.Proofs.YtokcmaehojljdaaDoor.PWire
