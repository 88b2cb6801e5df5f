import Derived.Test.YtaimjdfeijgbmaaDoorProg
import Derived.Below
import Derived.Deep.Draws
import Derived.Deep.AppendLies
import Derived.Maps.AppendAt
import Derived.OwnWalk
import Derived.Laws.BytesArg
import Derived.Laws.MakeOwn
import Derived.Laws.OwnMore
import Derived.Deep.OwnRows
import Derived.Tactics
import Derived.Lib.ConvBytes
import Derived.Laws.Slices
import Derived.WalkKit
import Derived.KernelRfl
import Derived.RowKit3
import Derived.Deep.LoopGhost
import Derived.Deep.QuietTactic
import Derived.BigQuiet
import Derived.WideLaws
import Derived.Deep.DeepCutAuto
import Derived.Deep.CutBlock
import Derived.Deep.RegionHeld3
import Derived.Laws.Rows
import Derived.Lib.AppendStr
import Derived.ArgAppend
import Derived.Laws.IdiomCopy
import Derived.OrdersHeld
import Derived.Laws.BitsLemmas
import Derived.RowKit
import Derived.Test.YtaimjdfeijgbmaaDoorWWords
import Derived.Test.YtaimjdfeijgbmaaDoorWLast
import Derived.Test.YtaimjdfeijgbmaaDoorWTab
import Derived.Test.YtaimjdfeijgbmaaDoorWFour
import Derived.Test.YtaimjdfeijgbmaaDoorWQPut
import Derived.Test.YtaimjdfeijgbmaaDoorWApart
import Derived.Test.YtaimjdfeijgbmaaDoorWArr
import Derived.Test.YtaimjdfeijgbmaaDoorWZeros
import Derived.Test.YtaimjdfeijgbmaaDoorWFoot
import Derived.Test.YtaimjdfeijgbmaaDoorWKept
import Derived.Test.YtaimjdfeijgbmaaDoorWShare
import Derived.Test.YtaimjdfeijgbmaaDoorWN
import Derived.Test.YtaimjdfeijgbmaaDoorWFootNe
import Derived.Test.YtaimjdfeijgbmaaDoorWAt
import Derived.Test.YtaimjdfeijgbmaaDoorWEqStruct
import Derived.Test.YtaimjdfeijgbmaaDoorWRepsOne
import Derived.Test.YtaimjdfeijgbmaaDoorWInv
import Derived.Test.YtaimjdfeijgbmaaDoorWInvWords
import Derived.Test.YtaimjdfeijgbmaaDoorWGuard
import Derived.Test.YtaimjdfeijgbmaaDoorWNEv
import Derived.Test.YtaimjdfeijgbmaaDoorWMore
namespace Go.Proofs.YtaimjdfeijgbmaaDoor.PNum
open Go.RowKit Go.Proofs.YtaimjdfeijgbmaaDoorW.PrintWords Go.Proofs.YtaimjdfeijgbmaaDoorW.PrintLast Go.Proofs.YtaimjdfeijgbmaaDoorW.PrintMore
attribute [local go_sem] max2_int min2_int max_two min_two max_three min_three max_four min_four   -- for this text's walks alone
set_option linter.unusedVariables false
set_option linter.unusedSimpArgs false



def errW : Option Int → Value
  | none => .nilIface
  | some c => .iface 52 (.int .i64 c)
theorem errW_none : errW none = .nilIface := rfl
theorem errW_some (c : Int) : errW (some c) = .iface 52 (.int .i64 c) := rfl

theorem info5 : (Tryd.prog.info? 5).map (fun i => (i.zero, i.size, i.bytes)) = some (some (.int .u8 0), 1, 1) := by kernel_rfl
theorem info9 : (Tryd.prog.info? 9).map (fun i => (i.zero, i.size, i.bytes)) = some (some (.string ⟨#[]⟩), 1, 16) := by kernel_rfl
-- the values' own types

end Go.Proofs.YtaimjdfeijgbmaaDoor.PNum
