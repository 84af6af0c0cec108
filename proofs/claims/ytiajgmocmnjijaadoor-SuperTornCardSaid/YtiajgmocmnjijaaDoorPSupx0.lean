-- Written by a program of this session for this seat. Not trusted: Lean checks it.
import Derived.Test.YtiajgmocmnjijaaDoorProg
import Derived.Below
import Derived.Deep.Draws
import Derived.Deep.AppendLies
import Derived.Maps.AppendAt
import Derived.OwnWalk
import Derived.Laws.BytesArg
import Derived.Laws.MakeOwn
import Derived.Laws.OwnMore
import Derived.Deep.OwnRows
import Derived.Tactics
import Derived.Lib.ConvBytes
import Derived.Laws.Slices
import Derived.WalkKit
import Derived.KernelRfl
import Derived.RowKit3
import Derived.Deep.LoopGhost
import Derived.Deep.QuietTactic
import Derived.BigQuiet
import Derived.WideLaws
import Derived.Deep.DeepCutAuto
import Derived.Deep.CutBlock
import Derived.Deep.RegionHeld3
import Derived.Laws.Rows
import Derived.Lib.AppendStr
import Derived.ArgAppend
import Derived.Laws.IdiomCopy
import Derived.OrdersHeld
import Derived.Laws.BitsLemmas
import Derived.RowKit
import Derived.Test.YtiajgmocmnjijaaDoorWWords
import Derived.Test.YtiajgmocmnjijaaDoorWLast
import Derived.Test.YtiajgmocmnjijaaDoorWTab
import Derived.Test.YtiajgmocmnjijaaDoorWFour
import Derived.Test.YtiajgmocmnjijaaDoorWQPut
import Derived.Test.YtiajgmocmnjijaaDoorWApart
import Derived.Test.YtiajgmocmnjijaaDoorWArr
import Derived.Test.YtiajgmocmnjijaaDoorWZeros
import Derived.Test.YtiajgmocmnjijaaDoorWFoot
import Derived.Test.YtiajgmocmnjijaaDoorWKept
import Derived.Test.YtiajgmocmnjijaaDoorWShare
import Derived.Test.YtiajgmocmnjijaaDoorWN
import Derived.Test.YtiajgmocmnjijaaDoorWFootNe
import Derived.Test.YtiajgmocmnjijaaDoorWAt
import Derived.Test.YtiajgmocmnjijaaDoorWEqStruct
import Derived.Test.YtiajgmocmnjijaaDoorWRepsOne
import Derived.Test.YtiajgmocmnjijaaDoorWInv
import Derived.Test.YtiajgmocmnjijaaDoorWInvWords
import Derived.Test.YtiajgmocmnjijaaDoorWGuard
import Derived.Test.YtiajgmocmnjijaaDoorWNEv
import Derived.Test.YtiajgmocmnjijaaDoorWMore
import Derived.Test.YtiajgmocmnjijaaDoorHWords
import Derived.Test.YtiajgmocmnjijaaDoorSumH
import Derived.Test.YtiajgmocmnjijaaDoorPagH
import Derived.Test.YtiajgmocmnjijaaDoorSupD
namespace Go.Proofs.YtiajgmocmnjijaaDoor.PSup
open Go.RowKit Go.Proofs.YtiajgmocmnjijaaDoorW.PrintWords Go.Proofs.YtiajgmocmnjijaaDoorW.PrintLast Go.Proofs.YtiajgmocmnjijaaDoorW.PrintMore
attribute [local go_sem] max2_int min2_int max_two min_two max_three min_three max_four min_four   -- for this text's walks alone
set_option linter.unusedVariables false
set_option linter.unusedSimpArgs false
open Go.Proofs.YtiajgmocmnjijaaDoor.HW Go.Proofs.YtiajgmocmnjijaaDoor.SumH



def errW : Option Int → Value
  | none => .nilIface
  | some c => .iface 0 (.int .i64 c)
theorem errW_none : errW none = .nilIface := rfl
theorem errW_some (c : Int) : errW (some c) = .iface 0 (.int .i64 c) := rfl

theorem info5 : (Tryd.prog.info? 5).map (fun i => (i.zero, i.size, i.bytes)) = some (some (.int .u8 0), 1, 1) := by kernel_rfl
-- the values' own types

end Go.Proofs.YtiajgmocmnjijaaDoor.PSup
