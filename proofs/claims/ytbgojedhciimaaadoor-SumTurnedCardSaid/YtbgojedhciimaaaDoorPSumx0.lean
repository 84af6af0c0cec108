-- Written by a program of this session for this seat. Not trusted: Lean checks it.
import Derived.Test.YtbgojedhciimaaaDoorProg
import Derived.Below
import Derived.Deep.Draws
import Derived.Deep.AppendLies
import Derived.Maps.AppendAt
import Derived.OwnWalk
import Derived.Laws.BytesArg
import Derived.Laws.MakeOwn
import Derived.Laws.OwnMore
import Derived.Deep.OwnRows
import Derived.Tactics
import Derived.Lib.ConvBytes
import Derived.Laws.Slices
import Derived.WalkKit
import Derived.KernelRfl
import Derived.RowKit3
import Derived.Deep.LoopGhost
import Derived.Deep.QuietTactic
import Derived.BigQuiet
import Derived.WideLaws
import Derived.Deep.DeepCutAuto
import Derived.Deep.CutBlock
import Derived.Deep.RegionHeld3
import Derived.Laws.Rows
import Derived.Lib.AppendStr
import Derived.ArgAppend
import Derived.Laws.IdiomCopy
import Derived.OrdersHeld
import Derived.Laws.BitsLemmas
import Derived.RowKit
import Derived.Test.YtbgojedhciimaaaDoorWWords
import Derived.Test.YtbgojedhciimaaaDoorWLast
import Derived.Test.YtbgojedhciimaaaDoorWTab
import Derived.Test.YtbgojedhciimaaaDoorWFour
import Derived.Test.YtbgojedhciimaaaDoorWQPut
import Derived.Test.YtbgojedhciimaaaDoorWApart
import Derived.Test.YtbgojedhciimaaaDoorWArr
import Derived.Test.YtbgojedhciimaaaDoorWZeros
import Derived.Test.YtbgojedhciimaaaDoorWFoot
import Derived.Test.YtbgojedhciimaaaDoorWKept
import Derived.Test.YtbgojedhciimaaaDoorWShare
import Derived.Test.YtbgojedhciimaaaDoorWN
import Derived.Test.YtbgojedhciimaaaDoorWFootNe
import Derived.Test.YtbgojedhciimaaaDoorWAt
import Derived.Test.YtbgojedhciimaaaDoorWEqStruct
import Derived.Test.YtbgojedhciimaaaDoorWRepsOne
import Derived.Test.YtbgojedhciimaaaDoorWInv
import Derived.Test.YtbgojedhciimaaaDoorWInvWords
import Derived.Test.YtbgojedhciimaaaDoorWGuard
import Derived.Test.YtbgojedhciimaaaDoorWNEv
import Derived.Test.YtbgojedhciimaaaDoorWMore
import Derived.Test.YtbgojedhciimaaaDoorHWords
import Derived.Test.YtbgojedhciimaaaDoorSumH
namespace Go.Proofs.YtbgojedhciimaaaDoor.PSum
open Go.RowKit Go.Proofs.YtbgojedhciimaaaDoorW.PrintWords Go.Proofs.YtbgojedhciimaaaDoorW.PrintLast Go.Proofs.YtbgojedhciimaaaDoorW.PrintMore
attribute [local go_sem] max2_int min2_int max_two min_two max_three min_three max_four min_four   -- for this text's walks alone
set_option linter.unusedVariables false
set_option linter.unusedSimpArgs false
open Go.Proofs.YtbgojedhciimaaaDoor.HW Go.Proofs.YtbgojedhciimaaaDoor.SumH



def errW : Option Int → Value
  | none => .nilIface
  | some c => .iface 0 (.int .i64 c)
theorem errW_none : errW none = .nilIface := rfl
theorem errW_some (c : Int) : errW (some c) = .iface 0 (.int .i64 c) := rfl

theorem info5 : (Tryd.prog.info? 5).map (fun i => (i.zero, i.size, i.bytes)) = some (some (.int .u8 0), 1, 1) := by kernel_rfl
-- the values' own types

end Go.Proofs.YtbgojedhciimaaaDoor.PSum
