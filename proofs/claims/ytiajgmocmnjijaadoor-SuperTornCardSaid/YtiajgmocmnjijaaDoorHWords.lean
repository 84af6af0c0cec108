/-
  Words of this session's own beside the printed ones: make with a capacity of its own.
-/
import Derived.Test.YtiajgmocmnjijaaDoorWWords
import Derived.Test.YtiajgmocmnjijaaDoorWMore
namespace Go.Proofs.YtiajgmocmnjijaaDoor.HW
open Go.RowKit Go.Proofs.YtiajgmocmnjijaaDoorW.PrintWords
set_option linter.unusedVariables false
namespace Kd
open Go.Proofs.YtiajgmocmnjijaaDoorW.PrintWords.Kd
section
variable {P : Program} {ops : Array Oper} {rest : List Oper} {o : Oper} {a : Act} {Q : Exit → Act → World → Prop} {α : Type}
end
end Kd
end Go.Proofs.YtiajgmocmnjijaaDoor.HW
