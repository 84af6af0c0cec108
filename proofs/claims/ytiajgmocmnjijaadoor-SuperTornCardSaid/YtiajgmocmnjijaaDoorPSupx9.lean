-- Written by a program of this session for this seat. Not trusted: Lean checks it.
import Derived.Test.YtiajgmocmnjijaaDoorPSupx0
import Derived.Test.YtiajgmocmnjijaaDoorPSupx8
namespace Go.Proofs.YtiajgmocmnjijaaDoor.PSup
open Go.RowKit Go.Proofs.YtiajgmocmnjijaaDoorW.PrintWords Go.Proofs.YtiajgmocmnjijaaDoorW.PrintLast Go.Proofs.YtiajgmocmnjijaaDoorW.PrintMore
attribute [local go_sem] max2_int min2_int max_two min_two max_three min_three max_four min_four   -- for this text's walks alone
set_option linter.unusedVariables false
set_option linter.unusedSimpArgs false
open Go.Proofs.YtiajgmocmnjijaaDoor.HW Go.Proofs.YtiajgmocmnjijaaDoor.SumH

/-! ### umbelref23_Choose: function 23 -/
-- NOT PRINTED: function 6 (umbellaw23_SuperTells)

-- NOT PRINTED: function 7 (umbellaw23_SuperTorn)

-- NOT PRINTED: function 8 (umbellaw23_SuperChooses)

-- NOT PRINTED: function 9 (umbellaw23_SuperFields)

end Go.Proofs.YtiajgmocmnjijaaDoor.PSup
