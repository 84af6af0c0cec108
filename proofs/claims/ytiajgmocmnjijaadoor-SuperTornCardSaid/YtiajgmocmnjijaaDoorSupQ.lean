/-
  Contracts of one line for the reference's superblock; a whole struct read in a region of open order; what both Chooses have in common.
-/
import Derived.Test.YtiajgmocmnjijaaDoorSupC
import Derived.Test.YtiajgmocmnjijaaDoorSupR
import Derived.Test.YtiajgmocmnjijaaDoorCalm
namespace Go.Proofs.YtiajgmocmnjijaaDoor.SupQ
open Go.RowKit Go.Proofs.YtiajgmocmnjijaaDoor.PSup Go.Proofs.YtiajgmocmnjijaaDoorW.PrintWords Go.Proofs.YtiajgmocmnjijaaDoorW.PrintLast Go.Proofs.YtiajgmocmnjijaaDoorW.PrintMore Go.Proofs.YtiajgmocmnjijaaDoor.Str Go.Proofs.YtiajgmocmnjijaaDoor.SumH Go.Proofs.YtiajgmocmnjijaaDoor.SupP Go.Proofs.YtiajgmocmnjijaaDoor.SupC Go.Proofs.YtiajgmocmnjijaaDoor.SupR Go.Proofs.YtiajgmocmnjijaaDoor.Cm
set_option linter.unusedVariables false
theorem rgood_c (s : Sb) (W : World) : Calls Tryd.prog 25 #[.agg #[.int .i64 s.q, .int .i64 s.g, .int .i64 s.l, .int .i64 s.r, .int .i64 s.t, .int .i64 s.c]] W fun e w' => e = .returned (.bool (decide (goodP s))) ∧ Below W.heap.size W w' :=
  umbelref23_Good.calls _ _ _ _ _ _ _ W (rgood_eq s)
section
variable {P : Program} {C : World → Prop}
end
end Go.Proofs.YtiajgmocmnjijaaDoor.SupQ
