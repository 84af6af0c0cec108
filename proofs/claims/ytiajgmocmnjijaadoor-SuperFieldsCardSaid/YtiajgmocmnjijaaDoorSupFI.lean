/-
  SuperFields: the walk in a row's letters.
-/
import Derived.Test.YtiajgmocmnjijaaDoorSupF
import Derived.Test.YtiajgmocmnjijaaDoorSupG
namespace Go.Proofs.YtiajgmocmnjijaaDoor.SupF
open Go.RowKit Go.Proofs.YtiajgmocmnjijaaDoor.SumH
theorem walkF (a0 b0 c0 e0 f0 g0 a1 b1 c1 e1 f1 g1 : Int) (w : World) (hG : Glob w) :
    Calls Tryd.prog 9 #[.agg #[.int .i64 a0, .int .i64 b0, .int .i64 c0, .int .i64 e0, .int .i64 f0, .int .i64 g0], .agg #[.int .i64 a1, .int .i64 b1, .int .i64 c1, .int .i64 e1, .int .i64 f1, .int .i64 g1]] w fun e w' => e = .returned (.bool true) ∧ Below w.heap.size w w' :=
  walk ⟨a0, b0, c0, e0, f0, g0⟩ ⟨a1, b1, c1, e1, f1, g1⟩ w hG
end Go.Proofs.YtiajgmocmnjijaaDoor.SupF
