/-
  SuperTells: the walk in a row's letters.
-/
import Derived.Test.YtiajgmocmnjijaaDoorSupT
import Derived.Test.YtiajgmocmnjijaaDoorSupG
namespace Go.Proofs.YtiajgmocmnjijaaDoor.SupT
open Go.RowKit Go.Proofs.YtiajgmocmnjijaaDoor.SumH
theorem walkF (a0 b0 c0 e0 f0 g0 : Int) (a1 a2 : ByteArray) (w : World) (hG : Glob w) (_ : a1.size ≤ 140737488351232) (_ : a2.size ≤ 140737488351232) :
    Calls Tryd.prog 6 #[.agg #[.int .i64 a0, .int .i64 b0, .int .i64 c0, .int .i64 e0, .int .i64 f0, .int .i64 g0], .string a1, .string a2] w fun e w' => e = .returned (.bool true) ∧ Below w.heap.size w w' :=
  walk ⟨a0, b0, c0, e0, f0, g0⟩ a1 a2 w hG
end Go.Proofs.YtiajgmocmnjijaaDoor.SupT
