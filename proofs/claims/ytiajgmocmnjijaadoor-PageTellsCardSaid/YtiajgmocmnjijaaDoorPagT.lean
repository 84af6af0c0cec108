/-
  PageTells: the walk, for every argument.
-/
import Derived.Test.YtiajgmocmnjijaaDoorPagW
import Derived.Test.YtiajgmocmnjijaaDoorPagG
namespace Go.Proofs.YtiajgmocmnjijaaDoor.PagT
open Go.RowKit Go.Proofs.YtiajgmocmnjijaaDoor.PPag Go.Proofs.YtiajgmocmnjijaaDoorW.PrintWords Go.Proofs.YtiajgmocmnjijaaDoor.SumH Go.Proofs.YtiajgmocmnjijaaDoor.PagW
theorem walk (a0 b0 : Int) (c0 : ByteArray) (a1 : Int) (a2 : ByteArray) (w : World) (hG : Glob w) (w1 : (Lit.int .i64 a1).wf = true) (w2 : a2.size ≤ 140737488351232) :
    Calls Tryd.prog 3 #[.agg #[.int .i64 a0, .int .i64 b0, .string c0], .int .i64 a1, .string a2] w fun e w' => e = .returned (.bool true) ∧ Below w.heap.size w w' := by
  obtain ⟨k, hk⟩ := (tells_ev a0 b0 c0 a1 a2).rounds
  exact umbellaw07_PageTells.calls k a0 b0 c0 a1 a2 true w hG hk
end Go.Proofs.YtiajgmocmnjijaaDoor.PagT
