/-
  Contracts of package sum in clean form.
-/
import Derived.Test.YtbgojedhciimaaaDoorPSumx1
import Derived.Test.YtbgojedhciimaaaDoorCalm
namespace Go.Proofs.YtbgojedhciimaaaDoor.SumW
open Go.RowKit Go.Proofs.YtbgojedhciimaaaDoorW.PrintWords Go.Proofs.YtbgojedhciimaaaDoor.PSum Go.Proofs.YtbgojedhciimaaaDoor.SumH
set_option linter.unusedVariables false
theorem of_b (s : ByteArray) (r : Int) (w : World) (hG : Glob w) (h : sum_Of.f s = some r) : Calls Tryd.prog 10 #[.string s] w fun e w' => e = .returned (.int .u32 r) ∧ Below w.heap.size w w' :=
  (sum_Of.calls s r w hG h).mono fun _ _ ⟨he, hd⟩ => ⟨he, hd.below⟩
end Go.Proofs.YtbgojedhciimaaaDoor.SumW
