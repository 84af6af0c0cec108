/-
  digest.Hex, walked by hand over the library's contracts of strings.Builder.
-/
import Derived.Test.YtbphehijikdkjaaDoorDgsK
import Derived.Test.YtbphehijikdkjaaDoorDgsL
import Derived.Test.YtbphehijikdkjaaDoorCalm
import Derived.Deep.DeepMust
namespace Go.Proofs.YtbphehijikdkjaaDoor.DgsX
open Go.RowKit Go.Proofs.YtbphehijikdkjaaDoorW.PrintWords Go.Proofs.YtbphehijikdkjaaDoorW.PrintMore Go.Proofs.YtbphehijikdkjaaDoor.Cm Go.Proofs.YtbphehijikdkjaaDoor.Str Go.Proofs.YtbphehijikdkjaaDoor.DgsL
set_option linter.unusedVariables false
theorem run_index_str {P : Program} (W : World) {T : TypeId} (hT : P.underlying T = some .string) (s : ByteArray) (k : IntKind) (i : Int) (h0 : 0 ≤ i) (h1 : i < (s.size : Int)) :
    (Instr.index T (.string s) (.int k i)).run P W = .ok (.int .u8 (bt s i)) W := by
  have h2 : i.toNat < s.size := by omega
  simp [Instr.index, run_underlying hT, asIntOf, h0, h2, bt, go_sem]
end Go.Proofs.YtbphehijikdkjaaDoor.DgsX
