-- Written by a program of this session for this seat. Not trusted: Lean checks it.
import Derived.Test.YtbphehijikdkjaaDoorPDgsx0
import Derived.Test.YtbphehijikdkjaaDoorPDgsx1
namespace Go.Proofs.YtbphehijikdkjaaDoor.PDgs
open Go.RowKit Go.Proofs.YtbphehijikdkjaaDoorW.PrintWords Go.Proofs.YtbphehijikdkjaaDoorW.PrintLast Go.Proofs.YtbphehijikdkjaaDoorW.PrintMore
attribute [local go_sem] max2_int min2_int max_two min_two max_three min_three max_four min_four   -- for this text's walks alone
set_option linter.unusedVariables false
set_option linter.unusedSimpArgs false
open Go.Proofs.YtbphehijikdkjaaDoor.HW

/-! ### umbelref04_cube: function 41 -/
def umbelref04_cube.l0 : Nat → Int → Int → Int → Option (Int)
  | 0, _, _, _ => none
  | k + 1, x0, x3, x4 => if x4 ≥ 0 then (if 0 ≤ (IntKind.u64.wrap (x4)) then ((umbelref04_times.f (Go.bits .or .u64 x3 (shl .u64 1 (IntKind.u64.wrap (x4)))) (Go.bits .or .u64 x3 (shl .u64 1 (IntKind.u64.wrap (x4))))).bind fun bt125 => ((umbelref04_times.f bt125.2 (Go.bits .or .u64 x3 (shl .u64 1 (IntKind.u64.wrap (x4))))).bind fun bt127 => ((umbelref04_times.f bt125.1 (Go.bits .or .u64 x3 (shl .u64 1 (IntKind.u64.wrap (x4))))).bind fun bt129 => (if (IntKind.u64.wrap (bt127.1 + bt129.2)) < (IntKind.u64.wrap (x0 * 4294967296)) then (umbelref04_cube.l0 k x0 (Go.bits .or .u64 x3 (shl .u64 1 (IntKind.u64.wrap (x4)))) (wrap64 (x4 - 1))) else (if (IntKind.u64.wrap (bt127.1 + bt129.2)) = (IntKind.u64.wrap (x0 * 4294967296)) then (if bt127.2 = 0 then (umbelref04_cube.l0 k x0 (Go.bits .or .u64 x3 (shl .u64 1 (IntKind.u64.wrap (x4)))) (wrap64 (x4 - 1))) else (umbelref04_cube.l0 k x0 x3 (wrap64 (x4 - 1)))) else (umbelref04_cube.l0 k x0 x3 (wrap64 (x4 - 1)))))))) else (none)) else (some ((x3) % 4294967296))
def umbelref04_cube.f (k : Nat) (a0 : Int) : Option (Int) := umbelref04_cube.l0 k a0 0 35
-- NOT PRINTED: function 30 (umbelref04_Constants)

-- NOT PRINTED: function 12 (umbelref04_Of)

/-! ### umbelref04_Hex: function 14 -/
-- NOT PRINTED: function 18 (umbelref04_Block)

-- NOT PRINTED: function 3 (umbellaw04_DigestTells)

-- NOT PRINTED: function 4 (umbellaw04_DigestSteps)

-- NOT PRINTED: function 5 (umbellaw04_DigestPads)

-- NOT PRINTED: function 6 (umbellaw04_DigestHexes)

end Go.Proofs.YtbphehijikdkjaaDoor.PDgs
