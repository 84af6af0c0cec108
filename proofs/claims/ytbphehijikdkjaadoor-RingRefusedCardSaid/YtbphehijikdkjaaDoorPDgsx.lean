-- Written by a program of this session for this seat. Not trusted: Lean checks it.
import Derived.Test.YtbphehijikdkjaaDoorPDgsx0
import Derived.Test.YtbphehijikdkjaaDoorPDgsx1
import Derived.Test.YtbphehijikdkjaaDoorPDgsx2
namespace Go.Proofs.YtbphehijikdkjaaDoor.PDgs
open Go.RowKit Go.Proofs.YtbphehijikdkjaaDoorW.PrintWords Go.Proofs.YtbphehijikdkjaaDoorW.PrintLast Go.Proofs.YtbphehijikdkjaaDoorW.PrintMore
attribute [local go_sem] max2_int min2_int max_two min_two max_three min_three max_four min_four   -- for this text's walks alone
set_option linter.unusedVariables false
set_option linter.unusedSimpArgs false
open Go.Proofs.YtbphehijikdkjaaDoor.HW

end Go.Proofs.YtbphehijikdkjaaDoor.PDgs
