/-
  Arrays of whole numbers as a row hands them: opened.
-/
import Derived.Test.YtiajgmocmnjijaaDoorPagG
namespace Go.Proofs.YtiajgmocmnjijaaDoor.PagG
open Go.ChangeShapes Go.WideShapes Go.ChangeAt Go.RowKit
set_option linter.unusedVariables false
end Go.Proofs.YtiajgmocmnjijaaDoor.PagG
