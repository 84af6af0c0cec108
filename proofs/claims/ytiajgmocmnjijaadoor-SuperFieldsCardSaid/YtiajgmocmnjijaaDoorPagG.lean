/-
  Structs of whole numbers and a text, and arrays of whole numbers, as a row hands them: opened.
-/
import Derived.Test.YtiajgmocmnjijaaDoorProg
import Derived.Test.YtiajgmocmnjijaaDoorWWords
import Derived.OpenShut
import Derived.ProofKit
import Derived.Deep.Strs
import Derived.Lib.SmallJoins
import Derived.ChangeOld
import Derived.SizedLaws
namespace Go.Proofs.YtiajgmocmnjijaaDoor.PagG
open Go.ChangeShapes Go.WideShapes Go.ChangeAt Go.RowKit
set_option linter.unusedVariables false
section
variable {H : Type} {enc : TypeId × Value → H} {P : Program} {w : World} {base : Nat} {sp : Nat → Bool} {held : Bool} {fuel : Nat}
end
end Go.Proofs.YtiajgmocmnjijaaDoor.PagG
