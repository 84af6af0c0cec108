/-
  The library contracts of strings.Builder, laid at this program.
-/
import Derived.Shelf.Strings.Builder1
import Derived.Test.YtbphehijikdkjaaDoorProg
namespace Go.Proofs
open Go.Shelf
end Go.Proofs
