/-
  The plain statement of NibbleOrder.
-/
import Derived.Test.YtbgojedhciimaaaNibL
namespace Go.Proofs.Ytbgojedhciimaaa.Pure
open Go.Proofs.Ytbgojedhciimaaa.PNib
theorem NibbleOrder : umbellaw02_NibbleOrder.Pure := NibL.NibbleOrder
end Go.Proofs.Ytbgojedhciimaaa.Pure
