/-
  The plain statement of NibblePlaces.
-/
import Derived.Test.YtbgojedhciimaaaNibL
namespace Go.Proofs.Ytbgojedhciimaaa.Pure
open Go.Proofs.Ytbgojedhciimaaa.PNib
theorem NibblePlaces : umbellaw02_NibblePlaces.Pure := NibL.NibblePlaces
end Go.Proofs.Ytbgojedhciimaaa.Pure
