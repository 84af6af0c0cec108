/-
  The plain statement of NibbleBack.
-/
import Derived.Test.YtbgojedhciimaaaNibL
namespace Go.Proofs.Ytbgojedhciimaaa.Pure
open Go.Proofs.Ytbgojedhciimaaa.PNib
theorem NibbleBack : umbellaw02_NibbleBack.Pure := NibL.NibbleBack
end Go.Proofs.Ytbgojedhciimaaa.Pure
