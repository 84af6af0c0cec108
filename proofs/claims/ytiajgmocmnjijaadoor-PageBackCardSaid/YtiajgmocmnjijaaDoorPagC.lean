/-
  PageBack: the walk and its arguments' openings, together.
-/
import Derived.Test.YtiajgmocmnjijaaDoorPagB
import Derived.Test.YtiajgmocmnjijaaDoorPagA
