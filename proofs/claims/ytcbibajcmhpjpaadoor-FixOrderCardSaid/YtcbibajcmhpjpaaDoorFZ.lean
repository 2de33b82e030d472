/-
  Walk: layer 2's law FixOrder.
-/
import Derived.Test.YtcbibajcmhpjpaaDoorFZ1
import Derived.Test.YtcbibajcmhpjpaaDoorFZ2
import Derived.Test.YtcbibajcmhpjpaaDoorFZ3
import Derived.Test.YtcbibajcmhpjpaaDoorFZ4
namespace Go.Proofs.YtcbibajcmhpjpaaDoor
open Go.RowKit

theorem order_walk (a b : Int) (w : World) (htab : Tab w) :
    Calls Tryd.prog 10 #[.int .i64 a, .int .i64 b] w fun e w' => e = .returned (.bool true) ∧ Below w.heap.size w w' := by
  by_cases hk : (addL a b).2 = 0
  · by_cases hz : (mulL a b).2 = 0
    · exact order_ok_nil a b w htab hz hk
    · exact order_ok_kind a b w htab hz hk
  · by_cases hz : (mulL a b).2 = 0
    · exact order_no_nil a b w htab hz hk
    · exact order_no_kind a b w htab hz hk
end Go.Proofs.YtcbibajcmhpjpaaDoor
