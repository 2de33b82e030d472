/-
  Walks: the reference's product and divisions.
-/
import Derived.Test.YtneokkhnjnomdaaDoorFD
namespace Go.Proofs.YtneokkhnjnomdaaDoor
open Go.RowKit

theorem u64w (n : Int) : IntKind.u64.wrap n = n % 18446744073709551616 := rfl

/-- The reference's product: a number, and whether it may be. -/
def prodL (a b : Int) : Int × Bool := if Num (a * b) = true then (a * b, true) else (0, false)

end Go.Proofs.YtneokkhnjnomdaaDoor
