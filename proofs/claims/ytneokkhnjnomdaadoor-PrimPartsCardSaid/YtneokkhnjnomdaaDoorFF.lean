/-
  Walks: the reference's Mul and Modulo; says.
-/
import Derived.Test.YtneokkhnjnomdaaDoorFE
namespace Go.Proofs.YtneokkhnjnomdaaDoor
open Go.RowKit

end Go.Proofs.YtneokkhnjnomdaaDoor
