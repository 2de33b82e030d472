/-
  Walks of the reference's Parse.
-/
import Derived.Test.YtneokkhnjnomdaaDoorFQ
namespace Go.Proofs.YtneokkhnjnomdaaDoor
open Go.RowKit

end Go.Proofs.YtneokkhnjnomdaaDoor
