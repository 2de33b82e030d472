/-
  Walks: the reference's Mul and Modulo; says.
-/
import Derived.Test.YthighbbikpnpgaaDoorFE
namespace Go.Proofs.YthighbbikpnpgaaDoor
open Go.RowKit

end Go.Proofs.YthighbbikpnpgaaDoor
