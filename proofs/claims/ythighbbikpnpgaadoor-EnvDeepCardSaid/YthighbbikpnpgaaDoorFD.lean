/-
  Walks: the divisions of fix.
-/
import Derived.Test.YthighbbikpnpgaaDoorFC
namespace Go.Proofs.YthighbbikpnpgaaDoor
open Go.RowKit

/-- What divide comes to: 0: the quotient, 1: the remainder, 2: the modulo. -/
def divL (how a b : Int) : Int × Int := if (how == 2) = true then modL a b else if (how == 1) = true then remL a b else quoL a b

end Go.Proofs.YthighbbikpnpgaaDoor
