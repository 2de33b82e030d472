/-
  Whether a datum may be one: all together; read.Check.
-/
import Derived.Test.YtneokkhnjnomdaaGreatDoorDtC
namespace Go.Proofs.YtneokkhnjnomdaaGreatDoor
open Go.RowKit Go.Proofs.YtneokkhnjnomdaaGreatDoor.PSh Go.Proofs.YtneokkhnjnomdaaGreatDoorW.PrintWords

/-- May it be a datum? -/
def rightD (x : Dat) : Bool := decide (cnt x 0 ≤ 4000) && fitsD x 0
end Go.Proofs.YtneokkhnjnomdaaGreatDoor
