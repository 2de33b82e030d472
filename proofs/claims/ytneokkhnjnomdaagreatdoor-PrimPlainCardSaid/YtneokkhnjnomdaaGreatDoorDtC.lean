/-
  Whether a datum may be one: lists.
-/
import Derived.Test.YtneokkhnjnomdaaGreatDoorDtB
namespace Go.Proofs.YtneokkhnjnomdaaGreatDoor
open Go.RowKit Go.Proofs.YtneokkhnjnomdaaGreatDoor.PSh Go.Proofs.YtneokkhnjnomdaaGreatDoorW.PrintWords

end Go.Proofs.YtneokkhnjnomdaaGreatDoor
