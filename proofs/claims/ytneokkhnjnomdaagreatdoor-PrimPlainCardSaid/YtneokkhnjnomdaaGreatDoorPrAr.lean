/-
  How many arguments each pure procedure takes.
-/
import Derived.Test.YtneokkhnjnomdaaGreatDoorPrE
namespace Go.Proofs.YtneokkhnjnomdaaGreatDoor
open Go.RowKit Go.Proofs.YtneokkhnjnomdaaGreatDoorW.PrintWords

end Go.Proofs.YtneokkhnjnomdaaGreatDoor
