/-
  What the rows of this seat share.
-/
import Derived.Test.YtkogfljjdgcdnaaRows
import Derived.Test.YtkogfljjdgcdnaaJK
import Derived.HandedShaped
import Derived.ProofKit
namespace Go.Proofs.Ytkogfljjdgcdnaa
open Go.ChangeShapes Go.WideShapes Go.ChangeAt Go.RowKit
open Go.ChangeMaps (open_string shut_string)

theorem Try.own : ownKnob Try.prog.godebug = none := by kernel_rfl
theorem Try.laidOut : laidOutB Try.prog = true := by kernel_rfl
end Go.Proofs.Ytkogfljjdgcdnaa
