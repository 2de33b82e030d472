/-
  The law of arities.
-/
import Derived.Test.YtneokkhnjnomdaaGreatDoorGrC
import Derived.Test.YtneokkhnjnomdaaGreatDoorPrI
import Derived.Test.YtneokkhnjnomdaaGreatDoorPrAr
import Derived.Test.YtneokkhnjnomdaaGreatDoorGB2
namespace Go.Proofs.YtneokkhnjnomdaaGreatDoor
open Go.RowKit Go.Proofs.YtneokkhnjnomdaaGreatDoor.PSh Go.Proofs.YtneokkhnjnomdaaGreatDoorW.PrintWords Go.ChangeShapes Go.WideShapes Go.ChangeAt

theorem res_len {n : Int} {L : List Nd} (hlen : L.length ≠ (kindsN n).length) : resL n L = errR 10 := by
  unfold resL
  rw [if_pos hlen]

theorem plain_f (x : Dat) (K : Nat) (hp : prt x ≤ 100000) (hK : 5 * szD x ≤ K) : spindleref18_Plain.f K x.f0 x.f1 x.f2 x.f3 = some (plainX x) := by
  unfold spindleref18_Plain.f plainX
  by_cases h1 : 1 ≤ x.f0
  · by_cases h5 : x.f0 ≤ 5
    · simp [h1, h5, Right_f x K hp hK]
    · simp [h1, h5]
  · simp [h1]

end Go.Proofs.YtneokkhnjnomdaaGreatDoor
