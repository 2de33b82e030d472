/-
  Whether a datum may be one (read.fits, read.Check).
-/
import Derived.Test.YtneokkhnjnomdaaGreatDoorDtA
import Derived.Test.YtneokkhnjnomdaaGreatDoorGB2
namespace Go.Proofs.YtneokkhnjnomdaaGreatDoor
open Go.RowKit Go.Proofs.YtneokkhnjnomdaaGreatDoor.PSh Go.Proofs.YtneokkhnjnomdaaGreatDoorW.PrintWords

def lastK (l : List Dat) : Int := match l.getLast? with | some x => x.f0 | none => 0
mutual
/-- May a datum stand within so many? -/
def fitsD : Dat → Nat → Bool
  | ⟨k, n, t, l⟩, wi => !decide (64 ≤ wi) && (
    if k = 1 then decide (l = []) && decide (t.toList = []) && decide (n ≤ 1152921504606846975) && decide (-1152921504606846976 ≤ n)
    else if k = 2 then decide (l = []) && decide (t.toList = []) && (n == 0 || n == 1)
    else if k = 3 then decide (l = []) && decide (t.toList = []) && (decide (0 ≤ n) && decide (n ≤ 255))
    else if k = 4 then decide (l = []) && (n == 0) && decide (t.size ≤ 500)
    else if k = 5 then decide (l = []) && (n == 0) && symL t.data.toList
    else if k = 7 then decide (2 ≤ l.length) && !(lastK l == 6) && !(lastK l == 7) && fitsL l (wi + 1) && (n == 0) && decide (t.toList = [])
    else if k = 6 ∨ k = 8 then fitsL l (wi + 1) && (n == 0) && decide (t.toList = [])
    else false)
def fitsL : List Dat → Nat → Bool
  | [], _ => true
  | x :: r, wi => fitsD x wi && fitsL r wi
end

end Go.Proofs.YtneokkhnjnomdaaGreatDoor
