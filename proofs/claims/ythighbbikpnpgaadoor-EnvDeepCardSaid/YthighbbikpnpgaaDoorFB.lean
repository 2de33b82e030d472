/-
  Walks: sums and differences, of fix and of the reference.
-/
import Derived.Test.YthighbbikpnpgaaDoorFA
namespace Go.Proofs.YthighbbikpnpgaaDoor
open Go.RowKit

/-- A number and a kind's number, as the reference hands them back. -/
def refV (r : Int × Int) : Value := .tuple #[.int .i64 r.1, .int .i64 r.2]

theorem refnum_any (n : Int) (w : World) : Calls Tryd.prog 40 #[.int .i64 n] w fun e w' => e = .returned (.bool (Num n)) ∧ w' = w := by
  by_cases h1 : n ≤ 1152921504606846975
  · have h3 : n < 1152921504606846976 := by omega
    by_cases h2 : -1152921504606846976 ≤ n
    all_goals
      have H : Hid (Num n = _) := (by simp only [Hid, Num, h1, h2]; rfl)
      go_enter Tryd.func40, Tryd.ntmps40
      go_wp2
      go_ret
      exact ⟨by rw [H.out]; simp, rfl⟩
  · have h3 : ¬ n < 1152921504606846976 := by omega
    have h2 : -1152921504606846976 ≤ n := by omega
    have H : Hid (Num n = _) := (by simp only [Hid, Num, h1, h2]; rfl)
    go_enter Tryd.func40, Tryd.ntmps40
    go_wp2
    go_ret
    exact ⟨by rw [H.out]; simp, rfl⟩

end Go.Proofs.YthighbbikpnpgaaDoor
