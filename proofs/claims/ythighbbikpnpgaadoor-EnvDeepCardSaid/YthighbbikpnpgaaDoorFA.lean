/-
  Walks of fix's sums, products and divisions.
-/
import Derived.Test.YthighbbikpnpgaaDoorFL
import Derived.Test.YthighbbikpnpgaaDoorIs
namespace Go.Proofs.YthighbbikpnpgaaDoor
open Go.RowKit

/-- An error: nil, or a kind. -/
def errV (k : Int) : Value := if (k == 0) = true then .nilIface else kindV k
/-- A number and an error, as fix hands them back. -/
def resV (r : Int × Int) : Value := .tuple #[.int .i64 r.1, errV r.2]

theorem whole_any (n : Int) (w : World) : Calls Tryd.prog 125 #[.int .i64 n] w fun e w' => e = .returned (.bool (Num n)) ∧ w' = w := by
  by_cases h1 : n ≤ 1152921504606846975
  · by_cases h2 : -1152921504606846976 ≤ n
    all_goals
      have H : Hid (Num n = _) := (by simp only [Hid, Num, h1, h2]; rfl)
      go_enter Tryd.func125, Tryd.ntmps125
      go_wp2
      go_ret
      exact ⟨by rw [H.out]; simp, rfl⟩
  · have H : Hid (Num n = _) := (by simp only [Hid, Num, h1]; rfl)
    go_enter Tryd.func125, Tryd.ntmps125
    go_wp2
    go_ret
    exact ⟨by rw [H.out]; simp, rfl⟩

theorem fit_any (n : Int) (w : World) : Calls Tryd.prog 119 #[.int .i64 n] w fun e w' => e = .returned (resV (fitL n)) ∧ w' = w := by
  have H : Hid (fitL n = if Num n = true then (n, 0) else (0, 11)) := rfl
  generalize hN : Num n = b at H
  have HN := Lib.hid hN
  clear hN
  go_enter Tryd.func119, Tryd.ntmps119
  go_wp2_with fail
  refine (whole_any _ _).mono ?_
  rintro e w' ⟨rfl, rfl⟩
  rw [HN.out]
  cases b
  all_goals
    go_wp2_with fail
    go_ret2
    exact ⟨by rw [H.out]; rfl, rfl⟩

end Go.Proofs.YthighbbikpnpgaaDoor
