/-
  Walks of fix's sums, products and divisions.
-/
import Derived.Test.YtneokkhnjnomdaaDoorFL
import Derived.Test.YtneokkhnjnomdaaDoorIs
namespace Go.Proofs.YtneokkhnjnomdaaDoor
open Go.RowKit

/-- An error: nil, or a kind. -/
def errV (k : Int) : Value := if (k == 0) = true then .nilIface else kindV k
/-- A number and an error, as fix hands them back. -/
def resV (r : Int × Int) : Value := .tuple #[.int .i64 r.1, errV r.2]

theorem whole_any (n : Int) (w : World) : Calls Tryd.prog 60 #[.int .i64 n] w fun e w' => e = .returned (.bool (Num n)) ∧ w' = w := by
  by_cases h1 : n ≤ 1152921504606846975
  · by_cases h2 : -1152921504606846976 ≤ n
    all_goals
      have H : Hid (Num n = _) := (by simp only [Hid, Num, h1, h2]; rfl)
      go_enter Tryd.func60, Tryd.ntmps60
      go_wp2
      go_ret
      exact ⟨by rw [H.out]; simp, rfl⟩
  · have H : Hid (Num n = _) := (by simp only [Hid, Num, h1]; rfl)
    go_enter Tryd.func60, Tryd.ntmps60
    go_wp2
    go_ret
    exact ⟨by rw [H.out]; simp, rfl⟩

theorem fit_any (n : Int) (w : World) : Calls Tryd.prog 59 #[.int .i64 n] w fun e w' => e = .returned (resV (fitL n)) ∧ w' = w := by
  have H : Hid (fitL n = if Num n = true then (n, 0) else (0, 11)) := rfl
  generalize hN : Num n = b at H
  have HN := Lib.hid hN
  clear hN
  go_enter Tryd.func59, Tryd.ntmps59
  go_wp2_with fail
  refine (whole_any _ _).mono ?_
  rintro e w' ⟨rfl, rfl⟩
  rw [HN.out]
  cases b
  all_goals
    go_wp2_with fail
    go_ret2
    exact ⟨by rw [H.out]; rfl, rfl⟩

theorem both_any (a b : Int) (w : World) : Calls Tryd.prog 58 #[.int .i64 a, .int .i64 b] w fun e w' => e = .returned (if (Num a && Num b) = true then .nilIface else kindV 2) ∧ w' = w := by
  obtain ⟨v, hv⟩ : ∃ v, v = (if (Num a && Num b) = true then Value.nilIface else kindV 2) := ⟨_, rfl⟩
  rw [← hv]
  generalize hA : Num a = x at hv
  generalize hB : Num b = y at hv
  have HA := Lib.hid hA
  have HB := Lib.hid hB
  have HV := Lib.hid hv
  clear hA hB hv
  go_enter Tryd.func58, Tryd.ntmps58
  go_wp2_with fail
  refine (whole_any _ _).mono ?_
  rintro e w' ⟨rfl, rfl⟩
  rw [HA.out]
  cases x
  · go_wp2_with fail
    go_ret
    exact ⟨by rw [HV.out]; rfl, rfl⟩
  · go_wp2_with fail
    refine (whole_any _ _).mono ?_
    rintro e w' ⟨rfl, rfl⟩
    rw [HB.out]
    cases y
    all_goals
      go_wp2_with fail
      go_ret
      exact ⟨by rw [HV.out]; rfl, rfl⟩
end Go.Proofs.YtneokkhnjnomdaaDoor
