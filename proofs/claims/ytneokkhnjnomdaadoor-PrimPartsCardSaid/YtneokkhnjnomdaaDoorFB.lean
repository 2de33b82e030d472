/-
  Walks: sums and differences, of fix and of the reference.
-/
import Derived.Test.YtneokkhnjnomdaaDoorFA
namespace Go.Proofs.YtneokkhnjnomdaaDoor
open Go.RowKit

/-- A number and a kind's number, as the reference hands them back. -/
def refV (r : Int × Int) : Value := .tuple #[.int .i64 r.1, .int .i64 r.2]

theorem add_any (a b : Int) (w : World) : Calls Tryd.prog 40 #[.int .i64 a, .int .i64 b] w fun e w' => e = .returned (resV (addL a b)) ∧ w' = w := by
  have HC := Lib.hid (both_any a b)
  have H : Hid (addL a b = if (Num a && Num b) = true then fitL (a + b) else (0, 2)) := rfl
  generalize hp : (Num a && Num b) = p at HC H
  cases p
  · clear hp
    go_enter Tryd.func40, Tryd.ntmps40
    go_wp2_with fail
    refine (HC.out _).mono ?_
    rintro e w' ⟨rfl, rfl⟩
    go_wp2_with fail
    go_ret2
    exact ⟨by rw [H.out]; rfl, rfl⟩
  · rw [Bool.and_eq_true, num_iff, num_iff] at hp
    obtain ⟨⟨a1, a2⟩, b1, b2⟩ := hp
    go_enter Tryd.func40, Tryd.ntmps40
    go_wp2_with fail
    refine (HC.out _).mono ?_
    rintro e w' ⟨rfl, rfl⟩
    go_wp2_with fail
    refine (fit_any _ _).mono ?_
    rintro e w' ⟨rfl, rfl⟩
    have H2 : Hid (addL a b = fitL (a + b)) := H.out
    generalize fitL (a + b) = r at H2
    obtain ⟨n, k⟩ := r
    rw [resV]
    go_wp2_with fail
    go_ret2
    exact ⟨by rw [H2.out]; rfl, rfl⟩

theorem sub_any (a b : Int) (w : World) : Calls Tryd.prog 41 #[.int .i64 a, .int .i64 b] w fun e w' => e = .returned (resV (subL a b)) ∧ w' = w := by
  have HC := Lib.hid (both_any a b)
  have H : Hid (subL a b = if (Num a && Num b) = true then fitL (a - b) else (0, 2)) := rfl
  generalize hp : (Num a && Num b) = p at HC H
  cases p
  · clear hp
    go_enter Tryd.func41, Tryd.ntmps41
    go_wp2_with fail
    refine (HC.out _).mono ?_
    rintro e w' ⟨rfl, rfl⟩
    go_wp2_with fail
    go_ret2
    exact ⟨by rw [H.out]; rfl, rfl⟩
  · rw [Bool.and_eq_true, num_iff, num_iff] at hp
    obtain ⟨⟨a1, a2⟩, b1, b2⟩ := hp
    go_enter Tryd.func41, Tryd.ntmps41
    go_wp2_with fail
    refine (HC.out _).mono ?_
    rintro e w' ⟨rfl, rfl⟩
    go_wp2_with fail
    refine (fit_any _ _).mono ?_
    rintro e w' ⟨rfl, rfl⟩
    have H2 : Hid (subL a b = fitL (a - b)) := H.out
    generalize fitL (a - b) = r at H2
    obtain ⟨n, k⟩ := r
    rw [resV]
    go_wp2_with fail
    go_ret2
    exact ⟨by rw [H2.out]; rfl, rfl⟩

end Go.Proofs.YtneokkhnjnomdaaDoor
