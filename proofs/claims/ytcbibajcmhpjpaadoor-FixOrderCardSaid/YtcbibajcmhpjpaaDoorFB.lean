/-
  Walks: sums and differences, of fix and of the reference.
-/
import Derived.Test.YtcbibajcmhpjpaaDoorFA
namespace Go.Proofs.YtcbibajcmhpjpaaDoor
open Go.RowKit

/-- A number and a kind's number, as the reference hands them back. -/
def refV (r : Int × Int) : Value := .tuple #[.int .i64 r.1, .int .i64 r.2]

theorem refnum_any (n : Int) (w : World) : Calls Tryd.prog 16 #[.int .i64 n] w fun e w' => e = .returned (.bool (Num n)) ∧ w' = w := by
  by_cases h1 : n ≤ 1152921504606846975
  · have h3 : n < 1152921504606846976 := by omega
    by_cases h2 : -1152921504606846976 ≤ n
    all_goals
      have H : Hid (Num n = _) := (by simp only [Hid, Num, h1, h2]; rfl)
      go_enter Tryd.func16, Tryd.ntmps16
      go_wp2
      go_ret
      exact ⟨by rw [H.out]; simp, rfl⟩
  · have h3 : ¬ n < 1152921504606846976 := by omega
    have h2 : -1152921504606846976 ≤ n := by omega
    have H : Hid (Num n = _) := (by simp only [Hid, Num, h1, h2]; rfl)
    go_enter Tryd.func16, Tryd.ntmps16
    go_wp2
    go_ret
    exact ⟨by rw [H.out]; simp, rfl⟩

theorem add_any (a b : Int) (w : World) : Calls Tryd.prog 27 #[.int .i64 a, .int .i64 b] w fun e w' => e = .returned (resV (addL a b)) ∧ w' = w := by
  have HC := Lib.hid (both_any a b)
  have H : Hid (addL a b = if (Num a && Num b) = true then fitL (a + b) else (0, 2)) := rfl
  generalize hp : (Num a && Num b) = p at HC H
  cases p
  · clear hp
    go_enter Tryd.func27, Tryd.ntmps27
    go_wp2_with fail
    refine (HC.out _).mono ?_
    rintro e w' ⟨rfl, rfl⟩
    go_wp2_with fail
    go_ret2
    exact ⟨by rw [H.out]; rfl, rfl⟩
  · rw [Bool.and_eq_true, num_iff, num_iff] at hp
    obtain ⟨⟨a1, a2⟩, b1, b2⟩ := hp
    go_enter Tryd.func27, Tryd.ntmps27
    go_wp2_with fail
    refine (HC.out _).mono ?_
    rintro e w' ⟨rfl, rfl⟩
    go_wp2_with fail
    refine (fit_any _ _).mono ?_
    rintro e w' ⟨rfl, rfl⟩
    have H2 : Hid (addL a b = fitL (a + b)) := H.out
    generalize fitL (a + b) = r at H2
    obtain ⟨n, k⟩ := r
    rw [resV]
    go_wp2_with fail
    go_ret2
    exact ⟨by rw [H2.out]; rfl, rfl⟩

theorem refadd_any (a b : Int) (w : World) : Calls Tryd.prog 28 #[.int .i64 a, .int .i64 b] w fun e w' => e = .returned (refV (addL a b)) ∧ w' = w := by
  have HC := Lib.hid refnum_any
  have H : Hid (addL a b = if (Num a && Num b) = true then (if Num (a + b) = true then (a + b, 0) else (0, 11)) else (0, 2)) := rfl
  cases ha : Num a
  · have HA := Lib.hid ha
    rw [ha] at H
    clear ha
    go_enter Tryd.func28, Tryd.ntmps28
    go_wp2_with fail
    refine (HC.out _ _).mono ?_
    rintro e w' ⟨rfl, rfl⟩
    rw [HA.out]
    go_wp2_with fail
    go_ret2
    exact ⟨by rw [H.out]; rfl, rfl⟩
  · have HA := Lib.hid ha
    cases hb : Num b
    · have HB := Lib.hid hb
      rw [ha, hb] at H
      clear ha hb
      go_enter Tryd.func28, Tryd.ntmps28
      go_wp2_with fail
      refine (HC.out _ _).mono ?_
      rintro e w' ⟨rfl, rfl⟩
      rw [HA.out]
      go_wp2_with fail
      refine (HC.out _ _).mono ?_
      rintro e w' ⟨rfl, rfl⟩
      rw [HB.out]
      go_wp2_with fail
      go_ret2
      exact ⟨by rw [H.out]; rfl, rfl⟩
    · have HB := Lib.hid hb
      rw [ha, hb] at H
      generalize hs : Num (a + b) = s at H
      have HS := Lib.hid hs
      clear hs
      rw [num_iff] at ha hb
      obtain ⟨a1, a2⟩ := ha
      obtain ⟨b1, b2⟩ := hb
      go_enter Tryd.func28, Tryd.ntmps28
      go_wp2_with fail
      refine (HC.out _ _).mono ?_
      rintro e w' ⟨rfl, rfl⟩
      rw [HA.out]
      go_wp2_with fail
      refine (HC.out _ _).mono ?_
      rintro e w' ⟨rfl, rfl⟩
      rw [HB.out]
      go_wp2_with fail
      refine (HC.out _ _).mono ?_
      rintro e w' ⟨rfl, rfl⟩
      rw [HS.out]
      cases s
      all_goals
        go_wp2_with fail
        go_ret2
        exact ⟨by rw [H.out]; rfl, rfl⟩

theorem sub_any (a b : Int) (w : World) : Calls Tryd.prog 29 #[.int .i64 a, .int .i64 b] w fun e w' => e = .returned (resV (subL a b)) ∧ w' = w := by
  have HC := Lib.hid (both_any a b)
  have H : Hid (subL a b = if (Num a && Num b) = true then fitL (a - b) else (0, 2)) := rfl
  generalize hp : (Num a && Num b) = p at HC H
  cases p
  · clear hp
    go_enter Tryd.func29, Tryd.ntmps29
    go_wp2_with fail
    refine (HC.out _).mono ?_
    rintro e w' ⟨rfl, rfl⟩
    go_wp2_with fail
    go_ret2
    exact ⟨by rw [H.out]; rfl, rfl⟩
  · rw [Bool.and_eq_true, num_iff, num_iff] at hp
    obtain ⟨⟨a1, a2⟩, b1, b2⟩ := hp
    go_enter Tryd.func29, Tryd.ntmps29
    go_wp2_with fail
    refine (HC.out _).mono ?_
    rintro e w' ⟨rfl, rfl⟩
    go_wp2_with fail
    refine (fit_any _ _).mono ?_
    rintro e w' ⟨rfl, rfl⟩
    have H2 : Hid (subL a b = fitL (a - b)) := H.out
    generalize fitL (a - b) = r at H2
    obtain ⟨n, k⟩ := r
    rw [resV]
    go_wp2_with fail
    go_ret2
    exact ⟨by rw [H2.out]; rfl, rfl⟩

theorem refsub_any (a b : Int) (w : World) : Calls Tryd.prog 30 #[.int .i64 a, .int .i64 b] w fun e w' => e = .returned (refV (subL a b)) ∧ w' = w := by
  have HC := Lib.hid refnum_any
  have H : Hid (subL a b = if (Num a && Num b) = true then (if Num (a - b) = true then (a - b, 0) else (0, 11)) else (0, 2)) := rfl
  cases ha : Num a
  · have HA := Lib.hid ha
    rw [ha] at H
    clear ha
    go_enter Tryd.func30, Tryd.ntmps30
    go_wp2_with fail
    refine (HC.out _ _).mono ?_
    rintro e w' ⟨rfl, rfl⟩
    rw [HA.out]
    go_wp2_with fail
    go_ret2
    exact ⟨by rw [H.out]; rfl, rfl⟩
  · have HA := Lib.hid ha
    cases hb : Num b
    · have HB := Lib.hid hb
      rw [ha, hb] at H
      clear ha hb
      go_enter Tryd.func30, Tryd.ntmps30
      go_wp2_with fail
      refine (HC.out _ _).mono ?_
      rintro e w' ⟨rfl, rfl⟩
      rw [HA.out]
      go_wp2_with fail
      refine (HC.out _ _).mono ?_
      rintro e w' ⟨rfl, rfl⟩
      rw [HB.out]
      go_wp2_with fail
      go_ret2
      exact ⟨by rw [H.out]; rfl, rfl⟩
    · have HB := Lib.hid hb
      rw [ha, hb] at H
      generalize hs : Num (a - b) = s at H
      have HS := Lib.hid hs
      clear hs
      rw [num_iff] at ha hb
      obtain ⟨a1, a2⟩ := ha
      obtain ⟨b1, b2⟩ := hb
      go_enter Tryd.func30, Tryd.ntmps30
      go_wp2_with fail
      refine (HC.out _ _).mono ?_
      rintro e w' ⟨rfl, rfl⟩
      rw [HA.out]
      go_wp2_with fail
      refine (HC.out _ _).mono ?_
      rintro e w' ⟨rfl, rfl⟩
      rw [HB.out]
      go_wp2_with fail
      refine (HC.out _ _).mono ?_
      rintro e w' ⟨rfl, rfl⟩
      rw [HS.out]
      cases s
      all_goals
        go_wp2_with fail
        go_ret2
        exact ⟨by rw [H.out]; rfl, rfl⟩
end Go.Proofs.YtcbibajcmhpjpaaDoor
