/-
  Walks: the divisions of fix.
-/
import Derived.Test.YtneokkhnjnomdaaDoorFC
namespace Go.Proofs.YtneokkhnjnomdaaDoor
open Go.RowKit

/-- What divide comes to: 0: the quotient, 1: the remainder, 2: the modulo. -/
def divL (how a b : Int) : Int × Int := if (how == 2) = true then modL a b else if (how == 1) = true then remL a b else quoL a b

theorem divide_any (how a b : Int) (w : World) (hh : how = 0 ∨ how = 1 ∨ how = 2) : Calls Tryd.prog 61 #[.int .i64 how, .int .i64 a, .int .i64 b] w fun e w' => e = .returned (resV (divL how a b)) ∧ w' = w := by
  have HC := Lib.hid (both_any a b)
  have H : Hid (divL how a b = if (Num a && Num b) = true then (if (b == 0) = true then (0, 12) else (if (how == 2) = true then (modOf a b, 0) else if (how == 1) = true then (a.tmod b, 0) else fitL (a.tdiv b))) else (0, 2)) := by
    simp only [Hid, divL, modL, remL, quoL, divWith]
    rcases hh with rfl | rfl | rfl <;> simp
  generalize hp : (Num a && Num b) = p at HC H
  cases p
  · clear hp
    go_enter Tryd.func61, Tryd.ntmps61
    go_wp2_with fail
    refine (HC.out _).mono ?_
    rintro e w' ⟨rfl, rfl⟩
    go_wp2_with fail
    go_ret2
    exact ⟨by rw [H.out]; rfl, rfl⟩
  · rw [Bool.and_eq_true] at hp
    obtain ⟨hA, hB⟩ := hp
    by_cases h0 : b = 0
    · subst h0
      clear hA hB
      go_enter Tryd.func61, Tryd.ntmps61
      go_wp2_with fail
      refine (HC.out _).mono ?_
      rintro e w' ⟨rfl, rfl⟩
      go_wp2_with fail
      go_ret2
      exact ⟨by rw [H.out]; rfl, rfl⟩
    · have e0 : (b == 0) = false := by simpa using h0
      have HM := Lib.hid (show modOf a b = if a.tmod b ≠ 0 ∧ ((a.tmod b < 0) ≠ (b < 0)) then a.tmod b + b else a.tmod b from rfl)
      obtain ⟨t1, t2⟩ := tmod_bound hA hB h0
      obtain ⟨q1, q2⟩ := tdiv_bound (b := b) hA
      rw [num_iff] at t1 t2 hA hB
      obtain ⟨r1, r2⟩ := t1
      obtain ⟨m1, m2⟩ := t2
      obtain ⟨a1, a2⟩ := hA
      obtain ⟨b1, b2⟩ := hB
      obtain ⟨r, hr⟩ : ∃ r, a.tmod b = r := ⟨_, rfl⟩
      obtain ⟨d, hd⟩ : ∃ d, a.tdiv b = d := ⟨_, rfl⟩
      rw [hr] at r1 r2 HM H
      rw [hd] at q1 q2 H
      rcases hh with rfl | rfl | rfl
      · have H2 : Hid (divL 0 a b = fitL d) := by rw [Hid, H.out, if_pos rfl, e0]; rfl
        go_enter Tryd.func61, Tryd.ntmps61
        go_wp2_with fail
        refine (HC.out _).mono ?_
        rintro e w' ⟨rfl, rfl⟩
        go_wp2_with fail
        refine (fit_any _ _).mono ?_
        rintro e w' ⟨rfl, rfl⟩
        generalize fitL d = x at H2
        obtain ⟨n, k⟩ := x
        rw [resV]
        go_wp2_with fail
        go_ret2
        exact ⟨by rw [H2.out]; rfl, rfl⟩
      · have H2 : Hid (divL 1 a b = (r, 0)) := by rw [Hid, H.out, if_pos rfl, e0]; rfl
        go_enter Tryd.func61, Tryd.ntmps61
        go_wp2_with fail
        refine (HC.out _).mono ?_
        rintro e w' ⟨rfl, rfl⟩
        go_wp2_with fail
        go_ret2
        exact ⟨by rw [H2.out]; rfl, rfl⟩
      · have H2 : Hid (divL 2 a b = (modOf a b, 0)) := by rw [Hid, H.out, if_pos rfl, e0]; rfl
        by_cases hr0 : r = 0
        · have H3 := Lib.hid (show modOf a b = r by rw [HM.out, if_neg (by simp [hr0])])
          subst hr0
          clear r1 r2 m1 m2
          go_enter Tryd.func61, Tryd.ntmps61
          go_wp2_with fail
          refine (HC.out _).mono ?_
          rintro e w' ⟨rfl, rfl⟩
          go_wp2_with fail
          go_ret2
          exact ⟨by rw [H2.out, H3.out]; rfl, rfl⟩
        · by_cases hrn : r < 0 <;> by_cases hbn : b < 0
          · have H3 := Lib.hid (show modOf a b = r by rw [HM.out, if_neg (by simp [hrn, hbn])])
            have er := eq_true hrn
            have eb := eq_true hbn
            have dr : decide (r < 0) = true := by simpa using hrn
            have db : decide (b < 0) = true := by simpa using hbn
            clear hrn hbn m1 m2
            go_enter Tryd.func61, Tryd.ntmps61
            go_wp2_with fail
            refine (HC.out _).mono ?_
            rintro e w' ⟨rfl, rfl⟩
            go_wp2_with fail
            go_ret2
            exact ⟨by rw [H2.out, H3.out]; rfl, rfl⟩
          · have H3 := Lib.hid (show modOf a b = r + b by rw [HM.out, if_pos (by simp [hr0, hrn, hbn])])
            have dr : decide (r < 0) = true := by simpa using hrn
            have db : decide (b < 0) = false := by simpa using hbn
            clear m1 m2
            go_enter Tryd.func61, Tryd.ntmps61
            go_wp2_with fail
            refine (HC.out _).mono ?_
            rintro e w' ⟨rfl, rfl⟩
            go_wp2_with fail
            go_ret2
            exact ⟨by rw [H2.out, H3.out]; rfl, rfl⟩
          · have H3 := Lib.hid (show modOf a b = r + b by rw [HM.out, if_pos (by simp [hr0, hrn, hbn])])
            have dr : decide (r < 0) = false := by simpa using hrn
            have db : decide (b < 0) = true := by simpa using hbn
            clear m1 m2
            go_enter Tryd.func61, Tryd.ntmps61
            go_wp2_with fail
            refine (HC.out _).mono ?_
            rintro e w' ⟨rfl, rfl⟩
            go_wp2_with fail
            go_ret2
            exact ⟨by rw [H2.out, H3.out]; rfl, rfl⟩
          · have H3 := Lib.hid (show modOf a b = r by rw [HM.out, if_neg (by simp [hrn, hbn])])
            have dr : decide (r < 0) = false := by simpa using hrn
            have db : decide (b < 0) = false := by simpa using hbn
            clear m1 m2
            go_enter Tryd.func61, Tryd.ntmps61
            go_wp2_with fail
            refine (HC.out _).mono ?_
            rintro e w' ⟨rfl, rfl⟩
            go_wp2_with fail
            go_ret2
            exact ⟨by rw [H2.out, H3.out]; rfl, rfl⟩

theorem quotient_any (a b : Int) (w : World) : Calls Tryd.prog 43 #[.int .i64 a, .int .i64 b] w fun e w' => e = .returned (resV (quoL a b)) ∧ w' = w := by
  have H := Lib.hid (show divL 0 a b = quoL a b from rfl)
  go_enter Tryd.func43, Tryd.ntmps43
  go_wp2_with fail
  refine (divide_any _ _ _ _ (by decide)).mono ?_
  rintro e w' ⟨rfl, rfl⟩
  rw [H.out]
  generalize hx : quoL a b = x
  have HX := Lib.hid hx
  clear hx H
  obtain ⟨n, k⟩ := x
  rw [resV]
  go_wp2_with fail
  go_ret2
  exact ⟨by rw [HX.out]; rfl, rfl⟩

theorem remainder_any (a b : Int) (w : World) : Calls Tryd.prog 44 #[.int .i64 a, .int .i64 b] w fun e w' => e = .returned (resV (remL a b)) ∧ w' = w := by
  have H := Lib.hid (show divL 1 a b = remL a b from rfl)
  go_enter Tryd.func44, Tryd.ntmps44
  go_wp2_with fail
  refine (divide_any _ _ _ _ (by decide)).mono ?_
  rintro e w' ⟨rfl, rfl⟩
  rw [H.out]
  generalize hx : remL a b = x
  have HX := Lib.hid hx
  clear hx H
  obtain ⟨n, k⟩ := x
  rw [resV]
  go_wp2_with fail
  go_ret2
  exact ⟨by rw [HX.out]; rfl, rfl⟩

theorem modulo_any (a b : Int) (w : World) : Calls Tryd.prog 45 #[.int .i64 a, .int .i64 b] w fun e w' => e = .returned (resV (modL a b)) ∧ w' = w := by
  have H := Lib.hid (show divL 2 a b = modL a b from rfl)
  go_enter Tryd.func45, Tryd.ntmps45
  go_wp2_with fail
  refine (divide_any _ _ _ _ (by decide)).mono ?_
  rintro e w' ⟨rfl, rfl⟩
  rw [H.out]
  generalize hx : modL a b = x
  have HX := Lib.hid hx
  clear hx H
  obtain ⟨n, k⟩ := x
  rw [resV]
  go_wp2_with fail
  go_ret2
  exact ⟨by rw [HX.out]; rfl, rfl⟩
end Go.Proofs.YtneokkhnjnomdaaDoor
