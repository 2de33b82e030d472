/-
  Walks: the reference's product and divisions.
-/
import Derived.Test.YtcbibajcmhpjpaaDoorFD
namespace Go.Proofs.YtcbibajcmhpjpaaDoor
open Go.RowKit

theorem u64w (n : Int) : IntKind.u64.wrap n = n % 18446744073709551616 := rfl

/-- The reference's product: a number, and whether it may be. -/
def prodL (a b : Int) : Int × Bool := if Num (a * b) = true then (a * b, true) else (0, false)

theorem product_any (a b : Int) (w : World) (hA : Num a = true) (hB : Num b = true) : Calls Tryd.prog 39 #[.int .i64 a, .int .i64 b] w fun e w' => e = .returned (.tuple #[.int .i64 (prodL a b).1, .bool (prodL a b).2]) ∧ w' = w := by
  rw [num_iff] at hA hB
  obtain ⟨a1, a2⟩ := hA
  obtain ⟨b1, b2⟩ := hB
  by_cases ha0 : a = 0
  · subst ha0
    have H := Lib.hid (show prodL 0 b = (0, true) by simp [prodL, Num])
    go_enter Tryd.func39, Tryd.ntmps39
    go_wp2_with fail
    go_ret2
    exact ⟨by rw [H.out]; rfl, rfl⟩
  · by_cases hb0 : b = 0
    · subst hb0
      have H := Lib.hid (show prodL a 0 = (0, true) by simp [prodL, Num])
      have ea : (a == 0) = false := by simpa using ha0
      go_enter Tryd.func39, Tryd.ntmps39
      go_wp2_with fail
      go_ret2
      exact ⟨by rw [H.out]; rfl, rfl⟩
    · have ea : (a == 0) = false := by simpa using ha0
      have eb : (b == 0) = false := by simpa using hb0
      by_cases han : a < 0 <;> by_cases hbn : b < 0
      · obtain ⟨x, hx⟩ : ∃ x, x = (-a) := ⟨_, rfl⟩
        obtain ⟨y, hy⟩ : ∃ y, y = (-b) := ⟨_, rfl⟩
        have hp : x * y = a * b := by rw [hx, hy]; exact Int.neg_mul_neg a b
        have x0 : 0 < x := by omega
        have y0 : 0 < y := by omega
        have x1 : x ≤ 1152921504606846976 := by omega
        have y1 : y ≤ 1152921504606846976 := by omega
        have wa : IntKind.u64.wrap (-IntKind.u64.wrap a) = x := by rw [u64w, u64w]; omega
        have wb : IntKind.u64.wrap (-IntKind.u64.wrap b) = y := by rw [u64w, u64w]; omega
        have p0 : 0 < x * y := Int.mul_pos x0 y0
        by_cases hc : x * y ≤ 1152921504606846975
        · have hq : x ≤ 1152921504606846975 / y := (Int.le_ediv_iff_mul_le y0).2 hc
          have hN : Num (a * b) = true := by rw [num_iff]; omega
          have H := Lib.hid (show prodL a b = (a * b, true) by simp [prodL, hN])
          have HP := Lib.hid hp
          have dxa : decide (a < 0) = true := by simpa using han
          have dyb : decide (b < 0) = true := by simpa using hbn
          clear hN hp hx hy 
          go_enter Tryd.func39, Tryd.ntmps39
          go_wp2_with fail
          go_ret2
          exact ⟨by rw [H.out]; simp only [HP.out]; rfl, rfl⟩
        · have hq : 1152921504606846975 / y < x := by
            have := mt (Int.le_ediv_iff_mul_le (a := x) (b := 1152921504606846975) y0).1 hc
            omega
          have hN : Num (a * b) = false := by
            rw [← Bool.not_eq_true, num_iff]
            omega
          have H := Lib.hid (show prodL a b = (0, false) by simp [prodL, hN])
          have dxa : decide (a < 0) = true := by simpa using han
          have dyb : decide (b < 0) = true := by simpa using hbn
          clear hN hp hc hx hy 
          go_enter Tryd.func39, Tryd.ntmps39
          go_wp2_with fail
          go_ret2
          exact ⟨by rw [H.out]; rfl, rfl⟩
      · obtain ⟨x, hx⟩ : ∃ x, x = (-a) := ⟨_, rfl⟩
        obtain ⟨y, hy⟩ : ∃ y, y = b := ⟨_, rfl⟩
        have hp : x * y = -(a * b) := by rw [hx, hy]; exact Int.neg_mul a b
        have x0 : 0 < x := by omega
        have y0 : 0 < y := by omega
        have x1 : x ≤ 1152921504606846976 := by omega
        have y1 : y ≤ 1152921504606846976 := by omega
        have wa : IntKind.u64.wrap (-IntKind.u64.wrap a) = x := by rw [u64w, u64w]; omega
        obtain rfl : y = b := hy
        have p0 : 0 < x * y := Int.mul_pos x0 y0
        by_cases hc : x * y ≤ 1152921504606846976
        · have hq : x ≤ 1152921504606846976 / y := (Int.le_ediv_iff_mul_le y0).2 hc
          have hN : Num (a * y) = true := by rw [num_iff]; omega
          have H := Lib.hid (show prodL a y = (a * y, true) by simp [prodL, hN])
          have HW := Lib.hid (show wrap64 (IntKind.u64.wrap (a * y)) = a * y by rw [u64w]; unfold wrap64; omega)
          have HP := Lib.hid hp
          have dxa : decide (a < 0) = true := by simpa using han
          have dyb : decide (y < 0) = false := by simpa using hbn
          clear hN hp hx 
          go_enter Tryd.func39, Tryd.ntmps39
          go_wp2_with fail
          go_ret2
          exact ⟨by rw [H.out]; simp only [HP.out, Int.neg_neg, HW.out]; rfl, rfl⟩
        · have hq : 1152921504606846976 / y < x := by
            have := mt (Int.le_ediv_iff_mul_le (a := x) (b := 1152921504606846976) y0).1 hc
            omega
          have hN : Num (a * y) = false := by
            rw [← Bool.not_eq_true, num_iff]
            omega
          have H := Lib.hid (show prodL a y = (0, false) by simp [prodL, hN])
          have dxa : decide (a < 0) = true := by simpa using han
          have dyb : decide (y < 0) = false := by simpa using hbn
          clear hN hp hc hx 
          go_enter Tryd.func39, Tryd.ntmps39
          go_wp2_with fail
          go_ret2
          exact ⟨by rw [H.out]; rfl, rfl⟩
      · obtain ⟨x, hx⟩ : ∃ x, x = a := ⟨_, rfl⟩
        obtain ⟨y, hy⟩ : ∃ y, y = (-b) := ⟨_, rfl⟩
        have hp : x * y = -(a * b) := by rw [hx, hy]; exact Int.mul_neg a b
        have x0 : 0 < x := by omega
        have y0 : 0 < y := by omega
        have x1 : x ≤ 1152921504606846976 := by omega
        have y1 : y ≤ 1152921504606846976 := by omega
        obtain rfl : x = a := hx
        have wb : IntKind.u64.wrap (-IntKind.u64.wrap b) = y := by rw [u64w, u64w]; omega
        have p0 : 0 < x * y := Int.mul_pos x0 y0
        by_cases hc : x * y ≤ 1152921504606846976
        · have hq : x ≤ 1152921504606846976 / y := (Int.le_ediv_iff_mul_le y0).2 hc
          have hN : Num (x * b) = true := by rw [num_iff]; omega
          have H := Lib.hid (show prodL x b = (x * b, true) by simp [prodL, hN])
          have HW := Lib.hid (show wrap64 (IntKind.u64.wrap (x * b)) = x * b by rw [u64w]; unfold wrap64; omega)
          have HP := Lib.hid hp
          have dxa : decide (x < 0) = false := by simpa using han
          have dyb : decide (b < 0) = true := by simpa using hbn
          clear hN hp hy 
          go_enter Tryd.func39, Tryd.ntmps39
          go_wp2_with fail
          go_ret2
          exact ⟨by rw [H.out]; simp only [HP.out, Int.neg_neg, HW.out]; rfl, rfl⟩
        · have hq : 1152921504606846976 / y < x := by
            have := mt (Int.le_ediv_iff_mul_le (a := x) (b := 1152921504606846976) y0).1 hc
            omega
          have hN : Num (x * b) = false := by
            rw [← Bool.not_eq_true, num_iff]
            omega
          have H := Lib.hid (show prodL x b = (0, false) by simp [prodL, hN])
          have dxa : decide (x < 0) = false := by simpa using han
          have dyb : decide (b < 0) = true := by simpa using hbn
          clear hN hp hc hy 
          go_enter Tryd.func39, Tryd.ntmps39
          go_wp2_with fail
          go_ret2
          exact ⟨by rw [H.out]; rfl, rfl⟩
      · obtain ⟨x, hx⟩ : ∃ x, x = a := ⟨_, rfl⟩
        obtain ⟨y, hy⟩ : ∃ y, y = b := ⟨_, rfl⟩
        have hp : x * y = a * b := by rw [hx, hy]
        have x0 : 0 < x := by omega
        have y0 : 0 < y := by omega
        have x1 : x ≤ 1152921504606846976 := by omega
        have y1 : y ≤ 1152921504606846976 := by omega
        obtain rfl : x = a := hx
        obtain rfl : y = b := hy
        have p0 : 0 < x * y := Int.mul_pos x0 y0
        by_cases hc : x * y ≤ 1152921504606846975
        · have hq : x ≤ 1152921504606846975 / y := (Int.le_ediv_iff_mul_le y0).2 hc
          have hN : Num (x * y) = true := by rw [num_iff]; omega
          have H := Lib.hid (show prodL x y = (x * y, true) by simp [prodL, hN])
          have dxa : decide (x < 0) = false := by simpa using han
          have dyb : decide (y < 0) = false := by simpa using hbn
          clear hN hp 
          go_enter Tryd.func39, Tryd.ntmps39
          go_wp2_with fail
          go_ret2
          exact ⟨by rw [H.out]; rfl, rfl⟩
        · have hq : 1152921504606846975 / y < x := by
            have := mt (Int.le_ediv_iff_mul_le (a := x) (b := 1152921504606846975) y0).1 hc
            omega
          have hN : Num (x * y) = false := by
            rw [← Bool.not_eq_true, num_iff]
            omega
          have H := Lib.hid (show prodL x y = (0, false) by simp [prodL, hN])
          have dxa : decide (x < 0) = false := by simpa using han
          have dyb : decide (y < 0) = false := by simpa using hbn
          clear hN hp hc 
          go_enter Tryd.func39, Tryd.ntmps39
          go_wp2_with fail
          go_ret2
          exact ⟨by rw [H.out]; rfl, rfl⟩

theorem refquotient_any (a b : Int) (w : World) : Calls Tryd.prog 21 #[.int .i64 a, .int .i64 b] w fun e w' => e = .returned (refV (quoL a b)) ∧ w' = w := by
  cases ha : Num a
  · have HA := Lib.hid ha
    have H := Lib.hid (show quoL a b = (0, 2) by simp [quoL, divWith, ha])
    clear ha
    go_enter Tryd.func21, Tryd.ntmps21
    go_wp2_with fail
    refine (refnum_any _ _).mono ?_
    rintro e w' ⟨rfl, rfl⟩
    rw [HA.out]
    go_wp2_with fail
    go_ret2
    exact ⟨by rw [H.out]; rfl, rfl⟩
  · have HA := Lib.hid ha
    cases hb : Num b
    · have HB := Lib.hid hb
      have H := Lib.hid (show quoL a b = (0, 2) by simp [quoL, divWith, ha, hb])
      clear ha hb
      go_enter Tryd.func21, Tryd.ntmps21
      go_wp2_with fail
      refine (refnum_any _ _).mono ?_
      rintro e w' ⟨rfl, rfl⟩
      rw [HA.out]
      go_wp2_with fail
      refine (refnum_any _ _).mono ?_
      rintro e w' ⟨rfl, rfl⟩
      rw [HB.out]
      go_wp2_with fail
      go_ret2
      exact ⟨by rw [H.out]; rfl, rfl⟩
    · have HB := Lib.hid hb
      by_cases h0 : b = 0
      · subst h0
        have H := Lib.hid (show quoL a 0 = (0, 12) by simp [quoL, divWith, ha, hb])
        clear ha hb
        go_enter Tryd.func21, Tryd.ntmps21
        go_wp2_with fail
        refine (refnum_any _ _).mono ?_
        rintro e w' ⟨rfl, rfl⟩
        rw [HA.out]
        go_wp2_with fail
        refine (refnum_any _ _).mono ?_
        rintro e w' ⟨rfl, rfl⟩
        rw [HB.out]
        go_wp2_with fail
        go_ret2
        exact ⟨by rw [H.out]; rfl, rfl⟩
      · obtain ⟨q1, q2⟩ := tdiv_bound (b := b) ha
        have H := Lib.hid (show quoL a b = if Num (a.tdiv b) = true then (a.tdiv b, 0) else (0, 11) by simp [quoL, divWith, ha, hb, h0, fitL])
        rw [num_iff] at ha hb
        obtain ⟨a1, a2⟩ := ha
        obtain ⟨b1, b2⟩ := hb
        obtain ⟨d, hd⟩ : ∃ d, a.tdiv b = d := ⟨_, rfl⟩
        rw [hd] at q1 q2 H
        have e0 : (b == 0) = false := by simpa using h0
        cases hq : Num d
        all_goals
          have HQ := Lib.hid hq
          rw [hq] at H
          have H2 := Lib.hid H.out
          clear hq H
          go_enter Tryd.func21, Tryd.ntmps21
          go_wp2_with fail
          refine (refnum_any _ _).mono ?_
          rintro e w' ⟨rfl, rfl⟩
          rw [HA.out]
          go_wp2_with fail
          refine (refnum_any _ _).mono ?_
          rintro e w' ⟨rfl, rfl⟩
          rw [HB.out]
          go_wp2_with fail
          refine (refnum_any _ _).mono ?_
          rintro e w' ⟨rfl, rfl⟩
          rw [HQ.out]
          go_wp2_with fail
          go_ret2
          exact ⟨by rw [H2.out]; rfl, rfl⟩

theorem refremainder_any (a b : Int) (w : World) : Calls Tryd.prog 23 #[.int .i64 a, .int .i64 b] w fun e w' => e = .returned (refV (remL a b)) ∧ w' = w := by
  cases ha : Num a
  · have HA := Lib.hid ha
    have H := Lib.hid (show remL a b = (0, 2) by simp [remL, divWith, ha])
    clear ha
    go_enter Tryd.func23, Tryd.ntmps23
    go_wp2_with fail
    refine (refnum_any _ _).mono ?_
    rintro e w' ⟨rfl, rfl⟩
    rw [HA.out]
    go_wp2_with fail
    go_ret2
    exact ⟨by rw [H.out]; rfl, rfl⟩
  · have HA := Lib.hid ha
    cases hb : Num b
    · have HB := Lib.hid hb
      have H := Lib.hid (show remL a b = (0, 2) by simp [remL, divWith, ha, hb])
      clear ha hb
      go_enter Tryd.func23, Tryd.ntmps23
      go_wp2_with fail
      refine (refnum_any _ _).mono ?_
      rintro e w' ⟨rfl, rfl⟩
      rw [HA.out]
      go_wp2_with fail
      refine (refnum_any _ _).mono ?_
      rintro e w' ⟨rfl, rfl⟩
      rw [HB.out]
      go_wp2_with fail
      go_ret2
      exact ⟨by rw [H.out]; rfl, rfl⟩
    · have HB := Lib.hid hb
      by_cases h0 : b = 0
      · subst h0
        have H := Lib.hid (show remL a 0 = (0, 12) by simp [remL, divWith, ha, hb])
        clear ha hb
        go_enter Tryd.func23, Tryd.ntmps23
        go_wp2_with fail
        refine (refnum_any _ _).mono ?_
        rintro e w' ⟨rfl, rfl⟩
        rw [HA.out]
        go_wp2_with fail
        refine (refnum_any _ _).mono ?_
        rintro e w' ⟨rfl, rfl⟩
        rw [HB.out]
        go_wp2_with fail
        go_ret2
        exact ⟨by rw [H.out]; rfl, rfl⟩
      · obtain ⟨q1, q2⟩ := tdiv_bound (b := b) ha
        obtain ⟨t1, _⟩ := tmod_bound ha hb h0
        have H := Lib.hid (show remL a b = (a.tmod b, 0) by simp [remL, divWith, ha, hb, h0])
        rw [num_iff] at ha hb t1
        obtain ⟨a1, a2⟩ := ha
        obtain ⟨b1, b2⟩ := hb
        have hr := Int.tmod_add_mul_tdiv a b
        have HR := Lib.hid (show a - a.tdiv b * b = a.tmod b by rw [Int.mul_comm (a.tdiv b) b]; omega)
        have hr1 : a - a.tdiv b * b = a.tmod b := HR.out
        have r1 : -4611686018427387904 ≤ a.tdiv b * b := by omega
        have r2 : a.tdiv b * b ≤ 4611686018427387904 := by omega
        clear hr hr1
        have e0 : (b == 0) = false := by simpa using h0
        go_enter Tryd.func23, Tryd.ntmps23
        go_wp2_with fail
        refine (refnum_any _ _).mono ?_
        rintro e w' ⟨rfl, rfl⟩
        rw [HA.out]
        go_wp2_with fail
        refine (refnum_any _ _).mono ?_
        rintro e w' ⟨rfl, rfl⟩
        rw [HB.out]
        go_wp2_with fail
        go_ret2
        exact ⟨by rw [H.out, ← HR.out]; rfl, rfl⟩
end Go.Proofs.YtcbibajcmhpjpaaDoor
