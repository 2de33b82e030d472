/-
  Walks: the reference's Mul and Modulo; says.
-/
import Derived.Test.YtcbibajcmhpjpaaDoorFE
namespace Go.Proofs.YtcbibajcmhpjpaaDoor
open Go.RowKit

theorem refmul_any (a b : Int) (w : World) : Calls Tryd.prog 31 #[.int .i64 a, .int .i64 b] w fun e w' => e = .returned (refV (mulL a b)) ∧ w' = w := by
  cases ha : Num a
  · have HA := Lib.hid ha
    have H := Lib.hid (show mulL a b = (0, 2) by simp [mulL, ha])
    clear ha
    go_enter Tryd.func31, Tryd.ntmps31
    go_wp2_with fail
    refine (refnum_any _ _).mono ?_
    rintro e w' ⟨rfl, rfl⟩
    rw [HA.out]
    go_wp2_with fail
    go_ret2
    exact ⟨by rw [H.out]; rfl, rfl⟩
  · have HA := Lib.hid ha
    cases hb : Num b
    · have HB := Lib.hid hb
      have H := Lib.hid (show mulL a b = (0, 2) by simp [mulL, ha, hb])
      clear ha hb
      go_enter Tryd.func31, Tryd.ntmps31
      go_wp2_with fail
      refine (refnum_any _ _).mono ?_
      rintro e w' ⟨rfl, rfl⟩
      rw [HA.out]
      go_wp2_with fail
      refine (refnum_any _ _).mono ?_
      rintro e w' ⟨rfl, rfl⟩
      rw [HB.out]
      go_wp2_with fail
      go_ret2
      exact ⟨by rw [H.out]; rfl, rfl⟩
    · have HB := Lib.hid hb
      have H : Hid (mulL a b = if (prodL a b).2 = true then ((prodL a b).1, 0) else (0, 11)) := by
        simp only [Hid, mulL, ha, hb, prodL, fitL, Bool.and_self, if_true]
        by_cases hq : Num (a * b) = true
        · simp [hq]
        · simp [hq]
      generalize hp : prodL a b = p at H
      have HP := Lib.hid hp
      clear ha hb hp
      obtain ⟨n, ok⟩ := p
      go_enter Tryd.func31, Tryd.ntmps31
      go_wp2_with fail
      refine (refnum_any _ _).mono ?_
      rintro e w' ⟨rfl, rfl⟩
      rw [HA.out]
      go_wp2_with fail
      refine (refnum_any _ _).mono ?_
      rintro e w' ⟨rfl, rfl⟩
      rw [HB.out]
      go_wp2_with fail
      refine (product_any _ _ _ HA.out HB.out).mono ?_
      rintro e w' ⟨rfl, rfl⟩
      rw [HP.out]
      cases ok
      all_goals
        have H2 := Lib.hid H.out
        clear H
        go_wp2_with fail
        go_ret2
        exact ⟨by rw [H2.out]; rfl, rfl⟩

theorem refmodulo_any (a b : Int) (w : World) : Calls Tryd.prog 25 #[.int .i64 a, .int .i64 b] w fun e w' => e = .returned (refV (modL a b)) ∧ w' = w := by
  have HC := Lib.hid (fun w => refremainder_any a b w)
  by_cases hk : (remL a b).2 = 0
  · -- nothing is refused
    have hAB : Num a = true ∧ Num b = true ∧ b ≠ 0 := by
      unfold remL divWith at hk
      cases ha : Num a <;> cases hb : Num b <;> simp [ha, hb] at hk
      refine ⟨rfl, rfl, fun h0 => ?_⟩
      rw [if_pos h0] at hk
      exact absurd hk (by decide)
    obtain ⟨hA, hB, h0⟩ := hAB
    have HR := Lib.hid (show remL a b = (a.tmod b, 0) by simp [remL, divWith, hA, hB, h0])
    have H := Lib.hid (show modL a b = (modOf a b, 0) by simp [modL, divWith, hA, hB, h0])
    have HM := Lib.hid (show modOf a b = if a.tmod b ≠ 0 ∧ ((a.tmod b < 0) ≠ (b < 0)) then a.tmod b + b else a.tmod b from rfl)
    obtain ⟨t1, _⟩ := tmod_bound hA hB h0
    rw [num_iff] at t1 hA hB
    obtain ⟨r1, r2⟩ := t1
    obtain ⟨b1, b2⟩ := hB
    generalize a.tmod b = r at r1 r2 HM HR
    clear hk h0 hA
    by_cases hr0 : r = 0
    · have H3 := Lib.hid (show modOf a b = r by rw [HM.out, if_neg (by simp [hr0])])
      subst hr0
      clear r1 r2
      go_enter Tryd.func25, Tryd.ntmps25
      go_wp2_with fail
      refine (HC.out _).mono ?_
      rintro e w' ⟨rfl, rfl⟩
      rw [HR.out, refV]
      go_wp2_with fail
      go_ret2
      exact ⟨by rw [H.out, H3.out]; rfl, rfl⟩
    · by_cases hrn : r < 0 <;> by_cases hbn : b < 0
      · have H3 := Lib.hid (show modOf a b = r by rw [HM.out, if_neg (by simp [hrn, hbn])])
        have dr : decide (r < 0) = true := by simpa using hrn
        have db : decide (b < 0) = true := by simpa using hbn
        clear hrn hbn
        go_enter Tryd.func25, Tryd.ntmps25
        go_wp2_with fail
        refine (HC.out _).mono ?_
        rintro e w' ⟨rfl, rfl⟩
        rw [HR.out, refV]
        go_wp2_with fail
        go_ret2
        exact ⟨by rw [H.out, H3.out]; rfl, rfl⟩
      · have H3 := Lib.hid (show modOf a b = r + b by rw [HM.out, if_pos (by simp [hr0, hrn, hbn])])
        have dr : decide (r < 0) = true := by simpa using hrn
        have db : decide (b < 0) = false := by simpa using hbn
        go_enter Tryd.func25, Tryd.ntmps25
        go_wp2_with fail
        refine (HC.out _).mono ?_
        rintro e w' ⟨rfl, rfl⟩
        rw [HR.out, refV]
        go_wp2_with fail
        go_ret2
        exact ⟨by rw [H.out, H3.out]; rfl, rfl⟩
      · have H3 := Lib.hid (show modOf a b = r + b by rw [HM.out, if_pos (by simp [hr0, hrn, hbn])])
        have dr : decide (r < 0) = false := by simpa using hrn
        have db : decide (b < 0) = true := by simpa using hbn
        go_enter Tryd.func25, Tryd.ntmps25
        go_wp2_with fail
        refine (HC.out _).mono ?_
        rintro e w' ⟨rfl, rfl⟩
        rw [HR.out, refV]
        go_wp2_with fail
        go_ret2
        exact ⟨by rw [H.out, H3.out]; rfl, rfl⟩
      · have H3 := Lib.hid (show modOf a b = r by rw [HM.out, if_neg (by simp [hrn, hbn])])
        have dr : decide (r < 0) = false := by simpa using hrn
        have db : decide (b < 0) = false := by simpa using hbn
        go_enter Tryd.func25, Tryd.ntmps25
        go_wp2_with fail
        refine (HC.out _).mono ?_
        rintro e w' ⟨rfl, rfl⟩
        rw [HR.out, refV]
        go_wp2_with fail
        go_ret2
        exact ⟨by rw [H.out, H3.out]; rfl, rfl⟩
  · have H : Hid (modL a b = remL a b) := by
      unfold remL divWith at hk
      unfold modL remL divWith
      cases ha : Num a <;> cases hb : Num b <;> simp [ha, hb, Hid] at hk ⊢
      by_cases h0 : b = 0
      · simp [h0]
      · rw [if_neg h0] at hk
        exact absurd rfl hk
    have e0 : ((remL a b).2 == 0) = false := by simpa using hk
    generalize remL a b = x at H HC e0
    obtain ⟨n, k⟩ := x
    simp only at e0
    clear hk
    go_enter Tryd.func25, Tryd.ntmps25
    go_wp2_with fail
    refine (HC.out _).mono ?_
    rintro e w' ⟨rfl, rfl⟩
    rw [refV]
    go_wp2_with fail
    go_ret2
    exact ⟨by rw [H.out]; rfl, rfl⟩

/-- A number and an error are what the reference says, held one against the other. -/
theorem says_any (r : Int × Int) (w : World) (h : r.2 ≠ 0 → r.1 = 0) :
    Calls Tryd.prog 19 #[.int .i64 r.1, errV r.2, .int .i64 r.1, .int .i64 r.2] w fun e w' => e = .returned (.bool true) ∧ w' = w := by
  obtain ⟨n, k⟩ := r
  simp only at h ⊢
  by_cases hk : k = 0
  · subst hk
    rw [show errV 0 = Value.nilIface from rfl]
    go_enter Tryd.func19, Tryd.ntmps19
    go_wp2_with fail
    go_ret
    exact ⟨rfl, rfl⟩
  · obtain rfl : n = 0 := h hk
    have e0 : (k == 0) = false := by simpa using hk
    have e1 : (k != 0) = true := by simpa using hk
    rw [errV, if_neg (by simpa using hk)]
    clear h hk
    go_enter Tryd.func19, Tryd.ntmps19
    go_wp2_with fail
    refine (is_kind _ _ _).mono ?_
    rintro e w' ⟨rfl, rfl⟩
    go_wp2_with fail
    go_ret
    exact ⟨by simp, rfl⟩
end Go.Proofs.YtcbibajcmhpjpaaDoor
