/-
  Walk: layer 2's law FixBack.
-/
import Derived.Test.YtcbibajcmhpjpaaDoorFW
namespace Go.Proofs.YtcbibajcmhpjpaaDoor
open Go.RowKit

theorem quo_nil {a b : Int} (h : (quoL a b).2 = 0) : Num a = true ∧ Num b = true ∧ b ≠ 0 ∧ Num (a.tdiv b) = true ∧ quoL a b = (a.tdiv b, 0) := by
  unfold quoL divWith fitL at *
  cases ha : Num a <;> cases hb : Num b <;> simp [ha, hb] at h
  by_cases h0 : b = 0
  · simp [h0] at h
  · cases hq : Num (a.tdiv b)
    · simp [h0, hq] at h
    · exact ⟨rfl, rfl, h0, rfl, by simp [h0]⟩

theorem sign_tmod {a b : Int} (h : a.tmod b ≠ 0) : (a.tmod b < 0) = (a < 0) := by
  rcases Int.lt_or_le a 0 with ha | ha
  · have : a.tmod b = -((-a).tmod b) := by rw [Int.neg_tmod, Int.neg_neg]
    have h1 : 0 ≤ (-a).tmod b := Int.tmod_nonneg _ (by omega)
    exact propext ⟨fun _ => ha, fun _ => by omega⟩
  · have h1 : 0 ≤ a.tmod b := Int.tmod_nonneg _ ha
    exact propext ⟨fun h => by omega, fun h => by omega⟩

theorem mod_range {a b : Int} (h0 : b ≠ 0) : (0 < b → 0 ≤ modOf a b ∧ modOf a b < b) ∧ (b < 0 → b < modOf a b ∧ modOf a b ≤ 0) := by
  have h1 : (a.tmod b).natAbs < b.natAbs := by
    rw [Int.natAbs_tmod]
    exact Nat.mod_lt _ (by omega)
  unfold modOf
  generalize a.tmod b = r at h1
  split
  · rename_i h
    obtain ⟨h2, h3⟩ := h
    refine ⟨fun hb => ?_, fun hb => ?_⟩
    · have hr : r < 0 := by
        by_cases hr : r < 0
        · exact hr
        · exact absurd (propext ⟨fun h => absurd h hr, fun h => absurd h (by omega)⟩) h3
      omega
    · have hr : ¬ r < 0 := fun hr => h3 (propext ⟨fun _ => hb, fun _ => hr⟩)
      omega
  · rename_i h
    refine ⟨fun hb => ?_, fun hb => ?_⟩
    · have hr : ¬ r < 0 := fun hr => h ⟨by omega, fun e => (by have h5 : b < 0 := (by rw [← e]; exact hr); omega)⟩
      omega
    · have hr : r ≤ 0 := by
        by_cases hr : r ≤ 0
        · exact hr
        · exact absurd ⟨by omega, fun e => (by have h5 : r < 0 := (by rw [e]; exact hb); omega)⟩ h
      omega

set_option maxHeartbeats 8000000 in
theorem back_walk (a b : Int) (w : World) (htab : Tab w) :
    Calls Tryd.prog 8 #[.int .i64 a, .int .i64 b] w fun e w' => e = .returned (.bool true) ∧ Below w.heap.size w w' := by
  obtain ⟨W, rfl⟩ : ∃ W : World, W = w := ⟨w, rfl⟩
  have c1 := Lib.hid (quotient_any a b W)
  have c2 := Lib.hid (remainder_any a b W)
  have c3 := Lib.hid (modulo_any a b W)
  by_cases hk : (quoL a b).2 = 0
  · obtain ⟨hA, hB, h0, hQ, e1⟩ := quo_nil hk
    have e2 : remL a b = (a.tmod b, 0) := by simp [remL, divWith, hA, hB, h0]
    have e3 : modL a b = (modOf a b, 0) := by simp [modL, divWith, hA, hB, h0]
    obtain ⟨hR, hM⟩ := tmod_bound hA hB h0
    have hqr := Int.tmod_add_mul_tdiv a b
    have hp : a.tdiv b * b = a - a.tmod b := by rw [Int.mul_comm]; omega
    have hP : Num (a.tdiv b * b) = true := by
      have hs := @sign_tmod a b
      rw [hp, num_iff]
      rw [num_iff] at hA hR
      have h1 : (a.tmod b).natAbs ≤ a.natAbs := by
        rw [Int.natAbs_tmod]
        exact Nat.mod_le _ _
      by_cases hz : a.tmod b = 0
      · rw [hz]; omega
      · have hs' := hs hz
        by_cases ha : a < 0
        · have : a.tmod b < 0 := by rw [hs']; exact ha
          omega
        · have : ¬ a.tmod b < 0 := by rw [hs']; exact ha
          omega
    have R4 := Lib.hid (show resV (mulL (a.tdiv b) b) = .tuple #[.int .i64 (a.tdiv b * b), .nilIface] by
      rw [mulL, hQ, hB, fitL, if_pos hP]; rfl)
    have R5 := Lib.hid (show resV (addL (a.tdiv b * b) (a.tmod b)) = .tuple #[.int .i64 a, .nilIface] by
      rw [addL, hP, hR, show a.tdiv b * b + a.tmod b = a by omega, fitL, if_pos hA]; rfl)
    have hsg := @sign_tmod a b
    obtain ⟨g1, g2⟩ := @mod_range a b h0
    rw [e1, show resV (a.tdiv b, 0) = .tuple #[.int .i64 (a.tdiv b), .nilIface] from rfl] at c1
    rw [e2, show resV (a.tmod b, 0) = .tuple #[.int .i64 (a.tmod b), .nilIface] from rfl] at c2
    rw [e3, show resV (modOf a b, 0) = .tuple #[.int .i64 (modOf a b), .nilIface] from rfl] at c3
    generalize a.tdiv b = q at c1 R4 R5
    generalize q * b = p at R4 R5
    generalize a.tmod b = r at c2 R5 hsg
    generalize modOf a b = m at c3 g1 g2
    clear e1 e2 e3 hk hp hqr hP hQ hR hM hA hB
    have G1 := Lib.hid g1
    have G2 := Lib.hid g2
    have SG := Lib.hid hsg
    clear g1 g2 hsg
    have hsgn : (r = 0) ∨ (r < 0 ∧ a < 0) ∨ (0 < r ∧ ¬ a < 0) := by
      by_cases hz : r = 0
      · exact .inl hz
      · have := SG.out hz
        by_cases hr : r < 0
        · exact .inr (.inl ⟨hr, by rw [← this]; exact hr⟩)
        · exact .inr (.inr ⟨by omega, by rw [← this]; exact hr⟩)
    have hb' : 0 < b ∨ b < 0 := by omega
    have htail : ∀ w1, Tab w1 → True := fun _ _ => trivial
    clear htail h0
    rcases hsgn with rfl | ⟨hr, ha⟩ | ⟨hr, ha⟩
    · skip
      rcases hb' with hb | hb
      all_goals
        first
          | (have g := G1.out hb
             obtain ⟨m1, m2⟩ := g)
          | (have g := G2.out hb
             obtain ⟨m1, m2⟩ := g)
        go_enter Tryd.func8, Tryd.ntmps8
        go_wp2_with fail
        refine c1.out.mono ?_
        rintro e w' ⟨rfl, rfl⟩
        go_wp2_with fail
        refine c2.out.mono ?_
        rintro e w' ⟨rfl, rfl⟩
        go_wp2_with fail
        refine c3.out.mono ?_
        rintro e w' ⟨rfl, rfl⟩
        go_wp2_with fail
        refine (awake_any _ htab).mono ?_
        rintro e w1 ⟨rfl, hb1⟩
        go_wp2_with fail
        refine (mul_any _ _ _).mono ?_
        rintro e w' ⟨rfl, rfl⟩
        rw [R4.out]
        go_wp2_with fail
        refine (add_any _ _ _).mono ?_
        rintro e w' ⟨rfl, rfl⟩
        rw [R5.out]
        go_wp2_with fail
        go_ret
        exact ⟨by simp, hb1⟩
    · have dr := decide_eq_true hr
      have da := decide_eq_true ha
      rcases hb' with hb | hb
      all_goals
        first
          | (have g := G1.out hb
             obtain ⟨m1, m2⟩ := g)
          | (have g := G2.out hb
             obtain ⟨m1, m2⟩ := g)
        go_enter Tryd.func8, Tryd.ntmps8
        go_wp2_with fail
        refine c1.out.mono ?_
        rintro e w' ⟨rfl, rfl⟩
        go_wp2_with fail
        refine c2.out.mono ?_
        rintro e w' ⟨rfl, rfl⟩
        go_wp2_with fail
        refine c3.out.mono ?_
        rintro e w' ⟨rfl, rfl⟩
        go_wp2_with fail
        refine (awake_any _ htab).mono ?_
        rintro e w1 ⟨rfl, hb1⟩
        go_wp2_with fail
        refine (mul_any _ _ _).mono ?_
        rintro e w' ⟨rfl, rfl⟩
        rw [R4.out]
        go_wp2_with fail
        refine (add_any _ _ _).mono ?_
        rintro e w' ⟨rfl, rfl⟩
        rw [R5.out]
        go_wp2_with fail
        go_ret
        exact ⟨by simp, hb1⟩
    · have dr : decide (r < 0) = false := decide_eq_false (by omega)
      have da := decide_eq_false ha
      rcases hb' with hb | hb
      all_goals
        first
          | (have g := G1.out hb
             obtain ⟨m1, m2⟩ := g)
          | (have g := G2.out hb
             obtain ⟨m1, m2⟩ := g)
        go_enter Tryd.func8, Tryd.ntmps8
        go_wp2_with fail
        refine c1.out.mono ?_
        rintro e w' ⟨rfl, rfl⟩
        go_wp2_with fail
        refine c2.out.mono ?_
        rintro e w' ⟨rfl, rfl⟩
        go_wp2_with fail
        refine c3.out.mono ?_
        rintro e w' ⟨rfl, rfl⟩
        go_wp2_with fail
        refine (awake_any _ htab).mono ?_
        rintro e w1 ⟨rfl, hb1⟩
        go_wp2_with fail
        refine (mul_any _ _ _).mono ?_
        rintro e w' ⟨rfl, rfl⟩
        rw [R4.out]
        go_wp2_with fail
        refine (add_any _ _ _).mono ?_
        rintro e w' ⟨rfl, rfl⟩
        rw [R5.out]
        go_wp2_with fail
        go_ret
        exact ⟨by simp, hb1⟩
  · generalize quoL a b = x at c1 hk
    generalize remL a b = y at c2
    generalize modL a b = z at c3
    obtain ⟨x1, x2⟩ := x
    obtain ⟨y1, y2⟩ := y
    obtain ⟨z1, z2⟩ := z
    have q1 : resV (x1, x2) = .tuple #[.int .i64 x1, kindV x2] := by rw [resV, errV_n hk]
    rw [q1] at c1
    clear hk q1
    go_enter Tryd.func8, Tryd.ntmps8
    go_wp2_with fail
    refine c1.out.mono ?_
    rintro e w' ⟨rfl, rfl⟩
    go_wp2_with fail
    refine c2.out.mono ?_
    rintro e w' ⟨rfl, rfl⟩
    rw [resV]
    go_wp2_with fail
    refine c3.out.mono ?_
    rintro e w' ⟨rfl, rfl⟩
    rw [resV]
    go_wp2_with fail
    refine (awake_any _ htab).mono ?_
    rintro e w1 ⟨rfl, hb1⟩
    have htab1 := tab_below htab hb1
    go_wp2_with fail
    refine (awake_any _ htab1).mono ?_
    rintro e w2 ⟨rfl, hb2⟩
    go_wp2_with fail
    go_ret
    exact ⟨rfl, below_trans hb1 hb2⟩
end Go.Proofs.YtcbibajcmhpjpaaDoor
