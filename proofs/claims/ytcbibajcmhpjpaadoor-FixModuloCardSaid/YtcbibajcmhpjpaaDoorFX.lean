/-
  Walks: layer 2's laws FixModulo, FixOrder, FixBack.
-/
import Derived.Test.YtcbibajcmhpjpaaDoorFW
import Derived.Deep.DeepCutAuto
namespace Go.Proofs.YtcbibajcmhpjpaaDoor
open Go.RowKit

theorem mod_kind (a b : Int) : (modL a b).2 = (remL a b).2 := by
  unfold modL remL divWith
  cases Num a <;> cases Num b <;> simp
  by_cases h : b = 0
  · simp [h]
  · simp [h]

set_option maxHeartbeats 8000000 in
theorem modulo_ok (a b : Int) (w : World) (htab : Tab w) (hk : (remL a b).2 = 0) :
    Calls Tryd.prog 7 #[.int .i64 a, .int .i64 b] w fun e w' => e = .returned (.bool true) ∧ Below w.heap.size w w' := by
  obtain ⟨W, rfl⟩ : ∃ W : World, W = w := ⟨w, rfl⟩
  have HA := Lib.hid awake_any
  have c1 := Lib.hid (modulo_any a b W)
  have c2 := Lib.hid (remainder_any a b W)
  have hr : (remL a b).2 = 0 → Num a = true ∧ Num b = true ∧ b ≠ 0 := by
    intro hk
    unfold remL divWith at hk
    cases ha : Num a <;> cases hb : Num b <;> simp [ha, hb] at hk
    refine ⟨rfl, rfl, fun h0 => ?_⟩
    rw [if_pos h0] at hk
    exact absurd hk (by decide)
  obtain ⟨hA, hB, h0⟩ := hr hk
  obtain ⟨t1, _⟩ := tmod_bound hA hB h0
  have e1 : modL a b = (modOf a b, 0) := by simp [modL, divWith, hA, hB, h0]
  have e2 : remL a b = (a.tmod b, 0) := by simp [remL, divWith, hA, hB, h0]
  have hm : modOf a b = a.tmod b ∨ modOf a b = a.tmod b + b := by
    unfold modOf
    split
    · exact .inr rfl
    · exact .inl rfl
  rw [num_iff] at t1 hB
  obtain ⟨r1, r2⟩ := t1
  obtain ⟨b1, b2⟩ := hB
  rw [e1, show resV (modOf a b, 0) = .tuple #[.int .i64 (modOf a b), .nilIface] from rfl] at c1
  rw [e2, show resV (a.tmod b, 0) = .tuple #[.int .i64 (a.tmod b), .nilIface] from rfl] at c2
  generalize modOf a b = m at c1 hm
  generalize a.tmod b = r at c2 hm r1 r2
  clear e1 e2 hk hr h0 hA
  have HM := Lib.hid hm
  clear hm
  go_enter Tryd.func7, Tryd.ntmps7
  go_wp2_with fail
  refine c1.out.mono ?_
  rintro e w' ⟨rfl, rfl⟩
  go_wp2_with fail
  refine c2.out.mono ?_
  rintro e w' ⟨rfl, rfl⟩
  go_wp2_with fail
  go_cut [29] (fun s wx => s = .bool false ∧ Below w'.heap.size w' wx)
  case first =>
    go_region_with (go_at_call 14; refine (HA.out _ ?_).mono ?_; exact tab_drew htab; rintro e w1 ⟨rfl, hb1⟩; replace hb1 := below_of_drew hb1)
    all_goals (go_wp2_with fail)
    all_goals go_meet
    all_goals exact ⟨rfl, hb1⟩
  case rest =>
    obtain ⟨rfl, hb1⟩ := hcut
    rcases HM.out with h | h
    · subst h
      go_wp2_with fail
      go_ret
      exact ⟨by simp, hb1⟩
    · subst h
      go_wp2_with fail
      all_goals (go_ret; exact ⟨by simp, hb1⟩)

set_option maxHeartbeats 8000000 in
theorem modulo_no (a b : Int) (w : World) (htab : Tab w) (hk : (remL a b).2 ≠ 0) :
    Calls Tryd.prog 7 #[.int .i64 a, .int .i64 b] w fun e w' => e = .returned (.bool true) ∧ Below w.heap.size w w' := by
  obtain ⟨W, rfl⟩ : ∃ W : World, W = w := ⟨w, rfl⟩
  have HA := Lib.hid awake_any
  have c1 := Lib.hid (modulo_any a b W)
  have c2 := Lib.hid (remainder_any a b W)
  have hk1 : (modL a b).2 ≠ 0 := by rw [mod_kind]; exact hk
  generalize modL a b = x at c1 hk1
  generalize remL a b = y at c2 hk
  obtain ⟨x1, x2⟩ := x
  obtain ⟨y1, y2⟩ := y
  have q1 : resV (x1, x2) = .tuple #[.int .i64 x1, kindV x2] := by rw [resV, errV_n hk1]
  have q2 : resV (y1, y2) = .tuple #[.int .i64 y1, kindV y2] := by rw [resV, errV_n hk]
  rw [q1] at c1
  rw [q2] at c2
  clear hk hk1 q1 q2
  go_enter Tryd.func7, Tryd.ntmps7
  go_wp2_with fail
  refine c1.out.mono ?_
  rintro e w' ⟨rfl, rfl⟩
  go_wp2_with fail
  refine c2.out.mono ?_
  rintro e w' ⟨rfl, rfl⟩
  go_wp2_with fail
  go_cut [29] (fun s wx => s = .bool false ∧ Below w'.heap.size w' wx)
  case first =>
    go_region_with (go_at_call 14; refine (HA.out _ ?_).mono ?_; exact tab_drew htab; rintro e w1 ⟨rfl, hb1⟩; replace hb1 := below_of_drew hb1)
    all_goals (go_wp2_with fail)
    all_goals go_meet
    all_goals exact ⟨rfl, hb1⟩
  case rest =>
    obtain ⟨rfl, hb1⟩ := hcut
    go_wp2_with fail
    go_ret
    exact ⟨rfl, hb1⟩

theorem modulo_walk (a b : Int) (w : World) (htab : Tab w) :
    Calls Tryd.prog 7 #[.int .i64 a, .int .i64 b] w fun e w' => e = .returned (.bool true) ∧ Below w.heap.size w w' := by
  by_cases hk : (remL a b).2 = 0
  · exact modulo_ok a b w htab hk
  · exact modulo_no a b w htab hk
end Go.Proofs.YtcbibajcmhpjpaaDoor
