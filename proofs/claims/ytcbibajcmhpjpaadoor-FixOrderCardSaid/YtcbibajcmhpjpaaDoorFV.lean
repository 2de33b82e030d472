/-
  Walks: layer 2's awake, and its laws on two ints.
-/
import Derived.Test.YtcbibajcmhpjpaaDoorFU
namespace Go.Proofs.YtcbibajcmhpjpaaDoor
open Go.RowKit

theorem aw1 : resV (addL 1152921504606846975 1) = .tuple #[.int .i64 0, kindV 11] := by kernel_rfl
theorem aw2 : resV (quoL (-7) 2) = .tuple #[.int .i64 (-3), .nilIface] := by kernel_rfl
theorem aw3 : resV (modL (-7) 2) = .tuple #[.int .i64 1, .nilIface] := by kernel_rfl
theorem aw4 : resV (modL 7 (-2)) = .tuple #[.int .i64 (-1), .nilIface] := by kernel_rfl
theorem aw5 : resV (parseL [43, 48, 48, 55]) = .tuple #[.int .i64 7, .nilIface] := by kernel_rfl
theorem aw6 : resV (quoL 1 0) = .tuple #[.int .i64 0, kindV 12] := by kernel_rfl
theorem aw7 : (ByteArray.mk (Lib.itoa (-12)).toArray) = ⟨#[45, 49, 50]⟩ := by
  have : Lib.itoa (-12) = [45, 49, 50] := by
    rw [Lib.itoa, if_pos (by decide), dec_big (by decide), dec_small (by decide)]
    rfl
  rw [this]

theorem awake_any (w : World) (htab : Tab w) :
    Calls Tryd.prog 14 #[] w fun e w' => e = .returned (.bool true) ∧ Below w.heap.size w w' := by
  obtain ⟨W, rfl⟩ : ∃ W : World, W = w := ⟨w, rfl⟩
  go_enter Tryd.func14, Tryd.ntmps14
  go_wp2_with fail
  refine (add_any _ _ _).mono ?_
  rintro e w' ⟨rfl, rfl⟩
  rw [aw1]
  go_wp2_with fail
  refine (quotient_any _ _ _).mono ?_
  rintro e w' ⟨rfl, rfl⟩
  rw [aw2]
  go_wp2_with fail
  refine (modulo_any _ _ _).mono ?_
  rintro e w' ⟨rfl, rfl⟩
  rw [aw3]
  go_wp2_with fail
  refine (modulo_any _ _ _).mono ?_
  rintro e w' ⟨rfl, rfl⟩
  rw [aw4]
  go_wp2_with fail
  refine (parse_any _ _).mono ?_
  rintro e w1 ⟨rfl, hb1⟩
  rw [show (ByteArray.mk #[43, 48, 48, 55]).data.toList = [43, 48, 48, 55] from rfl, aw5]
  have htab1 := tab_below htab hb1
  go_wp2_with fail
  refine (quotient_any _ _ _).mono ?_
  rintro e w' ⟨rfl, rfl⟩
  rw [aw6]
  go_wp2_with fail
  refine (is_kind _ _ _).mono ?_
  rintro e w' ⟨rfl, rfl⟩
  go_wp2_with fail
  refine (is_kind _ _ _).mono ?_
  rintro e w' ⟨rfl, rfl⟩
  go_wp2_with fail
  refine (text_any _ _ (by decide) (by decide) htab1).mono ?_
  rintro e w2 ⟨rfl, hb2⟩
  rw [aw7]
  go_wp2_with fail
  go_ret
  exact ⟨rfl, below_trans hb1 hb2⟩

theorem add_zero (a b : Int) : (addL a b).2 ≠ 0 → (addL a b).1 = 0 := by
  unfold addL fitL; split <;> (try split) <;> simp
theorem sub_zero (a b : Int) : (subL a b).2 ≠ 0 → (subL a b).1 = 0 := by
  unfold subL fitL; split <;> (try split) <;> simp
theorem mul_zero (a b : Int) : (mulL a b).2 ≠ 0 → (mulL a b).1 = 0 := by
  unfold mulL fitL; split <;> (try split) <;> simp
theorem quo_zero (a b : Int) : (quoL a b).2 ≠ 0 → (quoL a b).1 = 0 := by
  unfold quoL divWith fitL; repeat' split
  all_goals simp
theorem rem_zero (a b : Int) : (remL a b).2 ≠ 0 → (remL a b).1 = 0 := by
  unfold remL divWith; repeat' split
  all_goals simp
theorem mod_zero (a b : Int) : (modL a b).2 ≠ 0 → (modL a b).1 = 0 := by
  unfold modL divWith; repeat' split
  all_goals simp

theorem sums_walk (a b : Int) (w : World) (htab : Tab w) :
    Calls Tryd.prog 9 #[.int .i64 a, .int .i64 b] w fun e w' => e = .returned (.bool true) ∧ Below w.heap.size w w' := by
  obtain ⟨W, rfl⟩ : ∃ W : World, W = w := ⟨w, rfl⟩
  have c1 := Lib.hid (add_any a b W)
  have c2 := Lib.hid (refadd_any a b W)
  have c3 := Lib.hid (sub_any a b W)
  have c4 := Lib.hid (refsub_any a b W)
  have c5 := Lib.hid (mul_any a b W)
  have c6 := Lib.hid (refmul_any a b W)
  have z1 := Lib.hid (add_zero a b)
  have z2 := Lib.hid (sub_zero a b)
  have z3 := Lib.hid (mul_zero a b)
  generalize addL a b = x at c1 c2 z1
  generalize subL a b = y at c3 c4 z2
  generalize mulL a b = z at c5 c6 z3
  obtain ⟨x1, x2⟩ := x
  obtain ⟨y1, y2⟩ := y
  obtain ⟨z1', z2'⟩ := z
  go_enter Tryd.func9, Tryd.ntmps9
  go_wp2_with fail
  refine c1.out.mono ?_
  rintro e w' ⟨rfl, rfl⟩
  rw [resV]
  go_wp2_with fail
  refine c2.out.mono ?_
  rintro e w' ⟨rfl, rfl⟩
  rw [refV]
  go_wp2_with fail
  refine c3.out.mono ?_
  rintro e w' ⟨rfl, rfl⟩
  rw [resV]
  go_wp2_with fail
  refine c4.out.mono ?_
  rintro e w' ⟨rfl, rfl⟩
  rw [refV]
  go_wp2_with fail
  refine c5.out.mono ?_
  rintro e w' ⟨rfl, rfl⟩
  rw [resV]
  go_wp2_with fail
  refine c6.out.mono ?_
  rintro e w' ⟨rfl, rfl⟩
  rw [refV]
  go_wp2_with fail
  refine (awake_any _ htab).mono ?_
  rintro e w1 ⟨rfl, hb1⟩
  go_wp2_with fail
  refine (says_any (x1, x2) _ z1.out).mono ?_
  rintro e w' ⟨rfl, rfl⟩
  go_wp2_with fail
  refine (says_any (y1, y2) _ z2.out).mono ?_
  rintro e w' ⟨rfl, rfl⟩
  go_wp2_with fail
  refine (says_any (z1', z2') _ z3.out).mono ?_
  rintro e w' ⟨rfl, rfl⟩
  go_wp2_with fail
  go_ret
  exact ⟨rfl, hb1⟩
end Go.Proofs.YtcbibajcmhpjpaaDoor
