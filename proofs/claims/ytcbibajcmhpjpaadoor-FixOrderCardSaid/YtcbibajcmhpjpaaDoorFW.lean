/-
  Walks: layer 2's laws FixParts, FixParses, FixSigns, FixModulo.
-/
import Derived.Test.YtcbibajcmhpjpaaDoorFV
import Derived.Deep.RegionWith
import Derived.Deep.DeepCutAuto
namespace Go.Proofs.YtcbibajcmhpjpaaDoor
open Go.RowKit

theorem parts_walk (a b : Int) (w : World) (htab : Tab w) :
    Calls Tryd.prog 6 #[.int .i64 a, .int .i64 b] w fun e w' => e = .returned (.bool true) ∧ Below w.heap.size w w' := by
  obtain ⟨W, rfl⟩ : ∃ W : World, W = w := ⟨w, rfl⟩
  have c1 := Lib.hid (quotient_any a b W)
  have c2 := Lib.hid (refquotient_any a b W)
  have c3 := Lib.hid (remainder_any a b W)
  have c4 := Lib.hid (refremainder_any a b W)
  have c5 := Lib.hid (modulo_any a b W)
  have c6 := Lib.hid (refmodulo_any a b W)
  have z1 := Lib.hid (quo_zero a b)
  have z2 := Lib.hid (rem_zero a b)
  have z3 := Lib.hid (mod_zero a b)
  generalize quoL a b = x at c1 c2 z1
  generalize remL a b = y at c3 c4 z2
  generalize modL a b = z at c5 c6 z3
  obtain ⟨x1, x2⟩ := x
  obtain ⟨y1, y2⟩ := y
  obtain ⟨z1', z2'⟩ := z
  go_enter Tryd.func6, Tryd.ntmps6
  go_wp2_with fail
  refine c1.out.mono ?_
  rintro e w' ⟨rfl, rfl⟩
  rw [resV]
  go_wp2_with fail
  refine c2.out.mono ?_
  rintro e w' ⟨rfl, rfl⟩
  rw [refV]
  go_wp2_with fail
  refine c3.out.mono ?_
  rintro e w' ⟨rfl, rfl⟩
  rw [resV]
  go_wp2_with fail
  refine c4.out.mono ?_
  rintro e w' ⟨rfl, rfl⟩
  rw [refV]
  go_wp2_with fail
  refine c5.out.mono ?_
  rintro e w' ⟨rfl, rfl⟩
  rw [resV]
  go_wp2_with fail
  refine c6.out.mono ?_
  rintro e w' ⟨rfl, rfl⟩
  rw [refV]
  go_wp2_with fail
  refine (awake_any _ htab).mono ?_
  rintro e w1 ⟨rfl, hb1⟩
  go_wp2_with fail
  refine (says_any (x1, x2) _ z1.out).mono ?_
  rintro e w' ⟨rfl, rfl⟩
  go_wp2_with fail
  refine (says_any (y1, y2) _ z2.out).mono ?_
  rintro e w' ⟨rfl, rfl⟩
  go_wp2_with fail
  refine (says_any (z1', z2') _ z3.out).mono ?_
  rintro e w' ⟨rfl, rfl⟩
  go_wp2_with fail
  go_ret
  exact ⟨rfl, hb1⟩

theorem parse_zero (s : List UInt8) : (parseL s).2 ≠ 0 → (parseL s).1 = 0 := by
  unfold parseL fitL; repeat' split
  all_goals simp

theorem parses_walk (s : ByteArray) (w : World) (htab : Tab w) :
    Calls Tryd.prog 4 #[.string s] w fun e w' => e = .returned (.bool true) ∧ Below w.heap.size w w' := by
  obtain ⟨W, rfl⟩ : ∃ W : World, W = w := ⟨w, rfl⟩
  have c1 := Lib.hid (fun w => parse_any s w)
  have c2 := Lib.hid (fun w => refparse_any s w)
  have z1 := Lib.hid (parse_zero s.data.toList)
  generalize parseL s.data.toList = x at c1 c2 z1
  obtain ⟨x1, x2⟩ := x
  go_enter Tryd.func4, Tryd.ntmps4
  go_wp2_with fail
  refine (c1.out _).mono ?_
  rintro e w1 ⟨rfl, hb1⟩
  rw [resV]
  go_wp2_with fail
  refine (c2.out _).mono ?_
  rintro e w2 ⟨rfl, hb2⟩
  rw [refV]
  have hb12 := below_trans hb1 hb2
  have htab2 := tab_below htab hb12
  go_wp2_with fail
  refine (awake_any _ htab2).mono ?_
  rintro e w3 ⟨rfl, hb3⟩
  have hb13 := below_trans hb12 hb3
  go_wp2_with fail
  refine (says_any (x1, x2) _ z1.out).mono ?_
  rintro e w' ⟨rfl, rfl⟩
  go_wp2_with fail
  go_ret
  exact ⟨rfl, hb13⟩

theorem below_of_drew {w w1 : World} (h : Below w.drew.heap.size w.drew w1) : Below w.heap.size w w1 :=
  ⟨h.os, h.tape, h.output, h.size, h.block⟩

theorem tab_drew {w : World} (h : Tab w) : Tab w.drew := h

/-- An error is nil where its number is 0, and is none where it isn't. -/
theorem errV_0 : errV 0 = .nilIface := rfl
theorem errV_n {k : Int} (h : k ≠ 0) : errV k = kindV k := by rw [errV, if_neg (by simpa using h)]

theorem sub_nil {a b : Int} (h : (subL a b).2 = 0) : Num a = true ∧ Num b = true ∧ subL a b = (a - b, 0) := by
  unfold subL fitL at *
  cases ha : Num a <;> cases hb : Num b <;> simp [ha, hb] at h
  refine ⟨rfl, rfl, ?_⟩
  cases hn : Num (a - b)
  · simp [hn] at h
  · simp

theorem signs_walk (a b : Int) (w : World) (htab : Tab w) :
    Calls Tryd.prog 11 #[.int .i64 a, .int .i64 b] w fun e w' => e = .returned (.bool true) ∧ Below w.heap.size w w' := by
  obtain ⟨W, rfl⟩ : ∃ W : World, W = w := ⟨w, rfl⟩
  have c1 := Lib.hid (sub_any a b W)
  have c2 := Lib.hid (sub_any b a W)
  by_cases h1 : (subL a b).2 = 0
  · obtain ⟨hA, hB, e1⟩ := sub_nil h1
    by_cases h2 : (subL b a).2 = 0
    · obtain ⟨_, _, e2⟩ := sub_nil h2
      rw [e1] at h1 c1
      rw [e2] at h2 c2
      have hN : Num (a - b) = true := by
        have : (subL a b) = if (Num a && Num b) = true then fitL (a - b) else (0, 2) := rfl
        rw [e1, hA, hB, Bool.and_self, if_pos rfl, fitL] at this
        by_cases hn : Num (a - b) = true
        · exact hn
        · rw [if_neg hn] at this
          simp at this
      have hN' : Num (b - a) = true := by
        have : (subL b a) = if (Num b && Num a) = true then fitL (b - a) else (0, 2) := rfl
        rw [e2, hA, hB, Bool.and_self, if_pos rfl, fitL] at this
        by_cases hn : Num (b - a) = true
        · exact hn
        · rw [if_neg hn] at this
          simp at this
      have r3 : resV (addL (a - b) (b - a)) = .tuple #[.int .i64 0, .nilIface] := by
        have e : (a - b) + (b - a) = 0 := by omega
        rw [addL, hN, hN', e]
        rfl
      have r4 : resV (mulL a 1) = .tuple #[.int .i64 a, .nilIface] := by
        rw [mulL, hA, Int.mul_one, fitL, if_pos hA]
        rfl
      have r5 : resV (addL a 0) = .tuple #[.int .i64 a, .nilIface] := by
        rw [addL, hA, Int.add_zero, fitL, if_pos hA]
        rfl
      have R3 := Lib.hid r3
      have R4 := Lib.hid r4
      have R5 := Lib.hid r5
      have q1 : resV (a - b, 0) = .tuple #[.int .i64 (a - b), .nilIface] := rfl
      have q2 : resV (b - a, 0) = .tuple #[.int .i64 (b - a), .nilIface] := rfl
      rw [q1] at c1
      rw [q2] at c2
      clear r3 r4 r5 hN hN' hA hB e1 e2 h1 h2 q1 q2
      go_enter Tryd.func11, Tryd.ntmps11
      go_wp2_with fail
      refine c1.out.mono ?_
      rintro e w' ⟨rfl, rfl⟩
      go_wp2_with fail
      refine c2.out.mono ?_
      rintro e w' ⟨rfl, rfl⟩
      go_wp2_with fail
      refine (awake_any _ htab).mono ?_
      rintro e w1 ⟨rfl, hb1⟩
      go_wp2_with fail
      refine (add_any _ _ _).mono ?_
      rintro e w' ⟨rfl, rfl⟩
      rw [R3.out]
      go_wp2_with fail
      refine (mul_any _ _ _).mono ?_
      rintro e w' ⟨rfl, rfl⟩
      rw [R4.out]
      go_wp2_with fail
      refine (add_any _ _ _).mono ?_
      rintro e w' ⟨rfl, rfl⟩
      rw [R5.out]
      go_wp2_with fail
      go_ret
      exact ⟨by simp, hb1⟩
    · generalize subL b a = y at c2 h2
      obtain ⟨y1, y2⟩ := y
      have q2 : resV (y1, y2) = .tuple #[.int .i64 y1, kindV y2] := by rw [resV, errV_n h2]
      have q1 : resV (a - b, 0) = .tuple #[.int .i64 (a - b), .nilIface] := rfl
      rw [e1, q1] at c1
      rw [q2] at c2
      clear hA hB h1 h2 e1 q1 q2
      go_enter Tryd.func11, Tryd.ntmps11
      go_wp2_with fail
      refine c1.out.mono ?_
      rintro e w' ⟨rfl, rfl⟩
      go_wp2_with fail
      refine c2.out.mono ?_
      rintro e w' ⟨rfl, rfl⟩
      go_wp2_with fail
      refine (awake_any _ htab).mono ?_
      rintro e w1 ⟨rfl, hb1⟩
      have htab1 := tab_below htab hb1
      go_wp2_with fail
      refine (awake_any _ htab1).mono ?_
      rintro e w2 ⟨rfl, hb2⟩
      go_wp2_with fail
      go_ret
      exact ⟨rfl, below_trans hb1 hb2⟩
  · generalize subL a b = x at c1 h1
    generalize subL b a = y at c2
    obtain ⟨x1, x2⟩ := x
    obtain ⟨y1, y2⟩ := y
    have q1 : resV (x1, x2) = .tuple #[.int .i64 x1, kindV x2] := by rw [resV, errV_n h1]
    rw [q1] at c1
    clear h1 q1
    go_enter Tryd.func11, Tryd.ntmps11
    go_wp2_with fail
    refine c1.out.mono ?_
    rintro e w' ⟨rfl, rfl⟩
    go_wp2_with fail
    refine c2.out.mono ?_
    rintro e w' ⟨rfl, rfl⟩
    rw [resV]
    go_wp2_with fail
    refine (awake_any _ htab).mono ?_
    rintro e w1 ⟨rfl, hb1⟩
    have htab1 := tab_below htab hb1
    go_wp2_with fail
    refine (awake_any _ htab1).mono ?_
    rintro e w2 ⟨rfl, hb2⟩
    go_wp2_with fail
    go_ret
    exact ⟨rfl, below_trans hb1 hb2⟩
end Go.Proofs.YtcbibajcmhpjpaaDoor
