/-
  The reference's Next out of its bounds; the errors that a token may have.
-/
import Derived.Test.YthighbbikpnpgaaDoorLrC
import Derived.Handy
namespace Go.Proofs.YthighbbikpnpgaaDoor
open Go.RowKit Go.Proofs.YthighbbikpnpgaaDoorW.PrintWords

theorem strP_err : ∀ l acc k, (strP l acc k).1 = 0 ∨ (strP l acc k).1 = 5 ∨ (strP l acc k).1 = 6 := by
  intro l acc k
  induction l, acc, k using strP.induct with
  | case1 acc k => simp [strP]
  | case2 acc k => simp [strP]
  | case3 acc k h1 => simp [strP]
  | case4 acc k x h1 h2 => simp [strP, h1, h2]
  | case5 acc k y r => simp [strP]
  | case6 acc k y r h1 h2 ih => obtain ⟨d, hd⟩ := Option.isSome_iff_exists.1 h1; rw [strP_esc hd]; rw [hd] at ih; exact ih
  | case7 acc k y r h1 h2 => simp [strP, h1]
  | case8 acc k x y r h1 h2 ih => rw [strP, if_neg h1, if_neg h2]; exact ih
theorem strE_err (R : Int × List UInt8 × Nat) (h : R.1 = 0 ∨ R.1 = 5 ∨ R.1 = 6) : 0 ≤ strE R ∧ strE R ≤ 14 := by
  unfold strE
  split
  · split <;> omega
  · omega
theorem namesP_err (T : ByteArray) (i : Nat) (L : List UInt8) : ∀ ns, (namesP T i L ns).1 = 0 ∨ (namesP T i L ns).1 = 6 := by
  intro ns
  induction ns with
  | nil => simp [namesP]
  | cons x r ih =>
    rw [namesP]
    split
    · exact .inl rfl
    · exact ih
theorem sharpL_err (T : ByteArray) (i : Nat) (L : List UInt8) : (sharpL T i L).1 = 0 ∨ (sharpL T i L).1 = 6 := by
  match L with
  | [] => simp [sharpL]
  | x :: r =>
    rw [sharpL]
    split
    · split
      · exact .inl rfl
      · exact .inr rfl
    · split
      · split
        · exact .inl rfl
        · exact namesP_err T i r _
      · exact .inr rfl
theorem fitL_err (n : Int) : (fitL n).2 = 0 ∨ (fitL n).2 = 11 := by
  unfold fitL
  split
  · exact .inl rfl
  · exact .inr rfl
theorem parseL_err (l : List UInt8) : (parseL l).2 = 0 ∨ (parseL l).2 = 6 ∨ (parseL l).2 = 11 := by
  unfold parseL
  split
  · rcases fitL_err _ with h | h
    · exact .inl h
    · exact .inr (.inr h)
  · exact .inr (.inl rfl)
theorem wordE_err (l : List UInt8) : 0 ≤ wordE l ∧ wordE l ≤ 14 := by
  unfold wordE
  have := parseL_err l
  split
  · omega
  · split
    · split <;> omega
    · omega
theorem tokX_err (T : ByteArray) (j : Nat) (x : UInt8) (l c : Int) : 0 ≤ (tokX T j x l c).1 ∧ (tokX T j x l c).1 ≤ 14 := by
  rw [tokX]
  split
  · exact ⟨Int.le_refl 0, show (0 : Int) ≤ 14 by decide⟩
  · split
    · have := sharpL_err T j (T.data.toList.drop (j + 1))
      simp only
      omega
    · split
      · exact strE_err _ (strP_err _ _ _)
      · exact wordE_err _
theorem tokP_err (T : ByteArray) (i : Nat) (l c : Int) : 0 ≤ (tokP T i l c).1 ∧ (tokP T i l c).1 ≤ 14 := by
  rw [tokP, tokB]
  split
  · exact tokX_err _ _ _ _ _
  · exact ⟨Int.le_refl 0, show (0 : Int) ≤ 14 by decide⟩

set_option maxRecDepth 100000 in
set_option maxHeartbeats 4000000 in
theorem refnext_bad (T : ByteArray) (a l c : Int) (w : World) (h : a < 0 ∨ (T.size : Int) < a ∨ l < 1 ∨ 1073741824 < l ∨ c < 1 ∨ 1073741824 < c) :
    Calls Tryd.prog 33 #[.string T, .int .i64 a, .int .i64 l, .int .i64 c] w (NextTo (.tuple #[tokV tok0, faultV 3 0 0]) w) := by
  by_cases x0 : a < 0
  · have y0 : decide (a < 0) = true := decide_eq_true x0
    clear h
    go_enter Tryd.func33, Tryd.ntmps33
    (go_wp2_with fail; repeat (go_region; go_wp2_with fail))
    go_returns
    exact ⟨rfl, below_alloc (below_alloc (Below.refl _ _) _) _⟩
  by_cases x1 : (T.size : Int) < a
  · have y0 : decide (a < 0) = false := decide_eq_false x0
    have y1 : decide ((T.size : Int) < a) = true := decide_eq_true x1
    clear h
    go_enter Tryd.func33, Tryd.ntmps33
    (go_wp2_with fail; repeat (go_region; go_wp2_with fail))
    go_returns
    exact ⟨rfl, below_alloc (below_alloc (Below.refl _ _) _) _⟩
  by_cases x2 : l < 1
  · have y0 : decide (a < 0) = false := decide_eq_false x0
    have y1 : decide ((T.size : Int) < a) = false := decide_eq_false x1
    have y2 : decide (l < 1) = true := decide_eq_true x2
    clear h
    go_enter Tryd.func33, Tryd.ntmps33
    (go_wp2_with fail; repeat (go_region; go_wp2_with fail))
    go_returns
    exact ⟨rfl, below_alloc (below_alloc (Below.refl _ _) _) _⟩
  by_cases x3 : 1073741824 < l
  · have y0 : decide (a < 0) = false := decide_eq_false x0
    have y1 : decide ((T.size : Int) < a) = false := decide_eq_false x1
    have y2 : decide (l < 1) = false := decide_eq_false x2
    have y3 : decide (1073741824 < l) = true := decide_eq_true x3
    clear h
    go_enter Tryd.func33, Tryd.ntmps33
    (go_wp2_with fail; repeat (go_region; go_wp2_with fail))
    go_returns
    exact ⟨rfl, below_alloc (below_alloc (Below.refl _ _) _) _⟩
  by_cases x4 : c < 1
  · have y0 : decide (a < 0) = false := decide_eq_false x0
    have y1 : decide ((T.size : Int) < a) = false := decide_eq_false x1
    have y2 : decide (l < 1) = false := decide_eq_false x2
    have y3 : decide (1073741824 < l) = false := decide_eq_false x3
    have y4 : decide (c < 1) = true := decide_eq_true x4
    clear h
    go_enter Tryd.func33, Tryd.ntmps33
    (go_wp2_with fail; repeat (go_region; go_wp2_with fail))
    go_returns
    exact ⟨rfl, below_alloc (below_alloc (Below.refl _ _) _) _⟩
  by_cases x5 : 1073741824 < c
  · have y0 : decide (a < 0) = false := decide_eq_false x0
    have y1 : decide ((T.size : Int) < a) = false := decide_eq_false x1
    have y2 : decide (l < 1) = false := decide_eq_false x2
    have y3 : decide (1073741824 < l) = false := decide_eq_false x3
    have y4 : decide (c < 1) = false := decide_eq_false x4
    have y5 : decide (1073741824 < c) = true := decide_eq_true x5
    clear h
    go_enter Tryd.func33, Tryd.ntmps33
    (go_wp2_with fail; repeat (go_region; go_wp2_with fail))
    go_returns
    exact ⟨rfl, below_alloc (below_alloc (Below.refl _ _) _) _⟩
  exact absurd h (by simp only [x0, x1, x2, x3, x4, x5, or_self, not_false_eq_true])
end Go.Proofs.YthighbbikpnpgaaDoor
