/-
  The lexer's Next out of its bounds.
-/
import Derived.Test.YthighbbikpnpgaaDoorLB5
import Derived.Handy
namespace Go.Proofs.YthighbbikpnpgaaDoor
open Go.RowKit Go.Proofs.YthighbbikpnpgaaDoorW.PrintWords

theorem next_bad (T : ByteArray) (a l c : Int) (w : World) (h : a < 0 ∨ (T.size : Int) < a ∨ min l c < 1 ∨ 1073741824 < max l c) :
    Calls Tryd.prog 32 #[.string T, .int .i64 a, .int .i64 l, .int .i64 c] w (NextTo (.tuple #[tokV tok0, kindV 3]) w) := by
  by_cases x0 : a < 0
  · have y0 : decide (a < 0) = true := decide_eq_true x0
    clear h
    go_enter Tryd.func32, Tryd.ntmps32
    (go_wp2_with fail; repeat (go_region; go_wp2_with fail))
    go_returns
    exact ⟨rfl, below_alloc (Below.refl _ _) _⟩
  by_cases x1 : (T.size : Int) < a
  · have y0 : decide (a < 0) = false := decide_eq_false x0
    have y1 : decide ((T.size : Int) < a) = true := decide_eq_true x1
    clear h
    go_enter Tryd.func32, Tryd.ntmps32
    (go_wp2_with fail; repeat (go_region; go_wp2_with fail))
    go_returns
    exact ⟨rfl, below_alloc (Below.refl _ _) _⟩
  by_cases x2 : min l c < 1
  · have y0 : decide (a < 0) = false := decide_eq_false x0
    have y1 : decide ((T.size : Int) < a) = false := decide_eq_false x1
    have y2 : decide (min l c < 1) = true := decide_eq_true x2
    clear h
    go_enter Tryd.func32, Tryd.ntmps32
    (go_wp2_with fail; repeat (go_region; go_wp2_with fail))
    go_returns
    exact ⟨rfl, below_alloc (Below.refl _ _) _⟩
  by_cases x3 : 1073741824 < max l c
  · have y0 : decide (a < 0) = false := decide_eq_false x0
    have y1 : decide ((T.size : Int) < a) = false := decide_eq_false x1
    have y2 : decide (min l c < 1) = false := decide_eq_false x2
    have y3 : decide (1073741824 < max l c) = true := decide_eq_true x3
    clear h
    go_enter Tryd.func32, Tryd.ntmps32
    (go_wp2_with fail; repeat (go_region; go_wp2_with fail))
    go_returns
    exact ⟨rfl, below_alloc (Below.refl _ _) _⟩
  · exact absurd h (by simp only [x0, x1, x2, x3, or_self, not_false_eq_true])
end Go.Proofs.YthighbbikpnpgaaDoor
