/-
  Plain facts for layer 2's law FixOrder.
-/
import Derived.Test.YtcbibajcmhpjpaaDoorFW
import Derived.Deep.DeepCutAuto
namespace Go.Proofs.YtcbibajcmhpjpaaDoor
open Go.RowKit

theorem add_comm' (a b : Int) : addL b a = addL a b := by
  unfold addL
  rw [Int.add_comm b a, Bool.and_comm]
theorem mul_comm' (a b : Int) : mulL b a = mulL a b := by
  unfold mulL
  rw [Int.mul_comm b a, Bool.and_comm]

theorem add_nil {a b : Int} (h : (addL a b).2 = 0) : Num a = true ∧ Num b = true ∧ Num (a + b) = true ∧ addL a b = (a + b, 0) := by
  unfold addL fitL at *
  cases ha : Num a <;> cases hb : Num b <;> simp [ha, hb] at h
  cases hn : Num (a + b)
  · simp [hn] at h
  · exact ⟨rfl, rfl, rfl, by simp⟩

end Go.Proofs.YtcbibajcmhpjpaaDoor
