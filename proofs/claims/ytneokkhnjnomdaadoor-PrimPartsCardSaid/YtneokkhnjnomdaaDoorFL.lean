/-
  What layer 2 computes, in plain words: no program in sight.
-/
import Derived.Test.YtneokkhnjnomdaaDoorW
namespace Go.Proofs.YtneokkhnjnomdaaDoor
open Go.RowKit

/-- May it be a number? -/
def Num (n : Int) : Bool := decide (-1152921504606846976 ≤ n) && decide (n ≤ 1152921504606846975)
theorem num_iff {n : Int} : Num n = true ↔ -1152921504606846976 ≤ n ∧ n ≤ 1152921504606846975 := by simp [Num]

/-- A number and a kind of error, 0 if there is none. -/
def fitL (n : Int) : Int × Int := if Num n = true then (n, 0) else (0, 11)
def addL (a b : Int) : Int × Int := if (Num a && Num b) = true then fitL (a + b) else (0, 2)
def subL (a b : Int) : Int × Int := if (Num a && Num b) = true then fitL (a - b) else (0, 2)
def mulL (a b : Int) : Int × Int := if (Num a && Num b) = true then fitL (a * b) else (0, 2)
/-- What stands in the divisions' place where nothing is refused. -/
def divWith (f : Int × Int) (a b : Int) : Int × Int := if (Num a && Num b) = true then (if (b == 0) = true then (0, 12) else f) else (0, 2)
def modOf (a b : Int) : Int := if a.tmod b ≠ 0 ∧ ((a.tmod b < 0) ≠ (b < 0)) then a.tmod b + b else a.tmod b
def quoL (a b : Int) : Int × Int := divWith (fitL (a.tdiv b)) a b
def remL (a b : Int) : Int × Int := divWith (a.tmod b, 0) a b
def modL (a b : Int) : Int × Int := divWith (modOf a b, 0) a b

theorem tmod_bound {a b : Int} (ha : Num a = true) (hb : Num b = true) (h0 : b ≠ 0) : Num (a.tmod b) = true ∧ Num (modOf a b) = true := by
  rw [num_iff] at *
  have h1 : (a.tmod b).natAbs < b.natAbs := by
    rw [Int.natAbs_tmod]
    exact Nat.mod_lt _ (by omega)
  have h2 : (a.tmod b).natAbs ≤ a.natAbs := by
    rw [Int.natAbs_tmod]
    exact Nat.mod_le _ _
  generalize hr : a.tmod b = r at h1 h2
  have hb' : b = (b.natAbs : Int) ∨ b = -(b.natAbs : Int) := Int.natAbs_eq b
  have ha' : a = (a.natAbs : Int) ∨ a = -(a.natAbs : Int) := Int.natAbs_eq a
  refine ⟨by omega, ?_⟩
  unfold modOf
  rw [hr, num_iff]
  split
  · rename_i h
    obtain ⟨h3, h4⟩ := h
    by_cases hr0 : r < 0
    · by_cases hb0 : b < 0
      · exact absurd (propext ⟨fun _ => hb0, fun _ => hr0⟩) h4
      · omega
    · by_cases hb0 : b < 0
      · omega
      · exact absurd (propext ⟨fun h => absurd h hr0, fun h => absurd h hb0⟩) h4
  · omega

theorem tdiv_bound {a b : Int} (ha : Num a = true) : -1152921504606846976 ≤ a.tdiv b ∧ a.tdiv b ≤ 1152921504606846976 := by
  rw [num_iff] at ha
  have h2 : (a.tdiv b).natAbs ≤ a.natAbs := by
    rw [Int.natAbs_tdiv]
    exact Nat.div_le_self _ _
  omega

/-- The product's own check. -/
theorem mul_check {a b : Int} (ha : Num a = true) (h0 : a ≠ 0) : (Num (a * b) = true → wrap64 (a * b) = a * b ∧ (a * b).tdiv a = b) ∧ (Num (a * b) = false → (wrap64 (a * b)).tdiv a ≠ b ∨ Num (wrap64 (a * b)) = false) := by
  refine ⟨fun h => ?_, fun h => ?_⟩
  · rw [num_iff] at h
    refine ⟨?_, Int.mul_tdiv_cancel_left _ h0⟩
    generalize a * b = p at h
    unfold wrap64
    omega
  · by_cases h1 : (wrap64 (a * b)).tdiv a = b
    · right
      have h2 := Int.tmod_add_mul_tdiv (wrap64 (a * b)) a
      rw [h1] at h2
      have h3 : ((wrap64 (a * b)).tmod a).natAbs < a.natAbs := by
        rw [Int.natAbs_tmod]
        exact Nat.mod_lt _ (by omega)
      rw [num_iff] at ha
      have h4 : wrap64 (a * b) = a * b := by
        generalize (wrap64 (a * b)).tmod a = r at h2 h3
        generalize a * b = p at h2
        unfold wrap64 at h2 ⊢
        omega
      rw [h4]
      exact h
    · exact .inl h1


/-- The product as the reference has it: of what is left of the signs. -/
theorem prod_le (x y m : Nat) (hy : 0 < y) : m / y < x ↔ m < x * y := by
  rw [Nat.div_lt_iff_lt_mul hy]

theorem natAbs_mul_pos {a b : Int} (h : (a < 0) = (b < 0)) : a * b = ((a.natAbs * b.natAbs : Nat) : Int) := by
  by_cases ha : a < 0
  · have hb : b < 0 := by rw [← h]; exact ha
    have e1 : a = -(a.natAbs : Int) := by omega
    have e2 : b = -(b.natAbs : Int) := by omega
    rw [Int.natCast_mul]
    generalize (a.natAbs : Int) = x at *
    generalize (b.natAbs : Int) = y at *
    rw [e1, e2, Int.neg_mul_neg]
  · have hb : ¬ b < 0 := by rw [← h]; omega
    have e1 : a = (a.natAbs : Int) := by omega
    have e2 : b = (b.natAbs : Int) := by omega
    rw [Int.natCast_mul, ← e1, ← e2]

theorem natAbs_mul_neg {a b : Int} (h : (a < 0) ≠ (b < 0)) : a * b = -((a.natAbs * b.natAbs : Nat) : Int) := by
  rw [Int.natCast_mul]
  by_cases ha : a < 0
  · have hb : ¬ b < 0 := fun hb => h (propext ⟨fun _ => hb, fun _ => ha⟩)
    have e1 : a = -(a.natAbs : Int) := by omega
    have e2 : b = (b.natAbs : Int) := by omega
    generalize (a.natAbs : Int) = x at *
    generalize (b.natAbs : Int) = y at *
    rw [e1, e2, Int.neg_mul]
  · have hb : b < 0 := by
      by_cases hb : b < 0
      · exact hb
      · exact absurd (propext ⟨fun h => absurd h (by omega), fun h => absurd h (by omega)⟩) h
    have e1 : a = (a.natAbs : Int) := by omega
    have e2 : b = -(b.natAbs : Int) := by omega
    generalize (a.natAbs : Int) = x at *
    generalize (b.natAbs : Int) = y at *
    rw [e1, e2, Int.mul_neg]
end Go.Proofs.YtneokkhnjnomdaaDoor
