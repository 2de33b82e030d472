/-
  Walks: products and divisions of fix.
-/
import Derived.Test.YthighbbikpnpgaaDoorFB
namespace Go.Proofs.YthighbbikpnpgaaDoor
open Go.RowKit

theorem wrap64_in (x : Int) : -9223372036854775808 ≤ wrap64 x ∧ wrap64 x ≤ 9223372036854775807 := by unfold wrap64; omega

theorem mul_check' {a b : Int} (ha : Num a = true) (hb : Num b = true) (h0 : a ≠ 0) : (Num (a * b) = true → wrap64 (a * b) = a * b ∧ wrap64 ((wrap64 (a * b)).tdiv a) = b) ∧ (Num (a * b) = false → wrap64 ((wrap64 (a * b)).tdiv a) ≠ b ∨ Num (wrap64 (a * b)) = false) := by
  obtain ⟨hy, hn⟩ := mul_check (b := b) ha h0
  obtain ⟨n1, n2⟩ := wrap64_in (a * b)
  rw [num_iff] at hb
  refine ⟨fun h => ?_, fun h => ?_⟩
  · obtain ⟨e1, e2⟩ := hy h
    rw [e1, e2]
    refine ⟨rfl, ?_⟩
    unfold wrap64
    omega
  · rcases hn h with h1 | h1
    · left
      have hd : ((wrap64 (a * b)).tdiv a).natAbs ≤ (wrap64 (a * b)).natAbs := by
        rw [Int.natAbs_tdiv]
        exact Nat.div_le_self _ _
      generalize (wrap64 (a * b)).tdiv a = d at *
      generalize wrap64 (a * b) = n at *
      unfold wrap64
      omega
    · exact .inr h1

end Go.Proofs.YthighbbikpnpgaaDoor
