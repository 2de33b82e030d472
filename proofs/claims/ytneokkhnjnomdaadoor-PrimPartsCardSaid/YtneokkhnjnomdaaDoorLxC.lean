/-
  lex.Symbol whole; the reference's digits and Symbol.
-/
import Derived.Test.YtneokkhnjnomdaaDoorLxB
namespace Go.Proofs.YtneokkhnjnomdaaDoor
open Go.RowKit

theorem symL_cases (l : List UInt8) : (l = [] ∧ symL l = false) ∨ (60 < l.length ∧ symL l = false) ∨ (l = [46] ∧ symL l = false) ∨
    (l ≠ [] ∧ l.length ≤ 60 ∧ l ≠ [46] ∧ okL (bodyL l) = true ∧ symL l = false) ∨ (l ≠ [] ∧ l.length ≤ 60 ∧ l ≠ [46] ∧ okL (bodyL l) = false ∧ symL l = l.all symCh) := by
  by_cases h0 : l = []
  · subst h0; exact .inl ⟨rfl, rfl⟩
  · by_cases h1 : 60 < l.length
    · refine .inr (.inl ⟨h1, ?_⟩)
      have : decide (l.length ≤ 60) = false := by simp; omega
      simp [symL, this]
    · by_cases h2 : l = [46]
      · subst h2; exact .inr (.inr (.inl ⟨rfl, rfl⟩))
      · have e1 : decide (1 ≤ l.length) = true := by cases l with | nil => exact absurd rfl h0 | cons _ _ => simp
        have e2 : decide (l.length ≤ 60) = true := by simp; omega
        have e3 : (l == [46]) = false := by simpa using h2
        cases hk : okL (bodyL l)
        · exact .inr (.inr (.inr (.inr ⟨h0, by omega, h2, rfl, by simp only [symL, e1, e2, e3, hk]; rfl⟩)))
        · exact .inr (.inr (.inr (.inl ⟨h0, by omega, h2, rfl, by simp only [symL, e1, e2, e3, hk]; rfl⟩)))

theorem symbol_any (s : ByteArray) (W : World) :
    Calls Tryd.prog 50 #[.string s] W fun e w' => e = .returned (.bool (symL s.data.toList)) ∧ Below W.heap.size W w' := by
  rcases symL_cases s.data.toList with ⟨h, e⟩ | ⟨h, e⟩ | ⟨h, e⟩ | ⟨h0, h1, h2, h3, e⟩ | ⟨h0, h1, h2, h3, e⟩
  · rw [e]; exact sym_short s h W
  · rw [e]; exact sym_long s h W
  · rw [e]
    obtain rfl : s = ⟨#[46]⟩ := by apply ByteArray.ext; rw [← Array.toList_inj, h]
    exact sym_dot W
  · rw [e]; exact sym_digits s h0 h1 h2 h3 W
  · rw [e]; exact sym_bytes s h0 h1 h2 h3 W

end Go.Proofs.YtneokkhnjnomdaaDoor
