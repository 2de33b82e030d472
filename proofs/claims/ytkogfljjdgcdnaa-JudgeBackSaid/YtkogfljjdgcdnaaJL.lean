/-
  The lines of a log, byte by byte, and by cutting at line feeds: the same.
-/
import Derived.Test.YtkogfljjdgcdnaaJB
import Derived.Lib.IndexMore
namespace Go.Proofs.Ytkogfljjdgcdnaa

theorem cut_nil : Lib.cut [] [10] = ([], [], false) := rfl
theorem index_cons (b : UInt8) (l : List UInt8) : Lib.index (b :: l) [10] = if b = 10 then 0 else if Lib.index l [10] = -1 then -1 else Lib.index l [10] + 1 := by
  rw [Lib.index]
  by_cases h : b = 10
  · simp [h]
  · have : ([10] : List UInt8).isPrefixOf (b :: l) = false := by simp [List.isPrefixOf]; exact fun e => h e.symm
    rw [this]
    simp only [h, if_false, Bool.false_eq_true, beq_iff_eq]
theorem cut_cons (b : UInt8) (l : List UInt8) : Lib.cut (b :: l) [10] = if b = 10 then ([], l, true) else (b :: (Lib.cut l [10]).1, (Lib.cut l [10]).2.1, (Lib.cut l [10]).2.2) := by
  unfold Lib.cut
  rw [index_cons]
  have hg := Lib.index_ge l [10]
  by_cases h : b = 10
  · simp [h]
  · simp only [h, if_false]
    by_cases h1 : Lib.index l [10] = -1
    · simp [h1]
    · have h0 : 0 ≤ Lib.index l [10] := by omega
      rw [if_neg h1, if_pos (by omega), if_pos h0]
      have : (Lib.index l [10] + 1).toNat = (Lib.index l [10]).toNat + 1 := by omega
      simp [this]

def opened (l : Ln) : Ln := { l with opn := true }

/-- The lines, byte by byte: acc is what stands since the last line feed. -/
def linesA : List UInt8 → List UInt8 → List Ln
  | acc, [] => if acc = [] then [] else [opened (lineL acc)]
  | acc, c :: s => if c = 10 then lineL acc :: linesA [] s else linesA (acc ++ [c]) s

theorem linesA_cut : ∀ (s acc : List UInt8), linesA acc s = if (Lib.cut s [10]).2.2 = true then lineL (acc ++ (Lib.cut s [10]).1) :: linesA [] (Lib.cut s [10]).2.1 else if acc ++ s = [] then [] else [opened (lineL (acc ++ (Lib.cut s [10]).1))]
  | [], acc => by simp [cut_nil, linesA]
  | c :: s, acc => by
    rw [cut_cons, linesA]
    by_cases h : c = 10
    · simp [h]
    · simp only [h, if_false]
      rw [linesA_cut s]
      simp

theorem cut_less : ∀ (s : List UInt8), s ≠ [] → (Lib.cut s [10]).2.1.length < s.length
  | [], h => absurd rfl h
  | c :: s, _ => by
    rw [cut_cons]
    by_cases h : c = 10
    · simp [h]
    · simp only [h, if_false]
      by_cases hs : s = []
      · subst hs; simp [cut_nil]
      · have := cut_less s hs
        simp; omega

theorem cut_open : ∀ (s : List UInt8), (Lib.cut s [10]).2.2 = false → (Lib.cut s [10]).2.1 = []
  | [], _ => rfl
  | c :: s, hf => by
    rw [cut_cons] at hf ⊢
    by_cases h : c = 10
    · simp [h] at hf
    · simp only [h, if_false] at hf ⊢
      exact cut_open s hf

/-- One turn of the lines by cutting. -/
theorem lines_turn (s : List UInt8) (h : s ≠ []) : linesA [] s = { lineL (Lib.cut s [10]).1 with opn := !(Lib.cut s [10]).2.2 } :: linesA [] (Lib.cut s [10]).2.1 := by
  have hl : ∀ x, (lineL x).opn = false := by intro x; unfold lineL; split <;> (try split) <;> (try split) <;> rfl
  rw [linesA_cut]
  cases hf : (Lib.cut s [10]).2.2
  · rw [cut_open s hf]
    simp [h, opened, linesA]
  · simp only [if_true, List.nil_append, Bool.not_true]
    congr 1
    have := hl (Lib.cut s [10]).1
    cases hh : lineL (Lib.cut s [10]).1
    rw [hh] at this
    simp at this
    simp [this]
end Go.Proofs.Ytkogfljjdgcdnaa
