/-
  Walks of judge's line, and of the reference's line.
-/
import Derived.Test.YtkogfljjdgcdnaaJA
namespace Go.Proofs.Ytkogfljjdgcdnaa
open Go.RowKit

/-- A line of a log: what it is, its kind of error, its text, whether no line feed stands behind it. -/
structure Ln where
  what : Int
  kind : Int
  text : List UInt8
  opn : Bool

def Ln.cells (l : Ln) : List Value := [.int .i64 l.what, .int .i64 l.kind, .string ⟨l.text.toArray⟩, .bool l.opn]

def lineL (s : List UInt8) : Ln :=
  if Lib.hasPrefix s [61, 62, 32] = true then ⟨1, 0, Lib.trimPrefix s [61, 62, 32], false⟩
  else if Lib.hasPrefix s [101, 114, 114, 111, 114, 32] = true then
    (if (told (Lib.trimPrefix s [101, 114, 114, 111, 114, 32])).2.2 = true then ⟨2, (told (Lib.trimPrefix s [101, 114, 114, 111, 114, 32])).1, (told (Lib.trimPrefix s [101, 114, 114, 111, 114, 32])).2.1, false⟩ else ⟨3, 0, s, false⟩)
  else ⟨3, 0, s, false⟩

theorem line_any (s : ByteArray) (w : World) :
    Calls Try.prog 22 #[.string s] w fun e w' => e = .returned (.agg (lineL s.data.toList).cells.toArray) ∧ Below w.heap.size w w' := by
  have HL : Hid (lineL s.data.toList = lineL s.data.toList) := rfl
  conv at HL => { arg 1; rhs; unfold lineL }
  generalize hl : lineL s.data.toList = L at HL
  clear hl
  go_enter Try.func22, Try.ntmps22
  go_wp2_with fail
  refine (Try.strings_CutPrefix _ _ _).mono ?_
  rintro e w' ⟨rfl, rfl⟩
  cases h1 : Lib.hasPrefix s.data.toList [61, 62, 32]
  · go_wp2_with fail
    refine (Try.strings_CutPrefix _ _ _).mono ?_
    rintro e w' ⟨rfl, rfl⟩
    cases h2 : Lib.hasPrefix s.data.toList [101, 114, 114, 111, 114, 32]
    · go_wp2_with fail
      rw [h1, h2] at HL
      obtain rfl := HL.out
      exact bodyPost_ret (v := .agg #[.int .i64 3, .int .i64 0, .string s, .bool false]) (by simp [results, Try.results22, go_sem]) rfl ⟨rfl, ((Below.refl _ _).alloc (Nat.le_refl _) _)⟩
    · go_wp2_with fail
      refine (told_any _ _).mono ?_
      rintro e w' ⟨rfl, rfl⟩
      generalize ht : told (Lib.trimPrefix s.data.toList [101, 114, 114, 111, 114, 32]) = t at HL
      rw [h1, h2] at HL
      clear h1 h2 ht
      obtain ⟨k, x, b⟩ := t
      cases b
      · obtain rfl := HL.out
        go_wp2_with fail
        exact bodyPost_ret (v := .agg #[.int .i64 3, .int .i64 0, .string s, .bool false]) (by simp [results, Try.results22, go_sem]) rfl ⟨rfl, ((Below.refl _ _).alloc (Nat.le_refl _) _)⟩
      · obtain rfl := HL.out
        go_wp2_with fail
        exact bodyPost_ret (v := .agg #[.int .i64 2, .int .i64 k, .string ⟨x.toArray⟩, .bool false]) (by simp [results, Try.results22, go_sem]) rfl ⟨rfl, ((Below.refl _ _).alloc (Nat.le_refl _) _)⟩
  · go_wp2_with fail
    rw [h1] at HL
    obtain rfl := HL.out
    exact bodyPost_ret (v := .agg #[.int .i64 1, .int .i64 0, .string ⟨(Lib.trimPrefix s.data.toList [61, 62, 32]).toArray⟩, .bool false]) (by simp [results, Try.results22, go_sem]) rfl ⟨rfl, ((Below.refl _ _).alloc (Nat.le_refl _) _)⟩

theorem begins_any (s t : ByteArray) (w : World) :
    Calls Try.prog 20 #[.string s, .string t] w fun e w' => e = .returned (.bool (Lib.hasPrefix s.data.toList t.data.toList)) ∧ w' = w := by
  have hr := Lib.hasPrefix_raw s t
  by_cases h : t.size ≤ s.size
  · have H := Lib.hid (show ((s.extract 0 t.size).toList == t.toList) = Lib.hasPrefix s.data.toList t.data.toList by simpa [h] using hr)
    clear hr
    go_enter Try.func20, Try.ntmps20
    go_wp2
    go_ret
    exact ⟨by rw [← H.out]; rfl, rfl⟩
  · have H := Lib.hid (show false = Lib.hasPrefix s.data.toList t.data.toList by simpa [h] using hr)
    clear hr
    go_enter Try.func20, Try.ntmps20
    go_wp2
    go_ret
    exact ⟨by rw [← H.out]; rfl, rfl⟩

theorem words_any (w : World) :
    Calls Try.prog 33 #[] w fun e w' => ∃ b, e = .returned (.slice (some ⟨b, 0, none⟩) 21 21) ∧ Below w.heap.size w w' ∧ ∀ k : Nat, 1 ≤ k → k ≤ 20 → w'.cell? ⟨b, k, none⟩ = some (.string ⟨(kindWord k).toArray⟩) := by
  go_enter Try.func33, Try.ntmps33
  go_wp2
  go_ret
  refine ⟨_, rfl, (Below.refl _ _).alloc (Nat.le_refl _) _, fun k h1 h2 => ?_⟩
  have hk : k = 1 ∨ k = 2 ∨ k = 3 ∨ k = 4 ∨ k = 5 ∨ k = 6 ∨ k = 7 ∨ k = 8 ∨ k = 9 ∨ k = 10 ∨ k = 11 ∨ k = 12 ∨ k = 13 ∨ k = 14 ∨ k = 15 ∨ k = 16 ∨ k = 17 ∨ k = 18 ∨ k = 19 ∨ k = 20 := by omega
  rcases hk with rfl | rfl | rfl | rfl | rfl | rfl | rfl | rfl | rfl | rfl | rfl | rfl | rfl | rfl | rfl | rfl | rfl | rfl | rfl | rfl <;> simp [kindWord]

theorem prefix_snoc (s p : List UInt8) (c : UInt8) : Lib.hasPrefix s (p ++ [c]) = (Lib.hasPrefix s p && (match s.drop p.length with | [] => false | x :: _ => x == c)) := by
  induction p generalizing s with
  | nil => cases s <;> simp [Lib.hasPrefix, List.isPrefixOf, Bool.beq_comm]
  | cons a p ih =>
    cases s with
    | nil => simp [Lib.hasPrefix, List.isPrefixOf]
    | cons x s =>
      have := ih s
      simp only [Lib.hasPrefix] at this
      simp [Lib.hasPrefix, List.isPrefixOf, this, Bool.and_assoc]

theorem hit_eq (s : List UInt8) (k : Int) : hit s k = (Lib.hasPrefix s (kindWord k ++ [58]) || Lib.hasPrefix s (kindWord k ++ [32])) := by
  rw [prefix_snoc, prefix_snoc, hit, Lib.trimPrefix]
  cases h : Lib.hasPrefix s (kindWord k)
  · simp
  · simp only [Bool.true_and, if_true]
    cases s.drop (kindWord k).length <;> simp

theorem hit_trim {s : List UInt8} {k : Int} (h : hit s k = true) : Lib.trimPrefix s (kindWord k) = s.drop (kindWord k).length := by
  rw [hit, Bool.and_eq_true] at h
  rw [Lib.trimPrefix, if_pos h.1]
end Go.Proofs.Ytkogfljjdgcdnaa
