/-
  Walk: awake; the law JudgeAllows, walked.
-/
import Derived.Test.YtkogfljjdgcdnaaJI
namespace Go.Proofs.Ytkogfljjdgcdnaa
open Go.RowKit

def awakeLit : List Ln := [⟨1, 0, [51], false⟩, ⟨2, 9, [58, 32, 99, 97, 114], false⟩, ⟨3, 0, [97, 98], true⟩]
theorem awake_lines : linesA [] [61, 62, 32, 51, 10, 101, 114, 114, 111, 114, 32, 116, 121, 112, 101, 58, 32, 99, 97, 114, 10, 97, 98] = awakeLit := by kernel_rfl

theorem own_lit {w : World} {B : Nat} (cur : Array Value) (n : Nat) (g : Nat) (hg : g = w.heap.size) (hB : B ≤ w.heap.size) (hn : n ≤ maxLen) (hs : cur.size = n * 4) :
    (w.alloc (.cells cur 33)).ownsRow B 33 4 (.slice (some ⟨g, 0, none⟩) n n) n cur.toList := by
  subst hg
  exact ⟨by simpa using hs, .inr ⟨_, n, cur, rfl, hB, heap_alloc_new w _, Nat.le_refl _, hn, hs, by rw [← hs]; exact List.take_of_length_le (by simp)⟩⟩

theorem awake_a1 : allowedB ⟨#[61, 62, 32, 51, 10, 101, 114, 114, 111, 114, 32, 109, 101, 109, 111, 114, 121, 58, 32, 99, 101, 108, 108, 115, 10, 61, 62, 32, 57, 10]⟩ ⟨#[61, 62, 32, 51, 10, 61, 62, 32, 52, 10]⟩ true = 2 := by kernel_rfl
theorem awake_a2 : allowedB ⟨#[61, 62, 32, 51, 10]⟩ ⟨#[61, 62, 32, 52, 10]⟩ false = 0 := by kernel_rfl
theorem awake_u : uptoB ⟨#[101, 114, 114, 111, 114, 32, 109, 101, 109, 111, 114, 121, 58, 32, 99, 101, 108, 108, 115, 10]⟩ = ⟨#[]⟩ := by kernel_rfl

theorem awake_any (w : World) (hsh : w.ShapedOpen Try.prog) :
    Calls Try.prog 7 #[] w fun e w' => e = .returned (.bool true) ∧ Below w.heap.size w w' := by
  obtain ⟨W, rfl⟩ : ∃ W : World, W = w := ⟨w, rfl⟩
  go_enter Try.func7, Try.ntmps7
  go_wp2_with fail
  refine (lines_any _ _ (by decide) hsh).mono ?_
  rintro e w1 ⟨v, rfl, hown, hb⟩
  have hown' : OwnL w1 W.heap.size v awakeLit := by rw [← awake_lines]; exact hown
  clear hown
  have hbs := hb.size
  have hsh1 := shaped_below hsh hb
  go_wp2_with fail
  refine (same_any _ _ awakeLit _ _ W.heap.size (hown'.alloc _) (own_lit #[_, _, _, _, _, _, _, _, _, _, _, _] 3 _ rfl hbs (by decide) rfl) (by decide)).mono ?_
  rintro e w2 ⟨rfl, n, rfl⟩
  have hb2 : Below W.heap.size W ((w1.alloc (.cells #[.int .i64 1, .int .i64 0, .string ⟨#[51]⟩, .bool false, .int .i64 2, .int .i64 9, .string ⟨#[58, 32, 99, 97, 114]⟩, .bool false, .int .i64 3, .int .i64 0, .string ⟨#[97, 98]⟩, .bool true] 33)).drewN n) := below_drewN (hb.alloc hbs _) n
  have hsh2 := shaped_below hsh hb2
  go_wp2_with fail
  refine (allowed_any _ _ _ _ (by decide) hsh2).mono ?_
  rintro e w2 ⟨rfl, rfl⟩
  rw [awake_a1]
  go_wp2_with fail
  refine (allowed_any _ _ _ _ (by decide) hsh2).mono ?_
  rintro e w2 ⟨rfl, rfl⟩
  rw [awake_a2]
  go_wp2_with fail
  refine (upto_any _ _ (by decide) hsh2).mono ?_
  rintro e w2 ⟨rfl, rfl⟩
  rw [awake_u]
  go_wp2_with fail
  go_ret
  exact ⟨rfl, hb2⟩

theorem allows_walk (a b : ByteArray) (ended : Bool) (w : World) (ha : a.size ≤ maxLen) (hb : b.size ≤ maxLen) (hsh : w.ShapedOpen Try.prog) :
    Calls Try.prog 3 #[.string a, .string b, .bool ended] w fun e w' => e = .returned (.bool true) ∧ Below w.heap.size w w' := by
  obtain ⟨W, rfl⟩ : ∃ W : World, W = w := ⟨w, rfl⟩
  unfold maxLen at ha hb
  by_cases h : a.size ≤ 16384 ∧ b.size ≤ 16384
  · obtain ⟨h1, h2⟩ := h
    go_enter Try.func3, Try.ntmps3
    go_wp2_with fail
    refine (awake_any _ hsh).mono ?_
    rintro e w1 ⟨rfl, hb1⟩
    have hsh1 := shaped_below hsh hb1
    go_wp2_with fail
    refine (upto_any _ _ (by omega) hsh1).mono ?_
    rintro e w2 ⟨rfl, rfl⟩
    go_wp2_with fail
    refine (refupto_any _ _ (by omega)).mono ?_
    rintro e w2 ⟨rfl, rfl⟩
    go_wp2_with fail
    refine (allowed_any _ _ _ _ (by omega) hsh1).mono ?_
    rintro e w2 ⟨rfl, rfl⟩
    go_wp2_with fail
    refine (refallowed_any _ _ _ _ (by omega)).mono ?_
    rintro e w2 ⟨rfl, rfl⟩
    go_wp2_with fail
    go_ret
    exact ⟨rfl, hb1⟩
  · by_cases h1 : a.size ≤ 16384
    · have h2 : 16384 < b.size := by omega
      clear h
      go_enter Try.func3, Try.ntmps3
      go_wp2_with fail
      refine (awake_any _ hsh).mono ?_
      rintro e w1 ⟨rfl, hb1⟩
      have hsh1 := shaped_below hsh hb1
      go_wp2_with fail
      refine (awake_any _ hsh1).mono ?_
      rintro e w2 ⟨rfl, hb2⟩
      go_wp2_with fail
      go_ret
      exact ⟨rfl, below_trans hb1 hb2⟩
    · have h2 : 16384 < a.size := by omega
      clear h h1
      go_enter Try.func3, Try.ntmps3
      go_wp2_with fail
      refine (awake_any _ hsh).mono ?_
      rintro e w1 ⟨rfl, hb1⟩
      have hsh1 := shaped_below hsh hb1
      go_wp2_with fail
      refine (awake_any _ hsh1).mono ?_
      rintro e w2 ⟨rfl, hb2⟩
      go_wp2_with fail
      go_ret
      exact ⟨rfl, below_trans hb1 hb2⟩
end Go.Proofs.Ytkogfljjdgcdnaa
