/-
  The reference's sharp: all of it.
-/
import Derived.Test.YthighbbikpnpgaaDoorLrH
import Derived.Test.YthighbbikpnpgaaDoorLrI
namespace Go.Proofs.YthighbbikpnpgaaDoor
open Go.RowKit Go.Proofs.YthighbbikpnpgaaDoorW.PrintWords

theorem drop_at {T : ByteArray} {k : Nat} (h : k < T.size) : T.data.toList.drop k = T[k]'h :: T.data.toList.drop (k + 1) :=
  List.drop_eq_getElem_cons (by simpa using h)

theorem refsharp_any (T : ByteArray) (i : Nat) (tl tc nx0 : Int) (w : World) (hi : i < T.size) (hT : T.size ≤ 1000000000) :
    Calls Tryd.prog 67 #[.string T, .int .i64 (i : Nat), .agg #[.int .i64 0, .int .i64 0, .string ⟨#[]⟩, .int .i64 tl, .int .i64 tc, .int .i64 nx0]] w (NextTo (refRet ((sharpL T i (T.data.toList.drop (i + 1))).1, ⟨(sharpL T i (T.data.toList.drop (i + 1))).2.1, (sharpL T i (T.data.toList.drop (i + 1))).2.2.1, [], tl, tc, (sharpL T i (T.data.toList.drop (i + 1))).2.2.2⟩)) w) := by
  by_cases hS : i + 1 < T.size
  · obtain ⟨x, hx⟩ : ∃ x, ∀ h, T[i + 1]'h = x := ⟨T[i + 1]'hS, fun _ => rfl⟩
    rw [drop_at hS, hx hS, sharpL]
    by_cases h1 : x = 116 ∨ x = 102
    · rw [if_pos h1]
      have hb : endAt T (i + 2) = true ∨ endAt T (i + 2) = false := by cases endAt T (i + 2) <;> simp
      rcases hb with h2 | h2
      · rw [if_pos h2]
        rcases h1 with rfl | rfl
        · exact refsharp_t T i tl tc nx0 w hi hT hS hx h2
        · exact refsharp_f T i tl tc nx0 w hi hT hS hx h2
      · rw [if_neg (by rw [h2]; decide)]
        rcases h1 with rfl | rfl
        · exact refsharp_tbad T i tl tc nx0 w hi hT hS hx h2 _ rfl rfl
        · exact refsharp_fbad T i tl tc nx0 w hi hT hS hx h2 _ rfl rfl
    · rw [if_neg h1]
      by_cases h3 : x = 92
      · rw [if_pos h3]
        subst h3
        rw [show i + 1 + 1 = i + 2 from rfl]
        by_cases hS2 : i + 2 < T.size
        · obtain ⟨y, hy⟩ : ∃ y, ∀ h, T[i + 2]'h = y := ⟨T[i + 2]'hS2, fun _ => rfl⟩
          have hd : (T.data.toList.drop (i + 2)).headD 0 = y := by rw [drop_at hS2, hy hS2]; rfl
          rw [hd]
          by_cases h32 : 32 < y.toNat
          · have hb : endAt T (i + 3) = true ∨ endAt T (i + 3) = false := by cases endAt T (i + 3) <;> simp
            rcases hb with h2 | h2
            · rw [if_pos ⟨h32, h2⟩]
              exact refsharp_char T i tl tc nx0 w hi hT hS2 hx y hy h32 h2
            · rw [if_neg (by rw [h2]; simp)]
              exact refsharp_n3 T i tl tc nx0 w hi hT hS2 hx y hy h32 h2
          · rw [if_neg (fun h => h32 h.1)]
            exact refsharp_n2 T i tl tc nx0 w hi hT hS2 hx y hy (by omega)
        · rw [if_neg (by
            rw [List.drop_eq_nil_of_le (by simp; omega)]
            simp)]
          exact refsharp_n1 T i tl tc nx0 w hi hT (by omega) hx
      · rw [if_neg h3]
        exact refsharp_other T i tl tc nx0 w hi hT hS x hx (fun e => h1 (.inl e)) (fun e => h1 (.inr e)) h3 _ rfl rfl
  · rw [show T.data.toList.drop (i + 1) = [] from List.drop_eq_nil_of_le (by simp; omega)]
    exact refsharp_none T i tl tc nx0 w hi hT hS _ rfl rfl
end Go.Proofs.YthighbbikpnpgaaDoor
