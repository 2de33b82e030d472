/-
  Walk of the reference's Lines.
-/
import Derived.Test.YtkogfljjdgcdnaaJD
namespace Go.Proofs.Ytkogfljjdgcdnaa
open Go.RowKit

/-- The lines of a log of which the bytes from f to k have been looked at since the last line feed. -/
def linesAt (s : List UInt8) (f k : Nat) : List Ln := linesA ((s.drop f).take (k - f)) (s.drop k)

theorem linesAt_step (s : List UInt8) (f k : Nat) (hf : f ≤ k) (hk : k < s.length) : linesAt s f k = if s[k] = 10 then lineL ((s.drop f).take (k - f)) :: linesAt s (k + 1) (k + 1) else linesAt s f (k + 1) := by
  unfold linesAt
  rw [List.drop_eq_getElem_cons hk, linesA]
  have h1 : (s.drop f).take (k + 1 - f) = (s.drop f).take (k - f) ++ [s[k]] := by
    rw [show k + 1 - f = (k - f) + 1 by omega, List.take_succ_eq_append_getElem (by simp; omega)]
    congr 2
    simp only [List.getElem_drop]
    congr 1
    omega
  rw [h1]
  simp

theorem linesAt_end (s : List UInt8) (f : Nat) (hf : f ≤ s.length) : linesAt s f s.length = if f < s.length then [opened (lineL (s.drop f))] else [] := by
  unfold linesAt
  rw [List.drop_length, linesA, List.take_of_length_le (by simp)]
  by_cases h : f < s.length
  · rw [if_pos h, if_neg (by simp; omega)]
  · rw [if_neg h, if_pos (by simp; omega)]

theorem lineL_open (x : List UInt8) : (lineL x).opn = false := by unfold lineL; split <;> (try split) <;> (try split) <;> rfl

theorem reflines_any (s : ByteArray) (w : World) (hs : s.size ≤ 32768) :
    Calls Try.prog 13 #[.string s] w fun e w' => ∃ v, e = .returned v ∧ OwnL w' w.heap.size v (linesA [] s.data.toList) ∧ Below w.heap.size w w' := by
  obtain ⟨i0, hi, hz0, hz1, hz2⟩ := info_parts info_line
  obtain ⟨W, rfl⟩ : ∃ W : World, W = w := ⟨w, rfl⟩
  have hsz := Lib.hid (Lib.size_eq s)
  go_enter Try.func13, Try.ntmps13
  go_wp2_with fail
  go_loopw [3, 4, 5] (fun v f i wr => ∃ (acc : List Ln) (p k : Nat), f = .int .i64 p ∧ i = .int .i64 k ∧ p ≤ k ∧ k ≤ s.size ∧ acc.length ≤ k ∧ OwnL wr W.heap.size v acc ∧ Below W.heap.size W wr ∧ Hid (linesA [] s.data.toList = acc ++ linesAt s.data.toList p k)) (fun _ _ i _ => s.size - (intOf i).toNat)
  case atStart => exact ⟨[], 0, 0, rfl, rfl, by omega, by omega, by simp, World.ownsRow_nil _ _ _ _, Below.refl _ _, by simp [Hid, linesAt]⟩
  case round =>
    obtain ⟨acc, p, k, rfl, rfl, hpk, hk, hacc, hown, hb, H⟩ := hrel
    by_cases hlt : k < s.size
    · have hst := Lib.hid (linesAt_step s.data.toList p k hpk (by rw [← Lib.size_eq]; exact hlt))
      have hby : Hid (s.data.toList[k]'(by rw [← Lib.size_eq]; exact hlt) = s[k]) := rfl
      have e10 := u8beq s[k] 10
      by_cases h10 : s[k] = 10
      · have e10' : ((s[k].toNat : Int) == 10) = true := e10.trans (by simpa using h10)
        have G := Lib.hid h10
        clear e10 h10
        go_wp2_with fail
        refine (refline_any _ _ (by rw [ByteArray.size_extract]; omega)).mono ?_
        rintro e w2 ⟨rfl, hb2⟩
        rw [Lib.extract_data]
        generalize lineL ((s.data.toList.drop p).take (k - p)) = L at hst
        obtain ⟨k1, k2, tx, op⟩ := L
        rw [show (Ln.mk k1 k2 tx op).cells.toArray = #[.int .i64 k1, .int .i64 k2, .string ⟨tx.toArray⟩, .bool op] from rfl]
        have hb3 := below_trans hb hb2
        have hown3 : OwnL w2 W.heap.size u3 acc := own_below hown hb2
        unfold OwnL at hown3
        have hbs := hb3.size
        go_wp2_with (at_builtin; refine wpList_append_own _ rfl _ _ 28 rfl W.heap.size 33 i0 _ 4 40 Try.underlying28 hi hz0 hz1 hz2 rfl (by decide) u3 acc.length (acc.flatMap Ln.cells) rfl (hown3.alloc _) ⟨w2.heap.size, 0, none⟩ 1 1 (Ln.mk k1 k2 tx op).cells rfl rfl ?c1 ?c2 ?c3 ?c4 ?c5 ?_)
        case c1 => exact news_new _ [_, _, _, _] _ _ rfl
        case c2 => intro u hu; simp [Ln.cells] at hu; rcases hu with rfl | rfl | rfl | rfl <;> rfl
        case c3 => unfold maxLen; omega
        case c4 => omega
        case c5 => simp; omega
        intro v' w4 hown4 hgrow _
        go_wp2_with fail
        have hb4 : Below W.heap.size W w4 := (hb3.alloc (by omega) _).grown hgrow (by simp; omega) (fun k hk => (hown3.lt k hk).1)
        go_roundw
        case rel => exact ⟨acc ++ [⟨k1, k2, tx, op⟩], k + 1, k + 1, by go_num, by go_num, by omega, by omega, by simp; omega, by simpa [OwnL] using hown4, hb4, by rw [Hid, H.out, hst.out, if_pos (by rw [hby.out]; exact G.out)]; simp⟩
        case measure => simp [intOf]; omega
      · have e10' : ((s[k].toNat : Int) == 10) = false := e10.trans (by simpa using h10)
        have G := Lib.hid h10
        clear e10 h10
        go_wp2_with fail
        go_roundw
        case rel => exact ⟨acc, p, k + 1, rfl, by go_num, by omega, by omega, by omega, hown, hb, by rw [Hid, H.out, hst.out, if_neg (by rw [hby.out]; exact G.out)]⟩
        case measure => simp [intOf]; omega
    · obtain rfl : s.size = k := by omega
      by_cases hp : p < s.size
      · have hend := Lib.hid (linesAt_end s.data.toList p (by rw [← Lib.size_eq]; omega))
        have hlo := lineL_open (s.data.toList.drop p)
        have HP := Lib.hid hp
        go_wp2_with fail
        refine (refline_any _ _ (by rw [ByteArray.size_extract]; omega)).mono ?_
        rintro e w2 ⟨rfl, hb2⟩
        rw [Lib.extract_data, List.take_of_length_le (by rw [List.length_drop, Lib.size_eq]; exact Nat.le_refl _)]
        generalize lineL (s.data.toList.drop p) = L at hend hlo
        obtain ⟨k1, k2, tx, op⟩ := L
        simp only at hlo
        subst hlo
        rw [show (Ln.mk k1 k2 tx false).cells.toArray = #[.int .i64 k1, .int .i64 k2, .string ⟨tx.toArray⟩, .bool false] from rfl]
        have hb3 := below_trans hb hb2
        have hown3 : OwnL w2 W.heap.size u3 acc := own_below hown hb2
        unfold OwnL at hown3
        have hbs := hb3.size
        go_wp2_with (at_builtin; refine wpList_append_own _ rfl _ _ 28 rfl W.heap.size 33 i0 _ 4 40 Try.underlying28 hi hz0 hz1 hz2 rfl (by decide) u3 acc.length (acc.flatMap Ln.cells) rfl ((hown3.alloc _).alloc _) ⟨w2.heap.size + 1, 0, none⟩ 1 1 (Ln.mk k1 k2 tx true).cells rfl rfl ?c1 ?c2 ?c3 ?c4 ?c5 ?_)
        case c1 => exact news_new _ [_, _, _, _] _ _ (by simp)
        case c2 => intro u hu; simp [Ln.cells] at hu; rcases hu with rfl | rfl | rfl | rfl <;> rfl
        case c3 => unfold maxLen; omega
        case c4 => omega
        case c5 => simp; omega
        intro v' w4 hown4 hgrow _
        go_wp2_with fail
        have hb4 : Below W.heap.size W w4 := ((hb3.alloc (by omega) _).alloc (by simp; omega) _).grown hgrow (by simp; omega) (fun k hk => (hown3.lt k hk).1)
        go_ret
        refine ⟨_, rfl, ?_, hb4⟩
        rw [H.out, hsz.out, hend.out, if_pos (by rw [← Lib.size_eq]; exact HP.out)]
        simpa [OwnL, opened] using hown4
      · go_wp2_with fail
        go_ret
        refine ⟨_, rfl, ?_, hb⟩
        rw [H.out, hsz.out, linesAt_end _ _ (by rw [← Lib.size_eq]; omega), if_neg (by rw [← Lib.size_eq]; exact hp), List.append_nil]
        exact hown
end Go.Proofs.Ytkogfljjdgcdnaa
