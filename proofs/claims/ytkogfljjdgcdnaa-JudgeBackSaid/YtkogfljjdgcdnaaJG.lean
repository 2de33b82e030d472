/-
  Walks: where the first memory line begins, by both.
-/
import Derived.Test.YtkogfljjdgcdnaaJF
namespace Go.Proofs.Ytkogfljjdgcdnaa
open Go.RowKit

def memL : List UInt8 := [101, 114, 114, 111, 114, 32, 109, 101, 109, 111, 114, 121, 58, 32, 99, 101, 108, 108, 115]

def fullL (s : List UInt8) : Int :=
  if Lib.hasPrefix s (memL ++ [10]) = true then 0 else if Lib.index s (10 :: (memL ++ [10])) ≥ 0 then Lib.index s (10 :: (memL ++ [10])) + 1 else -1

theorem index_le : ∀ (s sub : List UInt8), Lib.index s sub ≤ s.length
  | [], sub => by rw [Lib.index]; split <;> simp
  | c :: s, sub => by
    have := index_le s sub
    rw [Lib.index]
    split
    · omega
    · split
      · simp; omega
      · simp; omega

theorem full_le (s : List UInt8) : fullL s ≤ s.length + 1 ∧ -1 ≤ fullL s := by
  have := index_le s (10 :: (memL ++ [10]))
  unfold fullL
  split
  · omega
  · split <;> omega

/-- What is cut off where no cell was free. -/
def uptoB (s : ByteArray) : ByteArray := if fullL s.data.toList ≥ 0 then s.extract 0 (max (fullL s.data.toList - 1) 0).toNat else s

theorem full_any (s : ByteArray) (w : World) (hs : s.size ≤ 32768) (hsh : w.ShapedOpen Try.prog) :
    Calls Try.prog 17 #[.string s] w fun e w' => e = .returned (.int .i64 (fullL s.data.toList)) ∧ w' = w := by
  obtain ⟨W, rfl⟩ : ∃ W : World, W = w := ⟨w, rfl⟩
  have HF : Hid (fullL s.data.toList = fullL s.data.toList) := rfl
  conv at HF => { arg 1; rhs; unfold fullL }
  generalize hx : fullL s.data.toList = x at HF
  clear hx
  have hge := Lib.index_ge s.data.toList (10 :: (memL ++ [10]))
  have hle : Lib.index s.data.toList (10 :: (memL ++ [10])) ≤ s.size := index_le _ _
  go_enter Try.func17, Try.ntmps17
  go_wp2_with fail
  refine (Try.strings_HasPrefix _ _ _).mono ?_
  rintro e w' ⟨rfl, rfl⟩
  have e1 : (ByteArray.mk #[101, 114, 114, 111, 114, 32, 109, 101, 109, 111, 114, 121, 58, 32, 99, 101, 108, 108, 115, 10]).data.toList = memL ++ [10] := rfl
  rw [e1]
  clear e1
  generalize Lib.hasPrefix s.data.toList (memL ++ [10]) = b at HF
  cases b
  · go_wp2_with fail
    refine (Try.strings_Index_shaped _ _ _ hsh (by omega)).mono ?_
    rintro e w' ⟨rfl, rfl⟩
    have e1 : (ByteArray.mk #[10, 101, 114, 114, 111, 114, 32, 109, 101, 109, 111, 114, 121, 58, 32, 99, 101, 108, 108, 115, 10]).data.toList = 10 :: (memL ++ [10]) := rfl
    rw [e1]
    clear e1
    generalize Lib.index s.data.toList (10 :: (memL ++ [10])) = j at HF hge hle
    by_cases hj : 0 ≤ j
    · have HJ := Lib.hid hj
      go_wp2_with fail
      go_ret
      exact ⟨by rw [HF.out, if_neg (by decide), if_pos (by have := HJ.out; omega)]; rfl, rfl⟩
    · have HJ := Lib.hid hj
      go_wp2_with fail
      go_ret
      exact ⟨by rw [HF.out, if_neg (by decide), if_neg (by have := HJ.out; omega)]; rfl, rfl⟩
  · go_wp2_with fail
    go_ret
    exact ⟨by rw [HF.out]; rfl, rfl⟩

theorem upto_any (s : ByteArray) (w : World) (hs : s.size ≤ 32768) (hsh : w.ShapedOpen Try.prog) :
    Calls Try.prog 8 #[.string s] w fun e w' => e = .returned (.string (uptoB s)) ∧ w' = w := by
  obtain ⟨W, rfl⟩ : ∃ W : World, W = w := ⟨w, rfl⟩
  have HU : Hid (uptoB s = uptoB s) := rfl
  conv at HU => { arg 1; rhs; unfold uptoB }
  generalize uptoB s = u at HU
  obtain ⟨h0, h1⟩ := full_le s.data.toList
  rw [← Lib.size_eq] at h0
  go_enter Try.func8, Try.ntmps8
  go_wp2_with fail
  refine (full_any _ _ hs hsh).mono ?_
  rintro e w' ⟨rfl, rfl⟩
  generalize fullL s.data.toList = j at h0 h1 HU
  by_cases hj : 0 ≤ j
  · have hm : max (j - 1) 0 ≤ s.size := by omega
    have hm0 : 0 ≤ max (j - 1) 0 := by omega
    have HJ := Lib.hid hj
    go_wp2_with fail
    go_ret
    exact ⟨by rw [HU.out, if_pos (by have := HJ.out; omega)]; rfl, rfl⟩
  · have HJ := Lib.hid hj
    go_wp2_with fail
    go_ret
    exact ⟨by rw [HU.out, if_neg (by have := HJ.out; omega)]; rfl, rfl⟩
end Go.Proofs.Ytkogfljjdgcdnaa
