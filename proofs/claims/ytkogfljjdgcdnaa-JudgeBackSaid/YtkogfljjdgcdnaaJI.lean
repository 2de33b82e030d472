/-
  Walks: the reference's Upto, and Allowed of both.
-/
import Derived.Test.YtkogfljjdgcdnaaJH
namespace Go.Proofs.Ytkogfljjdgcdnaa
open Go.RowKit

theorem refupto_any (s : ByteArray) (w : World) (hs : s.size ≤ 32768) :
    Calls Try.prog 9 #[.string s] w fun e w' => e = .returned (.string (uptoB s)) ∧ w' = w := by
  obtain ⟨W, rfl⟩ : ∃ W : World, W = w := ⟨w, rfl⟩
  have HU : Hid (uptoB s = uptoB s) := rfl
  conv at HU => { arg 1; rhs; unfold uptoB }
  generalize uptoB s = u at HU
  obtain ⟨h0, h1⟩ := full_le s.data.toList
  rw [← Lib.size_eq] at h0
  have hc : ∀ w, Calls Try.prog 18 #[.string s] w fun e w' => e = .returned (.int .i64 (fullL s.data.toList)) ∧ w' = w := fun w => memory_any s w hs
  generalize fullL s.data.toList = j at h0 h1 HU hc
  have HC := Lib.hid hc
  clear hc
  go_enter Try.func9, Try.ntmps9
  go_wp2_with fail
  refine (HC.out _).mono ?_
  rintro e w' ⟨rfl, rfl⟩
  by_cases hj : 0 ≤ j
  · have hm : max (j - 1) 0 ≤ s.size := by omega
    have hm0 : 0 ≤ max (j - 1) 0 := by omega
    have HJ := Lib.hid hj
    go_wp2_with fail
    refine (HC.out _).mono ?_
    rintro e w' ⟨rfl, rfl⟩
    go_wp2_with fail
    go_ret
    exact ⟨by rw [HU.out, if_pos (by have := HJ.out; omega)]; rfl, rfl⟩
  · have HJ := Lib.hid hj
    go_wp2_with fail
    go_ret
    exact ⟨by rw [HU.out, if_neg (by have := HJ.out; omega)]; rfl, rfl⟩

/-- May a log be, where another one is wanted? -/
def allowedB (a b : ByteArray) (ended : Bool) : Int :=
  if (a.toList == b.toList) = true then 1 else if ended = true ∧ fullL a.data.toList < 0 then 0 else if Lib.hasPrefix b.data.toList (uptoB a).data.toList = true then 2 else 0

theorem allowed_any (a b : ByteArray) (ended : Bool) (w : World) (ha : a.size ≤ 32768) (hsh : w.ShapedOpen Try.prog) :
    Calls Try.prog 10 #[.string a, .string b, .bool ended] w fun e w' => e = .returned (.int .i64 (allowedB a b ended)) ∧ w' = w := by
  obtain ⟨W, rfl⟩ : ∃ W : World, W = w := ⟨w, rfl⟩
  have HU : Hid (allowedB a b ended = allowedB a b ended) := rfl
  conv at HU => { arg 1; rhs; unfold allowedB }
  generalize allowedB a b ended = u at HU
  have hcf := Lib.hid (full_any a W ha hsh)
  have hcu := Lib.hid (upto_any a W ha hsh)
  generalize fullL a.data.toList = j at HU hcf
  generalize uptoB a = x at HU hcu
  cases he : (a.toList == b.toList)
  · rw [he] at HU
    cases ended
    · go_enter Try.func10, Try.ntmps10
      go_wp2_with fail
      refine hcu.out.mono ?_
      rintro e w' ⟨rfl, rfl⟩
      go_wp2_with fail
      refine (Try.strings_HasPrefix _ _ _).mono ?_
      rintro e w' ⟨rfl, rfl⟩
      generalize Lib.hasPrefix b.data.toList x.data.toList = p at HU
      cases p
      all_goals
        go_wp2_with fail
        go_ret
        exact ⟨by rw [HU.out]; rfl, rfl⟩
    · by_cases hj : j < 0
      · have HJ := Lib.hid hj
        go_enter Try.func10, Try.ntmps10
        go_wp2_with fail
        refine hcf.out.mono ?_
        rintro e w' ⟨rfl, rfl⟩
        go_wp2_with fail
        go_ret
        exact ⟨by rw [HU.out, if_neg (by decide), if_pos (by have := HJ.out; simp; omega)]; rfl, rfl⟩
      · have HJ := Lib.hid hj
        go_enter Try.func10, Try.ntmps10
        go_wp2_with fail
        refine hcf.out.mono ?_
        rintro e w' ⟨rfl, rfl⟩
        go_wp2_with fail
        refine hcu.out.mono ?_
        rintro e w' ⟨rfl, rfl⟩
        go_wp2_with fail
        refine (Try.strings_HasPrefix _ _ _).mono ?_
        rintro e w' ⟨rfl, rfl⟩
        generalize Lib.hasPrefix b.data.toList x.data.toList = p at HU
        cases p
        all_goals
          go_wp2_with fail
          go_ret
          exact ⟨by rw [HU.out, if_neg (by decide), if_neg (by have := HJ.out; omega)]; rfl, rfl⟩
  · rw [he] at HU
    go_enter Try.func10, Try.ntmps10
    go_wp2_with fail
    go_ret
    exact ⟨by rw [HU.out]; rfl, rfl⟩

theorem refallowed_any (a b : ByteArray) (ended : Bool) (w : World) (ha : a.size ≤ 32768) :
    Calls Try.prog 11 #[.string a, .string b, .bool ended] w fun e w' => e = .returned (.int .i64 (allowedB a b ended)) ∧ w' = w := by
  obtain ⟨W, rfl⟩ : ∃ W : World, W = w := ⟨w, rfl⟩
  have HU : Hid (allowedB a b ended = allowedB a b ended) := rfl
  conv at HU => { arg 1; rhs; unfold allowedB }
  generalize allowedB a b ended = u at HU
  have hcf := Lib.hid (memory_any a W ha)
  have hcu := Lib.hid (refupto_any a W ha)
  generalize fullL a.data.toList = j at HU hcf
  generalize uptoB a = x at HU hcu
  cases he : (a.toList == b.toList)
  · rw [he] at HU
    by_cases hj : j < 0
    · have HJ := Lib.hid hj
      cases ended
      · go_enter Try.func11, Try.ntmps11
        go_wp2_with fail
        refine hcf.out.mono ?_
        rintro e w' ⟨rfl, rfl⟩
        go_wp2_with fail
        refine hcu.out.mono ?_
        rintro e w' ⟨rfl, rfl⟩
        go_wp2_with fail
        refine (begins_any _ _ _).mono ?_
        rintro e w' ⟨rfl, rfl⟩
        generalize Lib.hasPrefix b.data.toList x.data.toList = p at HU
        cases p
        all_goals
          go_wp2_with fail
          go_ret
          exact ⟨by rw [HU.out]; rfl, rfl⟩
      · go_enter Try.func11, Try.ntmps11
        go_wp2_with fail
        refine hcf.out.mono ?_
        rintro e w' ⟨rfl, rfl⟩
        go_wp2_with fail
        go_ret
        exact ⟨by rw [HU.out, if_neg (by decide), if_pos (by have := HJ.out; simp; omega)]; rfl, rfl⟩
    · have HJ := Lib.hid hj
      go_enter Try.func11, Try.ntmps11
      go_wp2_with fail
      refine hcf.out.mono ?_
      rintro e w' ⟨rfl, rfl⟩
      go_wp2_with fail
      refine hcu.out.mono ?_
      rintro e w' ⟨rfl, rfl⟩
      go_wp2_with fail
      refine (begins_any _ _ _).mono ?_
      rintro e w' ⟨rfl, rfl⟩
      generalize Lib.hasPrefix b.data.toList x.data.toList = p at HU
      cases p
      all_goals
        go_wp2_with fail
        go_ret
        exact ⟨by rw [HU.out, if_neg (by decide), if_neg (by have := HJ.out; omega)]; rfl, rfl⟩
  · rw [he] at HU
    go_enter Try.func11, Try.ntmps11
    go_wp2_with fail
    go_ret
    exact ⟨by rw [HU.out]; rfl, rfl⟩
end Go.Proofs.Ytkogfljjdgcdnaa
