/-
  The law of names.
-/
import Derived.Test.YtneokkhnjnomdaaDoorPrI
import Derived.Test.YtneokkhnjnomdaaDoorPrL
import Derived.Test.YtneokkhnjnomdaaDoorPrM
import Derived.Test.YtneokkhnjnomdaaDoorPrN
namespace Go.Proofs.YtneokkhnjnomdaaDoor
open Go.RowKit Go.Proofs.YtneokkhnjnomdaaDoorW.PrintWords Go.ChangeShapes Go.WideShapes Go.ChangeAt

/-- How many a procedure takes: at least, at most. -/
def bothL (k : Int) : Int × Int := if k = -1 then (0, 28) else if k = -2 then (0, -1) else (k, k)

set_option maxRecDepth 100000 in
set_option maxHeartbeats 4000000 in
theorem arity_none (n : Int) (hn : ¬ (1 ≤ n ∧ n ≤ 54)) (w : World) (h : SpT w) : Calls Tryd.prog 6 #[.int .i64 n] w (Giv (.tuple #[.int .i64 0, .int .i64 (-1)]) w) := by
  have HN := Lib.hid (show nameS (nameN n) = ⟨#[]⟩ by rw [name_lt n hn]; rfl)
  clear hn
  go_enter Tryd.func6, Tryd.ntmps6
  go_wp2_with fail
  refine (name_of n _ h).mono ?_
  rintro e w2 ⟨rfl, hb⟩
  have HB := Lib.hid hb
  clear hb
  rw [HN.out]
  go_wp2_with fail
  go_ret2
  exact ⟨rfl, HB.out⟩

theorem n54 {n : Int} (h : 1 ≤ n ∧ n ≤ 54) : n = 1 ∨ n = 2 ∨ n = 3 ∨ n = 4 ∨ n = 5 ∨ n = 6 ∨ n = 7 ∨ n = 8 ∨ n = 9 ∨ n = 10 ∨ n = 11 ∨ n = 12 ∨ n = 13 ∨ n = 14 ∨ n = 15 ∨ n = 16 ∨ n = 17 ∨ n = 18 ∨ n = 19 ∨ n = 20 ∨ n = 21 ∨ n = 22 ∨ n = 23 ∨ n = 24 ∨ n = 25 ∨ n = 26 ∨ n = 27 ∨ n = 28 ∨ n = 29 ∨ n = 30 ∨ n = 31 ∨ n = 32 ∨ n = 33 ∨ n = 34 ∨ n = 35 ∨ n = 36 ∨ n = 37 ∨ n = 38 ∨ n = 39 ∨ n = 40 ∨ n = 41 ∨ n = 42 ∨ n = 43 ∨ n = 44 ∨ n = 45 ∨ n = 46 ∨ n = 47 ∨ n = 48 ∨ n = 49 ∨ n = 50 ∨ n = 51 ∨ n = 52 ∨ n = 53 ∨ n = 54 := by omega
theorem arity_any (n : Int) (w : World) (h : SpT w) : Calls Tryd.prog 6 #[.int .i64 n] w (Giv (.tuple #[.int .i64 (bothL (takesL (nameN n))).1, .int .i64 (bothL (takesL (nameN n))).2]) w) := by
  by_cases hn : 1 ≤ n ∧ n ≤ 54
  · rcases n54 hn with rfl | rfl | rfl | rfl | rfl | rfl | rfl | rfl | rfl | rfl | rfl | rfl | rfl | rfl | rfl | rfl | rfl | rfl | rfl | rfl | rfl | rfl | rfl | rfl | rfl | rfl | rfl | rfl | rfl | rfl | rfl | rfl | rfl | rfl | rfl | rfl | rfl | rfl | rfl | rfl | rfl | rfl | rfl | rfl | rfl | rfl | rfl | rfl | rfl | rfl | rfl | rfl | rfl | rfl
    · rw [show bothL (takesL (nameN 1)) = (2, 2) by kernel_rfl]; exact arityN_1 w h
    · rw [show bothL (takesL (nameN 2)) = (2, 2) by kernel_rfl]; exact arityN_2 w h
    · rw [show bothL (takesL (nameN 3)) = (2, 2) by kernel_rfl]; exact arityN_3 w h
    · rw [show bothL (takesL (nameN 4)) = (2, 2) by kernel_rfl]; exact arityN_4 w h
    · rw [show bothL (takesL (nameN 5)) = (2, 2) by kernel_rfl]; exact arityN_5 w h
    · rw [show bothL (takesL (nameN 6)) = (2, 2) by kernel_rfl]; exact arityN_6 w h
    · rw [show bothL (takesL (nameN 7)) = (2, 2) by kernel_rfl]; exact arityN_7 w h
    · rw [show bothL (takesL (nameN 8)) = (2, 2) by kernel_rfl]; exact arityN_8 w h
    · rw [show bothL (takesL (nameN 9)) = (2, 2) by kernel_rfl]; exact arityN_9 w h
    · rw [show bothL (takesL (nameN 10)) = (1, 1) by kernel_rfl]; exact arityN_10 w h
    · rw [show bothL (takesL (nameN 11)) = (1, 1) by kernel_rfl]; exact arityN_11 w h
    · rw [show bothL (takesL (nameN 12)) = (2, 2) by kernel_rfl]; exact arityN_12 w h
    · rw [show bothL (takesL (nameN 13)) = (2, 2) by kernel_rfl]; exact arityN_13 w h
    · rw [show bothL (takesL (nameN 14)) = (1, 1) by kernel_rfl]; exact arityN_14 w h
    · rw [show bothL (takesL (nameN 15)) = (1, 1) by kernel_rfl]; exact arityN_15 w h
    · rw [show bothL (takesL (nameN 16)) = (1, 1) by kernel_rfl]; exact arityN_16 w h
    · rw [show bothL (takesL (nameN 17)) = (1, 1) by kernel_rfl]; exact arityN_17 w h
    · rw [show bothL (takesL (nameN 18)) = (1, 1) by kernel_rfl]; exact arityN_18 w h
    · rw [show bothL (takesL (nameN 19)) = (1, 1) by kernel_rfl]; exact arityN_19 w h
    · rw [show bothL (takesL (nameN 20)) = (1, 1) by kernel_rfl]; exact arityN_20 w h
    · rw [show bothL (takesL (nameN 21)) = (1, 1) by kernel_rfl]; exact arityN_21 w h
    · rw [show bothL (takesL (nameN 22)) = (1, 1) by kernel_rfl]; exact arityN_22 w h
    · rw [show bothL (takesL (nameN 23)) = (2, 2) by kernel_rfl]; exact arityN_23 w h
    · rw [show bothL (takesL (nameN 24)) = (2, 2) by kernel_rfl]; exact arityN_24 w h
    · rw [show bothL (takesL (nameN 25)) = (2, 2) by kernel_rfl]; exact arityN_25 w h
    · rw [show bothL (takesL (nameN 26)) = (1, 1) by kernel_rfl]; exact arityN_26 w h
    · rw [show bothL (takesL (nameN 27)) = (2, 2) by kernel_rfl]; exact arityN_27 w h
    · rw [show bothL (takesL (nameN 28)) = (3, 3) by kernel_rfl]; exact arityN_28 w h
    · rw [show bothL (takesL (nameN 29)) = (1, 1) by kernel_rfl]; exact arityN_29 w h
    · rw [show bothL (takesL (nameN 30)) = (2, 2) by kernel_rfl]; exact arityN_30 w h
    · rw [show bothL (takesL (nameN 31)) = (2, 2) by kernel_rfl]; exact arityN_31 w h
    · rw [show bothL (takesL (nameN 32)) = (2, 2) by kernel_rfl]; exact arityN_32 w h
    · rw [show bothL (takesL (nameN 33)) = (3, 3) by kernel_rfl]; exact arityN_33 w h
    · rw [show bothL (takesL (nameN 34)) = (1, 1) by kernel_rfl]; exact arityN_34 w h
    · rw [show bothL (takesL (nameN 35)) = (1, 1) by kernel_rfl]; exact arityN_35 w h
    · rw [show bothL (takesL (nameN 36)) = (1, 1) by kernel_rfl]; exact arityN_36 w h
    · rw [show bothL (takesL (nameN 37)) = (1, 1) by kernel_rfl]; exact arityN_37 w h
    · rw [show bothL (takesL (nameN 38)) = (1, 1) by kernel_rfl]; exact arityN_38 w h
    · rw [show bothL (takesL (nameN 39)) = (1, 1) by kernel_rfl]; exact arityN_39 w h
    · rw [show bothL (takesL (nameN 40)) = (1, 1) by kernel_rfl]; exact arityN_40 w h
    · rw [show bothL (takesL (nameN 41)) = (1, 1) by kernel_rfl]; exact arityN_41 w h
    · rw [show bothL (takesL (nameN 42)) = (0, 0) by kernel_rfl]; exact arityN_42 w h
    · rw [show bothL (takesL (nameN 43)) = (2, 2) by kernel_rfl]; exact arityN_43 w h
    · rw [show bothL (takesL (nameN 44)) = (1, 1) by kernel_rfl]; exact arityN_44 w h
    · rw [show bothL (takesL (nameN 45)) = (2, 2) by kernel_rfl]; exact arityN_45 w h
    · rw [show bothL (takesL (nameN 46)) = (1, 1) by kernel_rfl]; exact arityN_46 w h
    · rw [show bothL (takesL (nameN 47)) = (3, 3) by kernel_rfl]; exact arityN_47 w h
    · rw [show bothL (takesL (nameN 48)) = (0, 28) by kernel_rfl]; exact arityN_48 w h
    · rw [show bothL (takesL (nameN 49)) = (2, 2) by kernel_rfl]; exact arityN_49 w h
    · rw [show bothL (takesL (nameN 50)) = (2, 2) by kernel_rfl]; exact arityN_50 w h
    · rw [show bothL (takesL (nameN 51)) = (1, 1) by kernel_rfl]; exact arityN_51 w h
    · rw [show bothL (takesL (nameN 52)) = (1, 1) by kernel_rfl]; exact arityN_52 w h
    · rw [show bothL (takesL (nameN 53)) = (1, 1) by kernel_rfl]; exact arityN_53 w h
    · rw [show bothL (takesL (nameN 54)) = (1, 1) by kernel_rfl]; exact arityN_54 w h
  · rw [name_lt n hn]
    exact arity_none n hn w h

theorem find_back (n : Int) (hn : 1 ≤ n ∧ n ≤ 54) : findN (nameS (nameN n)) = n := by
  rcases n54 hn with rfl | rfl | rfl | rfl | rfl | rfl | rfl | rfl | rfl | rfl | rfl | rfl | rfl | rfl | rfl | rfl | rfl | rfl | rfl | rfl | rfl | rfl | rfl | rfl | rfl | rfl | rfl | rfl | rfl | rfl | rfl | rfl | rfl | rfl | rfl | rfl | rfl | rfl | rfl | rfl | rfl | rfl | rfl | rfl | rfl | rfl | rfl | rfl | rfl | rfl | rfl | rfl | rfl | rfl
  · kernel_rfl
  · kernel_rfl
  · kernel_rfl
  · kernel_rfl
  · kernel_rfl
  · kernel_rfl
  · kernel_rfl
  · kernel_rfl
  · kernel_rfl
  · kernel_rfl
  · kernel_rfl
  · kernel_rfl
  · kernel_rfl
  · kernel_rfl
  · kernel_rfl
  · kernel_rfl
  · kernel_rfl
  · kernel_rfl
  · kernel_rfl
  · kernel_rfl
  · kernel_rfl
  · kernel_rfl
  · kernel_rfl
  · kernel_rfl
  · kernel_rfl
  · kernel_rfl
  · kernel_rfl
  · kernel_rfl
  · kernel_rfl
  · kernel_rfl
  · kernel_rfl
  · kernel_rfl
  · kernel_rfl
  · kernel_rfl
  · kernel_rfl
  · kernel_rfl
  · kernel_rfl
  · kernel_rfl
  · kernel_rfl
  · kernel_rfl
  · kernel_rfl
  · kernel_rfl
  · kernel_rfl
  · kernel_rfl
  · kernel_rfl
  · kernel_rfl
  · kernel_rfl
  · kernel_rfl
  · kernel_rfl
  · kernel_rfl
  · kernel_rfl
  · kernel_rfl
  · kernel_rfl
  · kernel_rfl

theorem name_ne (n : Int) (hn : 1 ≤ n ∧ n ≤ 54) : nameN n ≠ [] := by
  rcases n54 hn with rfl | rfl | rfl | rfl | rfl | rfl | rfl | rfl | rfl | rfl | rfl | rfl | rfl | rfl | rfl | rfl | rfl | rfl | rfl | rfl | rfl | rfl | rfl | rfl | rfl | rfl | rfl | rfl | rfl | rfl | rfl | rfl | rfl | rfl | rfl | rfl | rfl | rfl | rfl | rfl | rfl | rfl | rfl | rfl | rfl | rfl | rfl | rfl | rfl | rfl | rfl | rfl | rfl | rfl
  · decide
  · decide
  · decide
  · decide
  · decide
  · decide
  · decide
  · decide
  · decide
  · decide
  · decide
  · decide
  · decide
  · decide
  · decide
  · decide
  · decide
  · decide
  · decide
  · decide
  · decide
  · decide
  · decide
  · decide
  · decide
  · decide
  · decide
  · decide
  · decide
  · decide
  · decide
  · decide
  · decide
  · decide
  · decide
  · decide
  · decide
  · decide
  · decide
  · decide
  · decide
  · decide
  · decide
  · decide
  · decide
  · decide
  · decide
  · decide
  · decide
  · decide
  · decide
  · decide
  · decide
  · decide

set_option maxRecDepth 100000 in
set_option maxHeartbeats 4000000 in
theorem names_any (n : Int) (s : ByteArray) (w : World) (h : Laid18 w) : Calls Tryd.prog 3 #[.int .i64 n, .string s] w (Giv (.bool true) w) := by
  have HL := Lib.hid h
  have HB0 := Lib.hid (Below.refl w.heap.size w)
  have cAr := Lib.hid (fun w h => arity_any n w h)
  have cTk := Lib.hid (fun w => takes_of n w)
  obtain ⟨k, hk⟩ : ∃ k, takesL (nameN n) = k := ⟨_, rfl⟩
  rw [hk] at cAr cTk
  clear hk
  have cNm := Lib.hid (fun w h => name_of n w h)
  have cRn := Lib.hid (fun w => refname_of n w)
  obtain ⟨x, hx⟩ : ∃ x, nameS (nameN n) = x := ⟨_, rfl⟩
  rw [hx] at cNm cRn
  have cFd := Lib.hid (fun w h => find_of s w h)
  have cRf := Lib.hid (fun w => reffind_of s w)
  obtain ⟨fs, hfs⟩ : ∃ fs, findN s = fs := ⟨_, rfl⟩
  rw [hfs] at cFd cRf
  clear hfs
  have cPu := Lib.hid (fun w => pure_of n w)
  have cRp := Lib.hid (fun w => refpure_of n w)
  generalize pureB n = pu at cPu cRp
  clear h
  by_cases hn : 1 ≤ n ∧ n ≤ 54
  · have cFb := Lib.hid (fun w h => find_of x w h)
    rw [show findN x = n by rw [← hx]; exact find_back n hn] at cFb
    have x0 : ¬ x.toList = [] := by rw [← hx, ByteArray.toList_eq]; exact name_ne n hn
    have x1 : (x.toList == []) = false := by simpa using x0
    clear hx hn
    by_cases k1 : k = -1
    · subst k1
      rw [show bothL (-1) = (0, 28) from rfl] at cAr
      go_enter Tryd.func3, Tryd.ntmps3
      go_wp2_with fail
      refine (cAr.out _ HL.out.spt).mono ?_
      rintro e1 w1 ⟨rfl, hb1⟩
      have HB1 := Lib.hid (below_step HB0.out hb1)
      clear hb1
      go_wp2_with fail
      refine (cTk.out _).mono ?_
      rintro e2 w2 ⟨rfl, hb2⟩
      have HB2 := Lib.hid (below_step HB1.out hb2)
      clear hb2
      go_wp2_with fail
      refine (awake_18 _ (HL.out.later HB2.out)).mono ?_
      rintro e3 w3 ⟨rfl, hb3⟩
      have HB3 := Lib.hid (below_step HB2.out hb3)
      clear hb3
      go_wp2_with fail
      refine (cFd.out _ (HL.out.later HB3.out).spt).mono ?_
      rintro e4 w4 ⟨rfl, hb4⟩
      have HB4 := Lib.hid (below_step HB3.out hb4)
      clear hb4
      go_wp2_with fail
      refine (cRf.out _).mono ?_
      rintro e5 w5 ⟨rfl, hb5⟩
      have HB5 := Lib.hid (below_step HB4.out hb5)
      clear hb5
      go_wp2_with fail
      refine (cNm.out _ (HL.out.later HB5.out).spt).mono ?_
      rintro e6 w6 ⟨rfl, hb6⟩
      have HB6 := Lib.hid (below_step HB5.out hb6)
      clear hb6
      go_wp2_with fail
      refine (cRn.out _).mono ?_
      rintro e7 w7 ⟨rfl, hb7⟩
      have HB7 := Lib.hid (below_step HB6.out hb7)
      clear hb7
      go_wp2_with fail
      refine (cPu.out _).mono ?_
      rintro e8 w8 ⟨rfl, rfl⟩
      go_wp2_with fail
      refine (cRp.out _).mono ?_
      rintro e9 w9 ⟨rfl, rfl⟩
      go_wp2_with fail
      refine (cNm.out _ (HL.out.later HB7.out).spt).mono ?_
      rintro e10 w10 ⟨rfl, hb10⟩
      have HB10 := Lib.hid (below_step HB7.out hb10)
      clear hb10
      go_wp2_with fail
      refine (cNm.out _ (HL.out.later HB10.out).spt).mono ?_
      rintro e11 w11 ⟨rfl, hb11⟩
      have HB11 := Lib.hid (below_step HB10.out hb11)
      clear hb11
      go_wp2_with fail
      refine (cFb.out _ (HL.out.later HB11.out).spt).mono ?_
      rintro e12 w12 ⟨rfl, hb12⟩
      have HB12 := Lib.hid (below_step HB11.out hb12)
      clear hb12
      go_wp2_with fail
      go_ret
      exact ⟨rfl, HB12.out⟩
    have kb1 : (k == -1) = false := beq_eq_false_iff_ne.2 k1
    by_cases k2 : k = -2
    · subst k2
      rw [show bothL (-2) = (0, -1) from rfl] at cAr
      go_enter Tryd.func3, Tryd.ntmps3
      go_wp2_with fail
      refine (cAr.out _ HL.out.spt).mono ?_
      rintro e1 w1 ⟨rfl, hb1⟩
      have HB1 := Lib.hid (below_step HB0.out hb1)
      clear hb1
      go_wp2_with fail
      refine (cTk.out _).mono ?_
      rintro e2 w2 ⟨rfl, hb2⟩
      have HB2 := Lib.hid (below_step HB1.out hb2)
      clear hb2
      go_wp2_with fail
      refine (awake_18 _ (HL.out.later HB2.out)).mono ?_
      rintro e3 w3 ⟨rfl, hb3⟩
      have HB3 := Lib.hid (below_step HB2.out hb3)
      clear hb3
      go_wp2_with fail
      refine (cFd.out _ (HL.out.later HB3.out).spt).mono ?_
      rintro e4 w4 ⟨rfl, hb4⟩
      have HB4 := Lib.hid (below_step HB3.out hb4)
      clear hb4
      go_wp2_with fail
      refine (cRf.out _).mono ?_
      rintro e5 w5 ⟨rfl, hb5⟩
      have HB5 := Lib.hid (below_step HB4.out hb5)
      clear hb5
      go_wp2_with fail
      refine (cNm.out _ (HL.out.later HB5.out).spt).mono ?_
      rintro e6 w6 ⟨rfl, hb6⟩
      have HB6 := Lib.hid (below_step HB5.out hb6)
      clear hb6
      go_wp2_with fail
      refine (cRn.out _).mono ?_
      rintro e7 w7 ⟨rfl, hb7⟩
      have HB7 := Lib.hid (below_step HB6.out hb7)
      clear hb7
      go_wp2_with fail
      refine (cPu.out _).mono ?_
      rintro e8 w8 ⟨rfl, rfl⟩
      go_wp2_with fail
      refine (cRp.out _).mono ?_
      rintro e9 w9 ⟨rfl, rfl⟩
      go_wp2_with fail
      refine (cNm.out _ (HL.out.later HB7.out).spt).mono ?_
      rintro e10 w10 ⟨rfl, hb10⟩
      have HB10 := Lib.hid (below_step HB7.out hb10)
      clear hb10
      go_wp2_with fail
      refine (cNm.out _ (HL.out.later HB10.out).spt).mono ?_
      rintro e11 w11 ⟨rfl, hb11⟩
      have HB11 := Lib.hid (below_step HB10.out hb11)
      clear hb11
      go_wp2_with fail
      refine (cFb.out _ (HL.out.later HB11.out).spt).mono ?_
      rintro e12 w12 ⟨rfl, hb12⟩
      have HB12 := Lib.hid (below_step HB11.out hb12)
      clear hb12
      go_wp2_with fail
      go_ret
      exact ⟨rfl, HB12.out⟩
    have kb2 : (k == -2) = false := beq_eq_false_iff_ne.2 k2
    rw [show bothL k = (k, k) by unfold bothL; rw [if_neg k1, if_neg k2]] at cAr
    go_enter Tryd.func3, Tryd.ntmps3
    go_wp2_with fail
    refine (cAr.out _ HL.out.spt).mono ?_
    rintro e1 w1 ⟨rfl, hb1⟩
    have HB1 := Lib.hid (below_step HB0.out hb1)
    clear hb1
    go_wp2_with fail
    refine (cTk.out _).mono ?_
    rintro e2 w2 ⟨rfl, hb2⟩
    have HB2 := Lib.hid (below_step HB1.out hb2)
    clear hb2
    go_wp2_with fail
    refine (awake_18 _ (HL.out.later HB2.out)).mono ?_
    rintro e3 w3 ⟨rfl, hb3⟩
    have HB3 := Lib.hid (below_step HB2.out hb3)
    clear hb3
    go_wp2_with fail
    refine (cFd.out _ (HL.out.later HB3.out).spt).mono ?_
    rintro e4 w4 ⟨rfl, hb4⟩
    have HB4 := Lib.hid (below_step HB3.out hb4)
    clear hb4
    go_wp2_with fail
    refine (cRf.out _).mono ?_
    rintro e5 w5 ⟨rfl, hb5⟩
    have HB5 := Lib.hid (below_step HB4.out hb5)
    clear hb5
    go_wp2_with fail
    refine (cNm.out _ (HL.out.later HB5.out).spt).mono ?_
    rintro e6 w6 ⟨rfl, hb6⟩
    have HB6 := Lib.hid (below_step HB5.out hb6)
    clear hb6
    go_wp2_with fail
    refine (cRn.out _).mono ?_
    rintro e7 w7 ⟨rfl, hb7⟩
    have HB7 := Lib.hid (below_step HB6.out hb7)
    clear hb7
    go_wp2_with fail
    refine (cPu.out _).mono ?_
    rintro e8 w8 ⟨rfl, rfl⟩
    go_wp2_with fail
    refine (cRp.out _).mono ?_
    rintro e9 w9 ⟨rfl, rfl⟩
    go_wp2_with fail
    refine (cNm.out _ (HL.out.later HB7.out).spt).mono ?_
    rintro e10 w10 ⟨rfl, hb10⟩
    have HB10 := Lib.hid (below_step HB7.out hb10)
    clear hb10
    go_wp2_with fail
    refine (cNm.out _ (HL.out.later HB10.out).spt).mono ?_
    rintro e11 w11 ⟨rfl, hb11⟩
    have HB11 := Lib.hid (below_step HB10.out hb11)
    clear hb11
    go_wp2_with fail
    refine (cFb.out _ (HL.out.later HB11.out).spt).mono ?_
    rintro e12 w12 ⟨rfl, hb12⟩
    have HB12 := Lib.hid (below_step HB11.out hb12)
    clear hb12
    go_wp2_with fail
    go_ret
    exact ⟨rfl, HB12.out⟩
  · have x0 : x.toList = [] := by rw [← hx, name_lt n hn, ByteArray.toList_eq]; rfl
    have x1 : (x.toList == []) = true := by simp [x0]
    clear hx hn
    by_cases k1 : k = -1
    · subst k1
      rw [show bothL (-1) = (0, 28) from rfl] at cAr
      go_enter Tryd.func3, Tryd.ntmps3
      go_wp2_with fail
      refine (cAr.out _ HL.out.spt).mono ?_
      rintro e1 w1 ⟨rfl, hb1⟩
      have HB1 := Lib.hid (below_step HB0.out hb1)
      clear hb1
      go_wp2_with fail
      refine (cTk.out _).mono ?_
      rintro e2 w2 ⟨rfl, hb2⟩
      have HB2 := Lib.hid (below_step HB1.out hb2)
      clear hb2
      go_wp2_with fail
      refine (awake_18 _ (HL.out.later HB2.out)).mono ?_
      rintro e3 w3 ⟨rfl, hb3⟩
      have HB3 := Lib.hid (below_step HB2.out hb3)
      clear hb3
      go_wp2_with fail
      refine (cFd.out _ (HL.out.later HB3.out).spt).mono ?_
      rintro e4 w4 ⟨rfl, hb4⟩
      have HB4 := Lib.hid (below_step HB3.out hb4)
      clear hb4
      go_wp2_with fail
      refine (cRf.out _).mono ?_
      rintro e5 w5 ⟨rfl, hb5⟩
      have HB5 := Lib.hid (below_step HB4.out hb5)
      clear hb5
      go_wp2_with fail
      refine (cNm.out _ (HL.out.later HB5.out).spt).mono ?_
      rintro e6 w6 ⟨rfl, hb6⟩
      have HB6 := Lib.hid (below_step HB5.out hb6)
      clear hb6
      go_wp2_with fail
      refine (cRn.out _).mono ?_
      rintro e7 w7 ⟨rfl, hb7⟩
      have HB7 := Lib.hid (below_step HB6.out hb7)
      clear hb7
      go_wp2_with fail
      refine (cPu.out _).mono ?_
      rintro e8 w8 ⟨rfl, rfl⟩
      go_wp2_with fail
      refine (cRp.out _).mono ?_
      rintro e9 w9 ⟨rfl, rfl⟩
      go_wp2_with fail
      refine (cNm.out _ (HL.out.later HB7.out).spt).mono ?_
      rintro e10 w10 ⟨rfl, hb10⟩
      have HB10 := Lib.hid (below_step HB7.out hb10)
      clear hb10
      go_wp2_with fail
      go_ret
      exact ⟨rfl, HB10.out⟩
    have kb1 : (k == -1) = false := beq_eq_false_iff_ne.2 k1
    by_cases k2 : k = -2
    · subst k2
      rw [show bothL (-2) = (0, -1) from rfl] at cAr
      go_enter Tryd.func3, Tryd.ntmps3
      go_wp2_with fail
      refine (cAr.out _ HL.out.spt).mono ?_
      rintro e1 w1 ⟨rfl, hb1⟩
      have HB1 := Lib.hid (below_step HB0.out hb1)
      clear hb1
      go_wp2_with fail
      refine (cTk.out _).mono ?_
      rintro e2 w2 ⟨rfl, hb2⟩
      have HB2 := Lib.hid (below_step HB1.out hb2)
      clear hb2
      go_wp2_with fail
      refine (awake_18 _ (HL.out.later HB2.out)).mono ?_
      rintro e3 w3 ⟨rfl, hb3⟩
      have HB3 := Lib.hid (below_step HB2.out hb3)
      clear hb3
      go_wp2_with fail
      refine (cFd.out _ (HL.out.later HB3.out).spt).mono ?_
      rintro e4 w4 ⟨rfl, hb4⟩
      have HB4 := Lib.hid (below_step HB3.out hb4)
      clear hb4
      go_wp2_with fail
      refine (cRf.out _).mono ?_
      rintro e5 w5 ⟨rfl, hb5⟩
      have HB5 := Lib.hid (below_step HB4.out hb5)
      clear hb5
      go_wp2_with fail
      refine (cNm.out _ (HL.out.later HB5.out).spt).mono ?_
      rintro e6 w6 ⟨rfl, hb6⟩
      have HB6 := Lib.hid (below_step HB5.out hb6)
      clear hb6
      go_wp2_with fail
      refine (cRn.out _).mono ?_
      rintro e7 w7 ⟨rfl, hb7⟩
      have HB7 := Lib.hid (below_step HB6.out hb7)
      clear hb7
      go_wp2_with fail
      refine (cPu.out _).mono ?_
      rintro e8 w8 ⟨rfl, rfl⟩
      go_wp2_with fail
      refine (cRp.out _).mono ?_
      rintro e9 w9 ⟨rfl, rfl⟩
      go_wp2_with fail
      refine (cNm.out _ (HL.out.later HB7.out).spt).mono ?_
      rintro e10 w10 ⟨rfl, hb10⟩
      have HB10 := Lib.hid (below_step HB7.out hb10)
      clear hb10
      go_wp2_with fail
      go_ret
      exact ⟨rfl, HB10.out⟩
    have kb2 : (k == -2) = false := beq_eq_false_iff_ne.2 k2
    rw [show bothL k = (k, k) by unfold bothL; rw [if_neg k1, if_neg k2]] at cAr
    go_enter Tryd.func3, Tryd.ntmps3
    go_wp2_with fail
    refine (cAr.out _ HL.out.spt).mono ?_
    rintro e1 w1 ⟨rfl, hb1⟩
    have HB1 := Lib.hid (below_step HB0.out hb1)
    clear hb1
    go_wp2_with fail
    refine (cTk.out _).mono ?_
    rintro e2 w2 ⟨rfl, hb2⟩
    have HB2 := Lib.hid (below_step HB1.out hb2)
    clear hb2
    go_wp2_with fail
    refine (awake_18 _ (HL.out.later HB2.out)).mono ?_
    rintro e3 w3 ⟨rfl, hb3⟩
    have HB3 := Lib.hid (below_step HB2.out hb3)
    clear hb3
    go_wp2_with fail
    refine (cFd.out _ (HL.out.later HB3.out).spt).mono ?_
    rintro e4 w4 ⟨rfl, hb4⟩
    have HB4 := Lib.hid (below_step HB3.out hb4)
    clear hb4
    go_wp2_with fail
    refine (cRf.out _).mono ?_
    rintro e5 w5 ⟨rfl, hb5⟩
    have HB5 := Lib.hid (below_step HB4.out hb5)
    clear hb5
    go_wp2_with fail
    refine (cNm.out _ (HL.out.later HB5.out).spt).mono ?_
    rintro e6 w6 ⟨rfl, hb6⟩
    have HB6 := Lib.hid (below_step HB5.out hb6)
    clear hb6
    go_wp2_with fail
    refine (cRn.out _).mono ?_
    rintro e7 w7 ⟨rfl, hb7⟩
    have HB7 := Lib.hid (below_step HB6.out hb7)
    clear hb7
    go_wp2_with fail
    refine (cPu.out _).mono ?_
    rintro e8 w8 ⟨rfl, rfl⟩
    go_wp2_with fail
    refine (cRp.out _).mono ?_
    rintro e9 w9 ⟨rfl, rfl⟩
    go_wp2_with fail
    refine (cNm.out _ (HL.out.later HB7.out).spt).mono ?_
    rintro e10 w10 ⟨rfl, hb10⟩
    have HB10 := Lib.hid (below_step HB7.out hb10)
    clear hb10
    go_wp2_with fail
    go_ret
    exact ⟨rfl, HB10.out⟩

set_option maxRecDepth 16000 in
theorem PrimNames_top {H : Type} {enc : TypeId × Value → H} (W : World) (base : Nat) (v0 v1 : Value) (d0 d1 : DataW H) (p0 p1 : List MemPlace) (hv0 : Value.okWide Tryd.prog W .any base 3 v0) (hv1 : Value.okWide Tryd.prog W .any base 9 v1)
    (h0 : DataW.Trod enc Tryd.prog W 0 (fun _ => true) true 3 v0 d0 p0) (h1 : DataW.Trod enc Tryd.prog W 0 (fun _ => true) true 9 v1 d1 p1)
    {ts : List TypeId} {ds : List (DataW H)} (_ : (DataW.weightsEach Tryd.prog ts ds).all (· ≤ reachBytes) = true) (hT : Laid18 W) :
    Calls Tryd.prog 3 #[v0, v1] W fun e w' => e = .returned (.bool true) ∧ Below W.heap.size W w' := by
  obtain ⟨n, rfl, rfl, rfl, _⟩ := open_int Tryd.underlying3 hv0 h0
  obtain ⟨s, rfl, rfl, rfl, _⟩ := Go.ChangeMaps.open_string Tryd.underlying9 hv1 h1
  exact (names_any n s W hT).mono fun e w' h => ⟨h.ret, h.below⟩
end Go.Proofs.YtneokkhnjnomdaaDoor
