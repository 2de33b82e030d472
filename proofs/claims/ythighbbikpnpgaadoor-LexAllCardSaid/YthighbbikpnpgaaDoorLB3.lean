/-
  The lexer reads a string.
  The lexer reads what begins with a #.
  The lexer reads a character behind #\.
  The lexer reads a named character.
  The lexer reads a named character: the byte behind the stroke is a blank or less.
  The lexer reads a named character: the byte behind the stroke is no blank, and no end follows it.
-/
import Derived.Test.YthighbbikpnpgaaDoorLB2
import Derived.Deep.QuietTactic
import Derived.BigQuiet

/-! LeG -/
namespace Go.Proofs.YthighbbikpnpgaaDoor
open Go.RowKit Go.Proofs.YthighbbikpnpgaaDoorW.PrintWords

def strE (r : Int × List UInt8 × Nat) : Int := if r.1 = 0 then (if 500 < r.2.1.length then 14 else 0) else r.1
abbrev TB : TypeId := 176
theorem tb_lies : Lies TB 0 := ⟨by kernel_rfl, by decide⟩

theorem drop_end {T : ByteArray} {p : Nat} (h : ¬ p < T.size) : T.data.toList.drop p = [] := by
  have : T.data.toList.length = T.size := by simp
  exact List.drop_eq_nil_of_le (by omega)

structure StrI (T : ByteArray) (W : World) (R : Int × List UInt8 × Nat) (p : Nat) (acc : List UInt8) (w' : World) : Prop where
  bld : Bld TB [] W.heap.size W.heap.size acc w'
  below : Below W.heap.size W w'
  rest : strP (T.data.toList.drop p) acc p = R
  le : p ≤ T.size
  few : acc.length ≤ p

theorem StrI.drew {T : ByteArray} {W : World} {R : Int × List UInt8 × Nat} {p : Nat} {acc : List UInt8} {w' : World} (h : StrI T W R p acc w') : StrI T W R p acc w'.drew := ⟨h.bld.below (below_drew (Below.refl _ _)), h.below.trans ((below_drew (Below.refl _ _))), h.rest, h.le, h.few⟩

structure StrTo (b tb : Nat) (T : ByteArray) (i : Nat) (ln cl tl tc : Int) (R : Int × List UInt8 × Nat) (w : World) (e : Ending) (w' : World) : Prop where
  ret : e = .returned (errV (strE R))
  lex : LexAt b T i ln cl w'
  keep : KeepB w w' tb none
  pos : strE R ≠ 0 → ∃ k n x nx, TokAt tb k n x tl tc nx w'
  tok : strE R = 0 → TokAt tb 12 0 ⟨R.2.1.toArray⟩ tl tc ((R.2.2 + 1 : Nat) : Int) w'

set_option maxRecDepth 400000 in
set_option maxHeartbeats 4000000 in
theorem str_any (b tb : Nat) (T : ByteArray) (i : Nat) (ln cl k tl tc nx : Int) (w : World) (h : LexAt b T i ln cl w) (ht : TokAt tb k 0 ⟨#[]⟩ tl tc nx w) (hi : i < T.size) (hT : T.size ≤ 1000000000) :
    Calls Tryd.prog 87 #[.pointer (some ⟨b, 0, none⟩), .pointer (some ⟨tb, 0, none⟩)] w (StrTo b tb T i ln cl tl tc (strP (T.data.toList.drop (i + 1)) [] (i + 1)) w) := by
  obtain ⟨R, hR⟩ : ∃ R, strP (T.data.toList.drop (i + 1)) [] (i + 1) = R := ⟨_, rfl⟩
  rw [hR]
  have hne : b ≠ tb := by
    intro e
    subst e
    unfold LexAt at h; unfold TokAt at ht
    rw [h] at ht
    simp at ht
  have c0 : w.cell? ⟨b, 0, none⟩ = some (.string T) := blk_cell h 0
  have c1 : w.cell? ⟨b, 1, none⟩ = some (.int .i64 (i : Nat)) := blk_cell h 1
  have HL := Lib.hid h
  have HTk := Lib.hid ht
  have HT := Lib.hid hT
  have HNE := Lib.hid hne
  have HR := Lib.hid hR
  have lb : b < w.heap.size := blk_lt h
  clear h ht hT hne hR
  go_enter Tryd.func87, Tryd.ntmps87
  have hTT := HT.out
  (go_wp2_with fail; repeat (go_region; go_wp2_with fail))
  go_loopg [6] (T.size - (i + 1)) (fun gk v w' => ∃ (p : Nat) (acc : List UInt8), v = .int .i64 (p : Nat) ∧ gk = T.size - p ∧ Hid (StrI T w R p acc w'))
  case atStart => exact ⟨i + 1, [], by simp, rfl, Lib.hid ⟨bld_fresh TB [] w _ (Nat.le_refl _), (Below.refl _ _).alloc (Nat.le_refl _) _, HR.out, by omega, by simp⟩⟩
  case round =>
    clear c0 c1 HR
    obtain ⟨p, acc, rfl, rfl, HJ⟩ := hrel
    have d0 : wr.cell? ⟨b, 0, none⟩ = some (.string T) := blk_cell (blk_below HL.out HJ.out.below) 0
    have hp := HJ.out.le
    by_cases hlt : p < T.size
    · have hlt' : (p : Int) < (T.size : Nat) := by omega
      obtain ⟨x, hx⟩ : ∃ x, T[p]'hlt = x := ⟨_, rfl⟩
      have hbx : ∀ h, T[p]'h = x := fun _ => hx
      have HX := Lib.hid hbx
      have HLT := Lib.hid hlt
      clear hx
      have x256 : x.toNat < 256 := x.toNat_lt
      by_cases h34 : x = 34
      · subst h34
        have HE := Lib.hid (show R = (0, acc, p) by rw [← HJ.out.rest, drop_cons HLT.out, HX.out, strP_mark])
        (go_wp2_with fail; repeat (go_region; go_wp2_with fail))
        refine (blen_any TB [] w.heap.size w.heap.size acc _ HJ.out.bld).mono ?_
        rintro e w2 ⟨rfl, rfl⟩
        by_cases h500 : 500 < acc.length
        · have b500 : decide ((500 : Int) < (acc.length : Nat)) = true := decide_eq_true (by omega)
          have hE14 := Lib.hid (show strE R = 14 by rw [HE.out, strE, if_pos rfl, if_pos h500])
          clear h500
          (go_wp2_with fail; repeat (go_region; go_wp2_with fail))
          go_ret
          refine ⟨by rw [hE14.out]; rfl, blk_below HL.out HJ.out.below, KeepB.of_below HJ.out.below tb none, fun _ => ⟨k, 0, ⟨#[]⟩, nx, blk_below HTk.out HJ.out.below⟩, fun h => ?_⟩
          rw [hE14.out] at h; cases h
        · have b500 : decide ((500 : Int) < (acc.length : Nat)) = false := decide_eq_false (by omega)
          have hE0 := Lib.hid (show strE R = 0 by rw [HE.out, strE, if_pos rfl, if_neg h500])
          clear h500
          (go_wp2_with fail; repeat (go_region; go_wp2_with fail))
          refine (bstring_any TB [] w.heap.size w.heap.size acc _ HJ.out.bld).mono ?_
          rintro e w3 ⟨rfl, hb3⟩
          have HB3 := Lib.hid (show Below w.heap.size w w3 from HJ.out.below.trans hb3)
          have HL3 := Lib.hid (show LexAt b T i ln cl w3 from blk_below HL.out HB3.out)
          have HT3 := Lib.hid (show TokAt tb k 0 ⟨#[]⟩ tl tc nx w3 from blk_below HTk.out HB3.out)
          have HK3 := Lib.hid (show KeepB w w3 tb none from KeepB.of_below HB3.out tb none)
          clear hb3 d0 HJ
          have e0 : w3.cell? ⟨tb, 0, none⟩ = some (.int .i64 k) := blk_cell HT3.out 0
          have e2 : w3.cell? ⟨tb, 2, none⟩ = some (.string ⟨#[]⟩) := blk_cell HT3.out 2
          have e5 : w3.cell? ⟨tb, 5, none⟩ = some (.int .i64 nx) := blk_cell HT3.out 5
          have k0 := blk_frozen HT3.out 0
          have k2 := blk_frozen HT3.out 2
          have k5 := blk_frozen HT3.out 5
          (go_wp2_with fail; repeat (go_region; go_wp2_with fail))
          go_ret
          refine ⟨by rw [hE0.out]; rfl, blk_far (blk_far (blk_far HL3.out HNE.out _) HNE.out _) HNE.out _, ((HK3.out.set_ 0 _).set_ 2 _).set_ 5 _, fun h => absurd hE0.out h, fun _ => ?_⟩
          rw [HE.out]
          exact blk_set (blk_set (blk_set HT3.out 0 _) 2 _) 5 _
      · have b34 := u8ne (n := 34) (by omega) h34
        by_cases h92 : x = 92
        · subst h92
          by_cases hlt2 : p + 1 < T.size
          · have hlt2' : (p : Int) + 1 < (T.size : Nat) := by omega
            have hb2 : ((p : Int) + 1 == (T.size : Nat)) = false := beq_eq_false_iff_ne.2 (by omega)
            obtain ⟨y, hy⟩ : ∃ y, T[p + 1]'hlt2 = y := ⟨_, rfl⟩
            have HY := Lib.hid (show ∀ h, T[p + 1]'h = y from fun _ => hy)
            have hby : ∀ h, T[p + 1]'h = y := HY.out
            have HLT2 := Lib.hid hlt2
            clear hy
            have y256 : y.toNat < 256 := y.toNat_lt
            by_cases hy110 : y = 110
            · subst hy110
              have HE := Lib.hid (show strP (T.data.toList.drop (p + 2)) (acc ++ [10]) (p + 2) = R by rw [← HJ.out.rest, drop_cons HLT.out, HX.out, drop_cons HLT2.out, HY.out, strP_esc (y := 110) (d := 10) rfl])
              (go_wp2_with fail; repeat (go_region; go_wp2_with fail))
              refine (esc_index 110 _).mono ?_
              rintro e w2 ⟨rfl, rfl⟩
              rw [show escI 110 = 0 from rfl]
              (go_wp2_with fail; repeat (go_region; go_wp2_with fail))
              refine (writeByte_any TB [] w.heap.size w.heap.size acc 10 _ HJ.out.bld tb_lies (by have := HJ.out.few; omega) (below_size HJ.out.below) (by omega) (by omega)).mono ?_
              rintro e w2 ⟨rfl, hb2, hw2, -⟩
              have HW2 := Lib.hid (show StrI T w R (p + 2) (acc ++ [10]) w2 from ⟨by have := hb2.bld; exact this, HJ.out.below.trans hw2, HE.out, HLT2.out, by have := HJ.out.few; simp; omega⟩)
              clear hb2 hw2 d0
              (go_wp2_with fail; repeat (go_region; go_wp2_with fail))
              go_roundg (T.size - (p + 2))
              case measure => have := HLT.out; omega
              case rel => exact ⟨p + 2, _, by go_num, rfl, HW2⟩
            by_cases hy116 : y = 116
            · subst hy116
              have HE := Lib.hid (show strP (T.data.toList.drop (p + 2)) (acc ++ [9]) (p + 2) = R by rw [← HJ.out.rest, drop_cons HLT.out, HX.out, drop_cons HLT2.out, HY.out, strP_esc (y := 116) (d := 9) rfl])
              (go_wp2_with fail; repeat (go_region; go_wp2_with fail))
              refine (esc_index 116 _).mono ?_
              rintro e w2 ⟨rfl, rfl⟩
              rw [show escI 116 = 1 from rfl]
              (go_wp2_with fail; repeat (go_region; go_wp2_with fail))
              refine (writeByte_any TB [] w.heap.size w.heap.size acc 9 _ HJ.out.bld tb_lies (by have := HJ.out.few; omega) (below_size HJ.out.below) (by omega) (by omega)).mono ?_
              rintro e w2 ⟨rfl, hb2, hw2, -⟩
              have HW2 := Lib.hid (show StrI T w R (p + 2) (acc ++ [9]) w2 from ⟨by have := hb2.bld; exact this, HJ.out.below.trans hw2, HE.out, HLT2.out, by have := HJ.out.few; simp; omega⟩)
              clear hb2 hw2 d0
              (go_wp2_with fail; repeat (go_region; go_wp2_with fail))
              go_roundg (T.size - (p + 2))
              case measure => have := HLT.out; omega
              case rel => exact ⟨p + 2, _, by go_num, rfl, HW2⟩
            by_cases hy34 : y = 34
            · subst hy34
              have HE := Lib.hid (show strP (T.data.toList.drop (p + 2)) (acc ++ [34]) (p + 2) = R by rw [← HJ.out.rest, drop_cons HLT.out, HX.out, drop_cons HLT2.out, HY.out, strP_esc (y := 34) (d := 34) rfl])
              (go_wp2_with fail; repeat (go_region; go_wp2_with fail))
              refine (esc_index 34 _).mono ?_
              rintro e w2 ⟨rfl, rfl⟩
              rw [show escI 34 = 2 from rfl]
              (go_wp2_with fail; repeat (go_region; go_wp2_with fail))
              refine (writeByte_any TB [] w.heap.size w.heap.size acc 34 _ HJ.out.bld tb_lies (by have := HJ.out.few; omega) (below_size HJ.out.below) (by omega) (by omega)).mono ?_
              rintro e w2 ⟨rfl, hb2, hw2, -⟩
              have HW2 := Lib.hid (show StrI T w R (p + 2) (acc ++ [34]) w2 from ⟨by have := hb2.bld; exact this, HJ.out.below.trans hw2, HE.out, HLT2.out, by have := HJ.out.few; simp; omega⟩)
              clear hb2 hw2 d0
              (go_wp2_with fail; repeat (go_region; go_wp2_with fail))
              go_roundg (T.size - (p + 2))
              case measure => have := HLT.out; omega
              case rel => exact ⟨p + 2, _, by go_num, rfl, HW2⟩
            by_cases hy92 : y = 92
            · subst hy92
              have HE := Lib.hid (show strP (T.data.toList.drop (p + 2)) (acc ++ [92]) (p + 2) = R by rw [← HJ.out.rest, drop_cons HLT.out, HX.out, drop_cons HLT2.out, HY.out, strP_esc (y := 92) (d := 92) rfl])
              (go_wp2_with fail; repeat (go_region; go_wp2_with fail))
              refine (esc_index 92 _).mono ?_
              rintro e w2 ⟨rfl, rfl⟩
              rw [show escI 92 = 3 from rfl]
              (go_wp2_with fail; repeat (go_region; go_wp2_with fail))
              refine (writeByte_any TB [] w.heap.size w.heap.size acc 92 _ HJ.out.bld tb_lies (by have := HJ.out.few; omega) (below_size HJ.out.below) (by omega) (by omega)).mono ?_
              rintro e w2 ⟨rfl, hb2, hw2, -⟩
              have HW2 := Lib.hid (show StrI T w R (p + 2) (acc ++ [92]) w2 from ⟨by have := hb2.bld; exact this, HJ.out.below.trans hw2, HE.out, HLT2.out, by have := HJ.out.few; simp; omega⟩)
              clear hb2 hw2 d0
              (go_wp2_with fail; repeat (go_region; go_wp2_with fail))
              go_roundg (T.size - (p + 2))
              case measure => have := HLT.out; omega
              case rel => exact ⟨p + 2, _, by go_num, rfl, HW2⟩
            · have HE := Lib.hid (show R = (6, acc, p) by rw [← HJ.out.rest, drop_cons HLT.out, HX.out, drop_cons HLT2.out, HY.out, strP_bad (by simp [escD, hy110, hy116, hy34, hy92])])
              have hI : escI y = -1 := by simp [escI, hy110, hy116, hy34, hy92]
              (go_wp2_with fail; repeat (go_region; go_wp2_with fail))
              refine (esc_index y _).mono ?_
              rintro e w2 ⟨rfl, rfl⟩
              rw [hI]
              (go_wp2_with fail; repeat (go_region; go_wp2_with fail))
              go_ret
              refine ⟨by rw [HE.out]; rfl, blk_below HL.out HJ.out.below, KeepB.of_below HJ.out.below tb none, fun _ => ⟨k, 0, ⟨#[]⟩, nx, blk_below HTk.out HJ.out.below⟩, fun h => ?_⟩
              rw [HE.out] at h; cases h
          · have hlt2' : ¬ (p : Int) + 1 < (T.size : Nat) := by omega
            have hb2 : ((p : Int) + 1 == (T.size : Nat)) = true := beq_iff_eq.2 (by omega)
            have HE := Lib.hid (show R = (5, acc, p) by rw [← HJ.out.rest, drop_cons HLT.out, HX.out, drop_end hlt2, strP_last])
            (go_wp2_with fail; repeat (go_region; go_wp2_with fail))
            go_ret
            refine ⟨by rw [HE.out]; rfl, blk_below HL.out HJ.out.below, KeepB.of_below HJ.out.below tb none, fun _ => ⟨k, 0, ⟨#[]⟩, nx, blk_below HTk.out HJ.out.below⟩, fun h => ?_⟩
            rw [HE.out] at h; cases h
        · have b92 := u8ne (n := 92) (by omega) h92
          have HE := Lib.hid (show strP (T.data.toList.drop (p + 1)) (acc ++ [x]) (p + 1) = R by rw [← HJ.out.rest, drop_cons HLT.out, HX.out, strP_on h34 h92])
          clear h34 h92
          (go_wp2_with fail; repeat (go_region; go_wp2_with fail))
          refine (writeByte_any TB [] w.heap.size w.heap.size acc (x.toNat : Int) _ HJ.out.bld tb_lies (by have := HJ.out.few; omega) (below_size HJ.out.below) (by omega) (by omega)).mono ?_
          rintro e w2 ⟨rfl, hb2, hw2, -⟩
          have HW2 := Lib.hid (show StrI T w R (p + 1) (acc ++ [x]) w2 from ⟨by have := hb2.bld; simpa using this, HJ.out.below.trans hw2, HE.out, HLT.out, by have := HJ.out.few; simp; omega⟩)
          clear hb2 hw2 d0
          (go_wp2_with fail; repeat (go_region; go_wp2_with fail))
          go_roundg (T.size - (p + 1))
          case measure => have := HLT.out; omega
          case rel => exact ⟨p + 1, _, by go_num, rfl, HW2⟩
    · have hlt' : ¬ (p : Int) < (T.size : Nat) := by omega
      have HE := Lib.hid (show R = (5, acc, p) by rw [← HJ.out.rest, drop_end hlt, strP])
      (go_wp2_with fail; repeat (go_region; go_wp2_with fail))
      go_ret
      refine ⟨by rw [HE.out]; rfl, blk_below HL.out HJ.out.below, KeepB.of_below HJ.out.below tb none, fun _ => ⟨k, 0, ⟨#[]⟩, nx, blk_below HTk.out HJ.out.below⟩, fun h => ?_⟩
      rw [HE.out] at h; cases h
end Go.Proofs.YthighbbikpnpgaaDoor

/-! LeH -/
namespace Go.Proofs.YthighbbikpnpgaaDoor
open Go.RowKit Go.Proofs.YthighbbikpnpgaaDoorW.PrintWords

structure SharpTo (b tb : Nat) (T : ByteArray) (i : Nat) (ln cl tl tc : Int) (R : Int × Int × Int × Nat) (w : World) (e : Ending) (w' : World) : Prop where
  ret : e = .returned (errV R.1)
  lex : LexAt b T i ln cl w'
  keep : KeepB w w' tb none
  pos : R.1 ≠ 0 → ∃ k n x nx, TokAt tb k n x tl tc nx w'
  tok : R.1 = 0 → TokAt tb R.2.1 R.2.2.1 ⟨#[]⟩ tl tc (R.2.2.2 : Nat) w'

theorem ends_at (b : Nat) (T : ByteArray) (i k : Nat) (ln cl : Int) (w : World) (h : LexAt b T i ln cl w) (z : Int) (hz : z = (k : Nat)) :
    Calls Tryd.prog 107 #[.pointer (some ⟨b, 0, none⟩), .int .i64 z] w fun e w' => e = .returned (.bool (endAt T k)) ∧ Below w.heap.size w w' := by
  subst hz
  exact ends_any b T i k ln cl w h

set_option maxRecDepth 400000 in
set_option maxHeartbeats 4000000 in
theorem sharp_tf (b tb : Nat) (T : ByteArray) (i : Nat) (ln cl k tl tc nx : Int) (w : World) (h : LexAt b T i ln cl w) (ht : TokAt tb k 0 ⟨#[]⟩ tl tc nx w) (hi : i < T.size) (hT : T.size ≤ 1000000000) (x : UInt8) (r : List UInt8) (hS : T.extract (i + 1) T.size = ⟨⟨x :: r⟩⟩)
    (hx : x = 116 ∨ x = 102) (hend : endAt T (i + 2) = true) :
    Calls Tryd.prog 86 #[.pointer (some ⟨b, 0, none⟩), .pointer (some ⟨tb, 0, none⟩)] w (SharpTo b tb T i ln cl tl tc (0, 10, if x = 116 then 1 else 0, i + 2) w) := by
  have hne : b ≠ tb := by
    intro e
    subst e
    unfold LexAt at h; unfold TokAt at ht
    rw [h] at ht
    simp at ht
  have c0 : w.cell? ⟨b, 0, none⟩ = some (.string T) := blk_cell h 0
  have c1 : w.cell? ⟨b, 1, none⟩ = some (.int .i64 (i : Nat)) := blk_cell h 1
  have HL := Lib.hid h
  have HTk := Lib.hid ht
  have HNE := Lib.hid hne
  have hi1 : (i : Int) + 1 ≤ (T.size : Nat) := by omega
  have HS := Lib.hid hS
  have ez := ba_zero x r
  have HE := Lib.hid hend
  have HL1 := Lib.hid (show LexAt b T i ln cl w.drew from h)
  clear h ht hne hS hend
  rcases hx with rfl | rfl
  · go_enter Tryd.func86, Tryd.ntmps86
    go_wp2_with fail
    go_region
    rw [HS.out]
    go_wp2_with fail
    refine (ends_at b T i (i + 2) ln cl _ (HL1.out) _ (by omega)).mono ?_
    rintro e w2 ⟨rfl, hb2⟩
    rw [HE.out]
    have HB2 := Lib.hid (show Below w.heap.size w w2 from below_drewL hb2)
    have HL2 := Lib.hid (show LexAt b T i ln cl w2 from blk_below HL.out HB2.out)
    have HT2 := Lib.hid (show TokAt tb k 0 ⟨#[]⟩ tl tc nx w2 from blk_below HTk.out HB2.out)
    have HK2 := Lib.hid (show KeepB w w2 tb none from KeepB.of_below HB2.out tb none)
    clear hb2 c0 c1
    have d1 : w2.cell? ⟨b, 1, none⟩ = some (.int .i64 (i : Nat)) := blk_cell HL2.out 1
    have e0 : w2.cell? ⟨tb, 0, none⟩ = some (.int .i64 k) := blk_cell HT2.out 0
    have e1 : w2.cell? ⟨tb, 1, none⟩ = some (.int .i64 0) := blk_cell HT2.out 1
    have e5 : w2.cell? ⟨tb, 5, none⟩ = some (.int .i64 nx) := blk_cell HT2.out 5
    have k0 := blk_frozen HT2.out 0
    have k1 := blk_frozen HT2.out 1
    have k5 := blk_frozen HT2.out 5
    (go_wp2_with fail; repeat (go_region; go_wp2_with fail))
    go_ret
    exact ⟨rfl, blk_far (blk_far (blk_far HL2.out HNE.out _) HNE.out _) HNE.out _, ((HK2.out.set_ 0 _).set_ 5 _).set_ 1 _, fun h => absurd rfl h, fun _ => blk_set (blk_set (blk_set HT2.out 0 _) 5 _) 1 _⟩
  · go_enter Tryd.func86, Tryd.ntmps86
    go_wp2_with fail
    go_region
    rw [HS.out]
    go_wp2_with fail
    refine (ends_at b T i (i + 2) ln cl _ (HL1.out) _ (by omega)).mono ?_
    rintro e w2 ⟨rfl, hb2⟩
    rw [HE.out]
    have HB2 := Lib.hid (show Below w.heap.size w w2 from below_drewL hb2)
    have HL2 := Lib.hid (show LexAt b T i ln cl w2 from blk_below HL.out HB2.out)
    have HT2 := Lib.hid (show TokAt tb k 0 ⟨#[]⟩ tl tc nx w2 from blk_below HTk.out HB2.out)
    have HK2 := Lib.hid (show KeepB w w2 tb none from KeepB.of_below HB2.out tb none)
    clear hb2 c0 c1
    have d1 : w2.cell? ⟨b, 1, none⟩ = some (.int .i64 (i : Nat)) := blk_cell HL2.out 1
    have e0 : w2.cell? ⟨tb, 0, none⟩ = some (.int .i64 k) := blk_cell HT2.out 0
    have e1 : w2.cell? ⟨tb, 1, none⟩ = some (.int .i64 0) := blk_cell HT2.out 1
    have e5 : w2.cell? ⟨tb, 5, none⟩ = some (.int .i64 nx) := blk_cell HT2.out 5
    have k0 := blk_frozen HT2.out 0
    have k1 := blk_frozen HT2.out 1
    have k5 := blk_frozen HT2.out 5
    (go_wp2_with fail; repeat (go_region; go_wp2_with fail))
    go_ret
    exact ⟨rfl, blk_far (blk_far HL2.out HNE.out _) HNE.out _, (HK2.out.set_ 0 _).set_ 5 _, fun h => absurd rfl h, fun _ => blk_set (blk_set HT2.out 0 _) 5 _⟩

set_option maxRecDepth 400000 in
set_option maxHeartbeats 4000000 in
theorem sharp_tfbad (b tb : Nat) (T : ByteArray) (i : Nat) (ln cl k tl tc nx : Int) (w : World) (h : LexAt b T i ln cl w) (ht : TokAt tb k 0 ⟨#[]⟩ tl tc nx w) (hi : i < T.size) (hT : T.size ≤ 1000000000) (x : UInt8) (r : List UInt8) (hS : T.extract (i + 1) T.size = ⟨⟨x :: r⟩⟩)
    (hx : x = 116 ∨ x = 102) (hend : endAt T (i + 2) = false) (a c : Int) (n : Nat) :
    Calls Tryd.prog 86 #[.pointer (some ⟨b, 0, none⟩), .pointer (some ⟨tb, 0, none⟩)] w (SharpTo b tb T i ln cl tl tc (6, a, c, n) w) := by
  have hne : b ≠ tb := by
    intro e
    subst e
    unfold LexAt at h; unfold TokAt at ht
    rw [h] at ht
    simp at ht
  have c0 : w.cell? ⟨b, 0, none⟩ = some (.string T) := blk_cell h 0
  have c1 : w.cell? ⟨b, 1, none⟩ = some (.int .i64 (i : Nat)) := blk_cell h 1
  have HL := Lib.hid h
  have HTk := Lib.hid ht
  have HNE := Lib.hid hne
  have hi1 : (i : Int) + 1 ≤ (T.size : Nat) := by omega
  have HS := Lib.hid hS
  have ez := ba_zero x r
  have HE := Lib.hid hend
  have HL1 := Lib.hid (show LexAt b T i ln cl w.drew from h)
  clear h ht hne hS hend
  rcases hx with rfl | rfl
  all_goals
    go_enter Tryd.func86, Tryd.ntmps86
    go_wp2_with fail
    go_region
    rw [HS.out]
    go_wp2_with fail
    refine (ends_at b T i (i + 2) ln cl _ (HL1.out) _ (by omega)).mono ?_
    rintro e w2 ⟨rfl, hb2⟩
    rw [HE.out]
    have HB2 := Lib.hid (show Below w.heap.size w w2 from below_drewL hb2)
    clear hb2 c0 c1
    (go_wp2_with fail; repeat (go_region; go_wp2_with fail))
    go_ret
    exact ⟨rfl, blk_below HL.out HB2.out, KeepB.of_below HB2.out tb none, fun _ => ⟨k, 0, ⟨#[]⟩, nx, blk_below HTk.out HB2.out⟩, fun h => by cases h⟩

set_option maxRecDepth 400000 in
set_option maxHeartbeats 4000000 in
theorem sharp_none (b tb : Nat) (T : ByteArray) (i : Nat) (ln cl k tl tc nx : Int) (w : World) (h : LexAt b T i ln cl w) (ht : TokAt tb k 0 ⟨#[]⟩ tl tc nx w) (hi : i < T.size) (hT : T.size ≤ 1000000000) (hS : T.extract (i + 1) T.size = ⟨#[]⟩) (a c : Int) (n : Nat) :
    Calls Tryd.prog 86 #[.pointer (some ⟨b, 0, none⟩), .pointer (some ⟨tb, 0, none⟩)] w (SharpTo b tb T i ln cl tl tc (6, a, c, n) w) := by
  have hne : b ≠ tb := by
    intro e
    subst e
    unfold LexAt at h; unfold TokAt at ht
    rw [h] at ht
    simp at ht
  have c0 : w.cell? ⟨b, 0, none⟩ = some (.string T) := blk_cell h 0
  have c1 : w.cell? ⟨b, 1, none⟩ = some (.int .i64 (i : Nat)) := blk_cell h 1
  have HL := Lib.hid h
  have HTk := Lib.hid ht
  have HNE := Lib.hid hne
  have hi1 : (i : Int) + 1 ≤ (T.size : Nat) := by omega
  have HS := Lib.hid hS
  clear h ht hne hS
  · go_enter Tryd.func86, Tryd.ntmps86
    go_wp2_with fail
    go_region
    rw [HS.out]
    (go_wp2_with fail; repeat (go_region; go_wp2_with fail))
    go_ret
    exact ⟨rfl, HL.out, KeepB.refl _ _ _, fun _ => ⟨k, 0, ⟨#[]⟩, nx, HTk.out⟩, fun h => by cases h⟩

set_option maxRecDepth 400000 in
set_option maxHeartbeats 4000000 in
theorem sharp_other (b tb : Nat) (T : ByteArray) (i : Nat) (ln cl k tl tc nx : Int) (w : World) (h : LexAt b T i ln cl w) (ht : TokAt tb k 0 ⟨#[]⟩ tl tc nx w) (hi : i < T.size) (hT : T.size ≤ 1000000000) (x : UInt8) (r : List UInt8) (hS : T.extract (i + 1) T.size = ⟨⟨x :: r⟩⟩)
    (h1 : x ≠ 116) (h2 : x ≠ 102) (h3 : x ≠ 92) (a c : Int) (n : Nat) :
    Calls Tryd.prog 86 #[.pointer (some ⟨b, 0, none⟩), .pointer (some ⟨tb, 0, none⟩)] w (SharpTo b tb T i ln cl tl tc (6, a, c, n) w) := by
  have hne : b ≠ tb := by
    intro e
    subst e
    unfold LexAt at h; unfold TokAt at ht
    rw [h] at ht
    simp at ht
  have c0 : w.cell? ⟨b, 0, none⟩ = some (.string T) := blk_cell h 0
  have c1 : w.cell? ⟨b, 1, none⟩ = some (.int .i64 (i : Nat)) := blk_cell h 1
  have HL := Lib.hid h
  have HTk := Lib.hid ht
  have HNE := Lib.hid hne
  have hi1 : (i : Int) + 1 ≤ (T.size : Nat) := by omega
  have HS := Lib.hid hS
  have ez := ba_zero x r
  have b1 : ((x.toNat : Int) == 116) = false := u8ne (n := 116) (by omega) h1
  have p1 : ¬ (x.toNat : Int) = 116 := fun e => h1 ((byte_int x 116 (by omega)).1 e)
  have b2 : ((x.toNat : Int) == 102) = false := u8ne (n := 102) (by omega) h2
  have p2 : ¬ (x.toNat : Int) = 102 := fun e => h2 ((byte_int x 102 (by omega)).1 e)
  have b3 : ((x.toNat : Int) == 92) = false := u8ne (n := 92) (by omega) h3
  have p3 : ¬ (x.toNat : Int) = 92 := fun e => h3 ((byte_int x 92 (by omega)).1 e)
  clear h ht hne hS h1 h2 h3
  · go_enter Tryd.func86, Tryd.ntmps86
    go_wp2_with fail
    go_region
    rw [HS.out]
    (go_wp2_with fail; repeat (go_region; go_wp2_with fail))
    go_ret
    exact ⟨rfl, HL.out, KeepB.refl _ _ _, fun _ => ⟨k, 0, ⟨#[]⟩, nx, HTk.out⟩, fun h => by cases h⟩
end Go.Proofs.YthighbbikpnpgaaDoor

/-! LeI -/
namespace Go.Proofs.YthighbbikpnpgaaDoor
open Go.RowKit Go.Proofs.YthighbbikpnpgaaDoorW.PrintWords

theorem ba_one (c d : UInt8) (r : List UInt8) : ∀ h : 1 < (⟨⟨c :: d :: r⟩⟩ : ByteArray).size, (⟨⟨c :: d :: r⟩⟩ : ByteArray)[1]'h = d := fun _ => rfl

set_option maxRecDepth 400000 in
set_option maxHeartbeats 4000000 in
theorem sharp_char (b tb : Nat) (T : ByteArray) (i : Nat) (ln cl k tl tc nx : Int) (w : World) (h : LexAt b T i ln cl w) (ht : TokAt tb k 0 ⟨#[]⟩ tl tc nx w) (hi : i < T.size) (hT : T.size ≤ 1000000000) (y : UInt8) (r : List UInt8) (hS : T.extract (i + 1) T.size = ⟨⟨92 :: y :: r⟩⟩)
    (hy : 32 < y.toNat) (hend : endAt T (i + 3) = true) :
    Calls Tryd.prog 86 #[.pointer (some ⟨b, 0, none⟩), .pointer (some ⟨tb, 0, none⟩)] w (SharpTo b tb T i ln cl tl tc (0, 11, y.toNat, i + 3) w) := by
  have hne : b ≠ tb := by
    intro e
    subst e
    unfold LexAt at h; unfold TokAt at ht
    rw [h] at ht
    simp at ht
  have c0 : w.cell? ⟨b, 0, none⟩ = some (.string T) := blk_cell h 0
  have c1 : w.cell? ⟨b, 1, none⟩ = some (.int .i64 (i : Nat)) := blk_cell h 1
  have HL := Lib.hid h
  have HTk := Lib.hid ht
  have HNE := Lib.hid hne
  have hi1 : (i : Int) + 1 ≤ (T.size : Nat) := by omega
  have HS := Lib.hid hS
  have ez := ba_zero 92 (y :: r)
  have e1 := ba_one 92 y r
  have hsz : (⟨⟨92 :: y :: r⟩⟩ : ByteArray).size = r.length + 2 := rfl
  have HE := Lib.hid hend
  have y256 : y.toNat < 256 := y.toNat_lt
  have by32 : decide ((32 : Int) < y.toNat) = true := decide_eq_true (by omega)
  have t0 : w.cell? ⟨tb, 0, none⟩ = some (.int .i64 k) := blk_cell ht 0
  have f0 := blk_frozen ht 0
  clear h ht hne hS hend
  go_enter Tryd.func86, Tryd.ntmps86
  go_wp2_with fail
  go_region
  rw [HS.out]
  (go_wp2_with fail; repeat (go_region; go_wp2_with fail))
  refine (ends_at b T i (i + 3) ln cl _ (blk_drew (blk_far HL.out HNE.out _)) _ (by omega)).mono ?_
  rintro e w2 ⟨rfl, hb2⟩
  rw [HE.out]
  have HB2 := Lib.hid (below_drewL hb2)
  have HL2 := Lib.hid (show LexAt b T i ln cl w2 from blk_below (blk_far HL.out HNE.out _) HB2.out)
  have HT2 := Lib.hid (show TokAt tb 11 0 ⟨#[]⟩ tl tc nx w2 from blk_below (blk_set HTk.out 0 _) HB2.out)
  have HK2 := Lib.hid (show KeepB w w2 tb none from ((KeepB.refl w tb none).set_ 0 _).trans (KeepB.of_below HB2.out tb none) (.inl rfl))
  clear hb2 c0 c1 t0 f0
  have d1 : w2.cell? ⟨b, 1, none⟩ = some (.int .i64 (i : Nat)) := blk_cell HL2.out 1
  have e1 : w2.cell? ⟨tb, 1, none⟩ = some (.int .i64 0) := blk_cell HT2.out 1
  have e5 : w2.cell? ⟨tb, 5, none⟩ = some (.int .i64 nx) := blk_cell HT2.out 5
  have k1 := blk_frozen HT2.out 1
  have k5 := blk_frozen HT2.out 5
  (go_wp2_with fail; repeat (go_region; go_wp2_with fail))
  go_ret
  exact ⟨rfl, blk_far (blk_far HL2.out HNE.out _) HNE.out _, (HK2.out.set_ 1 _).set_ 5 _, fun h => absurd rfl h, fun _ => blk_set (blk_set HT2.out 1 _) 5 _⟩
end Go.Proofs.YthighbbikpnpgaaDoor

/-! LeJ -/
namespace Go.Proofs.YthighbbikpnpgaaDoor
open Go.RowKit Go.Proofs.YthighbbikpnpgaaDoorW.PrintWords

def names4 : List (List UInt8 × Int) := [([115, 112, 97, 99, 101], 32), ([110, 101, 119, 108, 105, 110, 101], 10), ([116, 97, 98], 9), ([110, 117, 108], 0)]
def nameFits (T : ByteArray) (i : Nat) (L : List UInt8) (x : List UInt8 × Int) : Bool := Lib.hasPrefix L x.1 && endAt T (i + 2 + x.1.length)
def namesP (T : ByteArray) (i : Nat) (L : List UInt8) : List (List UInt8 × Int) → Int × Int × Int × Nat
  | [] => (6, 0, 0, 0)
  | x :: r => if nameFits T i L x = true then (0, 11, x.2, i + 2 + x.1.length) else namesP T i L r

def NamesAt (nb : Nat) (w : World) : Prop := w.heap[nb]? = some (.cells #[.string ⟨#[115, 112, 97, 99, 101]⟩, .int .i64 32, .string ⟨#[110, 101, 119, 108, 105, 110, 101]⟩, .int .i64 10, .string ⟨#[116, 97, 98]⟩, .int .i64 9, .string ⟨#[110, 117, 108]⟩, .int .i64 0] 186 (0, 0))

structure NamesI (b tb nb : Nat) (T : ByteArray) (i : Nat) (lc : Int × Int) (kl : Int × Int × Int) (w : World) (L : List UInt8) (R : Int × Int × Int × Nat) (j : Nat) (w' : World) : Prop where
  lex : LexAt b T i lc.1 lc.2 w'
  tok : TokAt tb 11 0 ⟨#[]⟩ kl.1 kl.2.1 kl.2.2 w'
  nam : NamesAt nb w'
  keep : KeepB w w' tb none
  rest : namesP T i L (names4.drop j) = R
  le : j ≤ 4

set_option maxRecDepth 16000 in
theorem ends_same (b : Nat) (T : ByteArray) (i k : Nat) (ln cl : Int) (w : World) (h : LexAt b T i ln cl w) :
    Calls Tryd.prog 107 #[.pointer (some ⟨b, 0, none⟩), .int .i64 (k : Nat)] w fun e w' => e = .returned (.bool (endAt T k)) ∧ w' = w := by
  have c0 : w.cell? ⟨b, 0, none⟩ = some (.string T) := blk_cell h 0
  by_cases hlt : k < T.size
  · have hi' : (k : Int) < (T.size : Nat) := by omega
    obtain ⟨x, hx⟩ : ∃ x, T[k]'hlt = x := ⟨_, rfl⟩
    have hbx : ∀ h, T[k]'h = x := fun _ => hx
    have e : endAt T k = endB x := by rw [endAt, dif_pos hlt, hx]
    have x256 : x.toNat < 256 := x.toNat_lt
    rw [e]
    clear h e hx
    cases hB : blankB x
    · have HI := Lib.hid (end_index x hB)
      have HB := Lib.hid (blank_any x)
      rw [hB] at HB
      clear hB
      go_enter Tryd.func107, Tryd.ntmps107
      go_wp2_with fail
      refine (HB.out _).mono ?_
      rintro e w' ⟨rfl, rfl⟩
      go_wp2_with fail
      refine (indexbyte_any _ _ _).mono ?_
      rintro e w' ⟨rfl, rfl⟩
      go_wp2_with fail
      go_ret
      exact ⟨by rw [← HI.out]; simp [show ¬ T.size ≤ k by omega], rfl⟩
    · have HB := Lib.hid (blank_any x)
      rw [hB] at HB
      rw [show endB x = true by rw [endB, hB]; rfl]
      clear hB
      go_enter Tryd.func107, Tryd.ntmps107
      go_wp2_with fail
      refine (HB.out _).mono ?_
      rintro e w' ⟨rfl, rfl⟩
      go_wp2_with fail
      go_ret
      exact ⟨rfl, rfl⟩
  · have hi' : ¬ (k : Int) < (T.size : Nat) := by omega
    have e : endAt T k = true := by rw [endAt, dif_neg hlt]
    rw [e]
    clear h e
    go_enter Tryd.func107, Tryd.ntmps107
    go_wp2_with fail
    go_ret
    exact ⟨rfl, rfl⟩

theorem ends_same_at (b : Nat) (T : ByteArray) (i k : Nat) (ln cl : Int) (z : Int) (hz : z = (k : Nat)) (v : Bool) (hv : endAt T k = v) (w : World) (h : LexAt b T i ln cl w) :
    Calls Tryd.prog 107 #[.pointer (some ⟨b, 0, none⟩), .int .i64 z] w fun e w' => e = .returned (.bool v) ∧ w' = w := by
  subst hz
  subst hv
  exact ends_same b T i k ln cl w h

set_option maxRecDepth 400000 in
set_option maxHeartbeats 8000000 in
theorem sharp_names1 (b tb : Nat) (T : ByteArray) (i : Nat) (ln cl k tl tc nx : Int) (w : World) (h : LexAt b T i ln cl w) (ht : TokAt tb k 0 ⟨#[]⟩ tl tc nx w) (hi : i < T.size) (hT : T.size ≤ 1000000000) (S S1 : ByteArray) (L : List UInt8)
    (hS : T.extract (i + 1) T.size = S) (hS1 : S.extract 1 S.size = S1) (hL : S1.data.toList = L) (ez : ∀ h, S[0]'h = 92) (hcase : S.size = 1) :
    Calls Tryd.prog 86 #[.pointer (some ⟨b, 0, none⟩), .pointer (some ⟨tb, 0, none⟩)] w (SharpTo b tb T i ln cl tl tc (namesP T i L names4) w) := by
  obtain ⟨R, hR⟩ : ∃ R, namesP T i L names4 = R := ⟨_, rfl⟩
  have HR := Lib.hid hR
  rw [hR]
  clear hR
  have hne : b ≠ tb := by
    intro e
    subst e
    unfold LexAt at h; unfold TokAt at ht
    rw [h] at ht
    simp at ht
  have c0 : w.cell? ⟨b, 0, none⟩ = some (.string T) := blk_cell h 0
  have c1 : w.cell? ⟨b, 1, none⟩ = some (.int .i64 (i : Nat)) := blk_cell h 1
  have HL := Lib.hid h
  have HTk := Lib.hid ht
  have HNE := Lib.hid hne
  have hi1 : (i : Int) + 1 ≤ (T.size : Nat) := by omega
  have HS := Lib.hid hS
  have HP := Lib.hid (fun (n : ByteArray) (v : Bool) (w' : World) (hv : Lib.hasPrefix L n.data.toList = v) => show Calls Tryd.prog 108 #[.string S1, .string n] w' (fun e w'' => e = .returned (.bool v) ∧ w'' = w') by
    have := Tryd.strings_HasPrefix S1 n w'
    rw [hL, hv] at this
    exact this)
  have hs0 : ¬ S.toList = [] := by
    intro e
    have e2 : S.size = S.toList.length := by rw [ByteArray.toList_eq]; simp
    rw [e2, e] at hcase
    cases hcase
  have hs0b : (S.toList == []) = false := by simpa using hs0
  have t0 : w.cell? ⟨tb, 0, none⟩ = some (.int .i64 k) := blk_cell ht 0
  have f0 := blk_frozen ht 0
  have hpos : (0 : Int) < (S.size : Nat) := by omega
  have hp1 : ¬ (1 : Int) < (S.size : Nat) := by omega
  have hz1 : 0 < S.size := by omega
  have hz2 : 1 ≤ S.size := by omega
  have hz3 : (1 : Int) ≤ (S.size : Nat) := by omega
  clear h ht hne hS hL hcase
  go_enter Tryd.func86, Tryd.ntmps86
  go_wp2_with fail
  go_region
  rw [HS.out]
  (go_wp2_with fail; repeat (go_region; go_wp2_with fail))
  have HI : Hid (NamesI b tb w.heap.size T i (ln, cl) (tl, tc, nx) w L R 0 ((w.setCell ⟨tb, 0, none⟩ (.int .i64 11)).alloc (.cells #[.string ⟨#[115, 112, 97, 99, 101]⟩, .int .i64 32, .string ⟨#[110, 101, 119, 108, 105, 110, 101]⟩, .int .i64 10, .string ⟨#[116, 97, 98]⟩, .int .i64 9, .string ⟨#[110, 117, 108]⟩, .int .i64 0] 186)).drew) :=
    Lib.hid ⟨blk_drew (blk_alloc (blk_far HL.out HNE.out _) _), blk_drew (blk_alloc (blk_set HTk.out 0 _) _), by
      have := blk_new (w.setCell ⟨tb, 0, none⟩ (.int .i64 11)) (.cells #[.string ⟨#[115, 112, 97, 99, 101]⟩, .int .i64 32, .string ⟨#[110, 101, 119, 108, 105, 110, 101]⟩, .int .i64 10, .string ⟨#[116, 97, 98]⟩, .int .i64 9, .string ⟨#[110, 117, 108]⟩, .int .i64 0] 186 (0, 0))
      rw [show (w.setCell ⟨tb, 0, none⟩ (.int .i64 11)).heap.size = w.heap.size by simp] at this
      exact blk_drew this, keep_allocB ((KeepB.refl w tb none).set_ 0 _) _, HR.out, by omega⟩
  clear c0 c1 t0 f0
  go_loopg [104] 4 (fun gk v w' => ∃ (j : Nat), v = .int .i64 (j : Nat) ∧ gk = 4 - j ∧ Hid (NamesI b tb w.heap.size T i (ln, cl) (tl, tc, nx) w L R j w'))
  case atStart => exact ⟨0, rfl, rfl, HI⟩
  case round =>
    clear HI HR
    obtain ⟨j, rfl, rfl, HJ⟩ := hrel
    have hj := HJ.out.le
    have d1 : wr.cell? ⟨b, 1, none⟩ = some (.int .i64 (i : Nat)) := blk_cell HJ.out.lex 1
    by_cases h0 : j = 0
    · subst h0
      have n0 : wr.cell? ⟨w.heap.size, 0, none⟩ = some (.string ⟨#[115, 112, 97, 99, 101]⟩) := blk_cell HJ.out.nam 0
      have n1 : wr.cell? ⟨w.heap.size, 1, none⟩ = some (.int .i64 32) := blk_cell HJ.out.nam 1
      have hx0 : ((wr.alloc (.cells #[.string ⟨#[115, 112, 97, 99, 101]⟩, .int .i64 32] 186)).drew).cell? ⟨wr.heap.size, 0, none⟩ = some (.string ⟨#[115, 112, 97, 99, 101]⟩) := blk_cell (blk_drew (blk_new wr (.cells #[.string ⟨#[115, 112, 97, 99, 101]⟩, .int .i64 32] 186 (0, 0)))) 0
      have lb : b < wr.heap.size := blk_lt HJ.out.lex
      have dx1 : ((wr.alloc (.cells #[.string ⟨#[115, 112, 97, 99, 101]⟩, .int .i64 32] 186))).cell? ⟨b, 1, none⟩ = some (.int .i64 (i : Nat)) := blk_cell (blk_alloc HJ.out.lex _) 1
      have HX1 := Lib.hid (blk_drew (blk_new wr (.cells #[.string ⟨#[115, 112, 97, 99, 101]⟩, .int .i64 32] 186 (0, 0))))
      have HJ2 := Lib.hid (show NamesI b tb w.heap.size T i (ln, cl) (tl, tc, nx) w L R 0 ((wr.alloc (.cells #[.string ⟨#[115, 112, 97, 99, 101]⟩, .int .i64 32] 186)).drew) from
        ⟨blk_drew (blk_alloc HJ.out.lex _), blk_drew (blk_alloc HJ.out.tok _), blk_drew (blk_alloc HJ.out.nam _), keep_allocB HJ.out.keep _, HJ.out.rest, by omega⟩)
      have hp : Lib.hasPrefix L [115, 112, 97, 99, 101] = true ∨ Lib.hasPrefix L [115, 112, 97, 99, 101] = false := by cases Lib.hasPrefix L [115, 112, 97, 99, 101] <;> simp
      rcases hp with hp | hp
      · have hc := Lib.hid (fun w' => HP.out ⟨#[115, 112, 97, 99, 101]⟩ _ w' hp)
        have hq : endAt T (i + 2 + 5) = true ∨ endAt T (i + 2 + 5) = false := by cases endAt T (i + 2 + 5) <;> simp
        rcases hq with hq | hq
        · have hen := Lib.hid (fun w' => ends_same_at b T i (i + 2 + 5) ln cl ((i : Int) + 2 + 5) (by omega) _ hq w')
          have HE := Lib.hid (show R = (0, 11, 32, i + 2 + 5) by
            rw [← HJ.out.rest]
            show namesP T i L (([115, 112, 97, 99, 101], 32) :: names4.drop 1) = _
            rw [namesP, if_pos (by simp [nameFits, hp, hq])]
            rfl)
          clear hp HJ hq
          go_wp2_with fail
          go_quiet (first | (go_at_call 108; exact Calls.quiet_of_same (hc.out _)) | (go_at_call 107; exact Calls.quiet_of_same (hen.out _ HJ2.out.lex)))
          have e1 : ((wr.alloc (.cells #[.string ⟨#[115, 112, 97, 99, 101]⟩, .int .i64 32] 186))).cell? ⟨tb, 1, none⟩ = some (.int .i64 0) := blk_cell (blk_drew HJ2.out.tok) 1
          have e5 : ((wr.alloc (.cells #[.string ⟨#[115, 112, 97, 99, 101]⟩, .int .i64 32] 186))).cell? ⟨tb, 5, none⟩ = some (.int .i64 nx) := blk_cell (blk_drew HJ2.out.tok) 5
          have k1 : ((wr.alloc (.cells #[.string ⟨#[115, 112, 97, 99, 101]⟩, .int .i64 32] 186))).frozen? ⟨tb, 1, none⟩ = false := blk_frozen (blk_drew HJ2.out.tok) 1
          have k5 : ((wr.alloc (.cells #[.string ⟨#[115, 112, 97, 99, 101]⟩, .int .i64 32] 186))).frozen? ⟨tb, 5, none⟩ = false := blk_frozen (blk_drew HJ2.out.tok) 5
          (go_wp2_with fail; repeat (go_region; go_wp2_with fail))
          go_ret
          refine ⟨by rw [HE.out]; rfl, blk_far (blk_far HJ2.out.lex HNE.out _) HNE.out _, (HJ2.out.keep.set_ 1 _).set_ 5 _, fun h => absurd (by rw [HE.out]) h, fun _ => ?_⟩
          rw [HE.out]
          exact blk_set (blk_set HJ2.out.tok 1 _) 5 _
        · have hen := Lib.hid (fun w' => ends_same_at b T i (i + 2 + 5) ln cl ((i : Int) + 2 + 5) (by omega) _ hq w')
          have HN := Lib.hid (show namesP T i L (names4.drop 1) = R by
            rw [← HJ.out.rest]
            show _ = namesP T i L (([115, 112, 97, 99, 101], 32) :: names4.drop 1)
            rw [namesP, if_neg (by simp [nameFits, hq])])
          clear hp HJ hq
          go_wp2_with fail
          go_quiet (first | (go_at_call 108; exact Calls.quiet_of_same (hc.out _)) | (go_at_call 107; exact Calls.quiet_of_same (hen.out _ HJ2.out.lex)))
          all_goals go_wp2_with fail
          all_goals go_roundg (4 - 1)
          all_goals first | (show 4 - 1 < 4 - 0; omega) | exact ⟨1, rfl, rfl, Lib.hid ⟨HJ2.out.lex, HJ2.out.tok, HJ2.out.nam, HJ2.out.keep, HN.out, by omega⟩⟩
      · have hc := Lib.hid (fun w' => HP.out ⟨#[115, 112, 97, 99, 101]⟩ _ w' hp)
        have HN := Lib.hid (show namesP T i L (names4.drop 1) = R by
          rw [← HJ.out.rest]
          show _ = namesP T i L (([115, 112, 97, 99, 101], 32) :: names4.drop 1)
          rw [namesP, if_neg (by simp [nameFits, hp])])
        clear hp HJ
        go_wp2_with fail
        go_quiet ((go_at_call 108; exact Calls.quiet_of_same (hc.out _)))
        all_goals go_wp2_with fail
        all_goals go_roundg (4 - 1)
        all_goals first | (show 4 - 1 < 4 - 0; omega) | exact ⟨1, rfl, rfl, Lib.hid ⟨HJ2.out.lex, HJ2.out.tok, HJ2.out.nam, HJ2.out.keep, HN.out, by omega⟩⟩
    by_cases h1 : j = 1
    · subst h1
      have n0 : wr.cell? ⟨w.heap.size, 2, none⟩ = some (.string ⟨#[110, 101, 119, 108, 105, 110, 101]⟩) := blk_cell HJ.out.nam 2
      have n1 : wr.cell? ⟨w.heap.size, 3, none⟩ = some (.int .i64 10) := blk_cell HJ.out.nam 3
      have hx0 : ((wr.alloc (.cells #[.string ⟨#[110, 101, 119, 108, 105, 110, 101]⟩, .int .i64 10] 186)).drew).cell? ⟨wr.heap.size, 0, none⟩ = some (.string ⟨#[110, 101, 119, 108, 105, 110, 101]⟩) := blk_cell (blk_drew (blk_new wr (.cells #[.string ⟨#[110, 101, 119, 108, 105, 110, 101]⟩, .int .i64 10] 186 (0, 0)))) 0
      have lb : b < wr.heap.size := blk_lt HJ.out.lex
      have dx1 : ((wr.alloc (.cells #[.string ⟨#[110, 101, 119, 108, 105, 110, 101]⟩, .int .i64 10] 186))).cell? ⟨b, 1, none⟩ = some (.int .i64 (i : Nat)) := blk_cell (blk_alloc HJ.out.lex _) 1
      have HX1 := Lib.hid (blk_drew (blk_new wr (.cells #[.string ⟨#[110, 101, 119, 108, 105, 110, 101]⟩, .int .i64 10] 186 (0, 0))))
      have HJ2 := Lib.hid (show NamesI b tb w.heap.size T i (ln, cl) (tl, tc, nx) w L R 1 ((wr.alloc (.cells #[.string ⟨#[110, 101, 119, 108, 105, 110, 101]⟩, .int .i64 10] 186)).drew) from
        ⟨blk_drew (blk_alloc HJ.out.lex _), blk_drew (blk_alloc HJ.out.tok _), blk_drew (blk_alloc HJ.out.nam _), keep_allocB HJ.out.keep _, HJ.out.rest, by omega⟩)
      have hp : Lib.hasPrefix L [110, 101, 119, 108, 105, 110, 101] = true ∨ Lib.hasPrefix L [110, 101, 119, 108, 105, 110, 101] = false := by cases Lib.hasPrefix L [110, 101, 119, 108, 105, 110, 101] <;> simp
      rcases hp with hp | hp
      · have hc := Lib.hid (fun w' => HP.out ⟨#[110, 101, 119, 108, 105, 110, 101]⟩ _ w' hp)
        have hq : endAt T (i + 2 + 7) = true ∨ endAt T (i + 2 + 7) = false := by cases endAt T (i + 2 + 7) <;> simp
        rcases hq with hq | hq
        · have hen := Lib.hid (fun w' => ends_same_at b T i (i + 2 + 7) ln cl ((i : Int) + 2 + 7) (by omega) _ hq w')
          have HE := Lib.hid (show R = (0, 11, 10, i + 2 + 7) by
            rw [← HJ.out.rest]
            show namesP T i L (([110, 101, 119, 108, 105, 110, 101], 10) :: names4.drop 2) = _
            rw [namesP, if_pos (by simp [nameFits, hp, hq])]
            rfl)
          clear hp HJ hq
          go_wp2_with fail
          go_quiet (first | (go_at_call 108; exact Calls.quiet_of_same (hc.out _)) | (go_at_call 107; exact Calls.quiet_of_same (hen.out _ HJ2.out.lex)))
          have e1 : ((wr.alloc (.cells #[.string ⟨#[110, 101, 119, 108, 105, 110, 101]⟩, .int .i64 10] 186))).cell? ⟨tb, 1, none⟩ = some (.int .i64 0) := blk_cell (blk_drew HJ2.out.tok) 1
          have e5 : ((wr.alloc (.cells #[.string ⟨#[110, 101, 119, 108, 105, 110, 101]⟩, .int .i64 10] 186))).cell? ⟨tb, 5, none⟩ = some (.int .i64 nx) := blk_cell (blk_drew HJ2.out.tok) 5
          have k1 : ((wr.alloc (.cells #[.string ⟨#[110, 101, 119, 108, 105, 110, 101]⟩, .int .i64 10] 186))).frozen? ⟨tb, 1, none⟩ = false := blk_frozen (blk_drew HJ2.out.tok) 1
          have k5 : ((wr.alloc (.cells #[.string ⟨#[110, 101, 119, 108, 105, 110, 101]⟩, .int .i64 10] 186))).frozen? ⟨tb, 5, none⟩ = false := blk_frozen (blk_drew HJ2.out.tok) 5
          (go_wp2_with fail; repeat (go_region; go_wp2_with fail))
          go_ret
          refine ⟨by rw [HE.out]; rfl, blk_far (blk_far HJ2.out.lex HNE.out _) HNE.out _, (HJ2.out.keep.set_ 1 _).set_ 5 _, fun h => absurd (by rw [HE.out]) h, fun _ => ?_⟩
          rw [HE.out]
          exact blk_set (blk_set HJ2.out.tok 1 _) 5 _
        · have hen := Lib.hid (fun w' => ends_same_at b T i (i + 2 + 7) ln cl ((i : Int) + 2 + 7) (by omega) _ hq w')
          have HN := Lib.hid (show namesP T i L (names4.drop 2) = R by
            rw [← HJ.out.rest]
            show _ = namesP T i L (([110, 101, 119, 108, 105, 110, 101], 10) :: names4.drop 2)
            rw [namesP, if_neg (by simp [nameFits, hq])])
          clear hp HJ hq
          go_wp2_with fail
          go_quiet (first | (go_at_call 108; exact Calls.quiet_of_same (hc.out _)) | (go_at_call 107; exact Calls.quiet_of_same (hen.out _ HJ2.out.lex)))
          all_goals go_wp2_with fail
          all_goals go_roundg (4 - 2)
          all_goals first | (show 4 - 2 < 4 - 1; omega) | exact ⟨2, rfl, rfl, Lib.hid ⟨HJ2.out.lex, HJ2.out.tok, HJ2.out.nam, HJ2.out.keep, HN.out, by omega⟩⟩
      · have hc := Lib.hid (fun w' => HP.out ⟨#[110, 101, 119, 108, 105, 110, 101]⟩ _ w' hp)
        have HN := Lib.hid (show namesP T i L (names4.drop 2) = R by
          rw [← HJ.out.rest]
          show _ = namesP T i L (([110, 101, 119, 108, 105, 110, 101], 10) :: names4.drop 2)
          rw [namesP, if_neg (by simp [nameFits, hp])])
        clear hp HJ
        go_wp2_with fail
        go_quiet ((go_at_call 108; exact Calls.quiet_of_same (hc.out _)))
        all_goals go_wp2_with fail
        all_goals go_roundg (4 - 2)
        all_goals first | (show 4 - 2 < 4 - 1; omega) | exact ⟨2, rfl, rfl, Lib.hid ⟨HJ2.out.lex, HJ2.out.tok, HJ2.out.nam, HJ2.out.keep, HN.out, by omega⟩⟩
    by_cases h2 : j = 2
    · subst h2
      have n0 : wr.cell? ⟨w.heap.size, 4, none⟩ = some (.string ⟨#[116, 97, 98]⟩) := blk_cell HJ.out.nam 4
      have n1 : wr.cell? ⟨w.heap.size, 5, none⟩ = some (.int .i64 9) := blk_cell HJ.out.nam 5
      have hx0 : ((wr.alloc (.cells #[.string ⟨#[116, 97, 98]⟩, .int .i64 9] 186)).drew).cell? ⟨wr.heap.size, 0, none⟩ = some (.string ⟨#[116, 97, 98]⟩) := blk_cell (blk_drew (blk_new wr (.cells #[.string ⟨#[116, 97, 98]⟩, .int .i64 9] 186 (0, 0)))) 0
      have lb : b < wr.heap.size := blk_lt HJ.out.lex
      have dx1 : ((wr.alloc (.cells #[.string ⟨#[116, 97, 98]⟩, .int .i64 9] 186))).cell? ⟨b, 1, none⟩ = some (.int .i64 (i : Nat)) := blk_cell (blk_alloc HJ.out.lex _) 1
      have HX1 := Lib.hid (blk_drew (blk_new wr (.cells #[.string ⟨#[116, 97, 98]⟩, .int .i64 9] 186 (0, 0))))
      have HJ2 := Lib.hid (show NamesI b tb w.heap.size T i (ln, cl) (tl, tc, nx) w L R 2 ((wr.alloc (.cells #[.string ⟨#[116, 97, 98]⟩, .int .i64 9] 186)).drew) from
        ⟨blk_drew (blk_alloc HJ.out.lex _), blk_drew (blk_alloc HJ.out.tok _), blk_drew (blk_alloc HJ.out.nam _), keep_allocB HJ.out.keep _, HJ.out.rest, by omega⟩)
      have hp : Lib.hasPrefix L [116, 97, 98] = true ∨ Lib.hasPrefix L [116, 97, 98] = false := by cases Lib.hasPrefix L [116, 97, 98] <;> simp
      rcases hp with hp | hp
      · have hc := Lib.hid (fun w' => HP.out ⟨#[116, 97, 98]⟩ _ w' hp)
        have hq : endAt T (i + 2 + 3) = true ∨ endAt T (i + 2 + 3) = false := by cases endAt T (i + 2 + 3) <;> simp
        rcases hq with hq | hq
        · have hen := Lib.hid (fun w' => ends_same_at b T i (i + 2 + 3) ln cl ((i : Int) + 2 + 3) (by omega) _ hq w')
          have HE := Lib.hid (show R = (0, 11, 9, i + 2 + 3) by
            rw [← HJ.out.rest]
            show namesP T i L (([116, 97, 98], 9) :: names4.drop 3) = _
            rw [namesP, if_pos (by simp [nameFits, hp, hq])]
            rfl)
          clear hp HJ hq
          go_wp2_with fail
          go_quiet (first | (go_at_call 108; exact Calls.quiet_of_same (hc.out _)) | (go_at_call 107; exact Calls.quiet_of_same (hen.out _ HJ2.out.lex)))
          have e1 : ((wr.alloc (.cells #[.string ⟨#[116, 97, 98]⟩, .int .i64 9] 186))).cell? ⟨tb, 1, none⟩ = some (.int .i64 0) := blk_cell (blk_drew HJ2.out.tok) 1
          have e5 : ((wr.alloc (.cells #[.string ⟨#[116, 97, 98]⟩, .int .i64 9] 186))).cell? ⟨tb, 5, none⟩ = some (.int .i64 nx) := blk_cell (blk_drew HJ2.out.tok) 5
          have k1 : ((wr.alloc (.cells #[.string ⟨#[116, 97, 98]⟩, .int .i64 9] 186))).frozen? ⟨tb, 1, none⟩ = false := blk_frozen (blk_drew HJ2.out.tok) 1
          have k5 : ((wr.alloc (.cells #[.string ⟨#[116, 97, 98]⟩, .int .i64 9] 186))).frozen? ⟨tb, 5, none⟩ = false := blk_frozen (blk_drew HJ2.out.tok) 5
          (go_wp2_with fail; repeat (go_region; go_wp2_with fail))
          go_ret
          refine ⟨by rw [HE.out]; rfl, blk_far (blk_far HJ2.out.lex HNE.out _) HNE.out _, (HJ2.out.keep.set_ 1 _).set_ 5 _, fun h => absurd (by rw [HE.out]) h, fun _ => ?_⟩
          rw [HE.out]
          exact blk_set (blk_set HJ2.out.tok 1 _) 5 _
        · have hen := Lib.hid (fun w' => ends_same_at b T i (i + 2 + 3) ln cl ((i : Int) + 2 + 3) (by omega) _ hq w')
          have HN := Lib.hid (show namesP T i L (names4.drop 3) = R by
            rw [← HJ.out.rest]
            show _ = namesP T i L (([116, 97, 98], 9) :: names4.drop 3)
            rw [namesP, if_neg (by simp [nameFits, hq])])
          clear hp HJ hq
          go_wp2_with fail
          go_quiet (first | (go_at_call 108; exact Calls.quiet_of_same (hc.out _)) | (go_at_call 107; exact Calls.quiet_of_same (hen.out _ HJ2.out.lex)))
          all_goals go_wp2_with fail
          all_goals go_roundg (4 - 3)
          all_goals first | (show 4 - 3 < 4 - 2; omega) | exact ⟨3, rfl, rfl, Lib.hid ⟨HJ2.out.lex, HJ2.out.tok, HJ2.out.nam, HJ2.out.keep, HN.out, by omega⟩⟩
      · have hc := Lib.hid (fun w' => HP.out ⟨#[116, 97, 98]⟩ _ w' hp)
        have HN := Lib.hid (show namesP T i L (names4.drop 3) = R by
          rw [← HJ.out.rest]
          show _ = namesP T i L (([116, 97, 98], 9) :: names4.drop 3)
          rw [namesP, if_neg (by simp [nameFits, hp])])
        clear hp HJ
        go_wp2_with fail
        go_quiet ((go_at_call 108; exact Calls.quiet_of_same (hc.out _)))
        all_goals go_wp2_with fail
        all_goals go_roundg (4 - 3)
        all_goals first | (show 4 - 3 < 4 - 2; omega) | exact ⟨3, rfl, rfl, Lib.hid ⟨HJ2.out.lex, HJ2.out.tok, HJ2.out.nam, HJ2.out.keep, HN.out, by omega⟩⟩
    by_cases h3 : j = 3
    · subst h3
      have n0 : wr.cell? ⟨w.heap.size, 6, none⟩ = some (.string ⟨#[110, 117, 108]⟩) := blk_cell HJ.out.nam 6
      have n1 : wr.cell? ⟨w.heap.size, 7, none⟩ = some (.int .i64 0) := blk_cell HJ.out.nam 7
      have hx0 : ((wr.alloc (.cells #[.string ⟨#[110, 117, 108]⟩, .int .i64 0] 186)).drew).cell? ⟨wr.heap.size, 0, none⟩ = some (.string ⟨#[110, 117, 108]⟩) := blk_cell (blk_drew (blk_new wr (.cells #[.string ⟨#[110, 117, 108]⟩, .int .i64 0] 186 (0, 0)))) 0
      have lb : b < wr.heap.size := blk_lt HJ.out.lex
      have dx1 : ((wr.alloc (.cells #[.string ⟨#[110, 117, 108]⟩, .int .i64 0] 186))).cell? ⟨b, 1, none⟩ = some (.int .i64 (i : Nat)) := blk_cell (blk_alloc HJ.out.lex _) 1
      have HX1 := Lib.hid (blk_drew (blk_new wr (.cells #[.string ⟨#[110, 117, 108]⟩, .int .i64 0] 186 (0, 0))))
      have HJ2 := Lib.hid (show NamesI b tb w.heap.size T i (ln, cl) (tl, tc, nx) w L R 3 ((wr.alloc (.cells #[.string ⟨#[110, 117, 108]⟩, .int .i64 0] 186)).drew) from
        ⟨blk_drew (blk_alloc HJ.out.lex _), blk_drew (blk_alloc HJ.out.tok _), blk_drew (blk_alloc HJ.out.nam _), keep_allocB HJ.out.keep _, HJ.out.rest, by omega⟩)
      have hp : Lib.hasPrefix L [110, 117, 108] = true ∨ Lib.hasPrefix L [110, 117, 108] = false := by cases Lib.hasPrefix L [110, 117, 108] <;> simp
      rcases hp with hp | hp
      · have hc := Lib.hid (fun w' => HP.out ⟨#[110, 117, 108]⟩ _ w' hp)
        have hq : endAt T (i + 2 + 3) = true ∨ endAt T (i + 2 + 3) = false := by cases endAt T (i + 2 + 3) <;> simp
        rcases hq with hq | hq
        · have hen := Lib.hid (fun w' => ends_same_at b T i (i + 2 + 3) ln cl ((i : Int) + 2 + 3) (by omega) _ hq w')
          have HE := Lib.hid (show R = (0, 11, 0, i + 2 + 3) by
            rw [← HJ.out.rest]
            show namesP T i L (([110, 117, 108], 0) :: names4.drop 4) = _
            rw [namesP, if_pos (by simp [nameFits, hp, hq])]
            rfl)
          clear hp HJ hq
          go_wp2_with fail
          go_quiet (first | (go_at_call 108; exact Calls.quiet_of_same (hc.out _)) | (go_at_call 107; exact Calls.quiet_of_same (hen.out _ HJ2.out.lex)))
          have e1 : ((wr.alloc (.cells #[.string ⟨#[110, 117, 108]⟩, .int .i64 0] 186))).cell? ⟨tb, 1, none⟩ = some (.int .i64 0) := blk_cell (blk_drew HJ2.out.tok) 1
          have e5 : ((wr.alloc (.cells #[.string ⟨#[110, 117, 108]⟩, .int .i64 0] 186))).cell? ⟨tb, 5, none⟩ = some (.int .i64 nx) := blk_cell (blk_drew HJ2.out.tok) 5
          have k1 : ((wr.alloc (.cells #[.string ⟨#[110, 117, 108]⟩, .int .i64 0] 186))).frozen? ⟨tb, 1, none⟩ = false := blk_frozen (blk_drew HJ2.out.tok) 1
          have k5 : ((wr.alloc (.cells #[.string ⟨#[110, 117, 108]⟩, .int .i64 0] 186))).frozen? ⟨tb, 5, none⟩ = false := blk_frozen (blk_drew HJ2.out.tok) 5
          (go_wp2_with fail; repeat (go_region; go_wp2_with fail))
          go_ret
          refine ⟨by rw [HE.out]; rfl, blk_far (blk_far HJ2.out.lex HNE.out _) HNE.out _, (HJ2.out.keep.set_ 1 _).set_ 5 _, fun h => absurd (by rw [HE.out]) h, fun _ => ?_⟩
          rw [HE.out]
          exact blk_set (blk_set HJ2.out.tok 1 _) 5 _
        · have hen := Lib.hid (fun w' => ends_same_at b T i (i + 2 + 3) ln cl ((i : Int) + 2 + 3) (by omega) _ hq w')
          have HN := Lib.hid (show namesP T i L (names4.drop 4) = R by
            rw [← HJ.out.rest]
            show _ = namesP T i L (([110, 117, 108], 0) :: names4.drop 4)
            rw [namesP, if_neg (by simp [nameFits, hq])])
          clear hp HJ hq
          go_wp2_with fail
          go_quiet (first | (go_at_call 108; exact Calls.quiet_of_same (hc.out _)) | (go_at_call 107; exact Calls.quiet_of_same (hen.out _ HJ2.out.lex)))
          all_goals go_wp2_with fail
          all_goals go_roundg (4 - 4)
          all_goals first | (show 4 - 4 < 4 - 3; omega) | exact ⟨4, rfl, rfl, Lib.hid ⟨HJ2.out.lex, HJ2.out.tok, HJ2.out.nam, HJ2.out.keep, HN.out, by omega⟩⟩
      · have hc := Lib.hid (fun w' => HP.out ⟨#[110, 117, 108]⟩ _ w' hp)
        have HN := Lib.hid (show namesP T i L (names4.drop 4) = R by
          rw [← HJ.out.rest]
          show _ = namesP T i L (([110, 117, 108], 0) :: names4.drop 4)
          rw [namesP, if_neg (by simp [nameFits, hp])])
        clear hp HJ
        go_wp2_with fail
        go_quiet ((go_at_call 108; exact Calls.quiet_of_same (hc.out _)))
        all_goals go_wp2_with fail
        all_goals go_roundg (4 - 4)
        all_goals first | (show 4 - 4 < 4 - 3; omega) | exact ⟨4, rfl, rfl, Lib.hid ⟨HJ2.out.lex, HJ2.out.tok, HJ2.out.nam, HJ2.out.keep, HN.out, by omega⟩⟩
    · obtain rfl : j = 4 := by omega
      have HE := Lib.hid (show R = (6, 0, 0, 0) from HJ.out.rest.symm)
      go_wp2_with fail
      go_ret
      refine ⟨by rw [HE.out]; rfl, HJ.out.lex, HJ.out.keep, fun _ => ⟨11, 0, ⟨#[]⟩, nx, HJ.out.tok⟩, fun h => ?_⟩
      rw [HE.out] at h; cases h
end Go.Proofs.YthighbbikpnpgaaDoor

/-! LeK -/
namespace Go.Proofs.YthighbbikpnpgaaDoor
open Go.RowKit Go.Proofs.YthighbbikpnpgaaDoorW.PrintWords

set_option maxRecDepth 400000 in
set_option maxHeartbeats 8000000 in
theorem sharp_names2 (b tb : Nat) (T : ByteArray) (i : Nat) (ln cl k tl tc nx : Int) (w : World) (h : LexAt b T i ln cl w) (ht : TokAt tb k 0 ⟨#[]⟩ tl tc nx w) (hi : i < T.size) (hT : T.size ≤ 1000000000) (S S1 : ByteArray) (L : List UInt8)
    (hS : T.extract (i + 1) T.size = S) (hS1 : S.extract 1 S.size = S1) (hL : S1.data.toList = L) (ez : ∀ h, S[0]'h = 92) (hcase : 2 ≤ S.size) (y : UInt8) (ey : ∀ h, S[1]'h = y) (hy : y.toNat ≤ 32) :
    Calls Tryd.prog 86 #[.pointer (some ⟨b, 0, none⟩), .pointer (some ⟨tb, 0, none⟩)] w (SharpTo b tb T i ln cl tl tc (namesP T i L names4) w) := by
  obtain ⟨R, hR⟩ : ∃ R, namesP T i L names4 = R := ⟨_, rfl⟩
  have HR := Lib.hid hR
  rw [hR]
  clear hR
  have hne : b ≠ tb := by
    intro e
    subst e
    unfold LexAt at h; unfold TokAt at ht
    rw [h] at ht
    simp at ht
  have c0 : w.cell? ⟨b, 0, none⟩ = some (.string T) := blk_cell h 0
  have c1 : w.cell? ⟨b, 1, none⟩ = some (.int .i64 (i : Nat)) := blk_cell h 1
  have HL := Lib.hid h
  have HTk := Lib.hid ht
  have HNE := Lib.hid hne
  have hi1 : (i : Int) + 1 ≤ (T.size : Nat) := by omega
  have HS := Lib.hid hS
  have HP := Lib.hid (fun (n : ByteArray) (v : Bool) (w' : World) (hv : Lib.hasPrefix L n.data.toList = v) => show Calls Tryd.prog 108 #[.string S1, .string n] w' (fun e w'' => e = .returned (.bool v) ∧ w'' = w') by
    have := Tryd.strings_HasPrefix S1 n w'
    rw [hL, hv] at this
    exact this)
  have hs0 : ¬ S.toList = [] := by
    intro e
    have e3 : S.data.toList.length = 0 := by rw [← ByteArray.toList_eq, e]; rfl
    have e4 : S.data.toList.length = S.size := by simp
    omega
  have hs0b : (S.toList == []) = false := by simpa using hs0
  have t0 : w.cell? ⟨tb, 0, none⟩ = some (.int .i64 k) := blk_cell ht 0
  have f0 := blk_frozen ht 0
  have hpos : (0 : Int) < (S.size : Nat) := by omega
  have hp1 : (1 : Int) < (S.size : Nat) := by omega
  have hp2 : 1 < S.size := by omega
  have y256 : y.toNat < 256 := y.toNat_lt
  have by32 : decide ((32 : Int) < y.toNat) = false := decide_eq_false (by omega)
  have hy' : ¬ (32 : Int) < y.toNat := by omega
  have hz1 : 0 < S.size := by omega
  have hz2 : 1 ≤ S.size := by omega
  have hz3 : (1 : Int) ≤ (S.size : Nat) := by omega
  clear h ht hne hS hL hcase hy
  go_enter Tryd.func86, Tryd.ntmps86
  go_wp2_with fail
  go_region
  rw [HS.out]
  (go_wp2_with fail; repeat (go_region; go_wp2_with fail))
  have HI : Hid (NamesI b tb w.heap.size T i (ln, cl) (tl, tc, nx) w L R 0 ((w.setCell ⟨tb, 0, none⟩ (.int .i64 11)).alloc (.cells #[.string ⟨#[115, 112, 97, 99, 101]⟩, .int .i64 32, .string ⟨#[110, 101, 119, 108, 105, 110, 101]⟩, .int .i64 10, .string ⟨#[116, 97, 98]⟩, .int .i64 9, .string ⟨#[110, 117, 108]⟩, .int .i64 0] 186)).drew) :=
    Lib.hid ⟨blk_drew (blk_alloc (blk_far HL.out HNE.out _) _), blk_drew (blk_alloc (blk_set HTk.out 0 _) _), by
      have := blk_new (w.setCell ⟨tb, 0, none⟩ (.int .i64 11)) (.cells #[.string ⟨#[115, 112, 97, 99, 101]⟩, .int .i64 32, .string ⟨#[110, 101, 119, 108, 105, 110, 101]⟩, .int .i64 10, .string ⟨#[116, 97, 98]⟩, .int .i64 9, .string ⟨#[110, 117, 108]⟩, .int .i64 0] 186 (0, 0))
      rw [show (w.setCell ⟨tb, 0, none⟩ (.int .i64 11)).heap.size = w.heap.size by simp] at this
      exact blk_drew this, keep_allocB ((KeepB.refl w tb none).set_ 0 _) _, HR.out, by omega⟩
  clear c0 c1 t0 f0
  go_loopg [104] 4 (fun gk v w' => ∃ (j : Nat), v = .int .i64 (j : Nat) ∧ gk = 4 - j ∧ Hid (NamesI b tb w.heap.size T i (ln, cl) (tl, tc, nx) w L R j w'))
  case atStart => exact ⟨0, rfl, rfl, HI⟩
  case round =>
    clear HI HR
    obtain ⟨j, rfl, rfl, HJ⟩ := hrel
    have hj := HJ.out.le
    have d1 : wr.cell? ⟨b, 1, none⟩ = some (.int .i64 (i : Nat)) := blk_cell HJ.out.lex 1
    by_cases h0 : j = 0
    · subst h0
      have n0 : wr.cell? ⟨w.heap.size, 0, none⟩ = some (.string ⟨#[115, 112, 97, 99, 101]⟩) := blk_cell HJ.out.nam 0
      have n1 : wr.cell? ⟨w.heap.size, 1, none⟩ = some (.int .i64 32) := blk_cell HJ.out.nam 1
      have hx0 : ((wr.alloc (.cells #[.string ⟨#[115, 112, 97, 99, 101]⟩, .int .i64 32] 186)).drew).cell? ⟨wr.heap.size, 0, none⟩ = some (.string ⟨#[115, 112, 97, 99, 101]⟩) := blk_cell (blk_drew (blk_new wr (.cells #[.string ⟨#[115, 112, 97, 99, 101]⟩, .int .i64 32] 186 (0, 0)))) 0
      have lb : b < wr.heap.size := blk_lt HJ.out.lex
      have dx1 : ((wr.alloc (.cells #[.string ⟨#[115, 112, 97, 99, 101]⟩, .int .i64 32] 186))).cell? ⟨b, 1, none⟩ = some (.int .i64 (i : Nat)) := blk_cell (blk_alloc HJ.out.lex _) 1
      have HX1 := Lib.hid (blk_drew (blk_new wr (.cells #[.string ⟨#[115, 112, 97, 99, 101]⟩, .int .i64 32] 186 (0, 0))))
      have HJ2 := Lib.hid (show NamesI b tb w.heap.size T i (ln, cl) (tl, tc, nx) w L R 0 ((wr.alloc (.cells #[.string ⟨#[115, 112, 97, 99, 101]⟩, .int .i64 32] 186)).drew) from
        ⟨blk_drew (blk_alloc HJ.out.lex _), blk_drew (blk_alloc HJ.out.tok _), blk_drew (blk_alloc HJ.out.nam _), keep_allocB HJ.out.keep _, HJ.out.rest, by omega⟩)
      have hp : Lib.hasPrefix L [115, 112, 97, 99, 101] = true ∨ Lib.hasPrefix L [115, 112, 97, 99, 101] = false := by cases Lib.hasPrefix L [115, 112, 97, 99, 101] <;> simp
      rcases hp with hp | hp
      · have hc := Lib.hid (fun w' => HP.out ⟨#[115, 112, 97, 99, 101]⟩ _ w' hp)
        have hq : endAt T (i + 2 + 5) = true ∨ endAt T (i + 2 + 5) = false := by cases endAt T (i + 2 + 5) <;> simp
        rcases hq with hq | hq
        · have hen := Lib.hid (fun w' => ends_same_at b T i (i + 2 + 5) ln cl ((i : Int) + 2 + 5) (by omega) _ hq w')
          have HE := Lib.hid (show R = (0, 11, 32, i + 2 + 5) by
            rw [← HJ.out.rest]
            show namesP T i L (([115, 112, 97, 99, 101], 32) :: names4.drop 1) = _
            rw [namesP, if_pos (by simp [nameFits, hp, hq])]
            rfl)
          clear hp HJ hq
          go_wp2_with fail
          go_quiet (first | (go_at_call 108; exact Calls.quiet_of_same (hc.out _)) | (go_at_call 107; exact Calls.quiet_of_same (hen.out _ HJ2.out.lex)))
          have e1 : ((wr.alloc (.cells #[.string ⟨#[115, 112, 97, 99, 101]⟩, .int .i64 32] 186))).cell? ⟨tb, 1, none⟩ = some (.int .i64 0) := blk_cell (blk_drew HJ2.out.tok) 1
          have e5 : ((wr.alloc (.cells #[.string ⟨#[115, 112, 97, 99, 101]⟩, .int .i64 32] 186))).cell? ⟨tb, 5, none⟩ = some (.int .i64 nx) := blk_cell (blk_drew HJ2.out.tok) 5
          have k1 : ((wr.alloc (.cells #[.string ⟨#[115, 112, 97, 99, 101]⟩, .int .i64 32] 186))).frozen? ⟨tb, 1, none⟩ = false := blk_frozen (blk_drew HJ2.out.tok) 1
          have k5 : ((wr.alloc (.cells #[.string ⟨#[115, 112, 97, 99, 101]⟩, .int .i64 32] 186))).frozen? ⟨tb, 5, none⟩ = false := blk_frozen (blk_drew HJ2.out.tok) 5
          (go_wp2_with fail; repeat (go_region; go_wp2_with fail))
          go_ret
          refine ⟨by rw [HE.out]; rfl, blk_far (blk_far HJ2.out.lex HNE.out _) HNE.out _, (HJ2.out.keep.set_ 1 _).set_ 5 _, fun h => absurd (by rw [HE.out]) h, fun _ => ?_⟩
          rw [HE.out]
          exact blk_set (blk_set HJ2.out.tok 1 _) 5 _
        · have hen := Lib.hid (fun w' => ends_same_at b T i (i + 2 + 5) ln cl ((i : Int) + 2 + 5) (by omega) _ hq w')
          have HN := Lib.hid (show namesP T i L (names4.drop 1) = R by
            rw [← HJ.out.rest]
            show _ = namesP T i L (([115, 112, 97, 99, 101], 32) :: names4.drop 1)
            rw [namesP, if_neg (by simp [nameFits, hq])])
          clear hp HJ hq
          go_wp2_with fail
          go_quiet (first | (go_at_call 108; exact Calls.quiet_of_same (hc.out _)) | (go_at_call 107; exact Calls.quiet_of_same (hen.out _ HJ2.out.lex)))
          all_goals go_wp2_with fail
          all_goals go_roundg (4 - 1)
          all_goals first | (show 4 - 1 < 4 - 0; omega) | exact ⟨1, rfl, rfl, Lib.hid ⟨HJ2.out.lex, HJ2.out.tok, HJ2.out.nam, HJ2.out.keep, HN.out, by omega⟩⟩
      · have hc := Lib.hid (fun w' => HP.out ⟨#[115, 112, 97, 99, 101]⟩ _ w' hp)
        have HN := Lib.hid (show namesP T i L (names4.drop 1) = R by
          rw [← HJ.out.rest]
          show _ = namesP T i L (([115, 112, 97, 99, 101], 32) :: names4.drop 1)
          rw [namesP, if_neg (by simp [nameFits, hp])])
        clear hp HJ
        go_wp2_with fail
        go_quiet ((go_at_call 108; exact Calls.quiet_of_same (hc.out _)))
        all_goals go_wp2_with fail
        all_goals go_roundg (4 - 1)
        all_goals first | (show 4 - 1 < 4 - 0; omega) | exact ⟨1, rfl, rfl, Lib.hid ⟨HJ2.out.lex, HJ2.out.tok, HJ2.out.nam, HJ2.out.keep, HN.out, by omega⟩⟩
    by_cases h1 : j = 1
    · subst h1
      have n0 : wr.cell? ⟨w.heap.size, 2, none⟩ = some (.string ⟨#[110, 101, 119, 108, 105, 110, 101]⟩) := blk_cell HJ.out.nam 2
      have n1 : wr.cell? ⟨w.heap.size, 3, none⟩ = some (.int .i64 10) := blk_cell HJ.out.nam 3
      have hx0 : ((wr.alloc (.cells #[.string ⟨#[110, 101, 119, 108, 105, 110, 101]⟩, .int .i64 10] 186)).drew).cell? ⟨wr.heap.size, 0, none⟩ = some (.string ⟨#[110, 101, 119, 108, 105, 110, 101]⟩) := blk_cell (blk_drew (blk_new wr (.cells #[.string ⟨#[110, 101, 119, 108, 105, 110, 101]⟩, .int .i64 10] 186 (0, 0)))) 0
      have lb : b < wr.heap.size := blk_lt HJ.out.lex
      have dx1 : ((wr.alloc (.cells #[.string ⟨#[110, 101, 119, 108, 105, 110, 101]⟩, .int .i64 10] 186))).cell? ⟨b, 1, none⟩ = some (.int .i64 (i : Nat)) := blk_cell (blk_alloc HJ.out.lex _) 1
      have HX1 := Lib.hid (blk_drew (blk_new wr (.cells #[.string ⟨#[110, 101, 119, 108, 105, 110, 101]⟩, .int .i64 10] 186 (0, 0))))
      have HJ2 := Lib.hid (show NamesI b tb w.heap.size T i (ln, cl) (tl, tc, nx) w L R 1 ((wr.alloc (.cells #[.string ⟨#[110, 101, 119, 108, 105, 110, 101]⟩, .int .i64 10] 186)).drew) from
        ⟨blk_drew (blk_alloc HJ.out.lex _), blk_drew (blk_alloc HJ.out.tok _), blk_drew (blk_alloc HJ.out.nam _), keep_allocB HJ.out.keep _, HJ.out.rest, by omega⟩)
      have hp : Lib.hasPrefix L [110, 101, 119, 108, 105, 110, 101] = true ∨ Lib.hasPrefix L [110, 101, 119, 108, 105, 110, 101] = false := by cases Lib.hasPrefix L [110, 101, 119, 108, 105, 110, 101] <;> simp
      rcases hp with hp | hp
      · have hc := Lib.hid (fun w' => HP.out ⟨#[110, 101, 119, 108, 105, 110, 101]⟩ _ w' hp)
        have hq : endAt T (i + 2 + 7) = true ∨ endAt T (i + 2 + 7) = false := by cases endAt T (i + 2 + 7) <;> simp
        rcases hq with hq | hq
        · have hen := Lib.hid (fun w' => ends_same_at b T i (i + 2 + 7) ln cl ((i : Int) + 2 + 7) (by omega) _ hq w')
          have HE := Lib.hid (show R = (0, 11, 10, i + 2 + 7) by
            rw [← HJ.out.rest]
            show namesP T i L (([110, 101, 119, 108, 105, 110, 101], 10) :: names4.drop 2) = _
            rw [namesP, if_pos (by simp [nameFits, hp, hq])]
            rfl)
          clear hp HJ hq
          go_wp2_with fail
          go_quiet (first | (go_at_call 108; exact Calls.quiet_of_same (hc.out _)) | (go_at_call 107; exact Calls.quiet_of_same (hen.out _ HJ2.out.lex)))
          have e1 : ((wr.alloc (.cells #[.string ⟨#[110, 101, 119, 108, 105, 110, 101]⟩, .int .i64 10] 186))).cell? ⟨tb, 1, none⟩ = some (.int .i64 0) := blk_cell (blk_drew HJ2.out.tok) 1
          have e5 : ((wr.alloc (.cells #[.string ⟨#[110, 101, 119, 108, 105, 110, 101]⟩, .int .i64 10] 186))).cell? ⟨tb, 5, none⟩ = some (.int .i64 nx) := blk_cell (blk_drew HJ2.out.tok) 5
          have k1 : ((wr.alloc (.cells #[.string ⟨#[110, 101, 119, 108, 105, 110, 101]⟩, .int .i64 10] 186))).frozen? ⟨tb, 1, none⟩ = false := blk_frozen (blk_drew HJ2.out.tok) 1
          have k5 : ((wr.alloc (.cells #[.string ⟨#[110, 101, 119, 108, 105, 110, 101]⟩, .int .i64 10] 186))).frozen? ⟨tb, 5, none⟩ = false := blk_frozen (blk_drew HJ2.out.tok) 5
          (go_wp2_with fail; repeat (go_region; go_wp2_with fail))
          go_ret
          refine ⟨by rw [HE.out]; rfl, blk_far (blk_far HJ2.out.lex HNE.out _) HNE.out _, (HJ2.out.keep.set_ 1 _).set_ 5 _, fun h => absurd (by rw [HE.out]) h, fun _ => ?_⟩
          rw [HE.out]
          exact blk_set (blk_set HJ2.out.tok 1 _) 5 _
        · have hen := Lib.hid (fun w' => ends_same_at b T i (i + 2 + 7) ln cl ((i : Int) + 2 + 7) (by omega) _ hq w')
          have HN := Lib.hid (show namesP T i L (names4.drop 2) = R by
            rw [← HJ.out.rest]
            show _ = namesP T i L (([110, 101, 119, 108, 105, 110, 101], 10) :: names4.drop 2)
            rw [namesP, if_neg (by simp [nameFits, hq])])
          clear hp HJ hq
          go_wp2_with fail
          go_quiet (first | (go_at_call 108; exact Calls.quiet_of_same (hc.out _)) | (go_at_call 107; exact Calls.quiet_of_same (hen.out _ HJ2.out.lex)))
          all_goals go_wp2_with fail
          all_goals go_roundg (4 - 2)
          all_goals first | (show 4 - 2 < 4 - 1; omega) | exact ⟨2, rfl, rfl, Lib.hid ⟨HJ2.out.lex, HJ2.out.tok, HJ2.out.nam, HJ2.out.keep, HN.out, by omega⟩⟩
      · have hc := Lib.hid (fun w' => HP.out ⟨#[110, 101, 119, 108, 105, 110, 101]⟩ _ w' hp)
        have HN := Lib.hid (show namesP T i L (names4.drop 2) = R by
          rw [← HJ.out.rest]
          show _ = namesP T i L (([110, 101, 119, 108, 105, 110, 101], 10) :: names4.drop 2)
          rw [namesP, if_neg (by simp [nameFits, hp])])
        clear hp HJ
        go_wp2_with fail
        go_quiet ((go_at_call 108; exact Calls.quiet_of_same (hc.out _)))
        all_goals go_wp2_with fail
        all_goals go_roundg (4 - 2)
        all_goals first | (show 4 - 2 < 4 - 1; omega) | exact ⟨2, rfl, rfl, Lib.hid ⟨HJ2.out.lex, HJ2.out.tok, HJ2.out.nam, HJ2.out.keep, HN.out, by omega⟩⟩
    by_cases h2 : j = 2
    · subst h2
      have n0 : wr.cell? ⟨w.heap.size, 4, none⟩ = some (.string ⟨#[116, 97, 98]⟩) := blk_cell HJ.out.nam 4
      have n1 : wr.cell? ⟨w.heap.size, 5, none⟩ = some (.int .i64 9) := blk_cell HJ.out.nam 5
      have hx0 : ((wr.alloc (.cells #[.string ⟨#[116, 97, 98]⟩, .int .i64 9] 186)).drew).cell? ⟨wr.heap.size, 0, none⟩ = some (.string ⟨#[116, 97, 98]⟩) := blk_cell (blk_drew (blk_new wr (.cells #[.string ⟨#[116, 97, 98]⟩, .int .i64 9] 186 (0, 0)))) 0
      have lb : b < wr.heap.size := blk_lt HJ.out.lex
      have dx1 : ((wr.alloc (.cells #[.string ⟨#[116, 97, 98]⟩, .int .i64 9] 186))).cell? ⟨b, 1, none⟩ = some (.int .i64 (i : Nat)) := blk_cell (blk_alloc HJ.out.lex _) 1
      have HX1 := Lib.hid (blk_drew (blk_new wr (.cells #[.string ⟨#[116, 97, 98]⟩, .int .i64 9] 186 (0, 0))))
      have HJ2 := Lib.hid (show NamesI b tb w.heap.size T i (ln, cl) (tl, tc, nx) w L R 2 ((wr.alloc (.cells #[.string ⟨#[116, 97, 98]⟩, .int .i64 9] 186)).drew) from
        ⟨blk_drew (blk_alloc HJ.out.lex _), blk_drew (blk_alloc HJ.out.tok _), blk_drew (blk_alloc HJ.out.nam _), keep_allocB HJ.out.keep _, HJ.out.rest, by omega⟩)
      have hp : Lib.hasPrefix L [116, 97, 98] = true ∨ Lib.hasPrefix L [116, 97, 98] = false := by cases Lib.hasPrefix L [116, 97, 98] <;> simp
      rcases hp with hp | hp
      · have hc := Lib.hid (fun w' => HP.out ⟨#[116, 97, 98]⟩ _ w' hp)
        have hq : endAt T (i + 2 + 3) = true ∨ endAt T (i + 2 + 3) = false := by cases endAt T (i + 2 + 3) <;> simp
        rcases hq with hq | hq
        · have hen := Lib.hid (fun w' => ends_same_at b T i (i + 2 + 3) ln cl ((i : Int) + 2 + 3) (by omega) _ hq w')
          have HE := Lib.hid (show R = (0, 11, 9, i + 2 + 3) by
            rw [← HJ.out.rest]
            show namesP T i L (([116, 97, 98], 9) :: names4.drop 3) = _
            rw [namesP, if_pos (by simp [nameFits, hp, hq])]
            rfl)
          clear hp HJ hq
          go_wp2_with fail
          go_quiet (first | (go_at_call 108; exact Calls.quiet_of_same (hc.out _)) | (go_at_call 107; exact Calls.quiet_of_same (hen.out _ HJ2.out.lex)))
          have e1 : ((wr.alloc (.cells #[.string ⟨#[116, 97, 98]⟩, .int .i64 9] 186))).cell? ⟨tb, 1, none⟩ = some (.int .i64 0) := blk_cell (blk_drew HJ2.out.tok) 1
          have e5 : ((wr.alloc (.cells #[.string ⟨#[116, 97, 98]⟩, .int .i64 9] 186))).cell? ⟨tb, 5, none⟩ = some (.int .i64 nx) := blk_cell (blk_drew HJ2.out.tok) 5
          have k1 : ((wr.alloc (.cells #[.string ⟨#[116, 97, 98]⟩, .int .i64 9] 186))).frozen? ⟨tb, 1, none⟩ = false := blk_frozen (blk_drew HJ2.out.tok) 1
          have k5 : ((wr.alloc (.cells #[.string ⟨#[116, 97, 98]⟩, .int .i64 9] 186))).frozen? ⟨tb, 5, none⟩ = false := blk_frozen (blk_drew HJ2.out.tok) 5
          (go_wp2_with fail; repeat (go_region; go_wp2_with fail))
          go_ret
          refine ⟨by rw [HE.out]; rfl, blk_far (blk_far HJ2.out.lex HNE.out _) HNE.out _, (HJ2.out.keep.set_ 1 _).set_ 5 _, fun h => absurd (by rw [HE.out]) h, fun _ => ?_⟩
          rw [HE.out]
          exact blk_set (blk_set HJ2.out.tok 1 _) 5 _
        · have hen := Lib.hid (fun w' => ends_same_at b T i (i + 2 + 3) ln cl ((i : Int) + 2 + 3) (by omega) _ hq w')
          have HN := Lib.hid (show namesP T i L (names4.drop 3) = R by
            rw [← HJ.out.rest]
            show _ = namesP T i L (([116, 97, 98], 9) :: names4.drop 3)
            rw [namesP, if_neg (by simp [nameFits, hq])])
          clear hp HJ hq
          go_wp2_with fail
          go_quiet (first | (go_at_call 108; exact Calls.quiet_of_same (hc.out _)) | (go_at_call 107; exact Calls.quiet_of_same (hen.out _ HJ2.out.lex)))
          all_goals go_wp2_with fail
          all_goals go_roundg (4 - 3)
          all_goals first | (show 4 - 3 < 4 - 2; omega) | exact ⟨3, rfl, rfl, Lib.hid ⟨HJ2.out.lex, HJ2.out.tok, HJ2.out.nam, HJ2.out.keep, HN.out, by omega⟩⟩
      · have hc := Lib.hid (fun w' => HP.out ⟨#[116, 97, 98]⟩ _ w' hp)
        have HN := Lib.hid (show namesP T i L (names4.drop 3) = R by
          rw [← HJ.out.rest]
          show _ = namesP T i L (([116, 97, 98], 9) :: names4.drop 3)
          rw [namesP, if_neg (by simp [nameFits, hp])])
        clear hp HJ
        go_wp2_with fail
        go_quiet ((go_at_call 108; exact Calls.quiet_of_same (hc.out _)))
        all_goals go_wp2_with fail
        all_goals go_roundg (4 - 3)
        all_goals first | (show 4 - 3 < 4 - 2; omega) | exact ⟨3, rfl, rfl, Lib.hid ⟨HJ2.out.lex, HJ2.out.tok, HJ2.out.nam, HJ2.out.keep, HN.out, by omega⟩⟩
    by_cases h3 : j = 3
    · subst h3
      have n0 : wr.cell? ⟨w.heap.size, 6, none⟩ = some (.string ⟨#[110, 117, 108]⟩) := blk_cell HJ.out.nam 6
      have n1 : wr.cell? ⟨w.heap.size, 7, none⟩ = some (.int .i64 0) := blk_cell HJ.out.nam 7
      have hx0 : ((wr.alloc (.cells #[.string ⟨#[110, 117, 108]⟩, .int .i64 0] 186)).drew).cell? ⟨wr.heap.size, 0, none⟩ = some (.string ⟨#[110, 117, 108]⟩) := blk_cell (blk_drew (blk_new wr (.cells #[.string ⟨#[110, 117, 108]⟩, .int .i64 0] 186 (0, 0)))) 0
      have lb : b < wr.heap.size := blk_lt HJ.out.lex
      have dx1 : ((wr.alloc (.cells #[.string ⟨#[110, 117, 108]⟩, .int .i64 0] 186))).cell? ⟨b, 1, none⟩ = some (.int .i64 (i : Nat)) := blk_cell (blk_alloc HJ.out.lex _) 1
      have HX1 := Lib.hid (blk_drew (blk_new wr (.cells #[.string ⟨#[110, 117, 108]⟩, .int .i64 0] 186 (0, 0))))
      have HJ2 := Lib.hid (show NamesI b tb w.heap.size T i (ln, cl) (tl, tc, nx) w L R 3 ((wr.alloc (.cells #[.string ⟨#[110, 117, 108]⟩, .int .i64 0] 186)).drew) from
        ⟨blk_drew (blk_alloc HJ.out.lex _), blk_drew (blk_alloc HJ.out.tok _), blk_drew (blk_alloc HJ.out.nam _), keep_allocB HJ.out.keep _, HJ.out.rest, by omega⟩)
      have hp : Lib.hasPrefix L [110, 117, 108] = true ∨ Lib.hasPrefix L [110, 117, 108] = false := by cases Lib.hasPrefix L [110, 117, 108] <;> simp
      rcases hp with hp | hp
      · have hc := Lib.hid (fun w' => HP.out ⟨#[110, 117, 108]⟩ _ w' hp)
        have hq : endAt T (i + 2 + 3) = true ∨ endAt T (i + 2 + 3) = false := by cases endAt T (i + 2 + 3) <;> simp
        rcases hq with hq | hq
        · have hen := Lib.hid (fun w' => ends_same_at b T i (i + 2 + 3) ln cl ((i : Int) + 2 + 3) (by omega) _ hq w')
          have HE := Lib.hid (show R = (0, 11, 0, i + 2 + 3) by
            rw [← HJ.out.rest]
            show namesP T i L (([110, 117, 108], 0) :: names4.drop 4) = _
            rw [namesP, if_pos (by simp [nameFits, hp, hq])]
            rfl)
          clear hp HJ hq
          go_wp2_with fail
          go_quiet (first | (go_at_call 108; exact Calls.quiet_of_same (hc.out _)) | (go_at_call 107; exact Calls.quiet_of_same (hen.out _ HJ2.out.lex)))
          have e1 : ((wr.alloc (.cells #[.string ⟨#[110, 117, 108]⟩, .int .i64 0] 186))).cell? ⟨tb, 1, none⟩ = some (.int .i64 0) := blk_cell (blk_drew HJ2.out.tok) 1
          have e5 : ((wr.alloc (.cells #[.string ⟨#[110, 117, 108]⟩, .int .i64 0] 186))).cell? ⟨tb, 5, none⟩ = some (.int .i64 nx) := blk_cell (blk_drew HJ2.out.tok) 5
          have k1 : ((wr.alloc (.cells #[.string ⟨#[110, 117, 108]⟩, .int .i64 0] 186))).frozen? ⟨tb, 1, none⟩ = false := blk_frozen (blk_drew HJ2.out.tok) 1
          have k5 : ((wr.alloc (.cells #[.string ⟨#[110, 117, 108]⟩, .int .i64 0] 186))).frozen? ⟨tb, 5, none⟩ = false := blk_frozen (blk_drew HJ2.out.tok) 5
          (go_wp2_with fail; repeat (go_region; go_wp2_with fail))
          go_ret
          refine ⟨by rw [HE.out]; rfl, blk_far (blk_far HJ2.out.lex HNE.out _) HNE.out _, (HJ2.out.keep.set_ 1 _).set_ 5 _, fun h => absurd (by rw [HE.out]) h, fun _ => ?_⟩
          rw [HE.out]
          exact blk_set (blk_set HJ2.out.tok 1 _) 5 _
        · have hen := Lib.hid (fun w' => ends_same_at b T i (i + 2 + 3) ln cl ((i : Int) + 2 + 3) (by omega) _ hq w')
          have HN := Lib.hid (show namesP T i L (names4.drop 4) = R by
            rw [← HJ.out.rest]
            show _ = namesP T i L (([110, 117, 108], 0) :: names4.drop 4)
            rw [namesP, if_neg (by simp [nameFits, hq])])
          clear hp HJ hq
          go_wp2_with fail
          go_quiet (first | (go_at_call 108; exact Calls.quiet_of_same (hc.out _)) | (go_at_call 107; exact Calls.quiet_of_same (hen.out _ HJ2.out.lex)))
          all_goals go_wp2_with fail
          all_goals go_roundg (4 - 4)
          all_goals first | (show 4 - 4 < 4 - 3; omega) | exact ⟨4, rfl, rfl, Lib.hid ⟨HJ2.out.lex, HJ2.out.tok, HJ2.out.nam, HJ2.out.keep, HN.out, by omega⟩⟩
      · have hc := Lib.hid (fun w' => HP.out ⟨#[110, 117, 108]⟩ _ w' hp)
        have HN := Lib.hid (show namesP T i L (names4.drop 4) = R by
          rw [← HJ.out.rest]
          show _ = namesP T i L (([110, 117, 108], 0) :: names4.drop 4)
          rw [namesP, if_neg (by simp [nameFits, hp])])
        clear hp HJ
        go_wp2_with fail
        go_quiet ((go_at_call 108; exact Calls.quiet_of_same (hc.out _)))
        all_goals go_wp2_with fail
        all_goals go_roundg (4 - 4)
        all_goals first | (show 4 - 4 < 4 - 3; omega) | exact ⟨4, rfl, rfl, Lib.hid ⟨HJ2.out.lex, HJ2.out.tok, HJ2.out.nam, HJ2.out.keep, HN.out, by omega⟩⟩
    · obtain rfl : j = 4 := by omega
      have HE := Lib.hid (show R = (6, 0, 0, 0) from HJ.out.rest.symm)
      go_wp2_with fail
      go_ret
      refine ⟨by rw [HE.out]; rfl, HJ.out.lex, HJ.out.keep, fun _ => ⟨11, 0, ⟨#[]⟩, nx, HJ.out.tok⟩, fun h => ?_⟩
      rw [HE.out] at h; cases h
end Go.Proofs.YthighbbikpnpgaaDoor

/-! LeL -/
namespace Go.Proofs.YthighbbikpnpgaaDoor
open Go.RowKit Go.Proofs.YthighbbikpnpgaaDoorW.PrintWords

set_option maxRecDepth 400000 in
set_option maxHeartbeats 8000000 in
theorem sharp_names3 (b tb : Nat) (T : ByteArray) (i : Nat) (ln cl k tl tc nx : Int) (w : World) (h : LexAt b T i ln cl w) (ht : TokAt tb k 0 ⟨#[]⟩ tl tc nx w) (hi : i < T.size) (hT : T.size ≤ 1000000000) (S S1 : ByteArray) (L : List UInt8)
    (hS : T.extract (i + 1) T.size = S) (hS1 : S.extract 1 S.size = S1) (hL : S1.data.toList = L) (ez : ∀ h, S[0]'h = 92) (hcase : 2 ≤ S.size) (y : UInt8) (ey : ∀ h, S[1]'h = y) (hy : 32 < y.toNat) (hend : endAt T (i + 3) = false) :
    Calls Tryd.prog 86 #[.pointer (some ⟨b, 0, none⟩), .pointer (some ⟨tb, 0, none⟩)] w (SharpTo b tb T i ln cl tl tc (namesP T i L names4) w) := by
  obtain ⟨R, hR⟩ : ∃ R, namesP T i L names4 = R := ⟨_, rfl⟩
  have HR := Lib.hid hR
  rw [hR]
  clear hR
  have hne : b ≠ tb := by
    intro e
    subst e
    unfold LexAt at h; unfold TokAt at ht
    rw [h] at ht
    simp at ht
  have c0 : w.cell? ⟨b, 0, none⟩ = some (.string T) := blk_cell h 0
  have c1 : w.cell? ⟨b, 1, none⟩ = some (.int .i64 (i : Nat)) := blk_cell h 1
  have HL := Lib.hid h
  have HTk := Lib.hid ht
  have HNE := Lib.hid hne
  have hi1 : (i : Int) + 1 ≤ (T.size : Nat) := by omega
  have HS := Lib.hid hS
  have HP := Lib.hid (fun (n : ByteArray) (v : Bool) (w' : World) (hv : Lib.hasPrefix L n.data.toList = v) => show Calls Tryd.prog 108 #[.string S1, .string n] w' (fun e w'' => e = .returned (.bool v) ∧ w'' = w') by
    have := Tryd.strings_HasPrefix S1 n w'
    rw [hL, hv] at this
    exact this)
  have hs0 : ¬ S.toList = [] := by
    intro e
    have e3 : S.data.toList.length = 0 := by rw [← ByteArray.toList_eq, e]; rfl
    have e4 : S.data.toList.length = S.size := by simp
    omega
  have hs0b : (S.toList == []) = false := by simpa using hs0
  have t0 : w.cell? ⟨tb, 0, none⟩ = some (.int .i64 k) := blk_cell ht 0
  have f0 := blk_frozen ht 0
  have hpos : (0 : Int) < (S.size : Nat) := by omega
  have hp1 : (1 : Int) < (S.size : Nat) := by omega
  have hp2 : 1 < S.size := by omega
  have y256 : y.toNat < 256 := y.toNat_lt
  have by32 : decide ((32 : Int) < y.toNat) = true := decide_eq_true (by omega)
  have hy' : (32 : Int) < y.toNat := by omega
  have HEN := Lib.hid hend
  have hz1 : 0 < S.size := by omega
  have hz2 : 1 ≤ S.size := by omega
  have hz3 : (1 : Int) ≤ (S.size : Nat) := by omega
  clear h ht hne hS hL hcase hy hend
  go_enter Tryd.func86, Tryd.ntmps86
  go_wp2_with fail
  go_region
  rw [HS.out]
  (go_wp2_with fail; repeat (go_region; go_wp2_with fail))
  refine (ends_at b T i (i + 3) ln cl _ (blk_drew (blk_far HL.out HNE.out _)) _ (by omega)).mono ?_
  rintro e w2 ⟨rfl, hb2⟩
  rw [HEN.out]
  have HB2 := Lib.hid (below_drewL hb2)
  have HL2 := Lib.hid (show LexAt b T i ln cl w2 from blk_below (blk_far HL.out HNE.out _) HB2.out)
  have HT2 := Lib.hid (show TokAt tb 11 0 ⟨#[]⟩ tl tc nx w2 from blk_below (blk_set HTk.out 0 _) HB2.out)
  have HK2 := Lib.hid (show KeepB w w2 tb none from ((KeepB.refl w tb none).set_ 0 _).trans (KeepB.of_below HB2.out tb none) (.inl rfl))
  clear hb2 HB2 HL HTk c0 c1 t0 f0
  have d0 : w2.cell? ⟨b, 0, none⟩ = some (.string T) := blk_cell HL2.out 0
  have d1 : w2.cell? ⟨b, 1, none⟩ = some (.int .i64 (i : Nat)) := blk_cell HL2.out 1
  (go_wp2_with fail; repeat (go_region; go_wp2_with fail))
  have HI : Hid (NamesI b tb w2.heap.size T i (ln, cl) (tl, tc, nx) w L R 0 ((w2.alloc (.cells #[.string ⟨#[115, 112, 97, 99, 101]⟩, .int .i64 32, .string ⟨#[110, 101, 119, 108, 105, 110, 101]⟩, .int .i64 10, .string ⟨#[116, 97, 98]⟩, .int .i64 9, .string ⟨#[110, 117, 108]⟩, .int .i64 0] 186)))) :=
    Lib.hid ⟨blk_alloc HL2.out _, blk_alloc HT2.out _, blk_new w2 (.cells #[.string ⟨#[115, 112, 97, 99, 101]⟩, .int .i64 32, .string ⟨#[110, 101, 119, 108, 105, 110, 101]⟩, .int .i64 10, .string ⟨#[116, 97, 98]⟩, .int .i64 9, .string ⟨#[110, 117, 108]⟩, .int .i64 0] 186 (0, 0)), keep_allocB HK2.out _, HR.out, by omega⟩
  clear d0 d1
  go_loopg [104] 4 (fun gk v w' => ∃ (j : Nat), v = .int .i64 (j : Nat) ∧ gk = 4 - j ∧ Hid (NamesI b tb w2.heap.size T i (ln, cl) (tl, tc, nx) w L R j w'))
  case atStart => exact ⟨0, rfl, rfl, HI⟩
  case round =>
    clear HI HR HL2 HT2 HK2
    obtain ⟨j, rfl, rfl, HJ⟩ := hrel
    have hj := HJ.out.le
    have d1 : wr.cell? ⟨b, 1, none⟩ = some (.int .i64 (i : Nat)) := blk_cell HJ.out.lex 1
    by_cases h0 : j = 0
    · subst h0
      have n0 : wr.cell? ⟨w2.heap.size, 0, none⟩ = some (.string ⟨#[115, 112, 97, 99, 101]⟩) := blk_cell HJ.out.nam 0
      have n1 : wr.cell? ⟨w2.heap.size, 1, none⟩ = some (.int .i64 32) := blk_cell HJ.out.nam 1
      have hx0 : ((wr.alloc (.cells #[.string ⟨#[115, 112, 97, 99, 101]⟩, .int .i64 32] 186)).drew).cell? ⟨wr.heap.size, 0, none⟩ = some (.string ⟨#[115, 112, 97, 99, 101]⟩) := blk_cell (blk_drew (blk_new wr (.cells #[.string ⟨#[115, 112, 97, 99, 101]⟩, .int .i64 32] 186 (0, 0)))) 0
      have lb : b < wr.heap.size := blk_lt HJ.out.lex
      have dx1 : ((wr.alloc (.cells #[.string ⟨#[115, 112, 97, 99, 101]⟩, .int .i64 32] 186))).cell? ⟨b, 1, none⟩ = some (.int .i64 (i : Nat)) := blk_cell (blk_alloc HJ.out.lex _) 1
      have HX1 := Lib.hid (blk_drew (blk_new wr (.cells #[.string ⟨#[115, 112, 97, 99, 101]⟩, .int .i64 32] 186 (0, 0))))
      have HJ2 := Lib.hid (show NamesI b tb w2.heap.size T i (ln, cl) (tl, tc, nx) w L R 0 ((wr.alloc (.cells #[.string ⟨#[115, 112, 97, 99, 101]⟩, .int .i64 32] 186)).drew) from
        ⟨blk_drew (blk_alloc HJ.out.lex _), blk_drew (blk_alloc HJ.out.tok _), blk_drew (blk_alloc HJ.out.nam _), keep_allocB HJ.out.keep _, HJ.out.rest, by omega⟩)
      have hp : Lib.hasPrefix L [115, 112, 97, 99, 101] = true ∨ Lib.hasPrefix L [115, 112, 97, 99, 101] = false := by cases Lib.hasPrefix L [115, 112, 97, 99, 101] <;> simp
      rcases hp with hp | hp
      · have hc := Lib.hid (fun w' => HP.out ⟨#[115, 112, 97, 99, 101]⟩ _ w' hp)
        have hq : endAt T (i + 2 + 5) = true ∨ endAt T (i + 2 + 5) = false := by cases endAt T (i + 2 + 5) <;> simp
        rcases hq with hq | hq
        · have hen := Lib.hid (fun w' => ends_same_at b T i (i + 2 + 5) ln cl ((i : Int) + 2 + 5) (by omega) _ hq w')
          have HE := Lib.hid (show R = (0, 11, 32, i + 2 + 5) by
            rw [← HJ.out.rest]
            show namesP T i L (([115, 112, 97, 99, 101], 32) :: names4.drop 1) = _
            rw [namesP, if_pos (by simp [nameFits, hp, hq])]
            rfl)
          clear hp HJ hq
          go_wp2_with fail
          go_quiet (first | (go_at_call 108; exact Calls.quiet_of_same (hc.out _)) | (go_at_call 107; exact Calls.quiet_of_same (hen.out _ HJ2.out.lex)))
          have e1 : ((wr.alloc (.cells #[.string ⟨#[115, 112, 97, 99, 101]⟩, .int .i64 32] 186))).cell? ⟨tb, 1, none⟩ = some (.int .i64 0) := blk_cell (blk_drew HJ2.out.tok) 1
          have e5 : ((wr.alloc (.cells #[.string ⟨#[115, 112, 97, 99, 101]⟩, .int .i64 32] 186))).cell? ⟨tb, 5, none⟩ = some (.int .i64 nx) := blk_cell (blk_drew HJ2.out.tok) 5
          have k1 : ((wr.alloc (.cells #[.string ⟨#[115, 112, 97, 99, 101]⟩, .int .i64 32] 186))).frozen? ⟨tb, 1, none⟩ = false := blk_frozen (blk_drew HJ2.out.tok) 1
          have k5 : ((wr.alloc (.cells #[.string ⟨#[115, 112, 97, 99, 101]⟩, .int .i64 32] 186))).frozen? ⟨tb, 5, none⟩ = false := blk_frozen (blk_drew HJ2.out.tok) 5
          (go_wp2_with fail; repeat (go_region; go_wp2_with fail))
          go_ret
          refine ⟨by rw [HE.out]; rfl, blk_far (blk_far HJ2.out.lex HNE.out _) HNE.out _, (HJ2.out.keep.set_ 1 _).set_ 5 _, fun h => absurd (by rw [HE.out]) h, fun _ => ?_⟩
          rw [HE.out]
          exact blk_set (blk_set HJ2.out.tok 1 _) 5 _
        · have hen := Lib.hid (fun w' => ends_same_at b T i (i + 2 + 5) ln cl ((i : Int) + 2 + 5) (by omega) _ hq w')
          have HN := Lib.hid (show namesP T i L (names4.drop 1) = R by
            rw [← HJ.out.rest]
            show _ = namesP T i L (([115, 112, 97, 99, 101], 32) :: names4.drop 1)
            rw [namesP, if_neg (by simp [nameFits, hq])])
          clear hp HJ hq
          go_wp2_with fail
          go_quiet (first | (go_at_call 108; exact Calls.quiet_of_same (hc.out _)) | (go_at_call 107; exact Calls.quiet_of_same (hen.out _ HJ2.out.lex)))
          all_goals go_wp2_with fail
          all_goals go_roundg (4 - 1)
          all_goals first | (show 4 - 1 < 4 - 0; omega) | exact ⟨1, rfl, rfl, Lib.hid ⟨HJ2.out.lex, HJ2.out.tok, HJ2.out.nam, HJ2.out.keep, HN.out, by omega⟩⟩
      · have hc := Lib.hid (fun w' => HP.out ⟨#[115, 112, 97, 99, 101]⟩ _ w' hp)
        have HN := Lib.hid (show namesP T i L (names4.drop 1) = R by
          rw [← HJ.out.rest]
          show _ = namesP T i L (([115, 112, 97, 99, 101], 32) :: names4.drop 1)
          rw [namesP, if_neg (by simp [nameFits, hp])])
        clear hp HJ
        go_wp2_with fail
        go_quiet ((go_at_call 108; exact Calls.quiet_of_same (hc.out _)))
        all_goals go_wp2_with fail
        all_goals go_roundg (4 - 1)
        all_goals first | (show 4 - 1 < 4 - 0; omega) | exact ⟨1, rfl, rfl, Lib.hid ⟨HJ2.out.lex, HJ2.out.tok, HJ2.out.nam, HJ2.out.keep, HN.out, by omega⟩⟩
    by_cases h1 : j = 1
    · subst h1
      have n0 : wr.cell? ⟨w2.heap.size, 2, none⟩ = some (.string ⟨#[110, 101, 119, 108, 105, 110, 101]⟩) := blk_cell HJ.out.nam 2
      have n1 : wr.cell? ⟨w2.heap.size, 3, none⟩ = some (.int .i64 10) := blk_cell HJ.out.nam 3
      have hx0 : ((wr.alloc (.cells #[.string ⟨#[110, 101, 119, 108, 105, 110, 101]⟩, .int .i64 10] 186)).drew).cell? ⟨wr.heap.size, 0, none⟩ = some (.string ⟨#[110, 101, 119, 108, 105, 110, 101]⟩) := blk_cell (blk_drew (blk_new wr (.cells #[.string ⟨#[110, 101, 119, 108, 105, 110, 101]⟩, .int .i64 10] 186 (0, 0)))) 0
      have lb : b < wr.heap.size := blk_lt HJ.out.lex
      have dx1 : ((wr.alloc (.cells #[.string ⟨#[110, 101, 119, 108, 105, 110, 101]⟩, .int .i64 10] 186))).cell? ⟨b, 1, none⟩ = some (.int .i64 (i : Nat)) := blk_cell (blk_alloc HJ.out.lex _) 1
      have HX1 := Lib.hid (blk_drew (blk_new wr (.cells #[.string ⟨#[110, 101, 119, 108, 105, 110, 101]⟩, .int .i64 10] 186 (0, 0))))
      have HJ2 := Lib.hid (show NamesI b tb w2.heap.size T i (ln, cl) (tl, tc, nx) w L R 1 ((wr.alloc (.cells #[.string ⟨#[110, 101, 119, 108, 105, 110, 101]⟩, .int .i64 10] 186)).drew) from
        ⟨blk_drew (blk_alloc HJ.out.lex _), blk_drew (blk_alloc HJ.out.tok _), blk_drew (blk_alloc HJ.out.nam _), keep_allocB HJ.out.keep _, HJ.out.rest, by omega⟩)
      have hp : Lib.hasPrefix L [110, 101, 119, 108, 105, 110, 101] = true ∨ Lib.hasPrefix L [110, 101, 119, 108, 105, 110, 101] = false := by cases Lib.hasPrefix L [110, 101, 119, 108, 105, 110, 101] <;> simp
      rcases hp with hp | hp
      · have hc := Lib.hid (fun w' => HP.out ⟨#[110, 101, 119, 108, 105, 110, 101]⟩ _ w' hp)
        have hq : endAt T (i + 2 + 7) = true ∨ endAt T (i + 2 + 7) = false := by cases endAt T (i + 2 + 7) <;> simp
        rcases hq with hq | hq
        · have hen := Lib.hid (fun w' => ends_same_at b T i (i + 2 + 7) ln cl ((i : Int) + 2 + 7) (by omega) _ hq w')
          have HE := Lib.hid (show R = (0, 11, 10, i + 2 + 7) by
            rw [← HJ.out.rest]
            show namesP T i L (([110, 101, 119, 108, 105, 110, 101], 10) :: names4.drop 2) = _
            rw [namesP, if_pos (by simp [nameFits, hp, hq])]
            rfl)
          clear hp HJ hq
          go_wp2_with fail
          go_quiet (first | (go_at_call 108; exact Calls.quiet_of_same (hc.out _)) | (go_at_call 107; exact Calls.quiet_of_same (hen.out _ HJ2.out.lex)))
          have e1 : ((wr.alloc (.cells #[.string ⟨#[110, 101, 119, 108, 105, 110, 101]⟩, .int .i64 10] 186))).cell? ⟨tb, 1, none⟩ = some (.int .i64 0) := blk_cell (blk_drew HJ2.out.tok) 1
          have e5 : ((wr.alloc (.cells #[.string ⟨#[110, 101, 119, 108, 105, 110, 101]⟩, .int .i64 10] 186))).cell? ⟨tb, 5, none⟩ = some (.int .i64 nx) := blk_cell (blk_drew HJ2.out.tok) 5
          have k1 : ((wr.alloc (.cells #[.string ⟨#[110, 101, 119, 108, 105, 110, 101]⟩, .int .i64 10] 186))).frozen? ⟨tb, 1, none⟩ = false := blk_frozen (blk_drew HJ2.out.tok) 1
          have k5 : ((wr.alloc (.cells #[.string ⟨#[110, 101, 119, 108, 105, 110, 101]⟩, .int .i64 10] 186))).frozen? ⟨tb, 5, none⟩ = false := blk_frozen (blk_drew HJ2.out.tok) 5
          (go_wp2_with fail; repeat (go_region; go_wp2_with fail))
          go_ret
          refine ⟨by rw [HE.out]; rfl, blk_far (blk_far HJ2.out.lex HNE.out _) HNE.out _, (HJ2.out.keep.set_ 1 _).set_ 5 _, fun h => absurd (by rw [HE.out]) h, fun _ => ?_⟩
          rw [HE.out]
          exact blk_set (blk_set HJ2.out.tok 1 _) 5 _
        · have hen := Lib.hid (fun w' => ends_same_at b T i (i + 2 + 7) ln cl ((i : Int) + 2 + 7) (by omega) _ hq w')
          have HN := Lib.hid (show namesP T i L (names4.drop 2) = R by
            rw [← HJ.out.rest]
            show _ = namesP T i L (([110, 101, 119, 108, 105, 110, 101], 10) :: names4.drop 2)
            rw [namesP, if_neg (by simp [nameFits, hq])])
          clear hp HJ hq
          go_wp2_with fail
          go_quiet (first | (go_at_call 108; exact Calls.quiet_of_same (hc.out _)) | (go_at_call 107; exact Calls.quiet_of_same (hen.out _ HJ2.out.lex)))
          all_goals go_wp2_with fail
          all_goals go_roundg (4 - 2)
          all_goals first | (show 4 - 2 < 4 - 1; omega) | exact ⟨2, rfl, rfl, Lib.hid ⟨HJ2.out.lex, HJ2.out.tok, HJ2.out.nam, HJ2.out.keep, HN.out, by omega⟩⟩
      · have hc := Lib.hid (fun w' => HP.out ⟨#[110, 101, 119, 108, 105, 110, 101]⟩ _ w' hp)
        have HN := Lib.hid (show namesP T i L (names4.drop 2) = R by
          rw [← HJ.out.rest]
          show _ = namesP T i L (([110, 101, 119, 108, 105, 110, 101], 10) :: names4.drop 2)
          rw [namesP, if_neg (by simp [nameFits, hp])])
        clear hp HJ
        go_wp2_with fail
        go_quiet ((go_at_call 108; exact Calls.quiet_of_same (hc.out _)))
        all_goals go_wp2_with fail
        all_goals go_roundg (4 - 2)
        all_goals first | (show 4 - 2 < 4 - 1; omega) | exact ⟨2, rfl, rfl, Lib.hid ⟨HJ2.out.lex, HJ2.out.tok, HJ2.out.nam, HJ2.out.keep, HN.out, by omega⟩⟩
    by_cases h2 : j = 2
    · subst h2
      have n0 : wr.cell? ⟨w2.heap.size, 4, none⟩ = some (.string ⟨#[116, 97, 98]⟩) := blk_cell HJ.out.nam 4
      have n1 : wr.cell? ⟨w2.heap.size, 5, none⟩ = some (.int .i64 9) := blk_cell HJ.out.nam 5
      have hx0 : ((wr.alloc (.cells #[.string ⟨#[116, 97, 98]⟩, .int .i64 9] 186)).drew).cell? ⟨wr.heap.size, 0, none⟩ = some (.string ⟨#[116, 97, 98]⟩) := blk_cell (blk_drew (blk_new wr (.cells #[.string ⟨#[116, 97, 98]⟩, .int .i64 9] 186 (0, 0)))) 0
      have lb : b < wr.heap.size := blk_lt HJ.out.lex
      have dx1 : ((wr.alloc (.cells #[.string ⟨#[116, 97, 98]⟩, .int .i64 9] 186))).cell? ⟨b, 1, none⟩ = some (.int .i64 (i : Nat)) := blk_cell (blk_alloc HJ.out.lex _) 1
      have HX1 := Lib.hid (blk_drew (blk_new wr (.cells #[.string ⟨#[116, 97, 98]⟩, .int .i64 9] 186 (0, 0))))
      have HJ2 := Lib.hid (show NamesI b tb w2.heap.size T i (ln, cl) (tl, tc, nx) w L R 2 ((wr.alloc (.cells #[.string ⟨#[116, 97, 98]⟩, .int .i64 9] 186)).drew) from
        ⟨blk_drew (blk_alloc HJ.out.lex _), blk_drew (blk_alloc HJ.out.tok _), blk_drew (blk_alloc HJ.out.nam _), keep_allocB HJ.out.keep _, HJ.out.rest, by omega⟩)
      have hp : Lib.hasPrefix L [116, 97, 98] = true ∨ Lib.hasPrefix L [116, 97, 98] = false := by cases Lib.hasPrefix L [116, 97, 98] <;> simp
      rcases hp with hp | hp
      · have hc := Lib.hid (fun w' => HP.out ⟨#[116, 97, 98]⟩ _ w' hp)
        have hq : endAt T (i + 2 + 3) = true ∨ endAt T (i + 2 + 3) = false := by cases endAt T (i + 2 + 3) <;> simp
        rcases hq with hq | hq
        · have hen := Lib.hid (fun w' => ends_same_at b T i (i + 2 + 3) ln cl ((i : Int) + 2 + 3) (by omega) _ hq w')
          have HE := Lib.hid (show R = (0, 11, 9, i + 2 + 3) by
            rw [← HJ.out.rest]
            show namesP T i L (([116, 97, 98], 9) :: names4.drop 3) = _
            rw [namesP, if_pos (by simp [nameFits, hp, hq])]
            rfl)
          clear hp HJ hq
          go_wp2_with fail
          go_quiet (first | (go_at_call 108; exact Calls.quiet_of_same (hc.out _)) | (go_at_call 107; exact Calls.quiet_of_same (hen.out _ HJ2.out.lex)))
          have e1 : ((wr.alloc (.cells #[.string ⟨#[116, 97, 98]⟩, .int .i64 9] 186))).cell? ⟨tb, 1, none⟩ = some (.int .i64 0) := blk_cell (blk_drew HJ2.out.tok) 1
          have e5 : ((wr.alloc (.cells #[.string ⟨#[116, 97, 98]⟩, .int .i64 9] 186))).cell? ⟨tb, 5, none⟩ = some (.int .i64 nx) := blk_cell (blk_drew HJ2.out.tok) 5
          have k1 : ((wr.alloc (.cells #[.string ⟨#[116, 97, 98]⟩, .int .i64 9] 186))).frozen? ⟨tb, 1, none⟩ = false := blk_frozen (blk_drew HJ2.out.tok) 1
          have k5 : ((wr.alloc (.cells #[.string ⟨#[116, 97, 98]⟩, .int .i64 9] 186))).frozen? ⟨tb, 5, none⟩ = false := blk_frozen (blk_drew HJ2.out.tok) 5
          (go_wp2_with fail; repeat (go_region; go_wp2_with fail))
          go_ret
          refine ⟨by rw [HE.out]; rfl, blk_far (blk_far HJ2.out.lex HNE.out _) HNE.out _, (HJ2.out.keep.set_ 1 _).set_ 5 _, fun h => absurd (by rw [HE.out]) h, fun _ => ?_⟩
          rw [HE.out]
          exact blk_set (blk_set HJ2.out.tok 1 _) 5 _
        · have hen := Lib.hid (fun w' => ends_same_at b T i (i + 2 + 3) ln cl ((i : Int) + 2 + 3) (by omega) _ hq w')
          have HN := Lib.hid (show namesP T i L (names4.drop 3) = R by
            rw [← HJ.out.rest]
            show _ = namesP T i L (([116, 97, 98], 9) :: names4.drop 3)
            rw [namesP, if_neg (by simp [nameFits, hq])])
          clear hp HJ hq
          go_wp2_with fail
          go_quiet (first | (go_at_call 108; exact Calls.quiet_of_same (hc.out _)) | (go_at_call 107; exact Calls.quiet_of_same (hen.out _ HJ2.out.lex)))
          all_goals go_wp2_with fail
          all_goals go_roundg (4 - 3)
          all_goals first | (show 4 - 3 < 4 - 2; omega) | exact ⟨3, rfl, rfl, Lib.hid ⟨HJ2.out.lex, HJ2.out.tok, HJ2.out.nam, HJ2.out.keep, HN.out, by omega⟩⟩
      · have hc := Lib.hid (fun w' => HP.out ⟨#[116, 97, 98]⟩ _ w' hp)
        have HN := Lib.hid (show namesP T i L (names4.drop 3) = R by
          rw [← HJ.out.rest]
          show _ = namesP T i L (([116, 97, 98], 9) :: names4.drop 3)
          rw [namesP, if_neg (by simp [nameFits, hp])])
        clear hp HJ
        go_wp2_with fail
        go_quiet ((go_at_call 108; exact Calls.quiet_of_same (hc.out _)))
        all_goals go_wp2_with fail
        all_goals go_roundg (4 - 3)
        all_goals first | (show 4 - 3 < 4 - 2; omega) | exact ⟨3, rfl, rfl, Lib.hid ⟨HJ2.out.lex, HJ2.out.tok, HJ2.out.nam, HJ2.out.keep, HN.out, by omega⟩⟩
    by_cases h3 : j = 3
    · subst h3
      have n0 : wr.cell? ⟨w2.heap.size, 6, none⟩ = some (.string ⟨#[110, 117, 108]⟩) := blk_cell HJ.out.nam 6
      have n1 : wr.cell? ⟨w2.heap.size, 7, none⟩ = some (.int .i64 0) := blk_cell HJ.out.nam 7
      have hx0 : ((wr.alloc (.cells #[.string ⟨#[110, 117, 108]⟩, .int .i64 0] 186)).drew).cell? ⟨wr.heap.size, 0, none⟩ = some (.string ⟨#[110, 117, 108]⟩) := blk_cell (blk_drew (blk_new wr (.cells #[.string ⟨#[110, 117, 108]⟩, .int .i64 0] 186 (0, 0)))) 0
      have lb : b < wr.heap.size := blk_lt HJ.out.lex
      have dx1 : ((wr.alloc (.cells #[.string ⟨#[110, 117, 108]⟩, .int .i64 0] 186))).cell? ⟨b, 1, none⟩ = some (.int .i64 (i : Nat)) := blk_cell (blk_alloc HJ.out.lex _) 1
      have HX1 := Lib.hid (blk_drew (blk_new wr (.cells #[.string ⟨#[110, 117, 108]⟩, .int .i64 0] 186 (0, 0))))
      have HJ2 := Lib.hid (show NamesI b tb w2.heap.size T i (ln, cl) (tl, tc, nx) w L R 3 ((wr.alloc (.cells #[.string ⟨#[110, 117, 108]⟩, .int .i64 0] 186)).drew) from
        ⟨blk_drew (blk_alloc HJ.out.lex _), blk_drew (blk_alloc HJ.out.tok _), blk_drew (blk_alloc HJ.out.nam _), keep_allocB HJ.out.keep _, HJ.out.rest, by omega⟩)
      have hp : Lib.hasPrefix L [110, 117, 108] = true ∨ Lib.hasPrefix L [110, 117, 108] = false := by cases Lib.hasPrefix L [110, 117, 108] <;> simp
      rcases hp with hp | hp
      · have hc := Lib.hid (fun w' => HP.out ⟨#[110, 117, 108]⟩ _ w' hp)
        have hq : endAt T (i + 2 + 3) = true ∨ endAt T (i + 2 + 3) = false := by cases endAt T (i + 2 + 3) <;> simp
        rcases hq with hq | hq
        · have hen := Lib.hid (fun w' => ends_same_at b T i (i + 2 + 3) ln cl ((i : Int) + 2 + 3) (by omega) _ hq w')
          have HE := Lib.hid (show R = (0, 11, 0, i + 2 + 3) by
            rw [← HJ.out.rest]
            show namesP T i L (([110, 117, 108], 0) :: names4.drop 4) = _
            rw [namesP, if_pos (by simp [nameFits, hp, hq])]
            rfl)
          clear hp HJ hq
          go_wp2_with fail
          go_quiet (first | (go_at_call 108; exact Calls.quiet_of_same (hc.out _)) | (go_at_call 107; exact Calls.quiet_of_same (hen.out _ HJ2.out.lex)))
          have e1 : ((wr.alloc (.cells #[.string ⟨#[110, 117, 108]⟩, .int .i64 0] 186))).cell? ⟨tb, 1, none⟩ = some (.int .i64 0) := blk_cell (blk_drew HJ2.out.tok) 1
          have e5 : ((wr.alloc (.cells #[.string ⟨#[110, 117, 108]⟩, .int .i64 0] 186))).cell? ⟨tb, 5, none⟩ = some (.int .i64 nx) := blk_cell (blk_drew HJ2.out.tok) 5
          have k1 : ((wr.alloc (.cells #[.string ⟨#[110, 117, 108]⟩, .int .i64 0] 186))).frozen? ⟨tb, 1, none⟩ = false := blk_frozen (blk_drew HJ2.out.tok) 1
          have k5 : ((wr.alloc (.cells #[.string ⟨#[110, 117, 108]⟩, .int .i64 0] 186))).frozen? ⟨tb, 5, none⟩ = false := blk_frozen (blk_drew HJ2.out.tok) 5
          (go_wp2_with fail; repeat (go_region; go_wp2_with fail))
          go_ret
          refine ⟨by rw [HE.out]; rfl, blk_far (blk_far HJ2.out.lex HNE.out _) HNE.out _, (HJ2.out.keep.set_ 1 _).set_ 5 _, fun h => absurd (by rw [HE.out]) h, fun _ => ?_⟩
          rw [HE.out]
          exact blk_set (blk_set HJ2.out.tok 1 _) 5 _
        · have hen := Lib.hid (fun w' => ends_same_at b T i (i + 2 + 3) ln cl ((i : Int) + 2 + 3) (by omega) _ hq w')
          have HN := Lib.hid (show namesP T i L (names4.drop 4) = R by
            rw [← HJ.out.rest]
            show _ = namesP T i L (([110, 117, 108], 0) :: names4.drop 4)
            rw [namesP, if_neg (by simp [nameFits, hq])])
          clear hp HJ hq
          go_wp2_with fail
          go_quiet (first | (go_at_call 108; exact Calls.quiet_of_same (hc.out _)) | (go_at_call 107; exact Calls.quiet_of_same (hen.out _ HJ2.out.lex)))
          all_goals go_wp2_with fail
          all_goals go_roundg (4 - 4)
          all_goals first | (show 4 - 4 < 4 - 3; omega) | exact ⟨4, rfl, rfl, Lib.hid ⟨HJ2.out.lex, HJ2.out.tok, HJ2.out.nam, HJ2.out.keep, HN.out, by omega⟩⟩
      · have hc := Lib.hid (fun w' => HP.out ⟨#[110, 117, 108]⟩ _ w' hp)
        have HN := Lib.hid (show namesP T i L (names4.drop 4) = R by
          rw [← HJ.out.rest]
          show _ = namesP T i L (([110, 117, 108], 0) :: names4.drop 4)
          rw [namesP, if_neg (by simp [nameFits, hp])])
        clear hp HJ
        go_wp2_with fail
        go_quiet ((go_at_call 108; exact Calls.quiet_of_same (hc.out _)))
        all_goals go_wp2_with fail
        all_goals go_roundg (4 - 4)
        all_goals first | (show 4 - 4 < 4 - 3; omega) | exact ⟨4, rfl, rfl, Lib.hid ⟨HJ2.out.lex, HJ2.out.tok, HJ2.out.nam, HJ2.out.keep, HN.out, by omega⟩⟩
    · obtain rfl : j = 4 := by omega
      have HE := Lib.hid (show R = (6, 0, 0, 0) from HJ.out.rest.symm)
      go_wp2_with fail
      go_ret
      refine ⟨by rw [HE.out]; rfl, HJ.out.lex, HJ.out.keep, fun _ => ⟨11, 0, ⟨#[]⟩, nx, HJ.out.tok⟩, fun h => ?_⟩
      rw [HE.out] at h; cases h
end Go.Proofs.YthighbbikpnpgaaDoor
