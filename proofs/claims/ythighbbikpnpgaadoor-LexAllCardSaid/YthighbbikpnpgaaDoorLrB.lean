/-
  The reference's skip.
-/
import Derived.Test.YthighbbikpnpgaaDoorLrA
import Derived.Deep.LoopGhost
import Derived.OwnWalk
namespace Go.Proofs.YthighbbikpnpgaaDoor
open Go.RowKit Go.Proofs.YthighbbikpnpgaaDoorW.PrintWords

structure RsI (T : ByteArray) (w : World) (R : Nat × Int × Int) (note : Bool) (j : Nat) (l c : Int) (w' : World) : Prop where
  below : Below w.heap.size w w'
  rest : skipR (T.data.toList.drop j) note j l c = R
  le : j ≤ T.size
  l0 : 0 ≤ l
  l1 : l ≤ 1100000000 + j
  c0 : 0 ≤ c
  c1 : c ≤ 1100000000 + j

theorem RsI.next {T : ByteArray} {w : World} {R : Nat × Int × Int} {note : Bool} {j : Nat} {l c : Int} {w' : World} (h : RsI T w R note j l c w') (hj : j < T.size) {x : UInt8} (hx : ∀ h, T[j]'h = x) (hc : ¬ ((note || x == 59) = false ∧ blankB x = false)) : RsI T w R ((note || x == 59) && !(x == 10)) (j + 1) (lineOf x l) (colOf x c) w' where
  below := h.below
  rest := by
    have := h.rest
    rw [drop_cons hj, hx hj, skipR, if_neg hc] at this
    exact this
  le := hj
  l0 := by have := h.l0; unfold lineOf; split <;> omega
  l1 := by have := h.l1; unfold lineOf; split <;> omega
  c0 := by have := h.c0; unfold colOf; split <;> omega
  c1 := by have := h.c1; unfold colOf; split <;> omega

set_option maxRecDepth 400000 in
set_option maxHeartbeats 4000000 in
theorem refskip_any (T : ByteArray) (i : Nat) (l c : Int) (w : World) (hi : i ≤ T.size) (hT : T.size ≤ 1000000000) (h1 : 0 ≤ l) (h2 : l ≤ 1100000000) (h3 : 0 ≤ c) (h4 : c ≤ 1100000000) :
    Calls Tryd.prog 66 #[.string T, .int .i64 (i : Nat), .int .i64 l, .int .i64 c] w fun e w' => e = .returned (.tuple #[.int .i64 ((skipR (T.data.toList.drop i) false i l c).1 : Nat), .int .i64 (skipR (T.data.toList.drop i) false i l c).2.1, .int .i64 (skipR (T.data.toList.drop i) false i l c).2.2]) ∧ Below w.heap.size w w' := by
  obtain ⟨R, hR⟩ : ∃ R, skipR (T.data.toList.drop i) false i l c = R := ⟨_, rfl⟩
  have HI := Lib.hid (show RsI T w R false i l c w from ⟨Below.refl _ _, hR, hi, h1, by omega, h3, by omega⟩)
  rw [hR]
  have HT := Lib.hid hT
  clear hR h1 h2 h3 h4 hT hi
  go_enter Tryd.func66, Tryd.ntmps66
  go_wp2_with fail
  go_loopg [1, 2, 3, 11] (T.size - i) (fun gk v1 v2 v3 v11 w' => ∃ (note : Bool) (j : Nat) (l c : Int), v1 = .int .i64 (j : Nat) ∧ v2 = .int .i64 l ∧ v3 = .int .i64 c ∧ v11 = .bool note ∧ gk = T.size - j ∧ Hid (RsI T w R note j l c w'))
  case atStart => exact ⟨false, i, l, c, rfl, rfl, rfl, rfl, rfl, HI⟩
  case round =>
    clear HI
    obtain ⟨note, j, l', c', rfl, rfl, rfl, rfl, rfl, HJ⟩ := hrel
    have hTT := HT.out
    have hb0 := HJ.out.le
    have hb1 := HJ.out.l0
    have hb2 := HJ.out.l1
    have hb3 := HJ.out.c0
    have hb4 := HJ.out.c1
    by_cases hlt : j < T.size
    · have hlt' : (j : Int) < (T.size : Nat) := by omega
      obtain ⟨x, hx⟩ : ∃ x, T[j]'hlt = x := ⟨_, rfl⟩
      have hbx : ∀ h, T[j]'h = x := fun _ => hx
      clear hx
      have x256 : x.toNat < 256 := x.toNat_lt
      by_cases h59 : x = 59
      · subst h59
        have HN := Lib.hid (show RsI T w R true (j + 1) l' (c' + 1) wr from by
          have := HJ.out.next hlt hbx (by simp)
          rw [lineOf, if_neg (by decide), colOf, if_neg (by decide), show ((note || (59 : UInt8) == 59) && !((59 : UInt8) == 10)) = true by cases note <;> rfl] at this
          exact this)
        (go_wp2_with fail; repeat (go_region; go_wp2_with fail))
        go_roundg (T.size - (j + 1))
        case measure => omega
        case rel => exact ⟨true, j + 1, l', c' + 1, rfl, rfl, rfl, rfl, rfl, HN⟩
      · have b59 : ((x.toNat : Int) == 59) = false := u8ne (n := 59) (by omega) h59
        have p59 : ¬ (x.toNat : Int) = 59 := fun e => h59 ((byte_int x 59 (by omega)).1 e)
        have q59 : (x == 59) = false := by simpa using h59
        by_cases h10 : x = 10
        · subst h10
          have HN := Lib.hid (show RsI T w R false (j + 1) (l' + 1) 1 wr from by
            have := HJ.out.next hlt hbx (fun h => by cases h.2)
            rw [lineOf, if_pos rfl, colOf, if_pos rfl, show ((note || (10 : UInt8) == 59) && !((10 : UInt8) == 10)) = false by cases note <;> rfl] at this
            exact this)
          cases note
          · go_wp2_with fail
            refine (refblank_any 10 _).mono ?_
            rintro e w' ⟨rfl, rfl⟩
            rw [show blankB 10 = true from rfl]
            (go_wp2_with fail; repeat (go_region; go_wp2_with fail))
            go_roundg (T.size - (j + 1))
            case measure => omega
            case rel => exact ⟨false, j + 1, l' + 1, 1, rfl, rfl, rfl, rfl, rfl, HN⟩
          · (go_wp2_with fail; repeat (go_region; go_wp2_with fail))
            go_roundg (T.size - (j + 1))
            case measure => omega
            case rel => exact ⟨false, j + 1, l' + 1, 1, rfl, rfl, rfl, rfl, rfl, HN⟩
        · have b10 : ((x.toNat : Int) == 10) = false := u8ne (n := 10) (by omega) h10
          have p10 : ¬ (x.toNat : Int) = 10 := fun e => h10 ((byte_int x 10 (by omega)).1 e)
          have q10 : (x == 10) = false := by simpa using h10
          cases note
          · have hB : blankB x = true ∨ blankB x = false := by cases blankB x <;> simp
            rcases hB with hB | hB
            · have HN := Lib.hid (show RsI T w R false (j + 1) l' (c' + 1) wr from by
                have := HJ.out.next hlt hbx (fun h => by rw [hB] at h; cases h.2)
                rw [lineOf, if_neg h10, colOf, if_neg h10, q59] at this
                exact this)
              have HBL := Lib.hid (refblank_any x)
              rw [hB] at HBL
              clear h10 h59 q10 q59 hB
              go_wp2_with fail
              refine (HBL.out _).mono ?_
              rintro e w' ⟨rfl, rfl⟩
              (go_wp2_with fail; repeat (go_region; go_wp2_with fail))
              go_roundg (T.size - (j + 1))
              case measure => omega
              case rel => exact ⟨false, j + 1, l', c' + 1, rfl, rfl, rfl, rfl, rfl, HN⟩
            · have HE := Lib.hid (show (j, l', c') = R by
                have := HJ.out.rest
                rw [drop_cons hlt, hbx hlt, skipR, if_pos ⟨by rw [q59]; rfl, hB⟩] at this
                exact this)
              have HBL := Lib.hid (refblank_any x)
              rw [hB] at HBL
              clear h10 h59 q10 q59 hB
              go_wp2_with fail
              refine (HBL.out _).mono ?_
              rintro e w' ⟨rfl, rfl⟩
              (go_wp2_with fail; repeat (go_region; go_wp2_with fail))
              go_ret3
              exact ⟨by rw [← HE.out]; rfl, HJ.out.below⟩
          · have HN := Lib.hid (show RsI T w R true (j + 1) l' (c' + 1) wr from by
              have := HJ.out.next hlt hbx (fun h => by cases h.1)
              rw [lineOf, if_neg h10, colOf, if_neg h10, show ((true || x == 59) && !(x == 10)) = true by rw [q10]; rfl] at this
              exact this)
            clear h10 h59 q10 q59
            (go_wp2_with fail; repeat (go_region; go_wp2_with fail))
            go_roundg (T.size - (j + 1))
            case measure => omega
            case rel => exact ⟨true, j + 1, l', c' + 1, rfl, rfl, rfl, rfl, rfl, HN⟩
    · have hlt' : ¬ (j : Int) < (T.size : Nat) := by omega
      have HE := Lib.hid (show (j, l', c') = R by
        have := HJ.out.rest
        rw [List.drop_eq_nil_of_le (by simp; omega), skipR] at this
        exact this)
      (go_wp2_with fail; repeat (go_region; go_wp2_with fail))
      go_ret3
      exact ⟨by rw [← HE.out]; rfl, HJ.out.below⟩
end Go.Proofs.YthighbbikpnpgaaDoor
