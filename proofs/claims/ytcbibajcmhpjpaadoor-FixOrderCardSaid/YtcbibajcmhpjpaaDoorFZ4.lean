/-
  Walk: layer 2's law FixOrder, one of four ways.
-/
import Derived.Test.YtcbibajcmhpjpaaDoorFZ0
import Derived.Deep.RegionHeld3
namespace Go.Proofs.YtcbibajcmhpjpaaDoor
open Go.RowKit

set_option maxHeartbeats 40000000 in
theorem order_ok_kind (a b : Int) (W : World) (htab : Tab W) (hz0 : ¬ (mulL a b).2 = 0) (hk : (addL a b).2 = 0) :
    Calls Tryd.prog 10 #[.int .i64 a, .int .i64 b] W fun e w' => e = .returned (.bool true) ∧ Below W.heap.size W w' := by
  have HA := Lib.hid awake_any
  have c1 := Lib.hid (add_any a b W)
  have c2 := Lib.hid (add_any b a W)
  have c3 := Lib.hid (mul_any a b W)
  have c4 := Lib.hid (mul_any b a W)
  rw [add_comm'] at c2
  rw [mul_comm'] at c4
  obtain ⟨hA, hB, hS, e1⟩ := add_nil hk
  have R := Lib.hid (show resV (subL (a + b) b) = .tuple #[.int .i64 a, .nilIface] by
    rw [subL, hS, hB, Int.add_sub_cancel, Bool.and_self, if_pos rfl, fitL, if_pos hA]; rfl)
  rw [e1, show resV (a + b, 0) = .tuple #[.int .i64 (a + b), .nilIface] from rfl] at c1 c2
  generalize a + b = x at c1 c2 R
  generalize mulL a b = z at c3 c4 hz0
  obtain ⟨z1, z2⟩ := z
  simp only at hz0
  have hz : resV (z1, z2) = .tuple #[.int .i64 z1, kindV z2] := by rw [resV, errV_n hz0]
  rw [hz] at c3 c4
  clear hk e1 hA hB hS hz hz0
  go_enter Tryd.func10, Tryd.ntmps10
  go_wp2_with fail
  refine c1.out.mono ?_
  rintro e w' ⟨rfl, rfl⟩
  go_wp2_with fail
  refine c2.out.mono ?_
  rintro e w' ⟨rfl, rfl⟩
  go_wp2_with fail
  refine c3.out.mono ?_
  rintro e w' ⟨rfl, rfl⟩
  go_wp2_with fail
  refine c4.out.mono ?_
  rintro e w' ⟨rfl, rfl⟩
  go_wp2_with fail
  go_cut [64] (fun s wx => s = .bool false ∧ Below w'.heap.size w' wx)
  case first =>
    go_region_held3 (fun _ => True) (trivial) ((go_at_call 14; refine (HA.out _ ?_).mono ?_; exact tab_drew htab; rintro e w1 ⟨rfl, hb1⟩; replace hb1 := below_of_drew hb1))
    all_goals (go_wp2_with fail)
    all_goals go_meet
    all_goals exact ⟨rfl, hb1⟩
  case rest =>
    obtain ⟨rfl, hb1⟩ := hcut
    go_wp2_with fail
    refine (sub_any _ _ _).mono ?_
    rintro e w' ⟨rfl, rfl⟩
    rw [R.out]
    go_wp2_with fail
    go_ret
    exact ⟨by simp, hb1⟩
end Go.Proofs.YtcbibajcmhpjpaaDoor
