/-
  The reference's Where.
-/
import Derived.Test.YthighbbikpnpgaaDoorLB5
import Derived.Deep.LoopGhost
namespace Go.Proofs.YthighbbikpnpgaaDoor
open Go.RowKit Go.Proofs.YthighbbikpnpgaaDoorW.PrintWords

structure WhI (T : ByteArray) (w : World) (m : Nat) (q : Int × Int) (p : Nat) (l c : Int) (w' : World) : Prop where
  below : Below w.heap.size w w'
  rest : whereL ((T.data.toList.drop p).take (m - p)) l c = q
  le : p ≤ m
  l0 : 0 ≤ l
  l1 : l ≤ 1100000000 + p
  c0 : 0 ≤ c
  c1 : c ≤ 1100000000 + p

set_option maxRecDepth 400000 in
set_option maxHeartbeats 4000000 in
theorem where_any (T : ByteArray) (i m : Nat) (l c : Int) (w : World) (him : i ≤ m) (hm : m ≤ T.size) (hT : T.size ≤ 1000000000) (h1 : 0 ≤ l) (h2 : l ≤ 1100000000) (h3 : 0 ≤ c) (h4 : c ≤ 1100000000) :
    Calls Tryd.prog 38 #[.string T, .int .i64 (i : Nat), .int .i64 (m : Nat), .int .i64 l, .int .i64 c] w fun e w' => e = .returned (.tuple #[.int .i64 (whereL ((T.data.toList.drop i).take (m - i)) l c).1, .int .i64 (whereL ((T.data.toList.drop i).take (m - i)) l c).2]) ∧ Below w.heap.size w w' := by
  obtain ⟨q, hq⟩ : ∃ q, whereL ((T.data.toList.drop i).take (m - i)) l c = q := ⟨_, rfl⟩
  have HI := Lib.hid (show WhI T w m q i l c w from ⟨Below.refl _ _, hq, him, h1, by omega, h3, by omega⟩)
  rw [hq]
  have HM := Lib.hid (show m ≤ T.size ∧ T.size ≤ 1000000000 from ⟨hm, hT⟩)
  clear hq h1 h2 h3 h4 hT
  go_enter Tryd.func38, Tryd.ntmps38
  go_wp2_with fail
  go_loopg [3, 4, 12] (m - i) (fun gk v3 v4 v12 w' => ∃ (p : Nat) (l c : Int), v3 = .int .i64 l ∧ v4 = .int .i64 c ∧ v12 = .int .i64 (p : Nat) ∧ gk = m - p ∧ Hid (WhI T w m q p l c w'))
  case atStart => exact ⟨i, l, c, rfl, rfl, rfl, rfl, HI⟩
  case round =>
    clear HI
    obtain ⟨p, l', c', rfl, rfl, rfl, rfl, HJ⟩ := hrel
    have hMT := HM.out
    have hple := HJ.out.le
    have hb1 := HJ.out.l0
    have hb2 := HJ.out.l1
    have hb3 := HJ.out.c0
    have hb4 := HJ.out.c1
    by_cases hp : p < m
    · have hp' : (p : Int) < (m : Nat) := by omega
      have hpT : p < T.size := by omega
      have hpT' : (p : Int) < (T.size : Nat) := by omega
      obtain ⟨x, hx⟩ : ∃ x, T[p]'hpT = x := ⟨_, rfl⟩
      have hbx : ∀ h, T[p]'h = x := fun _ => hx
      have x256 : x.toNat < 256 := x.toNat_lt
      have HE := Lib.hid (show whereL ((T.data.toList.drop (p + 1)).take (m - (p + 1))) (lineOf x l') (colOf x c') = q by
        rw [← HJ.out.rest, drop_cons hpT, hx, show m - p = (m - (p + 1)) + 1 by omega, List.take_succ_cons, whereL])
      clear hx
      by_cases h10 : x = 10
      · subst h10
        have HN := Lib.hid (show WhI T w m q (p + 1) (l' + 1) 1 wr from ⟨HJ.out.below, HE.out, hp, by omega, by omega, by omega, by omega⟩)
        clear HJ HE
        (go_wp2_with fail; repeat (go_region; go_wp2_with fail))
        go_roundg (m - (p + 1))
        case measure => omega
        case rel => exact ⟨p + 1, l' + 1, 1, rfl, rfl, rfl, rfl, HN⟩
      · have b10 : ((x.toNat : Int) == 10) = false := u8ne (n := 10) (by omega) h10
        have p10 : ¬ (x.toNat : Int) = 10 := fun e => h10 ((byte_int x 10 (by omega)).1 e)
        have HN := Lib.hid (show WhI T w m q (p + 1) l' (c' + 1) wr from ⟨HJ.out.below, by
          have := HE.out
          rw [lineOf, if_neg h10, colOf, if_neg h10] at this
          exact this, hp, by omega, by omega, by omega, by omega⟩)
        clear HJ HE h10
        (go_wp2_with fail; repeat (go_region; go_wp2_with fail))
        go_roundg (m - (p + 1))
        case measure => omega
        case rel => exact ⟨p + 1, l', c' + 1, rfl, rfl, rfl, rfl, HN⟩
    · have hp' : ¬ (p : Int) < (m : Nat) := by omega
      have hpe : p = m := by omega
      have HE := Lib.hid (show (l', c') = q by
        have := HJ.out.rest
        rw [hpe, Nat.sub_self, List.take_zero, whereL] at this
        exact this)
      clear hpe
      (go_wp2_with fail; repeat (go_region; go_wp2_with fail))
      go_ret2
      exact ⟨by rw [← HE.out]; rfl, HJ.out.below⟩
end Go.Proofs.YthighbbikpnpgaaDoor
