/-
  An error's kind and name, as the law takes them.
-/
import Derived.Test.YtneokkhnjnomdaaGreatDoorPrS
import Derived.Test.YtneokkhnjnomdaaGreatDoorGB2
import Derived.Deep.LoopGhost
import Derived.Handy
namespace Go.Proofs.YtneokkhnjnomdaaGreatDoor
open Go.RowKit Go.Proofs.YtneokkhnjnomdaaGreatDoorW.PrintWords

abbrev nameV (k : Int) (s : ByteArray) : Value := .agg #[.int .i64 k, .string s]

theorem et_below {w w' : World} (h : EtIs w) (hb : Below w.heap.size w w') : EtIs w' :=
  keep_cell (KeepBut.of_below hb (0 + 1) none) h (by simp)

structure NameTo (k : Int) (s : ByteArray) (w : World) (e : Ending) (w' : World) : Prop where
  ret : e = .returned (nameV k s)
  below : Below w.heap.size w w'

structure NameI (k : Int) (s : ByteArray) (w : World) (w' : World) : Prop where
  below : Below w.heap.size w w'
  out : w'.heap[w.heap.size + 1]? = some (.cells #[.int .i64 k, .string s] 34 (0, 0))
  res : w'.heap[w.heap.size]? = some (.cells #[.int .i64 0, .string ⟨#[]⟩] 34 (0, 0))

theorem NameI.step {k : Int} {s : ByteArray} {w w1 w2 : World} (h : NameI k s w w1) (hb : Below w1.heap.size w1 w2) : NameI k s w w2 :=
  ⟨below_weaken h.below h.below.size hb, blk_below h.out hb, blk_below h.res hb⟩

theorem nameI_start (w : World) : NameI (-1) ⟨#[]⟩ w ((w.alloc (.cells #[.int .i64 0, .string ⟨#[]⟩] 34)).alloc (.cells #[.int .i64 (-1), .string ⟨#[]⟩] 34)) := by
  refine ⟨below_alloc (below_alloc (Below.refl _ _) _) _, ?_, blk_alloc (blk_new w _) _⟩
  have := blk_new (w.alloc (.cells #[.int .i64 0, .string ⟨#[]⟩] 34)) (.cells #[.int .i64 (-1), .string ⟨#[]⟩] 34 (0, 0))
  rw [show (w.alloc (.cells #[.int .i64 0, .string ⟨#[]⟩] 34)).heap.size = w.heap.size + 1 by simp] at this
  exact this

set_option maxRecDepth 100000 in
set_option maxHeartbeats 4000000 in
theorem name_nil (w : World) : Calls Tryz.prog 11 #[.nilIface] w (NameTo 0 ⟨#[]⟩ w) := by
  go_enter Tryz.func11, Tryz.ntmps11
  (go_wp2_with fail; repeat (go_region; go_wp2_with fail))
  go_returns
  exact ⟨rfl, below_alloc (Below.refl _ _) _⟩

set_option maxRecDepth 100000 in
set_option maxHeartbeats 4000000 in
theorem name_kind (k : Int) (hk : 1 ≤ k ∧ k ≤ 20) (w : World) (hg : EtIs w) : Calls Tryz.prog 11 #[kindV k] w (NameTo k ⟨#[]⟩ w) := by
  obtain ⟨a, rfl⟩ : ∃ a : Nat, k = (a : Int) := ⟨k.toNat, by omega⟩
  have HG := Lib.hid hg
  clear hg
  go_enter Tryz.func11, Tryz.ntmps11
  (go_wp2_with fail; repeat (go_region; go_wp2_with fail))
  go_loopg [4] (21 - 1) (fun gk v w' => ∃ (j : Nat), v = .int .i64 (j : Nat) ∧ gk = 21 - j ∧ 1 ≤ j ∧ j ≤ a ∧ Hid (NameI (-1) ⟨#[]⟩ w w'))
  case atStart => exact ⟨1, rfl, rfl, Nat.le_refl _, by omega, Lib.hid (nameI_start w)⟩
  case round =>
    obtain ⟨j, rfl, rfl, hj1, hj2, HJ⟩ := hrel
    have hj20 : (j : Int) ≤ 20 := by omega
    go_wp2_with fail
    refine (is_kind _ _ _).mono ?_
    rintro e w1 ⟨rfl, rfl⟩
    by_cases hja : j = a
    · subst hja
      have hb : ((j : Int) == (j : Int)) = true := by simp
      rw [hb]
      have o0 : w1.cell? ⟨w.heap.size + 1, 0, none⟩ = some (.int .i64 (-1)) := blk_cell HJ.out.out 0
      have g0 := blk_frozen HJ.out.out 0
      (go_wp2_with fail; repeat (go_region; go_wp2_with fail))
      have HF := Lib.hid (show NameI (j : Nat) ⟨#[]⟩ w (w1.setCell ⟨w.heap.size + 1, 0, none⟩ (.int .i64 (j : Nat))) from ⟨below_set HJ.out.below (by omega), blk_set HJ.out.out 0 _, (Below.heap_setCell w1 _ _ _ (by simp)).trans HJ.out.res⟩)
      clear o0 g0
      refine (ab_kind _ w1.heap.size ⟨#[]⟩ .nilIface _ (et_below HG.out (below_alloc HF.out.below _)) ?hc).mono ?_
      case hc =>
        have := blk_new (w1.setCell ⟨w.heap.size + 1, 0, none⟩ (.int .i64 (j : Nat))) (.cells #[.string ⟨#[]⟩, .nilIface] 56 (0, 0))
        rw [show (w1.setCell ⟨w.heap.size + 1, 0, none⟩ (.int .i64 (j : Nat))).heap.size = w1.heap.size by simp] at this
        exact this
      rintro e w3 hw3
      obtain rfl := hw3.ret
      have hsz := HJ.out.below.size
      have hs1 : w.heap.size + 1 < w1.heap.size := blk_lt HJ.out.out
      have HF3 := Lib.hid (show NameI (j : Nat) ⟨#[]⟩ w w3 from by
        have hb := hw3.below (B := w1.heap.size) (Nat.le_refl _) (by simp)
        refine ⟨(below_alloc HF.out.below _).trans (hb.mono hsz), (hb.block _ hs1).trans (blk_alloc HF.out.out _), (hb.block _ (by omega)).trans (blk_alloc HF.out.res _)⟩)
      clear hw3
      have o0 : w3.cell? ⟨w.heap.size + 1, 0, none⟩ = some (.int .i64 (j : Nat)) := blk_cell HF3.out.out 0
      have o1 : w3.cell? ⟨w.heap.size + 1, 1, none⟩ = some (.string ⟨#[]⟩) := blk_cell HF3.out.out 1
      have r0 : w3.cell? ⟨w.heap.size, 0, none⟩ = some (.int .i64 0) := blk_cell HF3.out.res 0
      have r1 : w3.cell? ⟨w.heap.size, 1, none⟩ = some (.string ⟨#[]⟩) := blk_cell HF3.out.res 1
      have g0 := blk_frozen HF3.out.res 0
      have g1 := blk_frozen HF3.out.res 1
      (go_wp2_with fail; repeat (go_region; go_wp2_with fail))
      have HR := blk_set (blk_set HF3.out.res 0 (.int .i64 (j : Nat))) 1 (.string ⟨#[]⟩)
      have q0 := blk_cell HR 0
      have q1 := blk_cell HR 1
      clear r0 r1 o0 o1 g0 g1
      (try simp only [Exit.inBlock, Exit.then])
      refine bodyPost_ret (v := nameV (j : Nat) ⟨#[]⟩) (by simp [results, Tryz.results11, go_sem, q0, q1]) rfl ?_
      exact ⟨rfl, below_set (below_set HF3.out.below (Nat.le_refl _)) (Nat.le_refl _)⟩
    · have hb : ((a : Int) == (j : Int)) = false := beq_eq_false_iff_ne.2 (by omega)
      rw [hb]
      (go_wp2_with fail; repeat (go_region; go_wp2_with fail))
      go_roundg (21 - (j + 1))
      case measure => omega
      case rel => exact ⟨j + 1, rfl, rfl, by omega, by omega, HJ⟩

set_option maxRecDepth 100000 in
set_option maxHeartbeats 4000000 in
theorem name_ab (s : ByteArray) (k : Int) (hk : 1 ≤ k ∧ k ≤ 20) (w : World) (hg : EtIs w) : Calls Tryz.prog 11 #[abV s k] w (NameTo k s w) := by
  obtain ⟨a, rfl⟩ : ∃ a : Nat, k = (a : Int) := ⟨k.toNat, by omega⟩
  have HG := Lib.hid hg
  clear hg
  go_enter Tryz.func11, Tryz.ntmps11
  (go_wp2_with fail; repeat (go_region; go_wp2_with fail))
  go_loopg [4] (21 - 1) (fun gk v w' => ∃ (j : Nat), v = .int .i64 (j : Nat) ∧ gk = 21 - j ∧ 1 ≤ j ∧ j ≤ a ∧ Hid (NameI (-1) ⟨#[]⟩ w w'))
  case atStart => exact ⟨1, rfl, rfl, Nat.le_refl _, by omega, Lib.hid (nameI_start w)⟩
  case round =>
    obtain ⟨j, rfl, rfl, hj1, hj2, HJ0⟩ := hrel
    have hj20 : (j : Int) ≤ 20 := by omega
    go_wp2_with fail
    refine (is_ab _ _ _ _).mono ?_
    rintro e w1 ⟨rfl, hb1⟩
    have HJ := Lib.hid (HJ0.out.step hb1)
    clear hb1 HJ0
    by_cases hja : j = a
    · subst hja
      have hb : ((j : Int) == (j : Int)) = true := by simp
      rw [hb]
      have o0 : w1.cell? ⟨w.heap.size + 1, 0, none⟩ = some (.int .i64 (-1)) := blk_cell HJ.out.out 0
      have g0 := blk_frozen HJ.out.out 0
      (go_wp2_with fail; repeat (go_region; go_wp2_with fail))
      have HF := Lib.hid (show NameI (j : Nat) ⟨#[]⟩ w (w1.setCell ⟨w.heap.size + 1, 0, none⟩ (.int .i64 (j : Nat))) from ⟨below_set HJ.out.below (by omega), blk_set HJ.out.out 0 _, (Below.heap_setCell w1 _ _ _ (by simp)).trans HJ.out.res⟩)
      clear o0 g0
      refine (ab_as _ _ w1.heap.size ⟨#[]⟩ .nilIface _ (et_below HG.out (below_alloc HF.out.below _)) ?hc).mono ?_
      case hc =>
        have := blk_new (w1.setCell ⟨w.heap.size + 1, 0, none⟩ (.int .i64 (j : Nat))) (.cells #[.string ⟨#[]⟩, .nilIface] 56 (0, 0))
        rw [show (w1.setCell ⟨w.heap.size + 1, 0, none⟩ (.int .i64 (j : Nat))).heap.size = w1.heap.size by simp] at this
        exact this
      rintro e w3 hw3
      obtain rfl := hw3.ret
      have hsz := HJ.out.below.size
      have hs1 : w.heap.size + 1 < w1.heap.size := blk_lt HJ.out.out
      have HF3 := Lib.hid (show NameI (j : Nat) ⟨#[]⟩ w w3 from by
        have hb := hw3.below (B := w1.heap.size) (Nat.le_refl _) (by simp)
        refine ⟨(below_alloc HF.out.below _).trans (hb.mono hsz), (hb.block _ hs1).trans (blk_alloc HF.out.out _), (hb.block _ (by omega)).trans (blk_alloc HF.out.res _)⟩)
      have a0 : w3.cell? ⟨w1.heap.size, 0, none⟩ = some (.string s) := blk_cell hw3.cells 0
      clear hw3
      have o0 : w3.cell? ⟨w.heap.size + 1, 0, none⟩ = some (.int .i64 (j : Nat)) := blk_cell HF3.out.out 0
      have o1 : w3.cell? ⟨w.heap.size + 1, 1, none⟩ = some (.string ⟨#[]⟩) := blk_cell HF3.out.out 1
      have r0 : w3.cell? ⟨w.heap.size, 0, none⟩ = some (.int .i64 0) := blk_cell HF3.out.res 0
      have r1 : w3.cell? ⟨w.heap.size, 1, none⟩ = some (.string ⟨#[]⟩) := blk_cell HF3.out.res 1
      have p1 := blk_frozen HF3.out.out 1
      have g0 := blk_frozen HF3.out.res 0
      have g1 := blk_frozen HF3.out.res 1
      (go_wp2_with fail; repeat (go_region; go_wp2_with fail))
      have H2 := (Below.heap_setCell w3 ⟨w.heap.size + 1, 1, none⟩ (.string s) _ (by simp)).trans HF3.out.res
      have HR := blk_set (blk_set H2 0 (.int .i64 (j : Nat))) 1 (.string s)
      have q0 := blk_cell HR 0
      have q1 := blk_cell HR 1
      clear r0 r1 o0 o1 g0 g1 a0 p1
      (try simp only [Exit.inBlock, Exit.then])
      refine bodyPost_ret (v := nameV (j : Nat) s) (by simp [results, Tryz.results11, go_sem, q0, q1]) rfl ?_
      exact ⟨rfl, below_set (below_set (below_set HF3.out.below (by omega)) (Nat.le_refl _)) (Nat.le_refl _)⟩
    · have hb : ((a : Int) == (j : Int)) = false := beq_eq_false_iff_ne.2 (by omega)
      rw [hb]
      (go_wp2_with fail; repeat (go_region; go_wp2_with fail))
      go_roundg (21 - (j + 1))
      case measure => omega
      case rel => exact ⟨j + 1, rfl, rfl, by omega, by omega, HJ⟩
end Go.Proofs.YtneokkhnjnomdaaGreatDoor
