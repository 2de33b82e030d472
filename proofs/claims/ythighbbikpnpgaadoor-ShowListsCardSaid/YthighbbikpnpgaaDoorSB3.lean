/-
  What the printed function Right comes to.
  A datum that comes in, opened; the laws ShowChars and ShowTexts.
  The law ShowTexts.
-/
import Derived.Test.YthighbbikpnpgaaDoorSB2
import Derived.ProofKit
import Derived.OpenShut
import Derived.Deep.Slices

/-! PShx7 -/
-- PRINTED by print.py (a twelfth state) out of the translation. Not trusted: Lean checks it.
namespace Go.Proofs.YthighbbikpnpgaaDoor.PSh
open Go.RowKit Go.Proofs.YthighbbikpnpgaaDoorW.PrintWords Go.Proofs.YthighbbikpnpgaaDoorW.PrintLast Go.Proofs.YthighbbikpnpgaaDoorW.PrintMore
attribute [local go_sem] max2_int min2_int max_two min_two max_three min_three max_four min_four   -- for this text's walks alone
set_option linter.unusedVariables false
set_option linter.unusedSimpArgs false

/-! ### spindleref08_right: function 72 -/
mutual
def spindleref08_right.j0 : Nat → Int → Bool → Bool → Int → Int → ByteArray → List (S84) → Option (Bool)
  | 0, _, _, _, _, _, _, _ => none
  | k + 1, x1, x5, x95, x123000, x123001, x123002, x123003 => if x95 = true then (if x123001 = 0 then (if x123002.toList = ([] : List UInt8) then (if x1 ≤ 1 then (spindleref08_right.j1 k x1 (!x5) x123000 x123001 x123002 x123003) else (spindleref08_right.j1 k x1 false x123000 x123001 x123002 x123003)) else (spindleref08_right.j1 k x1 true x123000 x123001 x123002 x123003)) else (spindleref08_right.j1 k x1 true x123000 x123001 x123002 x123003)) else (some false)
def spindleref08_right.j1 : Nat → Int → Bool → Int → Int → ByteArray → List (S84) → Option (Bool)
  | 0, _, _, _, _, _, _ => none
  | k + 1, x1, x114, x123000, x123001, x123002, x123003 => if x114 = true then (some false) else (spindleref08_right.l0 k x1 0 x123000 x123001 x123002 x123003)
def spindleref08_right.l0 : Nat → Int → Int → Int → Int → ByteArray → List (S84) → Option (Bool)
  | 0, _, _, _, _, _, _ => none
  | k + 1, x1, x6, x123000, x123001, x123002, x123003 => if x6 < (x123003.length : Int) then (if 0 ≤ x6 then ((spindleref08_right.f k ((rd_T84 x123003 x6).f0) ((rd_T84 x123003 x6).f1) ((rd_T84 x123003 x6).f2) ((rd_T84 x123003 x6).f3) (wrap64 (x1 - 1))).bind fun t125 => (if t125 = true then (spindleref08_right.l0 k x1 (wrap64 (x6 + 1)) x123000 x123001 x123002 x123003) else (some false))) else (none)) else (if x123000 = 7 then (if (x123003.length : Int) ≥ 2 then (if 0 ≤ (wrap64 ((x123003.length : Int) - 1)) then (if (wrap64 ((x123003.length : Int) - 1)) < (x123003.length : Int) then (if ((rd_T84 x123003 (wrap64 ((x123003.length : Int) - 1))).f0) = 6 then (some false) else (some (((rd_T84 x123003 (wrap64 ((x123003.length : Int) - 1))).f0) != 7))) else (none)) else (none)) else (some false)) else (some true))
def spindleref08_right.f : Nat → Int → Int → ByteArray → List (S84) → Int → Option (Bool)
  | 0, _, _, _, _, _ => none
  | k + 1, a0_0, a0_1, a0_2, l0_3, a1 => if a0_0 = 1 then (if (l0_3.length : Int) = 0 then (if a0_2.toList = ([] : List UInt8) then (if a0_1 ≥ (-1152921504606846976) then (some (decide (a0_1 < 1152921504606846976))) else (some false)) else (some false)) else (some false)) else (if a0_0 = 2 then (if (l0_3.length : Int) = 0 then (if a0_2.toList = ([] : List UInt8) then (if a0_1 = 0 then (some true) else (some (a0_1 == 1))) else (some false)) else (some false)) else (if a0_0 = 3 then (if (l0_3.length : Int) = 0 then (if a0_2.toList = ([] : List UInt8) then (if a0_1 ≥ 0 then (some (decide (a0_1 ≤ 255))) else (some false)) else (some false)) else (some false)) else (if a0_0 = 4 then (if (l0_3.length : Int) = 0 then (if a0_1 = 0 then (some (decide ((a0_2.size : Int) ≤ 500))) else (some false)) else (some false)) else (if a0_0 = 5 then (if (l0_3.length : Int) = 0 then (if a0_1 = 0 then ((spindleref07_Symbol.f k a0_2).bind fun t123 => (some t123)) else (some false)) else (some false)) else (if a0_0 = 6 then (spindleref08_right.j0 k a1 ((l0_3.length : Int) == 0) (a0_0 == 6) a0_0 a0_1 a0_2 l0_3) else (if a0_0 = 7 then (spindleref08_right.j0 k a1 ((l0_3.length : Int) == 0) (a0_0 == 7) a0_0 a0_1 a0_2 l0_3) else (spindleref08_right.j0 k a1 ((l0_3.length : Int) == 0) (a0_0 == 8) a0_0 a0_1 a0_2 l0_3)))))))
end
theorem spindleref08_right.mono_l : ∀ k, (∀ y0 y1 y2 y3 y4, LeO (spindleref08_right.f k y0 y1 y2 y3 y4) (spindleref08_right.f (k + 1) y0 y1 y2 y3 y4)) ∧ (∀ y0 y1 y2 y3 y4 y5 y6, LeO (spindleref08_right.j0 k y0 y1 y2 y3 y4 y5 y6) (spindleref08_right.j0 (k + 1) y0 y1 y2 y3 y4 y5 y6)) ∧ (∀ y0 y1 y2 y3 y4 y5, LeO (spindleref08_right.j1 k y0 y1 y2 y3 y4 y5) (spindleref08_right.j1 (k + 1) y0 y1 y2 y3 y4 y5)) ∧ (∀ y0 y1 y2 y3 y4 y5, LeO (spindleref08_right.l0 k y0 y1 y2 y3 y4 y5) (spindleref08_right.l0 (k + 1) y0 y1 y2 y3 y4 y5))
  | 0 => ⟨fun _ _ _ _ _ r h => by simp [spindleref08_right.f] at h, fun _ _ _ _ _ _ _ r h => by simp [spindleref08_right.j0] at h, fun _ _ _ _ _ _ r h => by simp [spindleref08_right.j1] at h, fun _ _ _ _ _ _ r h => by simp [spindleref08_right.l0] at h⟩
  | k + 1 => by
    obtain ⟨ih0, ih1, ih2, ih3⟩ := spindleref08_right.mono_l k
    refine ⟨?_, ?_, ?_, ?_⟩
    · intro y0 y1 y2 y3 y4
      unfold spindleref08_right.f
      repeat' first
      | (with_reducible exact ih0 _ _ _ _ _)
      | (with_reducible exact ih1 _ _ _ _ _ _ _)
      | (with_reducible exact ih2 _ _ _ _ _ _)
      | (with_reducible exact ih3 _ _ _ _ _ _)
      | (with_reducible exact spindleref07_Symbol.mono _ _)
      | (with_reducible exact LeO.refl _)
      | (with_reducible exact LeO.none _)
      | (with_reducible refine LeO.ite ?_ ?_)
      | (with_reducible refine LeO.bind ?_ (fun _ => ?_))
      | exact ih0 _ _ _ _ _
      | exact ih1 _ _ _ _ _ _ _
      | exact ih2 _ _ _ _ _ _
      | exact ih3 _ _ _ _ _ _
      | exact spindleref07_Symbol.mono _ _
      | exact LeO.none _
      | refine LeO.ite ?_ ?_
      | refine LeO.bind ?_ (fun _ => ?_)
    · intro y0 y1 y2 y3 y4 y5 y6
      unfold spindleref08_right.j0
      repeat' first
      | (with_reducible exact ih0 _ _ _ _ _)
      | (with_reducible exact ih1 _ _ _ _ _ _ _)
      | (with_reducible exact ih2 _ _ _ _ _ _)
      | (with_reducible exact ih3 _ _ _ _ _ _)
      | (with_reducible exact spindleref07_Symbol.mono _ _)
      | (with_reducible exact LeO.refl _)
      | (with_reducible exact LeO.none _)
      | (with_reducible refine LeO.ite ?_ ?_)
      | (with_reducible refine LeO.bind ?_ (fun _ => ?_))
      | exact ih0 _ _ _ _ _
      | exact ih1 _ _ _ _ _ _ _
      | exact ih2 _ _ _ _ _ _
      | exact ih3 _ _ _ _ _ _
      | exact spindleref07_Symbol.mono _ _
      | exact LeO.none _
      | refine LeO.ite ?_ ?_
      | refine LeO.bind ?_ (fun _ => ?_)
    · intro y0 y1 y2 y3 y4 y5
      unfold spindleref08_right.j1
      repeat' first
      | (with_reducible exact ih0 _ _ _ _ _)
      | (with_reducible exact ih1 _ _ _ _ _ _ _)
      | (with_reducible exact ih2 _ _ _ _ _ _)
      | (with_reducible exact ih3 _ _ _ _ _ _)
      | (with_reducible exact spindleref07_Symbol.mono _ _)
      | (with_reducible exact LeO.refl _)
      | (with_reducible exact LeO.none _)
      | (with_reducible refine LeO.ite ?_ ?_)
      | (with_reducible refine LeO.bind ?_ (fun _ => ?_))
      | exact ih0 _ _ _ _ _
      | exact ih1 _ _ _ _ _ _ _
      | exact ih2 _ _ _ _ _ _
      | exact ih3 _ _ _ _ _ _
      | exact spindleref07_Symbol.mono _ _
      | exact LeO.none _
      | refine LeO.ite ?_ ?_
      | refine LeO.bind ?_ (fun _ => ?_)
    · intro y0 y1 y2 y3 y4 y5
      unfold spindleref08_right.l0
      repeat' first
      | (with_reducible exact ih0 _ _ _ _ _)
      | (with_reducible exact ih1 _ _ _ _ _ _ _)
      | (with_reducible exact ih2 _ _ _ _ _ _)
      | (with_reducible exact ih3 _ _ _ _ _ _)
      | (with_reducible exact spindleref07_Symbol.mono _ _)
      | (with_reducible exact LeO.refl _)
      | (with_reducible exact LeO.none _)
      | (with_reducible refine LeO.ite ?_ ?_)
      | (with_reducible refine LeO.bind ?_ (fun _ => ?_))
      | exact ih0 _ _ _ _ _
      | exact ih1 _ _ _ _ _ _ _
      | exact ih2 _ _ _ _ _ _
      | exact ih3 _ _ _ _ _ _
      | exact spindleref07_Symbol.mono _ _
      | exact LeO.none _
      | refine LeO.ite ?_ ?_
      | refine LeO.bind ?_ (fun _ => ?_)
theorem spindleref08_right.mono : ∀ a0 a1 a2 a3 a4 k, LeO (spindleref08_right.f k a0 a1 a2 a3 a4) (spindleref08_right.f (k + 1) a0 a1 a2 a3 a4) := by
  intro a0 a1 a2 a3 a4 k
  obtain ⟨ih0, ih1, ih2, ih3⟩ := spindleref08_right.mono_l k
  exact ih0 a0 a1 a2 a3 a4
set_option maxHeartbeats 8000000 in
set_option maxRecDepth 100000 in
theorem spindleref08_right.calls (k : Nat) : ∀ (a0_0 : Int) (a0_1 : Int) (a0_2 : ByteArray) (A0_3 : Option Addr) (c0_3 : Nat) (l0_3 : List (S84)) (a1 : Int) (r : Bool) (w : World) (hr0_3 : Kd.C k84 w A0_3 l0_3.length l0_3) (hc0_3 : l0_3.length ≤ c0_3) (h : spindleref08_right.f k a0_0 a0_1 a0_2 l0_3 a1 = some r),
    Calls Tryd.prog 72 #[.agg #[.int .i64 a0_0, .int .i64 a0_1, .string a0_2, .slice A0_3 l0_3.length c0_3], .int .i64 a1] w fun e w' => e = .returned (.bool r) ∧ Below w.heap.size w w' := by
  induction k using Nat.strongRecOn with
  | _ k ih =>
  intro a0_0 a0_1 a0_2 A0_3 c0_3 l0_3 a1 r w hr0_3 hc0_3 h
  cases k with
  | zero => exact absurd h (by simp [spindleref08_right.f])
  | succ k =>
  simp only [spindleref08_right.f] at h
  have hu84 := Tryd.underlying84
  have HR0_3 := Aside0.mk hr0_3
  have HC0_3 := Aside0.mk hc0_3
  clear hr0_3 hc0_3
  have HB := Aside0.mk (Below.refl w.heap.size w)
  have H : (if a0_0 = 1 then (if (l0_3.length : Int) = 0 then (if a0_2.toList = ([] : List UInt8) then (if a0_1 ≥ (-1152921504606846976) then (some (decide (a0_1 < 1152921504606846976))) else (some false)) else (some false)) else (some false)) else (if a0_0 = 2 then (if (l0_3.length : Int) = 0 then (if a0_2.toList = ([] : List UInt8) then (if a0_1 = 0 then (some true) else (some (a0_1 == 1))) else (some false)) else (some false)) else (if a0_0 = 3 then (if (l0_3.length : Int) = 0 then (if a0_2.toList = ([] : List UInt8) then (if a0_1 ≥ 0 then (some (decide (a0_1 ≤ 255))) else (some false)) else (some false)) else (some false)) else (if a0_0 = 4 then (if (l0_3.length : Int) = 0 then (if a0_1 = 0 then (some (decide ((a0_2.size : Int) ≤ 500))) else (some false)) else (some false)) else (if a0_0 = 5 then (if (l0_3.length : Int) = 0 then (if a0_1 = 0 then ((spindleref07_Symbol.f k a0_2).bind fun t123 => (some t123)) else (some false)) else (some false)) else (if a0_0 = 6 then (spindleref08_right.j0 k a1 ((l0_3.length : Int) == 0) (a0_0 == 6) a0_0 a0_1 a0_2 l0_3) else (if a0_0 = 7 then (spindleref08_right.j0 k a1 ((l0_3.length : Int) == 0) (a0_0 == 7) a0_0 a0_1 a0_2 l0_3) else (spindleref08_right.j0 k a1 ((l0_3.length : Int) == 0) (a0_0 == 8) a0_0 a0_1 a0_2 l0_3)))))))) = some r := h
  clear h
  by_cases c3 : a0_0 = 1
  · rw [if_pos c3] at H
    have c3b0 : (a0_0 == 1) = true := beq_iff_eq.mpr c3
    have c3b1 : (a0_0 != 1) = false := bne_eq_false_iff_eq.mpr c3
    clear c3
    by_cases c4 : (l0_3.length : Int) = 0
    · rw [if_pos c4] at H
      have c4b0 : ((l0_3.length : Int) == 0) = true := beq_iff_eq.mpr c4
      have c4b1 : ((l0_3.length : Int) != 0) = false := bne_eq_false_iff_eq.mpr c4
      clear c4
      by_cases c5 : a0_2.toList = ([] : List UInt8)
      · rw [if_pos c5] at H
        have c5b0 : (a0_2.toList == ([] : List UInt8)) = true := beq_iff_eq.mpr c5
        have c5b1 : (a0_2.toList != ([] : List UInt8)) = false := bne_eq_false_iff_eq.mpr c5
        clear c5
        by_cases c6 : a0_1 ≥ (-1152921504606846976)
        · rw [if_pos c6] at H
          have c6b0 : decide ((-1152921504606846976) ≤ a0_1) = true := decide_eq_true c6
          clear c6
          obtain rfl := Option.some.inj H
          go_enter Tryd.func72, Tryd.ntmps72
          go_wp2_with (first | ((with_reducible refine gate_dst (N := 2) rfl ?_); (try (refine gate_guard (by rfl) ?_; dsimp only)); refine box_event ?hg (N := 2) ?hd (cs := #[.int .i64 a0_0, .int .i64 a0_1, .string a0_2, .slice A0_3 l0_3.length c0_3]) (t := 84) ?hr ?_; (case hd => rfl); (case hg => rfl); (case hr => first | (go_simp; done) | (go_simp; rfl)); intro gb122 hg w7 hbox hb; have n0_ := Aside0.mk (below_step (by repeat (first | (with_reducible first | exact HB.out | apply below_alloc | apply pw_below_drewN | apply below_drew1) | exact HB.out)) hb); have n1_ := Aside0.mk (hbox); have n2_ := Aside0.mk ((by rw [hg]; exact (below_size (by repeat (first | (with_reducible first | exact HB.out | apply below_alloc | apply pw_below_drewN | apply below_drew1) | exact HB.out))) : w.heap.size ≤ gb122)); have n3_ := Aside0.mk ((by rw [hg]; exact (below_size (by repeat (first | (with_reducible first | exact HB.out | apply below_alloc | apply pw_below_drewN | apply below_drew1) | exact HB.out))) : w.heap.size ≤ gb122)); clear HB; have HB := n0_; have BK122 := n1_; have GW122 := n2_; have GE122 := n3_; clear n0_ n1_ n2_ n3_; clear hb hbox hg; have hcz8_0 : w7.cell? ⟨gb122, 0, none⟩ = some (.int .i64 a0_0) := (blk_cell BK122.out 0).trans rfl; have hcz8_1 : w7.cell? ⟨gb122, 1, none⟩ = some (.int .i64 a0_1) := (blk_cell BK122.out 1).trans rfl; have hcz8_2 : w7.cell? ⟨gb122, 2, none⟩ = some (.string a0_2) := (blk_cell BK122.out 2).trans rfl; have hcz8_3 : w7.cell? ⟨gb122, 3, none⟩ = some (.slice A0_3 l0_3.length c0_3) := (blk_cell BK122.out 3).trans rfl; have hfz8_0 := blk_frozen BK122.out 0; have hfz8_1 := blk_frozen BK122.out 1; have hfz8_2 := blk_frozen BK122.out 2; have hfz8_3 := blk_frozen BK122.out 3))
          go_ret
          exact ⟨by first | rfl | (simp [errW_none, errW_some] <;> rfl) | (simp [*, errW_none, errW_some] <;> rfl), by repeat (first | (with_reducible first | exact HB.out | apply below_alloc | apply pw_below_drewN | apply below_drew1 | refine below_set ?_ GE122.out) | exact HB.out)⟩
        · rw [if_neg c6] at H
          have c6b0 : decide ((-1152921504606846976) ≤ a0_1) = false := decide_eq_false c6
          clear c6
          obtain rfl := Option.some.inj H
          go_enter Tryd.func72, Tryd.ntmps72
          go_wp2_with (first | ((with_reducible refine gate_dst (N := 2) rfl ?_); (try (refine gate_guard (by rfl) ?_; dsimp only)); refine box_event ?hg (N := 2) ?hd (cs := #[.int .i64 a0_0, .int .i64 a0_1, .string a0_2, .slice A0_3 l0_3.length c0_3]) (t := 84) ?hr ?_; (case hd => rfl); (case hg => rfl); (case hr => first | (go_simp; done) | (go_simp; rfl)); intro gb122 hg w9 hbox hb; have n0_ := Aside0.mk (below_step (by repeat (first | (with_reducible first | exact HB.out | apply below_alloc | apply pw_below_drewN | apply below_drew1) | exact HB.out)) hb); have n1_ := Aside0.mk (hbox); have n2_ := Aside0.mk ((by rw [hg]; exact (below_size (by repeat (first | (with_reducible first | exact HB.out | apply below_alloc | apply pw_below_drewN | apply below_drew1) | exact HB.out))) : w.heap.size ≤ gb122)); have n3_ := Aside0.mk ((by rw [hg]; exact (below_size (by repeat (first | (with_reducible first | exact HB.out | apply below_alloc | apply pw_below_drewN | apply below_drew1) | exact HB.out))) : w.heap.size ≤ gb122)); clear HB; have HB := n0_; have BK122 := n1_; have GW122 := n2_; have GE122 := n3_; clear n0_ n1_ n2_ n3_; clear hb hbox hg; have hcz10_0 : w9.cell? ⟨gb122, 0, none⟩ = some (.int .i64 a0_0) := (blk_cell BK122.out 0).trans rfl; have hcz10_1 : w9.cell? ⟨gb122, 1, none⟩ = some (.int .i64 a0_1) := (blk_cell BK122.out 1).trans rfl; have hcz10_2 : w9.cell? ⟨gb122, 2, none⟩ = some (.string a0_2) := (blk_cell BK122.out 2).trans rfl; have hcz10_3 : w9.cell? ⟨gb122, 3, none⟩ = some (.slice A0_3 l0_3.length c0_3) := (blk_cell BK122.out 3).trans rfl; have hfz10_0 := blk_frozen BK122.out 0; have hfz10_1 := blk_frozen BK122.out 1; have hfz10_2 := blk_frozen BK122.out 2; have hfz10_3 := blk_frozen BK122.out 3))
          go_ret
          exact ⟨by first | rfl | (simp [errW_none, errW_some] <;> rfl) | (simp [*, errW_none, errW_some] <;> rfl), by repeat (first | (with_reducible first | exact HB.out | apply below_alloc | apply pw_below_drewN | apply below_drew1 | refine below_set ?_ GE122.out) | exact HB.out)⟩
      · rw [if_neg c5] at H
        have c5b0 : (a0_2.toList == ([] : List UInt8)) = false := beq_eq_false_iff_ne.mpr c5
        have c5b1 : (a0_2.toList != ([] : List UInt8)) = true := bne_iff_ne.mpr c5
        obtain rfl := Option.some.inj H
        go_enter Tryd.func72, Tryd.ntmps72
        go_wp2_with (first | ((with_reducible refine gate_dst (N := 2) rfl ?_); (try (refine gate_guard (by rfl) ?_; dsimp only)); refine box_event ?hg (N := 2) ?hd (cs := #[.int .i64 a0_0, .int .i64 a0_1, .string a0_2, .slice A0_3 l0_3.length c0_3]) (t := 84) ?hr ?_; (case hd => rfl); (case hg => rfl); (case hr => first | (go_simp; done) | (go_simp; rfl)); intro gb122 hg w11 hbox hb; have n0_ := Aside0.mk (below_step (by repeat (first | (with_reducible first | exact HB.out | apply below_alloc | apply pw_below_drewN | apply below_drew1) | exact HB.out)) hb); have n1_ := Aside0.mk (hbox); have n2_ := Aside0.mk ((by rw [hg]; exact (below_size (by repeat (first | (with_reducible first | exact HB.out | apply below_alloc | apply pw_below_drewN | apply below_drew1) | exact HB.out))) : w.heap.size ≤ gb122)); have n3_ := Aside0.mk ((by rw [hg]; exact (below_size (by repeat (first | (with_reducible first | exact HB.out | apply below_alloc | apply pw_below_drewN | apply below_drew1) | exact HB.out))) : w.heap.size ≤ gb122)); clear HB; have HB := n0_; have BK122 := n1_; have GW122 := n2_; have GE122 := n3_; clear n0_ n1_ n2_ n3_; clear hb hbox hg; have hcz12_0 : w11.cell? ⟨gb122, 0, none⟩ = some (.int .i64 a0_0) := (blk_cell BK122.out 0).trans rfl; have hcz12_1 : w11.cell? ⟨gb122, 1, none⟩ = some (.int .i64 a0_1) := (blk_cell BK122.out 1).trans rfl; have hcz12_2 : w11.cell? ⟨gb122, 2, none⟩ = some (.string a0_2) := (blk_cell BK122.out 2).trans rfl; have hcz12_3 : w11.cell? ⟨gb122, 3, none⟩ = some (.slice A0_3 l0_3.length c0_3) := (blk_cell BK122.out 3).trans rfl; have hfz12_0 := blk_frozen BK122.out 0; have hfz12_1 := blk_frozen BK122.out 1; have hfz12_2 := blk_frozen BK122.out 2; have hfz12_3 := blk_frozen BK122.out 3))
        go_ret
        exact ⟨by first | rfl | (simp [errW_none, errW_some] <;> rfl) | (simp [*, errW_none, errW_some] <;> rfl), by repeat (first | (with_reducible first | exact HB.out | apply below_alloc | apply pw_below_drewN | apply below_drew1 | refine below_set ?_ GE122.out) | exact HB.out)⟩
    · rw [if_neg c4] at H
      have c4b0 : ((l0_3.length : Int) == 0) = false := beq_eq_false_iff_ne.mpr c4
      have c4b1 : ((l0_3.length : Int) != 0) = true := bne_iff_ne.mpr c4
      have c4b2 : ¬ (l0_3 = []) := fun h_ => c4 (by rw [h_]; rfl)
      obtain rfl := Option.some.inj H
      go_enter Tryd.func72, Tryd.ntmps72
      go_wp2_with (first | ((with_reducible refine gate_dst (N := 2) rfl ?_); (try (refine gate_guard (by rfl) ?_; dsimp only)); refine box_event ?hg (N := 2) ?hd (cs := #[.int .i64 a0_0, .int .i64 a0_1, .string a0_2, .slice A0_3 l0_3.length c0_3]) (t := 84) ?hr ?_; (case hd => rfl); (case hg => rfl); (case hr => first | (go_simp; done) | (go_simp; rfl)); intro gb122 hg w13 hbox hb; have n0_ := Aside0.mk (below_step (by repeat (first | (with_reducible first | exact HB.out | apply below_alloc | apply pw_below_drewN | apply below_drew1) | exact HB.out)) hb); have n1_ := Aside0.mk (hbox); have n2_ := Aside0.mk ((by rw [hg]; exact (below_size (by repeat (first | (with_reducible first | exact HB.out | apply below_alloc | apply pw_below_drewN | apply below_drew1) | exact HB.out))) : w.heap.size ≤ gb122)); have n3_ := Aside0.mk ((by rw [hg]; exact (below_size (by repeat (first | (with_reducible first | exact HB.out | apply below_alloc | apply pw_below_drewN | apply below_drew1) | exact HB.out))) : w.heap.size ≤ gb122)); clear HB; have HB := n0_; have BK122 := n1_; have GW122 := n2_; have GE122 := n3_; clear n0_ n1_ n2_ n3_; clear hb hbox hg; have hcz14_0 : w13.cell? ⟨gb122, 0, none⟩ = some (.int .i64 a0_0) := (blk_cell BK122.out 0).trans rfl; have hcz14_1 : w13.cell? ⟨gb122, 1, none⟩ = some (.int .i64 a0_1) := (blk_cell BK122.out 1).trans rfl; have hcz14_2 : w13.cell? ⟨gb122, 2, none⟩ = some (.string a0_2) := (blk_cell BK122.out 2).trans rfl; have hcz14_3 : w13.cell? ⟨gb122, 3, none⟩ = some (.slice A0_3 l0_3.length c0_3) := (blk_cell BK122.out 3).trans rfl; have hfz14_0 := blk_frozen BK122.out 0; have hfz14_1 := blk_frozen BK122.out 1; have hfz14_2 := blk_frozen BK122.out 2; have hfz14_3 := blk_frozen BK122.out 3))
      go_ret
      exact ⟨by first | rfl | (simp [errW_none, errW_some] <;> rfl) | (simp [*, errW_none, errW_some] <;> rfl), by repeat (first | (with_reducible first | exact HB.out | apply below_alloc | apply pw_below_drewN | apply below_drew1 | refine below_set ?_ GE122.out) | exact HB.out)⟩
  · rw [if_neg c3] at H
    have c3b0 : (a0_0 == 1) = false := beq_eq_false_iff_ne.mpr c3
    have c3b1 : (a0_0 != 1) = true := bne_iff_ne.mpr c3
    by_cases c15 : a0_0 = 2
    · rw [if_pos c15] at H
      have c15b0 : (a0_0 == 2) = true := beq_iff_eq.mpr c15
      have c15b1 : (a0_0 != 2) = false := bne_eq_false_iff_eq.mpr c15
      clear c15
      by_cases c16 : (l0_3.length : Int) = 0
      · rw [if_pos c16] at H
        have c16b0 : ((l0_3.length : Int) == 0) = true := beq_iff_eq.mpr c16
        have c16b1 : ((l0_3.length : Int) != 0) = false := bne_eq_false_iff_eq.mpr c16
        clear c16
        by_cases c17 : a0_2.toList = ([] : List UInt8)
        · rw [if_pos c17] at H
          have c17b0 : (a0_2.toList == ([] : List UInt8)) = true := beq_iff_eq.mpr c17
          have c17b1 : (a0_2.toList != ([] : List UInt8)) = false := bne_eq_false_iff_eq.mpr c17
          clear c17
          by_cases c18 : a0_1 = 0
          · rw [if_pos c18] at H
            have c18b0 : (a0_1 == 0) = true := beq_iff_eq.mpr c18
            have c18b1 : (a0_1 != 0) = false := bne_eq_false_iff_eq.mpr c18
            clear c18
            obtain rfl := Option.some.inj H
            go_enter Tryd.func72, Tryd.ntmps72
            go_wp2_with (first | ((with_reducible refine gate_dst (N := 2) rfl ?_); (try (refine gate_guard (by rfl) ?_; dsimp only)); refine box_event ?hg (N := 2) ?hd (cs := #[.int .i64 a0_0, .int .i64 a0_1, .string a0_2, .slice A0_3 l0_3.length c0_3]) (t := 84) ?hr ?_; (case hd => rfl); (case hg => rfl); (case hr => first | (go_simp; done) | (go_simp; rfl)); intro gb122 hg w19 hbox hb; have n0_ := Aside0.mk (below_step (by repeat (first | (with_reducible first | exact HB.out | apply below_alloc | apply pw_below_drewN | apply below_drew1) | exact HB.out)) hb); have n1_ := Aside0.mk (hbox); have n2_ := Aside0.mk ((by rw [hg]; exact (below_size (by repeat (first | (with_reducible first | exact HB.out | apply below_alloc | apply pw_below_drewN | apply below_drew1) | exact HB.out))) : w.heap.size ≤ gb122)); have n3_ := Aside0.mk ((by rw [hg]; exact (below_size (by repeat (first | (with_reducible first | exact HB.out | apply below_alloc | apply pw_below_drewN | apply below_drew1) | exact HB.out))) : w.heap.size ≤ gb122)); clear HB; have HB := n0_; have BK122 := n1_; have GW122 := n2_; have GE122 := n3_; clear n0_ n1_ n2_ n3_; clear hb hbox hg; have hcz20_0 : w19.cell? ⟨gb122, 0, none⟩ = some (.int .i64 a0_0) := (blk_cell BK122.out 0).trans rfl; have hcz20_1 : w19.cell? ⟨gb122, 1, none⟩ = some (.int .i64 a0_1) := (blk_cell BK122.out 1).trans rfl; have hcz20_2 : w19.cell? ⟨gb122, 2, none⟩ = some (.string a0_2) := (blk_cell BK122.out 2).trans rfl; have hcz20_3 : w19.cell? ⟨gb122, 3, none⟩ = some (.slice A0_3 l0_3.length c0_3) := (blk_cell BK122.out 3).trans rfl; have hfz20_0 := blk_frozen BK122.out 0; have hfz20_1 := blk_frozen BK122.out 1; have hfz20_2 := blk_frozen BK122.out 2; have hfz20_3 := blk_frozen BK122.out 3))
            go_ret
            exact ⟨by first | rfl | (simp [errW_none, errW_some] <;> rfl) | (simp [*, errW_none, errW_some] <;> rfl), by repeat (first | (with_reducible first | exact HB.out | apply below_alloc | apply pw_below_drewN | apply below_drew1 | refine below_set ?_ GE122.out) | exact HB.out)⟩
          · rw [if_neg c18] at H
            have c18b0 : (a0_1 == 0) = false := beq_eq_false_iff_ne.mpr c18
            have c18b1 : (a0_1 != 0) = true := bne_iff_ne.mpr c18
            obtain rfl := Option.some.inj H
            go_enter Tryd.func72, Tryd.ntmps72
            go_wp2_with (first | ((with_reducible refine gate_dst (N := 2) rfl ?_); (try (refine gate_guard (by rfl) ?_; dsimp only)); refine box_event ?hg (N := 2) ?hd (cs := #[.int .i64 a0_0, .int .i64 a0_1, .string a0_2, .slice A0_3 l0_3.length c0_3]) (t := 84) ?hr ?_; (case hd => rfl); (case hg => rfl); (case hr => first | (go_simp; done) | (go_simp; rfl)); intro gb122 hg w21 hbox hb; have n0_ := Aside0.mk (below_step (by repeat (first | (with_reducible first | exact HB.out | apply below_alloc | apply pw_below_drewN | apply below_drew1) | exact HB.out)) hb); have n1_ := Aside0.mk (hbox); have n2_ := Aside0.mk ((by rw [hg]; exact (below_size (by repeat (first | (with_reducible first | exact HB.out | apply below_alloc | apply pw_below_drewN | apply below_drew1) | exact HB.out))) : w.heap.size ≤ gb122)); have n3_ := Aside0.mk ((by rw [hg]; exact (below_size (by repeat (first | (with_reducible first | exact HB.out | apply below_alloc | apply pw_below_drewN | apply below_drew1) | exact HB.out))) : w.heap.size ≤ gb122)); clear HB; have HB := n0_; have BK122 := n1_; have GW122 := n2_; have GE122 := n3_; clear n0_ n1_ n2_ n3_; clear hb hbox hg; have hcz22_0 : w21.cell? ⟨gb122, 0, none⟩ = some (.int .i64 a0_0) := (blk_cell BK122.out 0).trans rfl; have hcz22_1 : w21.cell? ⟨gb122, 1, none⟩ = some (.int .i64 a0_1) := (blk_cell BK122.out 1).trans rfl; have hcz22_2 : w21.cell? ⟨gb122, 2, none⟩ = some (.string a0_2) := (blk_cell BK122.out 2).trans rfl; have hcz22_3 : w21.cell? ⟨gb122, 3, none⟩ = some (.slice A0_3 l0_3.length c0_3) := (blk_cell BK122.out 3).trans rfl; have hfz22_0 := blk_frozen BK122.out 0; have hfz22_1 := blk_frozen BK122.out 1; have hfz22_2 := blk_frozen BK122.out 2; have hfz22_3 := blk_frozen BK122.out 3))
            go_ret
            exact ⟨by first | rfl | (simp [errW_none, errW_some] <;> rfl) | (simp [*, errW_none, errW_some] <;> rfl), by repeat (first | (with_reducible first | exact HB.out | apply below_alloc | apply pw_below_drewN | apply below_drew1 | refine below_set ?_ GE122.out) | exact HB.out)⟩
        · rw [if_neg c17] at H
          have c17b0 : (a0_2.toList == ([] : List UInt8)) = false := beq_eq_false_iff_ne.mpr c17
          have c17b1 : (a0_2.toList != ([] : List UInt8)) = true := bne_iff_ne.mpr c17
          obtain rfl := Option.some.inj H
          go_enter Tryd.func72, Tryd.ntmps72
          go_wp2_with (first | ((with_reducible refine gate_dst (N := 2) rfl ?_); (try (refine gate_guard (by rfl) ?_; dsimp only)); refine box_event ?hg (N := 2) ?hd (cs := #[.int .i64 a0_0, .int .i64 a0_1, .string a0_2, .slice A0_3 l0_3.length c0_3]) (t := 84) ?hr ?_; (case hd => rfl); (case hg => rfl); (case hr => first | (go_simp; done) | (go_simp; rfl)); intro gb122 hg w23 hbox hb; have n0_ := Aside0.mk (below_step (by repeat (first | (with_reducible first | exact HB.out | apply below_alloc | apply pw_below_drewN | apply below_drew1) | exact HB.out)) hb); have n1_ := Aside0.mk (hbox); have n2_ := Aside0.mk ((by rw [hg]; exact (below_size (by repeat (first | (with_reducible first | exact HB.out | apply below_alloc | apply pw_below_drewN | apply below_drew1) | exact HB.out))) : w.heap.size ≤ gb122)); have n3_ := Aside0.mk ((by rw [hg]; exact (below_size (by repeat (first | (with_reducible first | exact HB.out | apply below_alloc | apply pw_below_drewN | apply below_drew1) | exact HB.out))) : w.heap.size ≤ gb122)); clear HB; have HB := n0_; have BK122 := n1_; have GW122 := n2_; have GE122 := n3_; clear n0_ n1_ n2_ n3_; clear hb hbox hg; have hcz24_0 : w23.cell? ⟨gb122, 0, none⟩ = some (.int .i64 a0_0) := (blk_cell BK122.out 0).trans rfl; have hcz24_1 : w23.cell? ⟨gb122, 1, none⟩ = some (.int .i64 a0_1) := (blk_cell BK122.out 1).trans rfl; have hcz24_2 : w23.cell? ⟨gb122, 2, none⟩ = some (.string a0_2) := (blk_cell BK122.out 2).trans rfl; have hcz24_3 : w23.cell? ⟨gb122, 3, none⟩ = some (.slice A0_3 l0_3.length c0_3) := (blk_cell BK122.out 3).trans rfl; have hfz24_0 := blk_frozen BK122.out 0; have hfz24_1 := blk_frozen BK122.out 1; have hfz24_2 := blk_frozen BK122.out 2; have hfz24_3 := blk_frozen BK122.out 3))
          go_ret
          exact ⟨by first | rfl | (simp [errW_none, errW_some] <;> rfl) | (simp [*, errW_none, errW_some] <;> rfl), by repeat (first | (with_reducible first | exact HB.out | apply below_alloc | apply pw_below_drewN | apply below_drew1 | refine below_set ?_ GE122.out) | exact HB.out)⟩
      · rw [if_neg c16] at H
        have c16b0 : ((l0_3.length : Int) == 0) = false := beq_eq_false_iff_ne.mpr c16
        have c16b1 : ((l0_3.length : Int) != 0) = true := bne_iff_ne.mpr c16
        have c16b2 : ¬ (l0_3 = []) := fun h_ => c16 (by rw [h_]; rfl)
        obtain rfl := Option.some.inj H
        go_enter Tryd.func72, Tryd.ntmps72
        go_wp2_with (first | ((with_reducible refine gate_dst (N := 2) rfl ?_); (try (refine gate_guard (by rfl) ?_; dsimp only)); refine box_event ?hg (N := 2) ?hd (cs := #[.int .i64 a0_0, .int .i64 a0_1, .string a0_2, .slice A0_3 l0_3.length c0_3]) (t := 84) ?hr ?_; (case hd => rfl); (case hg => rfl); (case hr => first | (go_simp; done) | (go_simp; rfl)); intro gb122 hg w25 hbox hb; have n0_ := Aside0.mk (below_step (by repeat (first | (with_reducible first | exact HB.out | apply below_alloc | apply pw_below_drewN | apply below_drew1) | exact HB.out)) hb); have n1_ := Aside0.mk (hbox); have n2_ := Aside0.mk ((by rw [hg]; exact (below_size (by repeat (first | (with_reducible first | exact HB.out | apply below_alloc | apply pw_below_drewN | apply below_drew1) | exact HB.out))) : w.heap.size ≤ gb122)); have n3_ := Aside0.mk ((by rw [hg]; exact (below_size (by repeat (first | (with_reducible first | exact HB.out | apply below_alloc | apply pw_below_drewN | apply below_drew1) | exact HB.out))) : w.heap.size ≤ gb122)); clear HB; have HB := n0_; have BK122 := n1_; have GW122 := n2_; have GE122 := n3_; clear n0_ n1_ n2_ n3_; clear hb hbox hg; have hcz26_0 : w25.cell? ⟨gb122, 0, none⟩ = some (.int .i64 a0_0) := (blk_cell BK122.out 0).trans rfl; have hcz26_1 : w25.cell? ⟨gb122, 1, none⟩ = some (.int .i64 a0_1) := (blk_cell BK122.out 1).trans rfl; have hcz26_2 : w25.cell? ⟨gb122, 2, none⟩ = some (.string a0_2) := (blk_cell BK122.out 2).trans rfl; have hcz26_3 : w25.cell? ⟨gb122, 3, none⟩ = some (.slice A0_3 l0_3.length c0_3) := (blk_cell BK122.out 3).trans rfl; have hfz26_0 := blk_frozen BK122.out 0; have hfz26_1 := blk_frozen BK122.out 1; have hfz26_2 := blk_frozen BK122.out 2; have hfz26_3 := blk_frozen BK122.out 3))
        go_ret
        exact ⟨by first | rfl | (simp [errW_none, errW_some] <;> rfl) | (simp [*, errW_none, errW_some] <;> rfl), by repeat (first | (with_reducible first | exact HB.out | apply below_alloc | apply pw_below_drewN | apply below_drew1 | refine below_set ?_ GE122.out) | exact HB.out)⟩
    · rw [if_neg c15] at H
      have c15b0 : (a0_0 == 2) = false := beq_eq_false_iff_ne.mpr c15
      have c15b1 : (a0_0 != 2) = true := bne_iff_ne.mpr c15
      by_cases c27 : a0_0 = 3
      · rw [if_pos c27] at H
        have c27b0 : (a0_0 == 3) = true := beq_iff_eq.mpr c27
        have c27b1 : (a0_0 != 3) = false := bne_eq_false_iff_eq.mpr c27
        clear c27
        by_cases c28 : (l0_3.length : Int) = 0
        · rw [if_pos c28] at H
          have c28b0 : ((l0_3.length : Int) == 0) = true := beq_iff_eq.mpr c28
          have c28b1 : ((l0_3.length : Int) != 0) = false := bne_eq_false_iff_eq.mpr c28
          clear c28
          by_cases c29 : a0_2.toList = ([] : List UInt8)
          · rw [if_pos c29] at H
            have c29b0 : (a0_2.toList == ([] : List UInt8)) = true := beq_iff_eq.mpr c29
            have c29b1 : (a0_2.toList != ([] : List UInt8)) = false := bne_eq_false_iff_eq.mpr c29
            clear c29
            by_cases c30 : a0_1 ≥ 0
            · rw [if_pos c30] at H
              have c30b0 : decide (0 ≤ a0_1) = true := decide_eq_true c30
              clear c30
              obtain rfl := Option.some.inj H
              go_enter Tryd.func72, Tryd.ntmps72
              go_wp2_with (first | ((with_reducible refine gate_dst (N := 2) rfl ?_); (try (refine gate_guard (by rfl) ?_; dsimp only)); refine box_event ?hg (N := 2) ?hd (cs := #[.int .i64 a0_0, .int .i64 a0_1, .string a0_2, .slice A0_3 l0_3.length c0_3]) (t := 84) ?hr ?_; (case hd => rfl); (case hg => rfl); (case hr => first | (go_simp; done) | (go_simp; rfl)); intro gb122 hg w31 hbox hb; have n0_ := Aside0.mk (below_step (by repeat (first | (with_reducible first | exact HB.out | apply below_alloc | apply pw_below_drewN | apply below_drew1) | exact HB.out)) hb); have n1_ := Aside0.mk (hbox); have n2_ := Aside0.mk ((by rw [hg]; exact (below_size (by repeat (first | (with_reducible first | exact HB.out | apply below_alloc | apply pw_below_drewN | apply below_drew1) | exact HB.out))) : w.heap.size ≤ gb122)); have n3_ := Aside0.mk ((by rw [hg]; exact (below_size (by repeat (first | (with_reducible first | exact HB.out | apply below_alloc | apply pw_below_drewN | apply below_drew1) | exact HB.out))) : w.heap.size ≤ gb122)); clear HB; have HB := n0_; have BK122 := n1_; have GW122 := n2_; have GE122 := n3_; clear n0_ n1_ n2_ n3_; clear hb hbox hg; have hcz32_0 : w31.cell? ⟨gb122, 0, none⟩ = some (.int .i64 a0_0) := (blk_cell BK122.out 0).trans rfl; have hcz32_1 : w31.cell? ⟨gb122, 1, none⟩ = some (.int .i64 a0_1) := (blk_cell BK122.out 1).trans rfl; have hcz32_2 : w31.cell? ⟨gb122, 2, none⟩ = some (.string a0_2) := (blk_cell BK122.out 2).trans rfl; have hcz32_3 : w31.cell? ⟨gb122, 3, none⟩ = some (.slice A0_3 l0_3.length c0_3) := (blk_cell BK122.out 3).trans rfl; have hfz32_0 := blk_frozen BK122.out 0; have hfz32_1 := blk_frozen BK122.out 1; have hfz32_2 := blk_frozen BK122.out 2; have hfz32_3 := blk_frozen BK122.out 3))
              go_ret
              exact ⟨by first | rfl | (simp [errW_none, errW_some] <;> rfl) | (simp [*, errW_none, errW_some] <;> rfl), by repeat (first | (with_reducible first | exact HB.out | apply below_alloc | apply pw_below_drewN | apply below_drew1 | refine below_set ?_ GE122.out) | exact HB.out)⟩
            · rw [if_neg c30] at H
              have c30b0 : decide (0 ≤ a0_1) = false := decide_eq_false c30
              clear c30
              obtain rfl := Option.some.inj H
              go_enter Tryd.func72, Tryd.ntmps72
              go_wp2_with (first | ((with_reducible refine gate_dst (N := 2) rfl ?_); (try (refine gate_guard (by rfl) ?_; dsimp only)); refine box_event ?hg (N := 2) ?hd (cs := #[.int .i64 a0_0, .int .i64 a0_1, .string a0_2, .slice A0_3 l0_3.length c0_3]) (t := 84) ?hr ?_; (case hd => rfl); (case hg => rfl); (case hr => first | (go_simp; done) | (go_simp; rfl)); intro gb122 hg w33 hbox hb; have n0_ := Aside0.mk (below_step (by repeat (first | (with_reducible first | exact HB.out | apply below_alloc | apply pw_below_drewN | apply below_drew1) | exact HB.out)) hb); have n1_ := Aside0.mk (hbox); have n2_ := Aside0.mk ((by rw [hg]; exact (below_size (by repeat (first | (with_reducible first | exact HB.out | apply below_alloc | apply pw_below_drewN | apply below_drew1) | exact HB.out))) : w.heap.size ≤ gb122)); have n3_ := Aside0.mk ((by rw [hg]; exact (below_size (by repeat (first | (with_reducible first | exact HB.out | apply below_alloc | apply pw_below_drewN | apply below_drew1) | exact HB.out))) : w.heap.size ≤ gb122)); clear HB; have HB := n0_; have BK122 := n1_; have GW122 := n2_; have GE122 := n3_; clear n0_ n1_ n2_ n3_; clear hb hbox hg; have hcz34_0 : w33.cell? ⟨gb122, 0, none⟩ = some (.int .i64 a0_0) := (blk_cell BK122.out 0).trans rfl; have hcz34_1 : w33.cell? ⟨gb122, 1, none⟩ = some (.int .i64 a0_1) := (blk_cell BK122.out 1).trans rfl; have hcz34_2 : w33.cell? ⟨gb122, 2, none⟩ = some (.string a0_2) := (blk_cell BK122.out 2).trans rfl; have hcz34_3 : w33.cell? ⟨gb122, 3, none⟩ = some (.slice A0_3 l0_3.length c0_3) := (blk_cell BK122.out 3).trans rfl; have hfz34_0 := blk_frozen BK122.out 0; have hfz34_1 := blk_frozen BK122.out 1; have hfz34_2 := blk_frozen BK122.out 2; have hfz34_3 := blk_frozen BK122.out 3))
              go_ret
              exact ⟨by first | rfl | (simp [errW_none, errW_some] <;> rfl) | (simp [*, errW_none, errW_some] <;> rfl), by repeat (first | (with_reducible first | exact HB.out | apply below_alloc | apply pw_below_drewN | apply below_drew1 | refine below_set ?_ GE122.out) | exact HB.out)⟩
          · rw [if_neg c29] at H
            have c29b0 : (a0_2.toList == ([] : List UInt8)) = false := beq_eq_false_iff_ne.mpr c29
            have c29b1 : (a0_2.toList != ([] : List UInt8)) = true := bne_iff_ne.mpr c29
            obtain rfl := Option.some.inj H
            go_enter Tryd.func72, Tryd.ntmps72
            go_wp2_with (first | ((with_reducible refine gate_dst (N := 2) rfl ?_); (try (refine gate_guard (by rfl) ?_; dsimp only)); refine box_event ?hg (N := 2) ?hd (cs := #[.int .i64 a0_0, .int .i64 a0_1, .string a0_2, .slice A0_3 l0_3.length c0_3]) (t := 84) ?hr ?_; (case hd => rfl); (case hg => rfl); (case hr => first | (go_simp; done) | (go_simp; rfl)); intro gb122 hg w35 hbox hb; have n0_ := Aside0.mk (below_step (by repeat (first | (with_reducible first | exact HB.out | apply below_alloc | apply pw_below_drewN | apply below_drew1) | exact HB.out)) hb); have n1_ := Aside0.mk (hbox); have n2_ := Aside0.mk ((by rw [hg]; exact (below_size (by repeat (first | (with_reducible first | exact HB.out | apply below_alloc | apply pw_below_drewN | apply below_drew1) | exact HB.out))) : w.heap.size ≤ gb122)); have n3_ := Aside0.mk ((by rw [hg]; exact (below_size (by repeat (first | (with_reducible first | exact HB.out | apply below_alloc | apply pw_below_drewN | apply below_drew1) | exact HB.out))) : w.heap.size ≤ gb122)); clear HB; have HB := n0_; have BK122 := n1_; have GW122 := n2_; have GE122 := n3_; clear n0_ n1_ n2_ n3_; clear hb hbox hg; have hcz36_0 : w35.cell? ⟨gb122, 0, none⟩ = some (.int .i64 a0_0) := (blk_cell BK122.out 0).trans rfl; have hcz36_1 : w35.cell? ⟨gb122, 1, none⟩ = some (.int .i64 a0_1) := (blk_cell BK122.out 1).trans rfl; have hcz36_2 : w35.cell? ⟨gb122, 2, none⟩ = some (.string a0_2) := (blk_cell BK122.out 2).trans rfl; have hcz36_3 : w35.cell? ⟨gb122, 3, none⟩ = some (.slice A0_3 l0_3.length c0_3) := (blk_cell BK122.out 3).trans rfl; have hfz36_0 := blk_frozen BK122.out 0; have hfz36_1 := blk_frozen BK122.out 1; have hfz36_2 := blk_frozen BK122.out 2; have hfz36_3 := blk_frozen BK122.out 3))
            go_ret
            exact ⟨by first | rfl | (simp [errW_none, errW_some] <;> rfl) | (simp [*, errW_none, errW_some] <;> rfl), by repeat (first | (with_reducible first | exact HB.out | apply below_alloc | apply pw_below_drewN | apply below_drew1 | refine below_set ?_ GE122.out) | exact HB.out)⟩
        · rw [if_neg c28] at H
          have c28b0 : ((l0_3.length : Int) == 0) = false := beq_eq_false_iff_ne.mpr c28
          have c28b1 : ((l0_3.length : Int) != 0) = true := bne_iff_ne.mpr c28
          have c28b2 : ¬ (l0_3 = []) := fun h_ => c28 (by rw [h_]; rfl)
          obtain rfl := Option.some.inj H
          go_enter Tryd.func72, Tryd.ntmps72
          go_wp2_with (first | ((with_reducible refine gate_dst (N := 2) rfl ?_); (try (refine gate_guard (by rfl) ?_; dsimp only)); refine box_event ?hg (N := 2) ?hd (cs := #[.int .i64 a0_0, .int .i64 a0_1, .string a0_2, .slice A0_3 l0_3.length c0_3]) (t := 84) ?hr ?_; (case hd => rfl); (case hg => rfl); (case hr => first | (go_simp; done) | (go_simp; rfl)); intro gb122 hg w37 hbox hb; have n0_ := Aside0.mk (below_step (by repeat (first | (with_reducible first | exact HB.out | apply below_alloc | apply pw_below_drewN | apply below_drew1) | exact HB.out)) hb); have n1_ := Aside0.mk (hbox); have n2_ := Aside0.mk ((by rw [hg]; exact (below_size (by repeat (first | (with_reducible first | exact HB.out | apply below_alloc | apply pw_below_drewN | apply below_drew1) | exact HB.out))) : w.heap.size ≤ gb122)); have n3_ := Aside0.mk ((by rw [hg]; exact (below_size (by repeat (first | (with_reducible first | exact HB.out | apply below_alloc | apply pw_below_drewN | apply below_drew1) | exact HB.out))) : w.heap.size ≤ gb122)); clear HB; have HB := n0_; have BK122 := n1_; have GW122 := n2_; have GE122 := n3_; clear n0_ n1_ n2_ n3_; clear hb hbox hg; have hcz38_0 : w37.cell? ⟨gb122, 0, none⟩ = some (.int .i64 a0_0) := (blk_cell BK122.out 0).trans rfl; have hcz38_1 : w37.cell? ⟨gb122, 1, none⟩ = some (.int .i64 a0_1) := (blk_cell BK122.out 1).trans rfl; have hcz38_2 : w37.cell? ⟨gb122, 2, none⟩ = some (.string a0_2) := (blk_cell BK122.out 2).trans rfl; have hcz38_3 : w37.cell? ⟨gb122, 3, none⟩ = some (.slice A0_3 l0_3.length c0_3) := (blk_cell BK122.out 3).trans rfl; have hfz38_0 := blk_frozen BK122.out 0; have hfz38_1 := blk_frozen BK122.out 1; have hfz38_2 := blk_frozen BK122.out 2; have hfz38_3 := blk_frozen BK122.out 3))
          go_ret
          exact ⟨by first | rfl | (simp [errW_none, errW_some] <;> rfl) | (simp [*, errW_none, errW_some] <;> rfl), by repeat (first | (with_reducible first | exact HB.out | apply below_alloc | apply pw_below_drewN | apply below_drew1 | refine below_set ?_ GE122.out) | exact HB.out)⟩
      · rw [if_neg c27] at H
        have c27b0 : (a0_0 == 3) = false := beq_eq_false_iff_ne.mpr c27
        have c27b1 : (a0_0 != 3) = true := bne_iff_ne.mpr c27
        by_cases c39 : a0_0 = 4
        · rw [if_pos c39] at H
          have c39b0 : (a0_0 == 4) = true := beq_iff_eq.mpr c39
          have c39b1 : (a0_0 != 4) = false := bne_eq_false_iff_eq.mpr c39
          clear c39
          by_cases c40 : (l0_3.length : Int) = 0
          · rw [if_pos c40] at H
            have c40b0 : ((l0_3.length : Int) == 0) = true := beq_iff_eq.mpr c40
            have c40b1 : ((l0_3.length : Int) != 0) = false := bne_eq_false_iff_eq.mpr c40
            clear c40
            by_cases c41 : a0_1 = 0
            · rw [if_pos c41] at H
              have c41b0 : (a0_1 == 0) = true := beq_iff_eq.mpr c41
              have c41b1 : (a0_1 != 0) = false := bne_eq_false_iff_eq.mpr c41
              clear c41
              obtain rfl := Option.some.inj H
              go_enter Tryd.func72, Tryd.ntmps72
              go_wp2_with (first | ((with_reducible refine gate_dst (N := 2) rfl ?_); (try (refine gate_guard (by rfl) ?_; dsimp only)); refine box_event ?hg (N := 2) ?hd (cs := #[.int .i64 a0_0, .int .i64 a0_1, .string a0_2, .slice A0_3 l0_3.length c0_3]) (t := 84) ?hr ?_; (case hd => rfl); (case hg => rfl); (case hr => first | (go_simp; done) | (go_simp; rfl)); intro gb122 hg w42 hbox hb; have n0_ := Aside0.mk (below_step (by repeat (first | (with_reducible first | exact HB.out | apply below_alloc | apply pw_below_drewN | apply below_drew1) | exact HB.out)) hb); have n1_ := Aside0.mk (hbox); have n2_ := Aside0.mk ((by rw [hg]; exact (below_size (by repeat (first | (with_reducible first | exact HB.out | apply below_alloc | apply pw_below_drewN | apply below_drew1) | exact HB.out))) : w.heap.size ≤ gb122)); have n3_ := Aside0.mk ((by rw [hg]; exact (below_size (by repeat (first | (with_reducible first | exact HB.out | apply below_alloc | apply pw_below_drewN | apply below_drew1) | exact HB.out))) : w.heap.size ≤ gb122)); clear HB; have HB := n0_; have BK122 := n1_; have GW122 := n2_; have GE122 := n3_; clear n0_ n1_ n2_ n3_; clear hb hbox hg; have hcz43_0 : w42.cell? ⟨gb122, 0, none⟩ = some (.int .i64 a0_0) := (blk_cell BK122.out 0).trans rfl; have hcz43_1 : w42.cell? ⟨gb122, 1, none⟩ = some (.int .i64 a0_1) := (blk_cell BK122.out 1).trans rfl; have hcz43_2 : w42.cell? ⟨gb122, 2, none⟩ = some (.string a0_2) := (blk_cell BK122.out 2).trans rfl; have hcz43_3 : w42.cell? ⟨gb122, 3, none⟩ = some (.slice A0_3 l0_3.length c0_3) := (blk_cell BK122.out 3).trans rfl; have hfz43_0 := blk_frozen BK122.out 0; have hfz43_1 := blk_frozen BK122.out 1; have hfz43_2 := blk_frozen BK122.out 2; have hfz43_3 := blk_frozen BK122.out 3))
              go_ret
              exact ⟨by first | rfl | (simp [errW_none, errW_some] <;> rfl) | (simp [*, errW_none, errW_some] <;> rfl), by repeat (first | (with_reducible first | exact HB.out | apply below_alloc | apply pw_below_drewN | apply below_drew1 | refine below_set ?_ GE122.out) | exact HB.out)⟩
            · rw [if_neg c41] at H
              have c41b0 : (a0_1 == 0) = false := beq_eq_false_iff_ne.mpr c41
              have c41b1 : (a0_1 != 0) = true := bne_iff_ne.mpr c41
              obtain rfl := Option.some.inj H
              go_enter Tryd.func72, Tryd.ntmps72
              go_wp2_with (first | ((with_reducible refine gate_dst (N := 2) rfl ?_); (try (refine gate_guard (by rfl) ?_; dsimp only)); refine box_event ?hg (N := 2) ?hd (cs := #[.int .i64 a0_0, .int .i64 a0_1, .string a0_2, .slice A0_3 l0_3.length c0_3]) (t := 84) ?hr ?_; (case hd => rfl); (case hg => rfl); (case hr => first | (go_simp; done) | (go_simp; rfl)); intro gb122 hg w44 hbox hb; have n0_ := Aside0.mk (below_step (by repeat (first | (with_reducible first | exact HB.out | apply below_alloc | apply pw_below_drewN | apply below_drew1) | exact HB.out)) hb); have n1_ := Aside0.mk (hbox); have n2_ := Aside0.mk ((by rw [hg]; exact (below_size (by repeat (first | (with_reducible first | exact HB.out | apply below_alloc | apply pw_below_drewN | apply below_drew1) | exact HB.out))) : w.heap.size ≤ gb122)); have n3_ := Aside0.mk ((by rw [hg]; exact (below_size (by repeat (first | (with_reducible first | exact HB.out | apply below_alloc | apply pw_below_drewN | apply below_drew1) | exact HB.out))) : w.heap.size ≤ gb122)); clear HB; have HB := n0_; have BK122 := n1_; have GW122 := n2_; have GE122 := n3_; clear n0_ n1_ n2_ n3_; clear hb hbox hg; have hcz45_0 : w44.cell? ⟨gb122, 0, none⟩ = some (.int .i64 a0_0) := (blk_cell BK122.out 0).trans rfl; have hcz45_1 : w44.cell? ⟨gb122, 1, none⟩ = some (.int .i64 a0_1) := (blk_cell BK122.out 1).trans rfl; have hcz45_2 : w44.cell? ⟨gb122, 2, none⟩ = some (.string a0_2) := (blk_cell BK122.out 2).trans rfl; have hcz45_3 : w44.cell? ⟨gb122, 3, none⟩ = some (.slice A0_3 l0_3.length c0_3) := (blk_cell BK122.out 3).trans rfl; have hfz45_0 := blk_frozen BK122.out 0; have hfz45_1 := blk_frozen BK122.out 1; have hfz45_2 := blk_frozen BK122.out 2; have hfz45_3 := blk_frozen BK122.out 3))
              go_ret
              exact ⟨by first | rfl | (simp [errW_none, errW_some] <;> rfl) | (simp [*, errW_none, errW_some] <;> rfl), by repeat (first | (with_reducible first | exact HB.out | apply below_alloc | apply pw_below_drewN | apply below_drew1 | refine below_set ?_ GE122.out) | exact HB.out)⟩
          · rw [if_neg c40] at H
            have c40b0 : ((l0_3.length : Int) == 0) = false := beq_eq_false_iff_ne.mpr c40
            have c40b1 : ((l0_3.length : Int) != 0) = true := bne_iff_ne.mpr c40
            have c40b2 : ¬ (l0_3 = []) := fun h_ => c40 (by rw [h_]; rfl)
            obtain rfl := Option.some.inj H
            go_enter Tryd.func72, Tryd.ntmps72
            go_wp2_with (first | ((with_reducible refine gate_dst (N := 2) rfl ?_); (try (refine gate_guard (by rfl) ?_; dsimp only)); refine box_event ?hg (N := 2) ?hd (cs := #[.int .i64 a0_0, .int .i64 a0_1, .string a0_2, .slice A0_3 l0_3.length c0_3]) (t := 84) ?hr ?_; (case hd => rfl); (case hg => rfl); (case hr => first | (go_simp; done) | (go_simp; rfl)); intro gb122 hg w46 hbox hb; have n0_ := Aside0.mk (below_step (by repeat (first | (with_reducible first | exact HB.out | apply below_alloc | apply pw_below_drewN | apply below_drew1) | exact HB.out)) hb); have n1_ := Aside0.mk (hbox); have n2_ := Aside0.mk ((by rw [hg]; exact (below_size (by repeat (first | (with_reducible first | exact HB.out | apply below_alloc | apply pw_below_drewN | apply below_drew1) | exact HB.out))) : w.heap.size ≤ gb122)); have n3_ := Aside0.mk ((by rw [hg]; exact (below_size (by repeat (first | (with_reducible first | exact HB.out | apply below_alloc | apply pw_below_drewN | apply below_drew1) | exact HB.out))) : w.heap.size ≤ gb122)); clear HB; have HB := n0_; have BK122 := n1_; have GW122 := n2_; have GE122 := n3_; clear n0_ n1_ n2_ n3_; clear hb hbox hg; have hcz47_0 : w46.cell? ⟨gb122, 0, none⟩ = some (.int .i64 a0_0) := (blk_cell BK122.out 0).trans rfl; have hcz47_1 : w46.cell? ⟨gb122, 1, none⟩ = some (.int .i64 a0_1) := (blk_cell BK122.out 1).trans rfl; have hcz47_2 : w46.cell? ⟨gb122, 2, none⟩ = some (.string a0_2) := (blk_cell BK122.out 2).trans rfl; have hcz47_3 : w46.cell? ⟨gb122, 3, none⟩ = some (.slice A0_3 l0_3.length c0_3) := (blk_cell BK122.out 3).trans rfl; have hfz47_0 := blk_frozen BK122.out 0; have hfz47_1 := blk_frozen BK122.out 1; have hfz47_2 := blk_frozen BK122.out 2; have hfz47_3 := blk_frozen BK122.out 3))
            go_ret
            exact ⟨by first | rfl | (simp [errW_none, errW_some] <;> rfl) | (simp [*, errW_none, errW_some] <;> rfl), by repeat (first | (with_reducible first | exact HB.out | apply below_alloc | apply pw_below_drewN | apply below_drew1 | refine below_set ?_ GE122.out) | exact HB.out)⟩
        · rw [if_neg c39] at H
          have c39b0 : (a0_0 == 4) = false := beq_eq_false_iff_ne.mpr c39
          have c39b1 : (a0_0 != 4) = true := bne_iff_ne.mpr c39
          by_cases c48 : a0_0 = 5
          · rw [if_pos c48] at H
            have c48b0 : (a0_0 == 5) = true := beq_iff_eq.mpr c48
            have c48b1 : (a0_0 != 5) = false := bne_eq_false_iff_eq.mpr c48
            clear c48
            by_cases c49 : (l0_3.length : Int) = 0
            · rw [if_pos c49] at H
              have c49b0 : ((l0_3.length : Int) == 0) = true := beq_iff_eq.mpr c49
              have c49b1 : ((l0_3.length : Int) != 0) = false := bne_eq_false_iff_eq.mpr c49
              clear c49
              by_cases c50 : a0_1 = 0
              · rw [if_pos c50] at H
                have c50b0 : (a0_1 == 0) = true := beq_iff_eq.mpr c50
                have c50b1 : (a0_1 != 0) = false := bne_eq_false_iff_eq.mpr c50
                clear c50
                replace H := Option.bind_eq_some_iff.mp H
                obtain ⟨t123, A510, H⟩ := H
                replace H : (some t123) = some r := H
                have A51 := Aside0.mk A510
                clear A510
                obtain rfl := Option.some.inj H
                go_enter Tryd.func72, Tryd.ntmps72
                go_wp2_with (first | ((with_reducible refine gate_dst (N := 2) rfl ?_); (try (refine gate_guard (by rfl) ?_; dsimp only)); refine box_event ?hg (N := 2) ?hd (cs := #[.int .i64 a0_0, .int .i64 a0_1, .string a0_2, .slice A0_3 l0_3.length c0_3]) (t := 84) ?hr ?_; (case hd => rfl); (case hg => rfl); (case hr => first | (go_simp; done) | (go_simp; rfl)); intro gb122 hg w52 hbox hb; have n0_ := Aside0.mk (below_step (by repeat (first | (with_reducible first | exact HB.out | apply below_alloc | apply pw_below_drewN | apply below_drew1) | exact HB.out)) hb); have n1_ := Aside0.mk (hbox); have n2_ := Aside0.mk ((by rw [hg]; exact (below_size (by repeat (first | (with_reducible first | exact HB.out | apply below_alloc | apply pw_below_drewN | apply below_drew1) | exact HB.out))) : w.heap.size ≤ gb122)); have n3_ := Aside0.mk ((by rw [hg]; exact (below_size (by repeat (first | (with_reducible first | exact HB.out | apply below_alloc | apply pw_below_drewN | apply below_drew1) | exact HB.out))) : w.heap.size ≤ gb122)); clear HB; have HB := n0_; have BK122 := n1_; have GW122 := n2_; have GE122 := n3_; clear n0_ n1_ n2_ n3_; clear hb hbox hg; have hcz53_0 : w52.cell? ⟨gb122, 0, none⟩ = some (.int .i64 a0_0) := (blk_cell BK122.out 0).trans rfl; have hcz53_1 : w52.cell? ⟨gb122, 1, none⟩ = some (.int .i64 a0_1) := (blk_cell BK122.out 1).trans rfl; have hcz53_2 : w52.cell? ⟨gb122, 2, none⟩ = some (.string a0_2) := (blk_cell BK122.out 2).trans rfl; have hcz53_3 : w52.cell? ⟨gb122, 3, none⟩ = some (.slice A0_3 l0_3.length c0_3) := (blk_cell BK122.out 3).trans rfl; have hfz53_0 := blk_frozen BK122.out 0; have hfz53_1 := blk_frozen BK122.out 1; have hfz53_2 := blk_frozen BK122.out 2; have hfz53_3 := blk_frozen BK122.out 3) | (go_at_call 60; (with_reducible refine (spindleref07_Symbol.calls k a0_2 t123 _ A51.out).mono ?_); rintro e w' ⟨rfl, ⟨nd, rfl⟩⟩))
                go_ret
                exact ⟨by first | rfl | (simp [errW_none, errW_some] <;> rfl) | (simp [*, errW_none, errW_some] <;> rfl), by repeat (first | (with_reducible first | exact HB.out | apply below_alloc | apply pw_below_drewN | apply below_drew1 | refine below_set ?_ GE122.out) | exact HB.out)⟩
              · rw [if_neg c50] at H
                have c50b0 : (a0_1 == 0) = false := beq_eq_false_iff_ne.mpr c50
                have c50b1 : (a0_1 != 0) = true := bne_iff_ne.mpr c50
                obtain rfl := Option.some.inj H
                go_enter Tryd.func72, Tryd.ntmps72
                go_wp2_with (first | ((with_reducible refine gate_dst (N := 2) rfl ?_); (try (refine gate_guard (by rfl) ?_; dsimp only)); refine box_event ?hg (N := 2) ?hd (cs := #[.int .i64 a0_0, .int .i64 a0_1, .string a0_2, .slice A0_3 l0_3.length c0_3]) (t := 84) ?hr ?_; (case hd => rfl); (case hg => rfl); (case hr => first | (go_simp; done) | (go_simp; rfl)); intro gb122 hg w54 hbox hb; have n0_ := Aside0.mk (below_step (by repeat (first | (with_reducible first | exact HB.out | apply below_alloc | apply pw_below_drewN | apply below_drew1) | exact HB.out)) hb); have n1_ := Aside0.mk (hbox); have n2_ := Aside0.mk ((by rw [hg]; exact (below_size (by repeat (first | (with_reducible first | exact HB.out | apply below_alloc | apply pw_below_drewN | apply below_drew1) | exact HB.out))) : w.heap.size ≤ gb122)); have n3_ := Aside0.mk ((by rw [hg]; exact (below_size (by repeat (first | (with_reducible first | exact HB.out | apply below_alloc | apply pw_below_drewN | apply below_drew1) | exact HB.out))) : w.heap.size ≤ gb122)); clear HB; have HB := n0_; have BK122 := n1_; have GW122 := n2_; have GE122 := n3_; clear n0_ n1_ n2_ n3_; clear hb hbox hg; have hcz55_0 : w54.cell? ⟨gb122, 0, none⟩ = some (.int .i64 a0_0) := (blk_cell BK122.out 0).trans rfl; have hcz55_1 : w54.cell? ⟨gb122, 1, none⟩ = some (.int .i64 a0_1) := (blk_cell BK122.out 1).trans rfl; have hcz55_2 : w54.cell? ⟨gb122, 2, none⟩ = some (.string a0_2) := (blk_cell BK122.out 2).trans rfl; have hcz55_3 : w54.cell? ⟨gb122, 3, none⟩ = some (.slice A0_3 l0_3.length c0_3) := (blk_cell BK122.out 3).trans rfl; have hfz55_0 := blk_frozen BK122.out 0; have hfz55_1 := blk_frozen BK122.out 1; have hfz55_2 := blk_frozen BK122.out 2; have hfz55_3 := blk_frozen BK122.out 3))
                go_ret
                exact ⟨by first | rfl | (simp [errW_none, errW_some] <;> rfl) | (simp [*, errW_none, errW_some] <;> rfl), by repeat (first | (with_reducible first | exact HB.out | apply below_alloc | apply pw_below_drewN | apply below_drew1 | refine below_set ?_ GE122.out) | exact HB.out)⟩
            · rw [if_neg c49] at H
              have c49b0 : ((l0_3.length : Int) == 0) = false := beq_eq_false_iff_ne.mpr c49
              have c49b1 : ((l0_3.length : Int) != 0) = true := bne_iff_ne.mpr c49
              have c49b2 : ¬ (l0_3 = []) := fun h_ => c49 (by rw [h_]; rfl)
              obtain rfl := Option.some.inj H
              go_enter Tryd.func72, Tryd.ntmps72
              go_wp2_with (first | ((with_reducible refine gate_dst (N := 2) rfl ?_); (try (refine gate_guard (by rfl) ?_; dsimp only)); refine box_event ?hg (N := 2) ?hd (cs := #[.int .i64 a0_0, .int .i64 a0_1, .string a0_2, .slice A0_3 l0_3.length c0_3]) (t := 84) ?hr ?_; (case hd => rfl); (case hg => rfl); (case hr => first | (go_simp; done) | (go_simp; rfl)); intro gb122 hg w56 hbox hb; have n0_ := Aside0.mk (below_step (by repeat (first | (with_reducible first | exact HB.out | apply below_alloc | apply pw_below_drewN | apply below_drew1) | exact HB.out)) hb); have n1_ := Aside0.mk (hbox); have n2_ := Aside0.mk ((by rw [hg]; exact (below_size (by repeat (first | (with_reducible first | exact HB.out | apply below_alloc | apply pw_below_drewN | apply below_drew1) | exact HB.out))) : w.heap.size ≤ gb122)); have n3_ := Aside0.mk ((by rw [hg]; exact (below_size (by repeat (first | (with_reducible first | exact HB.out | apply below_alloc | apply pw_below_drewN | apply below_drew1) | exact HB.out))) : w.heap.size ≤ gb122)); clear HB; have HB := n0_; have BK122 := n1_; have GW122 := n2_; have GE122 := n3_; clear n0_ n1_ n2_ n3_; clear hb hbox hg; have hcz57_0 : w56.cell? ⟨gb122, 0, none⟩ = some (.int .i64 a0_0) := (blk_cell BK122.out 0).trans rfl; have hcz57_1 : w56.cell? ⟨gb122, 1, none⟩ = some (.int .i64 a0_1) := (blk_cell BK122.out 1).trans rfl; have hcz57_2 : w56.cell? ⟨gb122, 2, none⟩ = some (.string a0_2) := (blk_cell BK122.out 2).trans rfl; have hcz57_3 : w56.cell? ⟨gb122, 3, none⟩ = some (.slice A0_3 l0_3.length c0_3) := (blk_cell BK122.out 3).trans rfl; have hfz57_0 := blk_frozen BK122.out 0; have hfz57_1 := blk_frozen BK122.out 1; have hfz57_2 := blk_frozen BK122.out 2; have hfz57_3 := blk_frozen BK122.out 3))
              go_ret
              exact ⟨by first | rfl | (simp [errW_none, errW_some] <;> rfl) | (simp [*, errW_none, errW_some] <;> rfl), by repeat (first | (with_reducible first | exact HB.out | apply below_alloc | apply pw_below_drewN | apply below_drew1 | refine below_set ?_ GE122.out) | exact HB.out)⟩
          · rw [if_neg c48] at H
            have c48b0 : (a0_0 == 5) = false := beq_eq_false_iff_ne.mpr c48
            have c48b1 : (a0_0 != 5) = true := bne_iff_ne.mpr c48
            have HC58 := Aside0.mk H
            clear H
            go_enter Tryd.func72, Tryd.ntmps72
            go_upto_if 95 with (first | ((with_reducible refine gate_dst (N := 2) rfl ?_); (try (refine gate_guard (by rfl) ?_; dsimp only)); refine box_event ?hg (N := 2) ?hd (cs := #[.int .i64 a0_0, .int .i64 a0_1, .string a0_2, .slice A0_3 l0_3.length c0_3]) (t := 84) ?hr ?_; (case hd => rfl); (case hg => rfl); (case hr => first | (go_simp; done) | (go_simp; rfl)); intro gb122 hg w59 hbox hb; have n0_ := Aside0.mk (below_step (by repeat (first | (with_reducible first | exact HB.out | apply below_alloc | apply pw_below_drewN | apply below_drew1) | exact HB.out)) hb); have n1_ := Aside0.mk (hbox); have n2_ := Aside0.mk ((by rw [hg]; exact (below_size (by repeat (first | (with_reducible first | exact HB.out | apply below_alloc | apply pw_below_drewN | apply below_drew1) | exact HB.out))) : w.heap.size ≤ gb122)); have n3_ := Aside0.mk ((by rw [hg]; exact (below_size (by repeat (first | (with_reducible first | exact HB.out | apply below_alloc | apply pw_below_drewN | apply below_drew1) | exact HB.out))) : w.heap.size ≤ gb122)); clear HB; have HB := n0_; have BK122 := n1_; have GW122 := n2_; have GE122 := n3_; clear n0_ n1_ n2_ n3_; clear hb hbox hg; have hcz60_0 : w59.cell? ⟨gb122, 0, none⟩ = some (.int .i64 a0_0) := (blk_cell BK122.out 0).trans rfl; have hcz60_1 : w59.cell? ⟨gb122, 1, none⟩ = some (.int .i64 a0_1) := (blk_cell BK122.out 1).trans rfl; have hcz60_2 : w59.cell? ⟨gb122, 2, none⟩ = some (.string a0_2) := (blk_cell BK122.out 2).trans rfl; have hcz60_3 : w59.cell? ⟨gb122, 3, none⟩ = some (.slice A0_3 l0_3.length c0_3) := (blk_cell BK122.out 3).trans rfl; have hfz60_0 := blk_frozen BK122.out 0; have hfz60_1 := blk_frozen BK122.out 1; have hfz60_2 := blk_frozen BK122.out 2; have hfz60_3 := blk_frozen BK122.out 3))
            (try simp only [Act.put, List.setIfInBounds_toArray, List.set_cons_zero, List.set_cons_succ])
            go_cut [95] (fun v95 wc => ∃ (kq : Nat) (x95_57 : Bool), v95 = .bool x95_57 ∧ Aside0 (spindleref08_right.j0 kq a1 ((l0_3.length : Int) == 0) x95_57 a0_0 a0_1 a0_2 l0_3 = some r) ∧ Aside0 (kq ≤ k) ∧ Aside0 (wc.heap[gb122]? = some (.cells #[.int .i64 a0_0, .int .i64 a0_1, .string a0_2, (.slice A0_3 l0_3.length c0_3)] 84 (0, 0))) ∧ Aside0 (Below w.heap.size w wc))
            case first =>
              have H := HC58.out
              clear HC58
              by_cases c61 : a0_0 = 6
              · rw [if_pos c61] at H
                have c61b0 : (a0_0 == 6) = true := beq_iff_eq.mpr c61
                have c61b1 : (a0_0 != 6) = false := bne_eq_false_iff_eq.mpr c61
                clear c61
                (first | rw [c61b0] | (simp only [i64_w, i32_w]; rw [c61b0]) | skip)
                have H' := Aside0.mk H
                clear H
                go_wp2
                go_meet
                case rel => exact ⟨_, ((a0_0 == 6)), (by first | rfl | (simp; done) | (simp [*]; done)), H', ⟨by first | omega | exact Nat.le_refl _⟩, ⟨by (with_reducible repeat (first | refine blk_drewN ?_ _ | refine blk_drew ?_ | refine blk_alloc ?_ _)); exact BK122.out⟩, ⟨by repeat (first | (with_reducible first | exact HB.out | apply below_alloc | apply pw_below_drewN | apply below_drew1 | refine below_set ?_ GE122.out) | exact HB.out)⟩⟩
              · rw [if_neg c61] at H
                have c61b0 : (a0_0 == 6) = false := beq_eq_false_iff_ne.mpr c61
                have c61b1 : (a0_0 != 6) = true := bne_iff_ne.mpr c61
                (first | rw [c61b0] | (simp only [i64_w, i32_w]; rw [c61b0]) | skip)
                by_cases c62 : a0_0 = 7
                · rw [if_pos c62] at H
                  have c62b0 : (a0_0 == 7) = true := beq_iff_eq.mpr c62
                  have c62b1 : (a0_0 != 7) = false := bne_eq_false_iff_eq.mpr c62
                  clear c62
                  have H' := Aside0.mk H
                  clear H
                  go_wp2
                  go_meet
                  case rel => exact ⟨_, ((a0_0 == 7)), (by first | rfl | (simp; done) | (simp [*]; done)), H', ⟨by first | omega | exact Nat.le_refl _⟩, ⟨by (with_reducible repeat (first | refine blk_drewN ?_ _ | refine blk_drew ?_ | refine blk_alloc ?_ _)); exact BK122.out⟩, ⟨by repeat (first | (with_reducible first | exact HB.out | apply below_alloc | apply pw_below_drewN | apply below_drew1 | refine below_set ?_ GE122.out) | exact HB.out)⟩⟩
                · rw [if_neg c62] at H
                  have c62b0 : (a0_0 == 7) = false := beq_eq_false_iff_ne.mpr c62
                  have c62b1 : (a0_0 != 7) = true := bne_iff_ne.mpr c62
                  have H' := Aside0.mk H
                  clear H
                  go_wp2
                  go_meet
                  case rel => exact ⟨_, ((a0_0 == 8)), (by first | rfl | (simp; done) | (simp [*]; done)), H', ⟨by first | omega | exact Nat.le_refl _⟩, ⟨by (with_reducible repeat (first | refine blk_drewN ?_ _ | refine blk_drew ?_ | refine blk_alloc ?_ _)); exact BK122.out⟩, ⟨by repeat (first | (with_reducible first | exact HB.out | apply below_alloc | apply pw_below_drewN | apply below_drew1 | refine below_set ?_ GE122.out) | exact HB.out)⟩⟩
            case rest =>
              clear HC58
              try clear c1
              try clear c2
              try clear p2
              try clear c3
              try clear c3b0
              try clear c3b1
              try clear c4
              try clear c4b0
              try clear c4b1
              try clear c4b2
              try clear c5
              try clear c5b0
              try clear c5b1
              try clear c6
              try clear c6b0
              try clear c7
              try clear c15
              try clear c15b0
              try clear c15b1
              try clear c16
              try clear c16b0
              try clear c16b1
              try clear c16b2
              try clear c17
              try clear c17b0
              try clear c17b1
              try clear c18
              try clear c18b0
              try clear c18b1
              try clear c27
              try clear c27b0
              try clear c27b1
              try clear c28
              try clear c28b0
              try clear c28b1
              try clear c28b2
              try clear c29
              try clear c29b0
              try clear c29b1
              try clear c30
              try clear c30b0
              try clear c39
              try clear c39b0
              try clear c39b1
              try clear c40
              try clear c40b0
              try clear c40b1
              try clear c40b2
              try clear c41
              try clear c41b0
              try clear c41b1
              try clear c48
              try clear c48b0
              try clear c48b1
              try clear c49
              try clear c49b0
              try clear c49b1
              try clear c49b2
              try clear c50
              try clear c50b0
              try clear c50b1
              try clear c61
              try clear c61b0
              try clear c61b1
              try clear c62
              try clear c62b0
              try clear c62b1
              try clear hcz10_0
              try clear hcz10_1
              try clear hcz10_2
              try clear hcz10_3
              try clear hcz12_0
              try clear hcz12_1
              try clear hcz12_2
              try clear hcz12_3
              try clear hcz14_0
              try clear hcz14_1
              try clear hcz14_2
              try clear hcz14_3
              try clear hcz20_0
              try clear hcz20_1
              try clear hcz20_2
              try clear hcz20_3
              try clear hcz22_0
              try clear hcz22_1
              try clear hcz22_2
              try clear hcz22_3
              try clear hcz24_0
              try clear hcz24_1
              try clear hcz24_2
              try clear hcz24_3
              try clear hcz26_0
              try clear hcz26_1
              try clear hcz26_2
              try clear hcz26_3
              try clear hcz32_0
              try clear hcz32_1
              try clear hcz32_2
              try clear hcz32_3
              try clear hcz34_0
              try clear hcz34_1
              try clear hcz34_2
              try clear hcz34_3
              try clear hcz36_0
              try clear hcz36_1
              try clear hcz36_2
              try clear hcz36_3
              try clear hcz38_0
              try clear hcz38_1
              try clear hcz38_2
              try clear hcz38_3
              try clear hcz43_0
              try clear hcz43_1
              try clear hcz43_2
              try clear hcz43_3
              try clear hcz45_0
              try clear hcz45_1
              try clear hcz45_2
              try clear hcz45_3
              try clear hcz47_0
              try clear hcz47_1
              try clear hcz47_2
              try clear hcz47_3
              try clear hcz53_0
              try clear hcz53_1
              try clear hcz53_2
              try clear hcz53_3
              try clear hcz55_0
              try clear hcz55_1
              try clear hcz55_2
              try clear hcz55_3
              try clear hcz57_0
              try clear hcz57_1
              try clear hcz57_2
              try clear hcz57_3
              try clear hcz60_0
              try clear hcz60_1
              try clear hcz60_2
              try clear hcz60_3
              try clear hcz8_0
              try clear hcz8_1
              try clear hcz8_2
              try clear hcz8_3
              try clear hfz10_0
              try clear hfz10_1
              try clear hfz10_2
              try clear hfz10_3
              try clear hfz12_0
              try clear hfz12_1
              try clear hfz12_2
              try clear hfz12_3
              try clear hfz14_0
              try clear hfz14_1
              try clear hfz14_2
              try clear hfz14_3
              try clear hfz20_0
              try clear hfz20_1
              try clear hfz20_2
              try clear hfz20_3
              try clear hfz22_0
              try clear hfz22_1
              try clear hfz22_2
              try clear hfz22_3
              try clear hfz24_0
              try clear hfz24_1
              try clear hfz24_2
              try clear hfz24_3
              try clear hfz26_0
              try clear hfz26_1
              try clear hfz26_2
              try clear hfz26_3
              try clear hfz32_0
              try clear hfz32_1
              try clear hfz32_2
              try clear hfz32_3
              try clear hfz34_0
              try clear hfz34_1
              try clear hfz34_2
              try clear hfz34_3
              try clear hfz36_0
              try clear hfz36_1
              try clear hfz36_2
              try clear hfz36_3
              try clear hfz38_0
              try clear hfz38_1
              try clear hfz38_2
              try clear hfz38_3
              try clear hfz43_0
              try clear hfz43_1
              try clear hfz43_2
              try clear hfz43_3
              try clear hfz45_0
              try clear hfz45_1
              try clear hfz45_2
              try clear hfz45_3
              try clear hfz47_0
              try clear hfz47_1
              try clear hfz47_2
              try clear hfz47_3
              try clear hfz53_0
              try clear hfz53_1
              try clear hfz53_2
              try clear hfz53_3
              try clear hfz55_0
              try clear hfz55_1
              try clear hfz55_2
              try clear hfz55_3
              try clear hfz57_0
              try clear hfz57_1
              try clear hfz57_2
              try clear hfz57_3
              try clear hfz60_0
              try clear hfz60_1
              try clear hfz60_2
              try clear hfz60_3
              try clear hfz8_0
              try clear hfz8_1
              try clear hfz8_2
              try clear hfz8_3
              obtain ⟨kq, x95_57, rfl, HA, HJ57, BK122, HB⟩ := hcut
              cases kq with
              | zero => exact absurd HA.out (by simp [spindleref08_right.j0])
              | succ kj57 =>
                have H := HA.out
                clear HA
                simp only [spindleref08_right.j0] at H
                by_cases c63 : x95_57 = true
                · subst c63
                  have H1 : (if a0_1 = 0 then (if a0_2.toList = ([] : List UInt8) then (if a1 ≤ 1 then (spindleref08_right.j1 kj57 a1 (!((l0_3.length : Int) == 0)) a0_0 a0_1 a0_2 l0_3) else (spindleref08_right.j1 kj57 a1 false a0_0 a0_1 a0_2 l0_3)) else (spindleref08_right.j1 kj57 a1 true a0_0 a0_1 a0_2 l0_3)) else (spindleref08_right.j1 kj57 a1 true a0_0 a0_1 a0_2 l0_3)) = some r := by rw [if_pos rfl] at H; exact H
                  clear H
                  have H := H1
                  clear H1
                  have HC64 := Aside0.mk H
                  clear H
                  go_upto_region 16 with (fail)
                  go_cut [114] (fun v114 wc => ∃ (kq : Nat) (x114_63 : Bool), v114 = .bool x114_63 ∧ Aside0 (spindleref08_right.j1 kq a1 x114_63 a0_0 a0_1 a0_2 l0_3 = some r) ∧ Aside0 (kq ≤ kj57) ∧ Aside0 (wc.heap[gb122]? = some (.cells #[.int .i64 a0_0, .int .i64 a0_1, .string a0_2, (.slice A0_3 l0_3.length c0_3)] 84 (0, 0))) ∧ Aside0 (Below w.heap.size w wc))
                  case first =>
                    have H := HC64.out
                    clear HC64
                    by_cases c65 : a0_1 = 0
                    · rw [if_pos c65] at H
                      have c65b0 : (a0_1 == 0) = true := beq_iff_eq.mpr c65
                      have c65b1 : (a0_1 != 0) = false := bne_eq_false_iff_eq.mpr c65
                      clear c65
                      (first | rw [c65b0] | (simp only [i64_w, i32_w]; rw [c65b0]) | skip)
                      by_cases c66 : a0_2.toList = ([] : List UInt8)
                      · rw [if_pos c66] at H
                        have c66b0 : (a0_2.toList == ([] : List UInt8)) = true := beq_iff_eq.mpr c66
                        have c66b1 : (a0_2.toList != ([] : List UInt8)) = false := bne_eq_false_iff_eq.mpr c66
                        clear c66
                        by_cases c67 : a1 ≤ 1
                        · rw [if_pos c67] at H
                          have c67b0 : decide (a1 ≤ 1) = true := decide_eq_true c67
                          clear c67
                          have H' := Aside0.mk H
                          clear H
                          have hcz68_0 : wc.cell? ⟨gb122, 0, none⟩ = some (.int .i64 a0_0) := (blk_cell BK122.out 0).trans rfl
                          have hcz68_1 : wc.cell? ⟨gb122, 1, none⟩ = some (.int .i64 a0_1) := (blk_cell BK122.out 1).trans rfl
                          have hcz68_2 : wc.cell? ⟨gb122, 2, none⟩ = some (.string a0_2) := (blk_cell BK122.out 2).trans rfl
                          have hcz68_3 : wc.cell? ⟨gb122, 3, none⟩ = some (.slice A0_3 l0_3.length c0_3) := (blk_cell BK122.out 3).trans rfl
                          have hfz68_0 := blk_frozen BK122.out 0
                          have hfz68_1 := blk_frozen BK122.out 1
                          have hfz68_2 := blk_frozen BK122.out 2
                          have hfz68_3 := blk_frozen BK122.out 3
                          go_wp2
                          go_meet
                          case rel => exact ⟨_, (!((l0_3.length : Int) == 0)), (by first | rfl | (simp; done) | (simp [*]; done)), H', ⟨by have := HJ57.out; first | omega | exact Nat.le_refl _⟩, ⟨by (with_reducible repeat (first | refine blk_drewN ?_ _ | refine blk_drew ?_ | refine blk_alloc ?_ _)); exact BK122.out⟩, ⟨by repeat (first | (with_reducible first | exact HB.out | apply below_alloc | apply pw_below_drewN | apply below_drew1 | refine below_set ?_ GE122.out) | exact HB.out)⟩⟩
                        · rw [if_neg c67] at H
                          have c67b0 : decide (a1 ≤ 1) = false := decide_eq_false c67
                          clear c67
                          have H' := Aside0.mk H
                          clear H
                          have hcz69_0 : wc.cell? ⟨gb122, 0, none⟩ = some (.int .i64 a0_0) := (blk_cell BK122.out 0).trans rfl
                          have hcz69_1 : wc.cell? ⟨gb122, 1, none⟩ = some (.int .i64 a0_1) := (blk_cell BK122.out 1).trans rfl
                          have hcz69_2 : wc.cell? ⟨gb122, 2, none⟩ = some (.string a0_2) := (blk_cell BK122.out 2).trans rfl
                          have hcz69_3 : wc.cell? ⟨gb122, 3, none⟩ = some (.slice A0_3 l0_3.length c0_3) := (blk_cell BK122.out 3).trans rfl
                          have hfz69_0 := blk_frozen BK122.out 0
                          have hfz69_1 := blk_frozen BK122.out 1
                          have hfz69_2 := blk_frozen BK122.out 2
                          have hfz69_3 := blk_frozen BK122.out 3
                          go_wp2
                          go_meet
                          case rel => exact ⟨_, (false), (by first | rfl | (simp; done) | (simp [*]; done)), H', ⟨by have := HJ57.out; first | omega | exact Nat.le_refl _⟩, ⟨by (with_reducible repeat (first | refine blk_drewN ?_ _ | refine blk_drew ?_ | refine blk_alloc ?_ _)); exact BK122.out⟩, ⟨by repeat (first | (with_reducible first | exact HB.out | apply below_alloc | apply pw_below_drewN | apply below_drew1 | refine below_set ?_ GE122.out) | exact HB.out)⟩⟩
                      · rw [if_neg c66] at H
                        have c66b0 : (a0_2.toList == ([] : List UInt8)) = false := beq_eq_false_iff_ne.mpr c66
                        have c66b1 : (a0_2.toList != ([] : List UInt8)) = true := bne_iff_ne.mpr c66
                        have H' := Aside0.mk H
                        clear H
                        have hcz70_0 : wc.cell? ⟨gb122, 0, none⟩ = some (.int .i64 a0_0) := (blk_cell BK122.out 0).trans rfl
                        have hcz70_1 : wc.cell? ⟨gb122, 1, none⟩ = some (.int .i64 a0_1) := (blk_cell BK122.out 1).trans rfl
                        have hcz70_2 : wc.cell? ⟨gb122, 2, none⟩ = some (.string a0_2) := (blk_cell BK122.out 2).trans rfl
                        have hcz70_3 : wc.cell? ⟨gb122, 3, none⟩ = some (.slice A0_3 l0_3.length c0_3) := (blk_cell BK122.out 3).trans rfl
                        have hfz70_0 := blk_frozen BK122.out 0
                        have hfz70_1 := blk_frozen BK122.out 1
                        have hfz70_2 := blk_frozen BK122.out 2
                        have hfz70_3 := blk_frozen BK122.out 3
                        go_wp2
                        go_meet
                        case rel => exact ⟨_, (true), (by first | rfl | (simp; done) | (simp [*]; done)), H', ⟨by have := HJ57.out; first | omega | exact Nat.le_refl _⟩, ⟨by (with_reducible repeat (first | refine blk_drewN ?_ _ | refine blk_drew ?_ | refine blk_alloc ?_ _)); exact BK122.out⟩, ⟨by repeat (first | (with_reducible first | exact HB.out | apply below_alloc | apply pw_below_drewN | apply below_drew1 | refine below_set ?_ GE122.out) | exact HB.out)⟩⟩
                    · rw [if_neg c65] at H
                      have c65b0 : (a0_1 == 0) = false := beq_eq_false_iff_ne.mpr c65
                      have c65b1 : (a0_1 != 0) = true := bne_iff_ne.mpr c65
                      (first | rw [c65b0] | (simp only [i64_w, i32_w]; rw [c65b0]) | skip)
                      have H' := Aside0.mk H
                      clear H
                      have hcz71_0 : wc.cell? ⟨gb122, 0, none⟩ = some (.int .i64 a0_0) := (blk_cell BK122.out 0).trans rfl
                      have hcz71_1 : wc.cell? ⟨gb122, 1, none⟩ = some (.int .i64 a0_1) := (blk_cell BK122.out 1).trans rfl
                      have hcz71_2 : wc.cell? ⟨gb122, 2, none⟩ = some (.string a0_2) := (blk_cell BK122.out 2).trans rfl
                      have hcz71_3 : wc.cell? ⟨gb122, 3, none⟩ = some (.slice A0_3 l0_3.length c0_3) := (blk_cell BK122.out 3).trans rfl
                      have hfz71_0 := blk_frozen BK122.out 0
                      have hfz71_1 := blk_frozen BK122.out 1
                      have hfz71_2 := blk_frozen BK122.out 2
                      have hfz71_3 := blk_frozen BK122.out 3
                      go_wp2
                      go_meet
                      case rel => exact ⟨_, (true), (by first | rfl | (simp; done) | (simp [*]; done)), H', ⟨by have := HJ57.out; first | omega | exact Nat.le_refl _⟩, ⟨by (with_reducible repeat (first | refine blk_drewN ?_ _ | refine blk_drew ?_ | refine blk_alloc ?_ _)); exact BK122.out⟩, ⟨by repeat (first | (with_reducible first | exact HB.out | apply below_alloc | apply pw_below_drewN | apply below_drew1 | refine below_set ?_ GE122.out) | exact HB.out)⟩⟩
                  case rest =>
                    clear HC64
                    try clear c1
                    try clear c2
                    try clear p2
                    try clear c3
                    try clear c3b0
                    try clear c3b1
                    try clear c4
                    try clear c4b0
                    try clear c4b1
                    try clear c4b2
                    try clear c5
                    try clear c5b0
                    try clear c5b1
                    try clear c6
                    try clear c6b0
                    try clear c7
                    try clear c15
                    try clear c15b0
                    try clear c15b1
                    try clear c16
                    try clear c16b0
                    try clear c16b1
                    try clear c16b2
                    try clear c17
                    try clear c17b0
                    try clear c17b1
                    try clear c18
                    try clear c18b0
                    try clear c18b1
                    try clear c27
                    try clear c27b0
                    try clear c27b1
                    try clear c28
                    try clear c28b0
                    try clear c28b1
                    try clear c28b2
                    try clear c29
                    try clear c29b0
                    try clear c29b1
                    try clear c30
                    try clear c30b0
                    try clear c39
                    try clear c39b0
                    try clear c39b1
                    try clear c40
                    try clear c40b0
                    try clear c40b1
                    try clear c40b2
                    try clear c41
                    try clear c41b0
                    try clear c41b1
                    try clear c48
                    try clear c48b0
                    try clear c48b1
                    try clear c49
                    try clear c49b0
                    try clear c49b1
                    try clear c49b2
                    try clear c50
                    try clear c50b0
                    try clear c50b1
                    try clear c61
                    try clear c61b0
                    try clear c61b1
                    try clear c62
                    try clear c62b0
                    try clear c62b1
                    try clear c63
                    try clear c65
                    try clear c65b0
                    try clear c65b1
                    try clear c66
                    try clear c66b0
                    try clear c66b1
                    try clear c67
                    try clear c67b0
                    try clear hcz10_0
                    try clear hcz10_1
                    try clear hcz10_2
                    try clear hcz10_3
                    try clear hcz12_0
                    try clear hcz12_1
                    try clear hcz12_2
                    try clear hcz12_3
                    try clear hcz14_0
                    try clear hcz14_1
                    try clear hcz14_2
                    try clear hcz14_3
                    try clear hcz20_0
                    try clear hcz20_1
                    try clear hcz20_2
                    try clear hcz20_3
                    try clear hcz22_0
                    try clear hcz22_1
                    try clear hcz22_2
                    try clear hcz22_3
                    try clear hcz24_0
                    try clear hcz24_1
                    try clear hcz24_2
                    try clear hcz24_3
                    try clear hcz26_0
                    try clear hcz26_1
                    try clear hcz26_2
                    try clear hcz26_3
                    try clear hcz32_0
                    try clear hcz32_1
                    try clear hcz32_2
                    try clear hcz32_3
                    try clear hcz34_0
                    try clear hcz34_1
                    try clear hcz34_2
                    try clear hcz34_3
                    try clear hcz36_0
                    try clear hcz36_1
                    try clear hcz36_2
                    try clear hcz36_3
                    try clear hcz38_0
                    try clear hcz38_1
                    try clear hcz38_2
                    try clear hcz38_3
                    try clear hcz43_0
                    try clear hcz43_1
                    try clear hcz43_2
                    try clear hcz43_3
                    try clear hcz45_0
                    try clear hcz45_1
                    try clear hcz45_2
                    try clear hcz45_3
                    try clear hcz47_0
                    try clear hcz47_1
                    try clear hcz47_2
                    try clear hcz47_3
                    try clear hcz53_0
                    try clear hcz53_1
                    try clear hcz53_2
                    try clear hcz53_3
                    try clear hcz55_0
                    try clear hcz55_1
                    try clear hcz55_2
                    try clear hcz55_3
                    try clear hcz57_0
                    try clear hcz57_1
                    try clear hcz57_2
                    try clear hcz57_3
                    try clear hcz60_0
                    try clear hcz60_1
                    try clear hcz60_2
                    try clear hcz60_3
                    try clear hcz68_0
                    try clear hcz68_1
                    try clear hcz68_2
                    try clear hcz68_3
                    try clear hcz69_0
                    try clear hcz69_1
                    try clear hcz69_2
                    try clear hcz69_3
                    try clear hcz70_0
                    try clear hcz70_1
                    try clear hcz70_2
                    try clear hcz70_3
                    try clear hcz71_0
                    try clear hcz71_1
                    try clear hcz71_2
                    try clear hcz71_3
                    try clear hcz8_0
                    try clear hcz8_1
                    try clear hcz8_2
                    try clear hcz8_3
                    try clear hfz10_0
                    try clear hfz10_1
                    try clear hfz10_2
                    try clear hfz10_3
                    try clear hfz12_0
                    try clear hfz12_1
                    try clear hfz12_2
                    try clear hfz12_3
                    try clear hfz14_0
                    try clear hfz14_1
                    try clear hfz14_2
                    try clear hfz14_3
                    try clear hfz20_0
                    try clear hfz20_1
                    try clear hfz20_2
                    try clear hfz20_3
                    try clear hfz22_0
                    try clear hfz22_1
                    try clear hfz22_2
                    try clear hfz22_3
                    try clear hfz24_0
                    try clear hfz24_1
                    try clear hfz24_2
                    try clear hfz24_3
                    try clear hfz26_0
                    try clear hfz26_1
                    try clear hfz26_2
                    try clear hfz26_3
                    try clear hfz32_0
                    try clear hfz32_1
                    try clear hfz32_2
                    try clear hfz32_3
                    try clear hfz34_0
                    try clear hfz34_1
                    try clear hfz34_2
                    try clear hfz34_3
                    try clear hfz36_0
                    try clear hfz36_1
                    try clear hfz36_2
                    try clear hfz36_3
                    try clear hfz38_0
                    try clear hfz38_1
                    try clear hfz38_2
                    try clear hfz38_3
                    try clear hfz43_0
                    try clear hfz43_1
                    try clear hfz43_2
                    try clear hfz43_3
                    try clear hfz45_0
                    try clear hfz45_1
                    try clear hfz45_2
                    try clear hfz45_3
                    try clear hfz47_0
                    try clear hfz47_1
                    try clear hfz47_2
                    try clear hfz47_3
                    try clear hfz53_0
                    try clear hfz53_1
                    try clear hfz53_2
                    try clear hfz53_3
                    try clear hfz55_0
                    try clear hfz55_1
                    try clear hfz55_2
                    try clear hfz55_3
                    try clear hfz57_0
                    try clear hfz57_1
                    try clear hfz57_2
                    try clear hfz57_3
                    try clear hfz60_0
                    try clear hfz60_1
                    try clear hfz60_2
                    try clear hfz60_3
                    try clear hfz68_0
                    try clear hfz68_1
                    try clear hfz68_2
                    try clear hfz68_3
                    try clear hfz69_0
                    try clear hfz69_1
                    try clear hfz69_2
                    try clear hfz69_3
                    try clear hfz70_0
                    try clear hfz70_1
                    try clear hfz70_2
                    try clear hfz70_3
                    try clear hfz71_0
                    try clear hfz71_1
                    try clear hfz71_2
                    try clear hfz71_3
                    try clear hfz8_0
                    try clear hfz8_1
                    try clear hfz8_2
                    try clear hfz8_3
                    try clear p2
                    obtain ⟨kq, x114_63, rfl, HA, HJ63, BK122, HB⟩ := hcut
                    cases kq with
                    | zero => exact absurd HA.out (by simp [spindleref08_right.j1])
                    | succ kj63 =>
                      have H := HA.out
                      clear HA
                      simp only [spindleref08_right.j1] at H
                      by_cases c72 : x114_63 = true
                      · subst c72
                        have H1 : (some false) = some r := by rw [if_pos rfl] at H; exact H
                        clear H
                        have H := H1
                        clear H1
                        obtain rfl := Option.some.inj H
                        go_wp2
                        go_ret
                        exact ⟨by first | rfl | (simp [errW_none, errW_some] <;> rfl) | (simp [*, errW_none, errW_some] <;> rfl), by repeat (first | (with_reducible first | exact HB.out | apply below_alloc | apply pw_below_drewN | apply below_drew1 | refine below_set ?_ GE122.out) | exact HB.out)⟩
                      · replace c72 := Bool.eq_false_iff.mpr c72
                        subst c72
                        have H1 : (spindleref08_right.l0 kj63 a1 0 a0_0 a0_1 a0_2 l0_3) = some r := by rw [if_neg (show ¬ (false = true) by decide)] at H; exact H
                        clear H
                        have H := H1
                        clear H1
                        have H' := Aside0.mk H
                        clear H
                        go_wp2
                        go_loopg [6] kj63 (fun kq v6 w' => ∃ (x6_3 : Int), v6 = .int .i64 x6_3 ∧ Aside0 (spindleref08_right.l0 kq a1 x6_3 a0_0 a0_1 a0_2 l0_3 = some r) ∧ Aside0 (kq ≤ kj63) ∧ Aside0 (w'.heap[gb122]? = some (.cells #[.int .i64 a0_0, .int .i64 a0_1, .string a0_2, (.slice A0_3 l0_3.length c0_3)] 84 (0, 0))) ∧ Aside0 (Below w.heap.size w w'))
                        case atStart => exact ⟨(0), (by first | rfl | (simp; done) | (simp [*]; done)), H', ⟨Nat.le_refl _⟩, ⟨by (with_reducible repeat (first | refine blk_drewN ?_ _ | refine blk_drew ?_ | refine blk_alloc ?_ _)); exact BK122.out⟩, ⟨by repeat (first | (with_reducible first | exact HB.out | apply below_alloc | apply pw_below_drewN | apply below_drew1 | refine below_set ?_ GE122.out) | exact HB.out)⟩⟩
                        case round =>
                          clear H'
                          try clear c1
                          try clear c2
                          try clear p2
                          try clear c3
                          try clear c3b0
                          try clear c3b1
                          try clear c4
                          try clear c4b0
                          try clear c4b1
                          try clear c4b2
                          try clear c5
                          try clear c5b0
                          try clear c5b1
                          try clear c6
                          try clear c6b0
                          try clear c7
                          try clear c15
                          try clear c15b0
                          try clear c15b1
                          try clear c16
                          try clear c16b0
                          try clear c16b1
                          try clear c16b2
                          try clear c17
                          try clear c17b0
                          try clear c17b1
                          try clear c18
                          try clear c18b0
                          try clear c18b1
                          try clear c27
                          try clear c27b0
                          try clear c27b1
                          try clear c28
                          try clear c28b0
                          try clear c28b1
                          try clear c28b2
                          try clear c29
                          try clear c29b0
                          try clear c29b1
                          try clear c30
                          try clear c30b0
                          try clear c39
                          try clear c39b0
                          try clear c39b1
                          try clear c40
                          try clear c40b0
                          try clear c40b1
                          try clear c40b2
                          try clear c41
                          try clear c41b0
                          try clear c41b1
                          try clear c48
                          try clear c48b0
                          try clear c48b1
                          try clear c49
                          try clear c49b0
                          try clear c49b1
                          try clear c49b2
                          try clear c50
                          try clear c50b0
                          try clear c50b1
                          try clear c61
                          try clear c61b0
                          try clear c61b1
                          try clear c62
                          try clear c62b0
                          try clear c62b1
                          try clear c63
                          try clear c65
                          try clear c65b0
                          try clear c65b1
                          try clear c66
                          try clear c66b0
                          try clear c66b1
                          try clear c67
                          try clear c67b0
                          try clear c72
                          try clear hcz10_0
                          try clear hcz10_1
                          try clear hcz10_2
                          try clear hcz10_3
                          try clear hcz12_0
                          try clear hcz12_1
                          try clear hcz12_2
                          try clear hcz12_3
                          try clear hcz14_0
                          try clear hcz14_1
                          try clear hcz14_2
                          try clear hcz14_3
                          try clear hcz20_0
                          try clear hcz20_1
                          try clear hcz20_2
                          try clear hcz20_3
                          try clear hcz22_0
                          try clear hcz22_1
                          try clear hcz22_2
                          try clear hcz22_3
                          try clear hcz24_0
                          try clear hcz24_1
                          try clear hcz24_2
                          try clear hcz24_3
                          try clear hcz26_0
                          try clear hcz26_1
                          try clear hcz26_2
                          try clear hcz26_3
                          try clear hcz32_0
                          try clear hcz32_1
                          try clear hcz32_2
                          try clear hcz32_3
                          try clear hcz34_0
                          try clear hcz34_1
                          try clear hcz34_2
                          try clear hcz34_3
                          try clear hcz36_0
                          try clear hcz36_1
                          try clear hcz36_2
                          try clear hcz36_3
                          try clear hcz38_0
                          try clear hcz38_1
                          try clear hcz38_2
                          try clear hcz38_3
                          try clear hcz43_0
                          try clear hcz43_1
                          try clear hcz43_2
                          try clear hcz43_3
                          try clear hcz45_0
                          try clear hcz45_1
                          try clear hcz45_2
                          try clear hcz45_3
                          try clear hcz47_0
                          try clear hcz47_1
                          try clear hcz47_2
                          try clear hcz47_3
                          try clear hcz53_0
                          try clear hcz53_1
                          try clear hcz53_2
                          try clear hcz53_3
                          try clear hcz55_0
                          try clear hcz55_1
                          try clear hcz55_2
                          try clear hcz55_3
                          try clear hcz57_0
                          try clear hcz57_1
                          try clear hcz57_2
                          try clear hcz57_3
                          try clear hcz60_0
                          try clear hcz60_1
                          try clear hcz60_2
                          try clear hcz60_3
                          try clear hcz68_0
                          try clear hcz68_1
                          try clear hcz68_2
                          try clear hcz68_3
                          try clear hcz69_0
                          try clear hcz69_1
                          try clear hcz69_2
                          try clear hcz69_3
                          try clear hcz70_0
                          try clear hcz70_1
                          try clear hcz70_2
                          try clear hcz70_3
                          try clear hcz71_0
                          try clear hcz71_1
                          try clear hcz71_2
                          try clear hcz71_3
                          try clear hcz8_0
                          try clear hcz8_1
                          try clear hcz8_2
                          try clear hcz8_3
                          try clear hfz10_0
                          try clear hfz10_1
                          try clear hfz10_2
                          try clear hfz10_3
                          try clear hfz12_0
                          try clear hfz12_1
                          try clear hfz12_2
                          try clear hfz12_3
                          try clear hfz14_0
                          try clear hfz14_1
                          try clear hfz14_2
                          try clear hfz14_3
                          try clear hfz20_0
                          try clear hfz20_1
                          try clear hfz20_2
                          try clear hfz20_3
                          try clear hfz22_0
                          try clear hfz22_1
                          try clear hfz22_2
                          try clear hfz22_3
                          try clear hfz24_0
                          try clear hfz24_1
                          try clear hfz24_2
                          try clear hfz24_3
                          try clear hfz26_0
                          try clear hfz26_1
                          try clear hfz26_2
                          try clear hfz26_3
                          try clear hfz32_0
                          try clear hfz32_1
                          try clear hfz32_2
                          try clear hfz32_3
                          try clear hfz34_0
                          try clear hfz34_1
                          try clear hfz34_2
                          try clear hfz34_3
                          try clear hfz36_0
                          try clear hfz36_1
                          try clear hfz36_2
                          try clear hfz36_3
                          try clear hfz38_0
                          try clear hfz38_1
                          try clear hfz38_2
                          try clear hfz38_3
                          try clear hfz43_0
                          try clear hfz43_1
                          try clear hfz43_2
                          try clear hfz43_3
                          try clear hfz45_0
                          try clear hfz45_1
                          try clear hfz45_2
                          try clear hfz45_3
                          try clear hfz47_0
                          try clear hfz47_1
                          try clear hfz47_2
                          try clear hfz47_3
                          try clear hfz53_0
                          try clear hfz53_1
                          try clear hfz53_2
                          try clear hfz53_3
                          try clear hfz55_0
                          try clear hfz55_1
                          try clear hfz55_2
                          try clear hfz55_3
                          try clear hfz57_0
                          try clear hfz57_1
                          try clear hfz57_2
                          try clear hfz57_3
                          try clear hfz60_0
                          try clear hfz60_1
                          try clear hfz60_2
                          try clear hfz60_3
                          try clear hfz68_0
                          try clear hfz68_1
                          try clear hfz68_2
                          try clear hfz68_3
                          try clear hfz69_0
                          try clear hfz69_1
                          try clear hfz69_2
                          try clear hfz69_3
                          try clear hfz70_0
                          try clear hfz70_1
                          try clear hfz70_2
                          try clear hfz70_3
                          try clear hfz71_0
                          try clear hfz71_1
                          try clear hfz71_2
                          try clear hfz71_3
                          try clear hfz8_0
                          try clear hfz8_1
                          try clear hfz8_2
                          try clear hfz8_3
                          try clear p2
                          obtain ⟨x6_3, rfl, HA, HK3, BK122, HB⟩ := hrel
                          cases gk with
                          | zero => exact absurd HA.out (by simp [spindleref08_right.l0])
                          | succ k3 =>
                            have H := HA.out
                            clear HA
                            simp only [spindleref08_right.l0] at H
                            by_cases c73 : x6_3 < (l0_3.length : Int)
                            · rw [if_pos c73] at H
                              have c73b0 : decide (x6_3 < (l0_3.length : Int)) = true := decide_eq_true c73
                              clear c73
                              by_cases c74 : 0 ≤ x6_3
                              · rw [if_pos c74] at H
                                have c74b0 : decide (0 ≤ x6_3) = true := decide_eq_true c74
                                clear c74
                                replace H := Option.bind_eq_some_iff.mp H
                                obtain ⟨t125, A750, H⟩ := H
                                replace H : (if t125 = true then (spindleref08_right.l0 k3 a1 (wrap64 (x6_3 + 1)) a0_0 a0_1 a0_2 l0_3) else (some false)) = some r := H
                                have A75 := Aside0.mk A750
                                clear A750
                                by_cases c76 : t125 = true
                                · subst c76
                                  have H1 : (spindleref08_right.l0 k3 a1 (wrap64 (x6_3 + 1)) a0_0 a0_1 a0_2 l0_3) = some r := by rw [if_pos rfl] at H; exact H
                                  clear H
                                  have H := H1
                                  clear H1
                                  have H' := Aside0.mk H
                                  clear H
                                  have hcz77_0 : wr.cell? ⟨gb122, 0, none⟩ = some (.int .i64 a0_0) := (blk_cell BK122.out 0).trans rfl
                                  have hcz77_1 : wr.cell? ⟨gb122, 1, none⟩ = some (.int .i64 a0_1) := (blk_cell BK122.out 1).trans rfl
                                  have hcz77_2 : wr.cell? ⟨gb122, 2, none⟩ = some (.string a0_2) := (blk_cell BK122.out 2).trans rfl
                                  have hcz77_3 : wr.cell? ⟨gb122, 3, none⟩ = some (.slice A0_3 l0_3.length c0_3) := (blk_cell BK122.out 3).trans rfl
                                  have hfz77_0 := blk_frozen BK122.out 0
                                  have hfz77_1 := blk_frozen BK122.out 1
                                  have hfz77_2 := blk_frozen BK122.out 2
                                  have hfz77_3 := blk_frozen BK122.out 3
                                  have p124 : 0 ≤ (x6_3 : Int) := of_decide_eq_true (by first | (with_reducible assumption) | assumption)
                                  have q124 : x6_3 < (l0_3.length : Int) := of_decide_eq_true (by first | (with_reducible assumption) | assumption)
                                  obtain ⟨ad124, A124_3, c124_3, e124, hx124_0, hx124_1, hx124_2, hx124_3, hl124_3, hi124_3⟩ := at_T84 HR0_3.out x6_3 p124 q124
                                  cases e124
                                  replace hx124_0 := (HB.out.cell (World.block_lt_of_cell? w _ hx124_0)).trans hx124_0
                                  replace hx124_1 := (HB.out.cell (World.block_lt_of_cell? w _ hx124_1)).trans hx124_1
                                  replace hx124_2 := (HB.out.cell (World.block_lt_of_cell? w _ hx124_2)).trans hx124_2
                                  replace hx124_3 := (HB.out.cell (World.block_lt_of_cell? w _ hx124_3)).trans hx124_3
                                  have HR124_3 := Aside0.mk hi124_3
                                  have HC124_3 := Aside0.mk hl124_3
                                  clear hi124_3 hl124_3
                                  replace p124 := eq_true p124
                                  replace q124 := eq_true q124
                                  go_wp2_with (first | ((with_reducible refine gate_callee (f := 72) rfl ?_); refine goesL_ (some 129) rfl rfl Tryd.func72 (by kernel_rfl) rfl #[.agg #[.int .i64 ((rd_T84 l0_3 x6_3).f0), .int .i64 ((rd_T84 l0_3 x6_3).f1), .string ((rd_T84 l0_3 x6_3).f2), .slice A124_3 ((rd_T84 l0_3 x6_3).f3).length c124_3], .int .i64 (wrap64 (a1 - 1))] rfl (by (try simp only [List.map_toArray, List.map_cons, List.map_nil]); first | done | rfl | (simp only [List.length_drop, List.length_take]; rfl)) ?_; (with_reducible refine (ih k3 (by have := HJ57.out; have := HJ63.out; have := HK3.out; omega) ((rd_T84 l0_3 x6_3).f0) ((rd_T84 l0_3 x6_3).f1) ((rd_T84 l0_3 x6_3).f2) _ _ ((rd_T84 l0_3 x6_3).f3) (wrap64 (a1 - 1)) true _ ?side1 ?side2 A75.out).mono ?_); (case side1 => repeat (first | exact (Kd.C_below HR124_3.out HB.out) | (with_reducible refine Kd.C_alloc ?_ _) | (with_reducible refine Kd.C_drewN ?_ _) | (with_reducible refine Kd.C_drew ?_))); (case side2 => exact HC124_3.out); rintro e w78 ⟨rfl, hb⟩; refine ⟨_, rfl, ?_⟩; have n0_ := Aside0.mk (blk_below (g := gb122) (o := .cells #[.int .i64 a0_0, .int .i64 a0_1, .string a0_2, .slice (some ad124) l0_3.length c0_3] 84 (0, 0)) (by (with_reducible repeat (first | refine blk_drewN ?_ _ | refine blk_drew ?_ | refine blk_alloc ?_ _)); exact BK122.out) hb); have n1_ := Aside0.mk (below_step (by repeat (first | (with_reducible first | exact HB.out | apply below_alloc | apply pw_below_drewN | apply below_drew1 | refine below_set ?_ GE122.out) | exact HB.out)) hb); clear BK122; clear HB; have BK122 := n0_; have HB := n1_; clear n0_ n1_; (try clear hb); (try clear hb2); (try clear hk); (try clear hi)))
                                  go_roundg k3
                                  case measure => have := HJ57.out; have := HJ63.out; have := HK3.out; omega
                                  case rel => exact ⟨(wrap64 (x6_3 + 1)), (by first | rfl | (simp; done) | (simp [*]; done)), H', ⟨by have := HJ57.out; have := HJ63.out; have := HK3.out; omega⟩, ⟨by (with_reducible repeat (first | refine blk_drewN ?_ _ | refine blk_drew ?_ | refine blk_alloc ?_ _)); exact BK122.out⟩, ⟨by repeat (first | (with_reducible first | exact HB.out | apply below_alloc | apply pw_below_drewN | apply below_drew1 | refine below_set ?_ GE122.out) | exact HB.out)⟩⟩
                                · replace c76 := Bool.eq_false_iff.mpr c76
                                  subst c76
                                  have H1 : (some false) = some r := by rw [if_neg (show ¬ (false = true) by decide)] at H; exact H
                                  clear H
                                  have H := H1
                                  clear H1
                                  obtain rfl := Option.some.inj H
                                  have hcz79_0 : wr.cell? ⟨gb122, 0, none⟩ = some (.int .i64 a0_0) := (blk_cell BK122.out 0).trans rfl
                                  have hcz79_1 : wr.cell? ⟨gb122, 1, none⟩ = some (.int .i64 a0_1) := (blk_cell BK122.out 1).trans rfl
                                  have hcz79_2 : wr.cell? ⟨gb122, 2, none⟩ = some (.string a0_2) := (blk_cell BK122.out 2).trans rfl
                                  have hcz79_3 : wr.cell? ⟨gb122, 3, none⟩ = some (.slice A0_3 l0_3.length c0_3) := (blk_cell BK122.out 3).trans rfl
                                  have hfz79_0 := blk_frozen BK122.out 0
                                  have hfz79_1 := blk_frozen BK122.out 1
                                  have hfz79_2 := blk_frozen BK122.out 2
                                  have hfz79_3 := blk_frozen BK122.out 3
                                  have p124 : 0 ≤ (x6_3 : Int) := of_decide_eq_true (by first | (with_reducible assumption) | assumption)
                                  have q124 : x6_3 < (l0_3.length : Int) := of_decide_eq_true (by first | (with_reducible assumption) | assumption)
                                  obtain ⟨ad124, A124_3, c124_3, e124, hx124_0, hx124_1, hx124_2, hx124_3, hl124_3, hi124_3⟩ := at_T84 HR0_3.out x6_3 p124 q124
                                  cases e124
                                  replace hx124_0 := (HB.out.cell (World.block_lt_of_cell? w _ hx124_0)).trans hx124_0
                                  replace hx124_1 := (HB.out.cell (World.block_lt_of_cell? w _ hx124_1)).trans hx124_1
                                  replace hx124_2 := (HB.out.cell (World.block_lt_of_cell? w _ hx124_2)).trans hx124_2
                                  replace hx124_3 := (HB.out.cell (World.block_lt_of_cell? w _ hx124_3)).trans hx124_3
                                  have HR124_3 := Aside0.mk hi124_3
                                  have HC124_3 := Aside0.mk hl124_3
                                  clear hi124_3 hl124_3
                                  replace p124 := eq_true p124
                                  replace q124 := eq_true q124
                                  go_wp2_with (first | ((with_reducible refine gate_callee (f := 72) rfl ?_); refine goesL_ (some 129) rfl rfl Tryd.func72 (by kernel_rfl) rfl #[.agg #[.int .i64 ((rd_T84 l0_3 x6_3).f0), .int .i64 ((rd_T84 l0_3 x6_3).f1), .string ((rd_T84 l0_3 x6_3).f2), .slice A124_3 ((rd_T84 l0_3 x6_3).f3).length c124_3], .int .i64 (wrap64 (a1 - 1))] rfl (by (try simp only [List.map_toArray, List.map_cons, List.map_nil]); first | done | rfl | (simp only [List.length_drop, List.length_take]; rfl)) ?_; (with_reducible refine (ih k3 (by have := HJ57.out; have := HJ63.out; have := HK3.out; omega) ((rd_T84 l0_3 x6_3).f0) ((rd_T84 l0_3 x6_3).f1) ((rd_T84 l0_3 x6_3).f2) _ _ ((rd_T84 l0_3 x6_3).f3) (wrap64 (a1 - 1)) false _ ?side1 ?side2 A75.out).mono ?_); (case side1 => repeat (first | exact (Kd.C_below HR124_3.out HB.out) | (with_reducible refine Kd.C_alloc ?_ _) | (with_reducible refine Kd.C_drewN ?_ _) | (with_reducible refine Kd.C_drew ?_))); (case side2 => exact HC124_3.out); rintro e w80 ⟨rfl, hb⟩; refine ⟨_, rfl, ?_⟩; have n0_ := Aside0.mk (blk_below (g := gb122) (o := .cells #[.int .i64 a0_0, .int .i64 a0_1, .string a0_2, .slice (some ad124) l0_3.length c0_3] 84 (0, 0)) (by (with_reducible repeat (first | refine blk_drewN ?_ _ | refine blk_drew ?_ | refine blk_alloc ?_ _)); exact BK122.out) hb); have n1_ := Aside0.mk (below_step (by repeat (first | (with_reducible first | exact HB.out | apply below_alloc | apply pw_below_drewN | apply below_drew1 | refine below_set ?_ GE122.out) | exact HB.out)) hb); clear BK122; clear HB; have BK122 := n0_; have HB := n1_; clear n0_ n1_; (try clear hb); (try clear hb2); (try clear hk); (try clear hi)))
                                  go_ret
                                  exact ⟨by first | rfl | (simp [errW_none, errW_some] <;> rfl) | (simp [*, errW_none, errW_some] <;> rfl), by repeat (first | (with_reducible first | exact HB.out | apply below_alloc | apply pw_below_drewN | apply below_drew1 | refine below_set ?_ GE122.out) | exact HB.out)⟩
                              · rw [if_neg c74] at H
                                exact absurd H (by simp)
                            · rw [if_neg c73] at H
                              have c73b0 : decide (x6_3 < (l0_3.length : Int)) = false := decide_eq_false c73
                              clear c73
                              by_cases c81 : a0_0 = 7
                              · rw [if_pos c81] at H
                                have c81b0 : (a0_0 == 7) = true := beq_iff_eq.mpr c81
                                have c81b1 : (a0_0 != 7) = false := bne_eq_false_iff_eq.mpr c81
                                clear c81
                                by_cases c82 : (l0_3.length : Int) ≥ 2
                                · rw [if_pos c82] at H
                                  have c82b0 : decide (2 ≤ (l0_3.length : Int)) = true := decide_eq_true c82
                                  have c82b1 : decide (2 ≤ l0_3.length) = true := decide_eq_true (by omega)
                                  clear c82
                                  obtain ⟨ji83, hji83⟩ : ∃ j_ : Int, (wrap64 ((l0_3.length : Int) - 1)) = j_ := ⟨_, rfl⟩
                                  replace H : (if 0 ≤ (ji83) then (if (ji83) < (l0_3.length : Int) then (if ((rd_T84 l0_3 (ji83)).f0) = 6 then (some false) else (some (((rd_T84 l0_3 (ji83)).f0) != 7))) else (none)) else (none)) = some r := by first | (rw [hji83] at H; exact H) | (simp only [hji83] at H ⊢; exact H)
                                  have hji83w : (IntKind.i64.wrap ((l0_3.length : Int) - 1)) = ji83 := (i64_w _).trans hji83
                                  by_cases c84 : 0 ≤ (ji83)
                                  · rw [if_pos c84] at H
                                    have c84b0 : decide (0 ≤ (ji83)) = true := decide_eq_true c84
                                    clear c84
                                    by_cases c85 : (ji83) < (l0_3.length : Int)
                                    · rw [if_pos c85] at H
                                      have c85b0 : decide ((ji83) < (l0_3.length : Int)) = true := decide_eq_true c85
                                      clear c85
                                      by_cases c86 : ((rd_T84 l0_3 (ji83)).f0) = 6
                                      · rw [if_pos c86] at H
                                        have c86b0 : (((rd_T84 l0_3 (ji83)).f0) == 6) = true := beq_iff_eq.mpr c86
                                        have c86b1 : (((rd_T84 l0_3 (ji83)).f0) != 6) = false := bne_eq_false_iff_eq.mpr c86
                                        clear c86
                                        obtain rfl := Option.some.inj H
                                        have hcz87_0 : wr.cell? ⟨gb122, 0, none⟩ = some (.int .i64 a0_0) := (blk_cell BK122.out 0).trans rfl
                                        have hcz87_1 : wr.cell? ⟨gb122, 1, none⟩ = some (.int .i64 a0_1) := (blk_cell BK122.out 1).trans rfl
                                        have hcz87_2 : wr.cell? ⟨gb122, 2, none⟩ = some (.string a0_2) := (blk_cell BK122.out 2).trans rfl
                                        have hcz87_3 : wr.cell? ⟨gb122, 3, none⟩ = some (.slice A0_3 l0_3.length c0_3) := (blk_cell BK122.out 3).trans rfl
                                        have hfz87_0 := blk_frozen BK122.out 0
                                        have hfz87_1 := blk_frozen BK122.out 1
                                        have hfz87_2 := blk_frozen BK122.out 2
                                        have hfz87_3 := blk_frozen BK122.out 3
                                        have p126 : 0 ≤ ((ji83) : Int) := of_decide_eq_true (by first | (with_reducible assumption) | assumption)
                                        have q126 : (ji83) < (l0_3.length : Int) := of_decide_eq_true (by first | (with_reducible assumption) | assumption)
                                        obtain ⟨ad126, A126_3, c126_3, e126, hx126_0, hx126_1, hx126_2, hx126_3, hl126_3, hi126_3⟩ := at_T84 HR0_3.out (ji83) p126 q126
                                        cases e126
                                        replace hx126_0 := (HB.out.cell (World.block_lt_of_cell? w _ hx126_0)).trans hx126_0
                                        replace hx126_1 := (HB.out.cell (World.block_lt_of_cell? w _ hx126_1)).trans hx126_1
                                        replace hx126_2 := (HB.out.cell (World.block_lt_of_cell? w _ hx126_2)).trans hx126_2
                                        replace hx126_3 := (HB.out.cell (World.block_lt_of_cell? w _ hx126_3)).trans hx126_3
                                        have HR126_3 := Aside0.mk hi126_3
                                        have HC126_3 := Aside0.mk hl126_3
                                        clear hi126_3 hl126_3
                                        replace p126 := eq_true p126
                                        replace q126 := eq_true q126
                                        go_wp2
                                        go_ret
                                        exact ⟨by first | rfl | (simp [errW_none, errW_some] <;> rfl) | (simp only [← hji83]; first | rfl | (simp [errW_none, errW_some] <;> rfl)) | (simp [*, errW_none, errW_some] <;> rfl), by repeat (first | (with_reducible first | exact HB.out | apply below_alloc | apply pw_below_drewN | apply below_drew1 | refine below_set ?_ GE122.out) | exact HB.out)⟩
                                      · rw [if_neg c86] at H
                                        have c86b0 : (((rd_T84 l0_3 (ji83)).f0) == 6) = false := beq_eq_false_iff_ne.mpr c86
                                        have c86b1 : (((rd_T84 l0_3 (ji83)).f0) != 6) = true := bne_iff_ne.mpr c86
                                        obtain rfl := Option.some.inj H
                                        have hcz88_0 : wr.cell? ⟨gb122, 0, none⟩ = some (.int .i64 a0_0) := (blk_cell BK122.out 0).trans rfl
                                        have hcz88_1 : wr.cell? ⟨gb122, 1, none⟩ = some (.int .i64 a0_1) := (blk_cell BK122.out 1).trans rfl
                                        have hcz88_2 : wr.cell? ⟨gb122, 2, none⟩ = some (.string a0_2) := (blk_cell BK122.out 2).trans rfl
                                        have hcz88_3 : wr.cell? ⟨gb122, 3, none⟩ = some (.slice A0_3 l0_3.length c0_3) := (blk_cell BK122.out 3).trans rfl
                                        have hfz88_0 := blk_frozen BK122.out 0
                                        have hfz88_1 := blk_frozen BK122.out 1
                                        have hfz88_2 := blk_frozen BK122.out 2
                                        have hfz88_3 := blk_frozen BK122.out 3
                                        have p126 : 0 ≤ ((ji83) : Int) := of_decide_eq_true (by first | (with_reducible assumption) | assumption)
                                        have q126 : (ji83) < (l0_3.length : Int) := of_decide_eq_true (by first | (with_reducible assumption) | assumption)
                                        obtain ⟨ad126, A126_3, c126_3, e126, hx126_0, hx126_1, hx126_2, hx126_3, hl126_3, hi126_3⟩ := at_T84 HR0_3.out (ji83) p126 q126
                                        cases e126
                                        replace hx126_0 := (HB.out.cell (World.block_lt_of_cell? w _ hx126_0)).trans hx126_0
                                        replace hx126_1 := (HB.out.cell (World.block_lt_of_cell? w _ hx126_1)).trans hx126_1
                                        replace hx126_2 := (HB.out.cell (World.block_lt_of_cell? w _ hx126_2)).trans hx126_2
                                        replace hx126_3 := (HB.out.cell (World.block_lt_of_cell? w _ hx126_3)).trans hx126_3
                                        have HR126_3 := Aside0.mk hi126_3
                                        have HC126_3 := Aside0.mk hl126_3
                                        clear hi126_3 hl126_3
                                        replace p126 := eq_true p126
                                        replace q126 := eq_true q126
                                        have p127 : 0 ≤ ((ji83) : Int) := of_decide_eq_true (by first | (with_reducible assumption) | assumption)
                                        have q127 : (ji83) < (l0_3.length : Int) := of_decide_eq_true (by first | (with_reducible assumption) | assumption)
                                        obtain ⟨ad127, A127_3, c127_3, e127, hx127_0, hx127_1, hx127_2, hx127_3, hl127_3, hi127_3⟩ := at_T84 HR0_3.out (ji83) p127 q127
                                        obtain rfl : ad126 = ad127 := (by injection e127)
                                        replace hx127_0 := (HB.out.cell (World.block_lt_of_cell? w _ hx127_0)).trans hx127_0
                                        replace hx127_1 := (HB.out.cell (World.block_lt_of_cell? w _ hx127_1)).trans hx127_1
                                        replace hx127_2 := (HB.out.cell (World.block_lt_of_cell? w _ hx127_2)).trans hx127_2
                                        replace hx127_3 := (HB.out.cell (World.block_lt_of_cell? w _ hx127_3)).trans hx127_3
                                        have HR127_3 := Aside0.mk hi127_3
                                        have HC127_3 := Aside0.mk hl127_3
                                        clear hi127_3 hl127_3
                                        replace p127 := eq_true p127
                                        replace q127 := eq_true q127
                                        have ea_ := Option.some.inj (hx126_3.symm.trans hx127_3)
                                        injection ea_ with ea_ en_ ec_
                                        subst ea_
                                        subst ec_
                                        clear en_
                                        go_wp2
                                        go_ret
                                        exact ⟨by first | rfl | (simp [errW_none, errW_some] <;> rfl) | (simp only [← hji83]; first | rfl | (simp [errW_none, errW_some] <;> rfl)) | (simp [*, errW_none, errW_some] <;> rfl), by repeat (first | (with_reducible first | exact HB.out | apply below_alloc | apply pw_below_drewN | apply below_drew1 | refine below_set ?_ GE122.out) | exact HB.out)⟩
                                    · rw [if_neg c85] at H
                                      exact absurd H (by simp)
                                  · rw [if_neg c84] at H
                                    exact absurd H (by simp)
                                · rw [if_neg c82] at H
                                  have c82b0 : decide (2 ≤ (l0_3.length : Int)) = false := decide_eq_false c82
                                  have c82b1 : decide (2 ≤ l0_3.length) = false := decide_eq_false (by omega)
                                  clear c82
                                  obtain rfl := Option.some.inj H
                                  have hcz89_0 : wr.cell? ⟨gb122, 0, none⟩ = some (.int .i64 a0_0) := (blk_cell BK122.out 0).trans rfl
                                  have hcz89_1 : wr.cell? ⟨gb122, 1, none⟩ = some (.int .i64 a0_1) := (blk_cell BK122.out 1).trans rfl
                                  have hcz89_2 : wr.cell? ⟨gb122, 2, none⟩ = some (.string a0_2) := (blk_cell BK122.out 2).trans rfl
                                  have hcz89_3 : wr.cell? ⟨gb122, 3, none⟩ = some (.slice A0_3 l0_3.length c0_3) := (blk_cell BK122.out 3).trans rfl
                                  have hfz89_0 := blk_frozen BK122.out 0
                                  have hfz89_1 := blk_frozen BK122.out 1
                                  have hfz89_2 := blk_frozen BK122.out 2
                                  have hfz89_3 := blk_frozen BK122.out 3
                                  go_wp2
                                  go_ret
                                  exact ⟨by first | rfl | (simp [errW_none, errW_some] <;> rfl) | (simp [*, errW_none, errW_some] <;> rfl), by repeat (first | (with_reducible first | exact HB.out | apply below_alloc | apply pw_below_drewN | apply below_drew1 | refine below_set ?_ GE122.out) | exact HB.out)⟩
                              · rw [if_neg c81] at H
                                have c81b0 : (a0_0 == 7) = false := beq_eq_false_iff_ne.mpr c81
                                have c81b1 : (a0_0 != 7) = true := bne_iff_ne.mpr c81
                                obtain rfl := Option.some.inj H
                                have hcz90_0 : wr.cell? ⟨gb122, 0, none⟩ = some (.int .i64 a0_0) := (blk_cell BK122.out 0).trans rfl
                                have hcz90_1 : wr.cell? ⟨gb122, 1, none⟩ = some (.int .i64 a0_1) := (blk_cell BK122.out 1).trans rfl
                                have hcz90_2 : wr.cell? ⟨gb122, 2, none⟩ = some (.string a0_2) := (blk_cell BK122.out 2).trans rfl
                                have hcz90_3 : wr.cell? ⟨gb122, 3, none⟩ = some (.slice A0_3 l0_3.length c0_3) := (blk_cell BK122.out 3).trans rfl
                                have hfz90_0 := blk_frozen BK122.out 0
                                have hfz90_1 := blk_frozen BK122.out 1
                                have hfz90_2 := blk_frozen BK122.out 2
                                have hfz90_3 := blk_frozen BK122.out 3
                                go_wp2
                                go_ret
                                exact ⟨by first | rfl | (simp [errW_none, errW_some] <;> rfl) | (simp [*, errW_none, errW_some] <;> rfl), by repeat (first | (with_reducible first | exact HB.out | apply below_alloc | apply pw_below_drewN | apply below_drew1 | refine below_set ?_ GE122.out) | exact HB.out)⟩
                · replace c63 := Bool.eq_false_iff.mpr c63
                  subst c63
                  have H1 : (some false) = some r := by rw [if_neg (show ¬ (false = true) by decide)] at H; exact H
                  clear H
                  have H := H1
                  clear H1
                  obtain rfl := Option.some.inj H
                  go_wp2
                  go_ret
                  exact ⟨by first | rfl | (simp [errW_none, errW_some] <;> rfl) | (simp [*, errW_none, errW_some] <;> rfl), by repeat (first | (with_reducible first | exact HB.out | apply below_alloc | apply pw_below_drewN | apply below_drew1 | refine below_set ?_ GE122.out) | exact HB.out)⟩

end Go.Proofs.YthighbbikpnpgaaDoor.PSh

/-! PShx8 -/
-- PRINTED by print.py (a twelfth state) out of the translation. Not trusted: Lean checks it.
namespace Go.Proofs.YthighbbikpnpgaaDoor.PSh
open Go.RowKit Go.Proofs.YthighbbikpnpgaaDoorW.PrintWords Go.Proofs.YthighbbikpnpgaaDoorW.PrintLast Go.Proofs.YthighbbikpnpgaaDoorW.PrintMore
attribute [local go_sem] max2_int min2_int max_two min_two max_three min_three max_four min_four   -- for this text's walks alone
set_option linter.unusedVariables false
set_option linter.unusedSimpArgs false

/-! ### spindleref08_Right: function 46 -/
def spindleref08_Right.f (k : Nat) (a0_0 : Int) (a0_1 : Int) (a0_2 : ByteArray) (l0_3 : List (S84)) : Option (Bool) := (spindleref08_Depth.f k a0_0 a0_1 a0_2 l0_3 70).bind fun t129 => (if t129 ≤ 64 then ((spindleref08_Parts.f k a0_0 a0_1 a0_2 l0_3).bind fun t130 => (if t130 ≤ 4000 then ((spindleref08_right.f k a0_0 a0_1 a0_2 l0_3 64).bind fun t131 => (some t131)) else (some false))) else (some false))
theorem spindleref08_Right.mono : ∀ a0 a1 a2 a3 k, LeO (spindleref08_Right.f k a0 a1 a2 a3) (spindleref08_Right.f (k + 1) a0 a1 a2 a3) := by
  intro a0 a1 a2 a3 k
  unfold spindleref08_Right.f
  repeat' first
      | (with_reducible exact spindleref08_Depth.mono _ _ _ _ _ _)
      | (with_reducible exact spindleref08_Parts.mono _ _ _ _ _)
      | (with_reducible exact spindleref08_right.mono _ _ _ _ _ _)
      | (with_reducible exact LeO.refl _)
      | (with_reducible exact LeO.none _)
      | (with_reducible refine LeO.ite ?_ ?_)
      | (with_reducible refine LeO.bind ?_ (fun _ => ?_))
      | exact spindleref08_Depth.mono _ _ _ _ _ _
      | exact spindleref08_Parts.mono _ _ _ _ _
      | exact spindleref08_right.mono _ _ _ _ _ _
      | exact LeO.none _
      | refine LeO.ite ?_ ?_
      | refine LeO.bind ?_ (fun _ => ?_)
set_option maxHeartbeats 8000000 in
set_option maxRecDepth 100000 in
theorem spindleref08_Right.calls (k : Nat) (a0_0 : Int) (a0_1 : Int) (a0_2 : ByteArray) (A0_3 : Option Addr) (c0_3 : Nat) (l0_3 : List (S84)) (r : Bool) (w : World) (hr0_3 : Kd.C k84 w A0_3 l0_3.length l0_3) (hc0_3 : l0_3.length ≤ c0_3) (h : spindleref08_Right.f k a0_0 a0_1 a0_2 l0_3 = some r) :
    Calls Tryd.prog 46 #[.agg #[.int .i64 a0_0, .int .i64 a0_1, .string a0_2, .slice A0_3 l0_3.length c0_3]] w fun e w' => e = .returned (.bool r) ∧ Below w.heap.size w w' := by
  have hu84 := Tryd.underlying84
  have HR0_3 := Aside0.mk hr0_3
  have HC0_3 := Aside0.mk hc0_3
  clear hr0_3 hc0_3
  have HB := Aside0.mk (Below.refl w.heap.size w)
  have H : ((spindleref08_Depth.f k a0_0 a0_1 a0_2 l0_3 70).bind fun t129 => (if t129 ≤ 64 then ((spindleref08_Parts.f k a0_0 a0_1 a0_2 l0_3).bind fun t130 => (if t130 ≤ 4000 then ((spindleref08_right.f k a0_0 a0_1 a0_2 l0_3 64).bind fun t131 => (some t131)) else (some false))) else (some false))) = some r := h
  clear h
  replace H := Option.bind_eq_some_iff.mp H
  obtain ⟨t129, A20, H⟩ := H
  replace H : (if t129 ≤ 64 then ((spindleref08_Parts.f k a0_0 a0_1 a0_2 l0_3).bind fun t130 => (if t130 ≤ 4000 then ((spindleref08_right.f k a0_0 a0_1 a0_2 l0_3 64).bind fun t131 => (some t131)) else (some false))) else (some false)) = some r := H
  have A2 := Aside0.mk A20
  clear A20
  by_cases c3 : t129 ≤ 64
  · rw [if_pos c3] at H
    have c3b0 : decide (t129 ≤ 64) = true := decide_eq_true c3
    clear c3
    replace H := Option.bind_eq_some_iff.mp H
    obtain ⟨t130, A40, H⟩ := H
    replace H : (if t130 ≤ 4000 then ((spindleref08_right.f k a0_0 a0_1 a0_2 l0_3 64).bind fun t131 => (some t131)) else (some false)) = some r := H
    have A4 := Aside0.mk A40
    clear A40
    by_cases c5 : t130 ≤ 4000
    · rw [if_pos c5] at H
      have c5b0 : decide (t130 ≤ 4000) = true := decide_eq_true c5
      clear c5
      replace H := Option.bind_eq_some_iff.mp H
      obtain ⟨t131, A60, H⟩ := H
      replace H : (some t131) = some r := H
      have A6 := Aside0.mk A60
      clear A60
      obtain rfl := Option.some.inj H
      go_enter Tryd.func46, Tryd.ntmps46
      go_wp2_with (first | ((with_reducible refine gate_dst (N := 1) rfl ?_); refine box_event ?hg (N := 1) ?hd (cs := #[.int .i64 a0_0, .int .i64 a0_1, .string a0_2, .slice A0_3 l0_3.length c0_3]) (t := 84) ?hr ?_; (case hd => rfl); (case hg => rfl); (case hr => first | (go_simp; done) | (go_simp; rfl)); intro gb128 hg w7 hbox hb; have n0_ := Aside0.mk (below_step (by repeat (first | (with_reducible first | exact HB.out | apply below_alloc | apply pw_below_drewN | apply below_drew1) | exact HB.out)) hb); have n1_ := Aside0.mk (hbox); have n2_ := Aside0.mk ((by rw [hg]; exact (below_size (by repeat (first | (with_reducible first | exact HB.out | apply below_alloc | apply pw_below_drewN | apply below_drew1) | exact HB.out))) : w.heap.size ≤ gb128)); have n3_ := Aside0.mk ((by rw [hg]; exact (below_size (by repeat (first | (with_reducible first | exact HB.out | apply below_alloc | apply pw_below_drewN | apply below_drew1) | exact HB.out))) : w.heap.size ≤ gb128)); clear HB; have HB := n0_; have BK128 := n1_; have GW128 := n2_; have GE128 := n3_; clear n0_ n1_ n2_ n3_; clear hb hbox hg; have hcz8_0 : w7.cell? ⟨gb128, 0, none⟩ = some (.int .i64 a0_0) := (blk_cell BK128.out 0).trans rfl; have hcz8_1 : w7.cell? ⟨gb128, 1, none⟩ = some (.int .i64 a0_1) := (blk_cell BK128.out 1).trans rfl; have hcz8_2 : w7.cell? ⟨gb128, 2, none⟩ = some (.string a0_2) := (blk_cell BK128.out 2).trans rfl; have hcz8_3 : w7.cell? ⟨gb128, 3, none⟩ = some (.slice A0_3 l0_3.length c0_3) := (blk_cell BK128.out 3).trans rfl; have hfz8_0 := blk_frozen BK128.out 0; have hfz8_1 := blk_frozen BK128.out 1; have hfz8_2 := blk_frozen BK128.out 2; have hfz8_3 := blk_frozen BK128.out 3) | ((with_reducible refine gate_callee (f := 51) rfl ?_); refine goesL_ (some 4) rfl rfl Tryd.func51 (by kernel_rfl) rfl #[.agg #[.int .i64 a0_0, .int .i64 a0_1, .string a0_2, .slice A0_3 l0_3.length c0_3], .int .i64 70] rfl (by (try simp only [List.map_toArray, List.map_cons, List.map_nil]); first | done | rfl | (simp only [List.length_drop, List.length_take]; rfl)) ?_; (with_reducible refine (spindleref08_Depth.calls k a0_0 a0_1 a0_2 _ _ l0_3 70 t129 _ ?side1 ?side2 A2.out).mono ?_); (case side1 => repeat (first | exact (Kd.C_below HR0_3.out HB.out) | (with_reducible refine Kd.C_alloc ?_ _) | (with_reducible refine Kd.C_drewN ?_ _) | (with_reducible refine Kd.C_drew ?_))); (case side2 => exact HC0_3.out); rintro e w9 ⟨rfl, hb⟩; refine ⟨_, rfl, ?_⟩; have n0_ := Aside0.mk (blk_below (g := gb128) (o := .cells #[.int .i64 a0_0, .int .i64 a0_1, .string a0_2, .slice A0_3 l0_3.length c0_3] 84 (0, 0)) (by (with_reducible repeat (first | refine blk_drewN ?_ _ | refine blk_drew ?_ | refine blk_alloc ?_ _)); exact BK128.out) hb); have n1_ := Aside0.mk (below_step (by repeat (first | (with_reducible first | exact HB.out | apply below_alloc | apply pw_below_drewN | apply below_drew1 | refine below_set ?_ GE128.out) | exact HB.out)) hb); clear BK128; clear HB; have BK128 := n0_; have HB := n1_; clear n0_ n1_; (try clear hb); (try clear hb2); (try clear hk); (try clear hi); have hcz10_0 : w9.cell? ⟨gb128, 0, none⟩ = some (.int .i64 a0_0) := (blk_cell BK128.out 0).trans rfl; have hcz10_1 : w9.cell? ⟨gb128, 1, none⟩ = some (.int .i64 a0_1) := (blk_cell BK128.out 1).trans rfl; have hcz10_2 : w9.cell? ⟨gb128, 2, none⟩ = some (.string a0_2) := (blk_cell BK128.out 2).trans rfl; have hcz10_3 : w9.cell? ⟨gb128, 3, none⟩ = some (.slice A0_3 l0_3.length c0_3) := (blk_cell BK128.out 3).trans rfl; have hfz10_0 := blk_frozen BK128.out 0; have hfz10_1 := blk_frozen BK128.out 1; have hfz10_2 := blk_frozen BK128.out 2; have hfz10_3 := blk_frozen BK128.out 3) | (go_at_call 50; (with_reducible refine (spindleref08_Parts.calls k a0_0 a0_1 a0_2 _ _ l0_3 t130 _ ?side1 ?side2 A4.out).mono ?_); (case side1 => repeat (first | exact (Kd.C_below HR0_3.out HB.out) | (with_reducible refine Kd.C_alloc ?_ _) | (with_reducible refine Kd.C_drewN ?_ _) | (with_reducible refine Kd.C_drew ?_))); (case side2 => exact HC0_3.out); rintro e w11 ⟨rfl, hb⟩; have n0_ := Aside0.mk (blk_below (g := gb128) (o := .cells #[.int .i64 a0_0, .int .i64 a0_1, .string a0_2, .slice A0_3 l0_3.length c0_3] 84 (0, 0)) (by (with_reducible repeat (first | refine blk_drewN ?_ _ | refine blk_drew ?_ | refine blk_alloc ?_ _)); exact BK128.out) hb); have n1_ := Aside0.mk (below_step (by repeat (first | (with_reducible first | exact HB.out | apply below_alloc | apply pw_below_drewN | apply below_drew1 | refine below_set ?_ GE128.out) | exact HB.out)) hb); clear BK128; clear HB; have BK128 := n0_; have HB := n1_; clear n0_ n1_; (try clear hb); (try clear hb2); (try clear hk); (try clear hi); have hcz12_0 : w11.cell? ⟨gb128, 0, none⟩ = some (.int .i64 a0_0) := (blk_cell BK128.out 0).trans rfl; have hcz12_1 : w11.cell? ⟨gb128, 1, none⟩ = some (.int .i64 a0_1) := (blk_cell BK128.out 1).trans rfl; have hcz12_2 : w11.cell? ⟨gb128, 2, none⟩ = some (.string a0_2) := (blk_cell BK128.out 2).trans rfl; have hcz12_3 : w11.cell? ⟨gb128, 3, none⟩ = some (.slice A0_3 l0_3.length c0_3) := (blk_cell BK128.out 3).trans rfl; have hfz12_0 := blk_frozen BK128.out 0; have hfz12_1 := blk_frozen BK128.out 1; have hfz12_2 := blk_frozen BK128.out 2; have hfz12_3 := blk_frozen BK128.out 3) | (go_at_call 72; (with_reducible refine (spindleref08_right.calls k a0_0 a0_1 a0_2 _ _ l0_3 64 t131 _ ?side1 ?side2 A6.out).mono ?_); (case side1 => repeat (first | exact (Kd.C_below HR0_3.out HB.out) | (with_reducible refine Kd.C_alloc ?_ _) | (with_reducible refine Kd.C_drewN ?_ _) | (with_reducible refine Kd.C_drew ?_))); (case side2 => exact HC0_3.out); rintro e w13 ⟨rfl, hb⟩; have n0_ := Aside0.mk (blk_below (g := gb128) (o := .cells #[.int .i64 a0_0, .int .i64 a0_1, .string a0_2, .slice A0_3 l0_3.length c0_3] 84 (0, 0)) (by (with_reducible repeat (first | refine blk_drewN ?_ _ | refine blk_drew ?_ | refine blk_alloc ?_ _)); exact BK128.out) hb); have n1_ := Aside0.mk (below_step (by repeat (first | (with_reducible first | exact HB.out | apply below_alloc | apply pw_below_drewN | apply below_drew1 | refine below_set ?_ GE128.out) | exact HB.out)) hb); clear BK128; clear HB; have BK128 := n0_; have HB := n1_; clear n0_ n1_; (try clear hb); (try clear hb2); (try clear hk); (try clear hi)))
      go_ret
      exact ⟨by first | rfl | (simp [errW_none, errW_some] <;> rfl) | (simp [*, errW_none, errW_some] <;> rfl), by repeat (first | (with_reducible first | exact HB.out | apply below_alloc | apply pw_below_drewN | apply below_drew1 | refine below_set ?_ GE128.out) | exact HB.out)⟩
    · rw [if_neg c5] at H
      have c5b0 : decide (t130 ≤ 4000) = false := decide_eq_false c5
      clear c5
      obtain rfl := Option.some.inj H
      go_enter Tryd.func46, Tryd.ntmps46
      go_wp2_with (first | ((with_reducible refine gate_dst (N := 1) rfl ?_); refine box_event ?hg (N := 1) ?hd (cs := #[.int .i64 a0_0, .int .i64 a0_1, .string a0_2, .slice A0_3 l0_3.length c0_3]) (t := 84) ?hr ?_; (case hd => rfl); (case hg => rfl); (case hr => first | (go_simp; done) | (go_simp; rfl)); intro gb128 hg w14 hbox hb; have n0_ := Aside0.mk (below_step (by repeat (first | (with_reducible first | exact HB.out | apply below_alloc | apply pw_below_drewN | apply below_drew1) | exact HB.out)) hb); have n1_ := Aside0.mk (hbox); have n2_ := Aside0.mk ((by rw [hg]; exact (below_size (by repeat (first | (with_reducible first | exact HB.out | apply below_alloc | apply pw_below_drewN | apply below_drew1) | exact HB.out))) : w.heap.size ≤ gb128)); have n3_ := Aside0.mk ((by rw [hg]; exact (below_size (by repeat (first | (with_reducible first | exact HB.out | apply below_alloc | apply pw_below_drewN | apply below_drew1) | exact HB.out))) : w.heap.size ≤ gb128)); clear HB; have HB := n0_; have BK128 := n1_; have GW128 := n2_; have GE128 := n3_; clear n0_ n1_ n2_ n3_; clear hb hbox hg; have hcz15_0 : w14.cell? ⟨gb128, 0, none⟩ = some (.int .i64 a0_0) := (blk_cell BK128.out 0).trans rfl; have hcz15_1 : w14.cell? ⟨gb128, 1, none⟩ = some (.int .i64 a0_1) := (blk_cell BK128.out 1).trans rfl; have hcz15_2 : w14.cell? ⟨gb128, 2, none⟩ = some (.string a0_2) := (blk_cell BK128.out 2).trans rfl; have hcz15_3 : w14.cell? ⟨gb128, 3, none⟩ = some (.slice A0_3 l0_3.length c0_3) := (blk_cell BK128.out 3).trans rfl; have hfz15_0 := blk_frozen BK128.out 0; have hfz15_1 := blk_frozen BK128.out 1; have hfz15_2 := blk_frozen BK128.out 2; have hfz15_3 := blk_frozen BK128.out 3) | ((with_reducible refine gate_callee (f := 51) rfl ?_); refine goesL_ (some 4) rfl rfl Tryd.func51 (by kernel_rfl) rfl #[.agg #[.int .i64 a0_0, .int .i64 a0_1, .string a0_2, .slice A0_3 l0_3.length c0_3], .int .i64 70] rfl (by (try simp only [List.map_toArray, List.map_cons, List.map_nil]); first | done | rfl | (simp only [List.length_drop, List.length_take]; rfl)) ?_; (with_reducible refine (spindleref08_Depth.calls k a0_0 a0_1 a0_2 _ _ l0_3 70 t129 _ ?side1 ?side2 A2.out).mono ?_); (case side1 => repeat (first | exact (Kd.C_below HR0_3.out HB.out) | (with_reducible refine Kd.C_alloc ?_ _) | (with_reducible refine Kd.C_drewN ?_ _) | (with_reducible refine Kd.C_drew ?_))); (case side2 => exact HC0_3.out); rintro e w16 ⟨rfl, hb⟩; refine ⟨_, rfl, ?_⟩; have n0_ := Aside0.mk (blk_below (g := gb128) (o := .cells #[.int .i64 a0_0, .int .i64 a0_1, .string a0_2, .slice A0_3 l0_3.length c0_3] 84 (0, 0)) (by (with_reducible repeat (first | refine blk_drewN ?_ _ | refine blk_drew ?_ | refine blk_alloc ?_ _)); exact BK128.out) hb); have n1_ := Aside0.mk (below_step (by repeat (first | (with_reducible first | exact HB.out | apply below_alloc | apply pw_below_drewN | apply below_drew1 | refine below_set ?_ GE128.out) | exact HB.out)) hb); clear BK128; clear HB; have BK128 := n0_; have HB := n1_; clear n0_ n1_; (try clear hb); (try clear hb2); (try clear hk); (try clear hi); have hcz17_0 : w16.cell? ⟨gb128, 0, none⟩ = some (.int .i64 a0_0) := (blk_cell BK128.out 0).trans rfl; have hcz17_1 : w16.cell? ⟨gb128, 1, none⟩ = some (.int .i64 a0_1) := (blk_cell BK128.out 1).trans rfl; have hcz17_2 : w16.cell? ⟨gb128, 2, none⟩ = some (.string a0_2) := (blk_cell BK128.out 2).trans rfl; have hcz17_3 : w16.cell? ⟨gb128, 3, none⟩ = some (.slice A0_3 l0_3.length c0_3) := (blk_cell BK128.out 3).trans rfl; have hfz17_0 := blk_frozen BK128.out 0; have hfz17_1 := blk_frozen BK128.out 1; have hfz17_2 := blk_frozen BK128.out 2; have hfz17_3 := blk_frozen BK128.out 3) | (go_at_call 50; (with_reducible refine (spindleref08_Parts.calls k a0_0 a0_1 a0_2 _ _ l0_3 t130 _ ?side1 ?side2 A4.out).mono ?_); (case side1 => repeat (first | exact (Kd.C_below HR0_3.out HB.out) | (with_reducible refine Kd.C_alloc ?_ _) | (with_reducible refine Kd.C_drewN ?_ _) | (with_reducible refine Kd.C_drew ?_))); (case side2 => exact HC0_3.out); rintro e w18 ⟨rfl, hb⟩; have n0_ := Aside0.mk (blk_below (g := gb128) (o := .cells #[.int .i64 a0_0, .int .i64 a0_1, .string a0_2, .slice A0_3 l0_3.length c0_3] 84 (0, 0)) (by (with_reducible repeat (first | refine blk_drewN ?_ _ | refine blk_drew ?_ | refine blk_alloc ?_ _)); exact BK128.out) hb); have n1_ := Aside0.mk (below_step (by repeat (first | (with_reducible first | exact HB.out | apply below_alloc | apply pw_below_drewN | apply below_drew1 | refine below_set ?_ GE128.out) | exact HB.out)) hb); clear BK128; clear HB; have BK128 := n0_; have HB := n1_; clear n0_ n1_; (try clear hb); (try clear hb2); (try clear hk); (try clear hi)))
      go_ret
      exact ⟨by first | rfl | (simp [errW_none, errW_some] <;> rfl) | (simp [*, errW_none, errW_some] <;> rfl), by repeat (first | (with_reducible first | exact HB.out | apply below_alloc | apply pw_below_drewN | apply below_drew1 | refine below_set ?_ GE128.out) | exact HB.out)⟩
  · rw [if_neg c3] at H
    have c3b0 : decide (t129 ≤ 64) = false := decide_eq_false c3
    clear c3
    obtain rfl := Option.some.inj H
    go_enter Tryd.func46, Tryd.ntmps46
    go_wp2_with (first | ((with_reducible refine gate_dst (N := 1) rfl ?_); refine box_event ?hg (N := 1) ?hd (cs := #[.int .i64 a0_0, .int .i64 a0_1, .string a0_2, .slice A0_3 l0_3.length c0_3]) (t := 84) ?hr ?_; (case hd => rfl); (case hg => rfl); (case hr => first | (go_simp; done) | (go_simp; rfl)); intro gb128 hg w19 hbox hb; have n0_ := Aside0.mk (below_step (by repeat (first | (with_reducible first | exact HB.out | apply below_alloc | apply pw_below_drewN | apply below_drew1) | exact HB.out)) hb); have n1_ := Aside0.mk (hbox); have n2_ := Aside0.mk ((by rw [hg]; exact (below_size (by repeat (first | (with_reducible first | exact HB.out | apply below_alloc | apply pw_below_drewN | apply below_drew1) | exact HB.out))) : w.heap.size ≤ gb128)); have n3_ := Aside0.mk ((by rw [hg]; exact (below_size (by repeat (first | (with_reducible first | exact HB.out | apply below_alloc | apply pw_below_drewN | apply below_drew1) | exact HB.out))) : w.heap.size ≤ gb128)); clear HB; have HB := n0_; have BK128 := n1_; have GW128 := n2_; have GE128 := n3_; clear n0_ n1_ n2_ n3_; clear hb hbox hg; have hcz20_0 : w19.cell? ⟨gb128, 0, none⟩ = some (.int .i64 a0_0) := (blk_cell BK128.out 0).trans rfl; have hcz20_1 : w19.cell? ⟨gb128, 1, none⟩ = some (.int .i64 a0_1) := (blk_cell BK128.out 1).trans rfl; have hcz20_2 : w19.cell? ⟨gb128, 2, none⟩ = some (.string a0_2) := (blk_cell BK128.out 2).trans rfl; have hcz20_3 : w19.cell? ⟨gb128, 3, none⟩ = some (.slice A0_3 l0_3.length c0_3) := (blk_cell BK128.out 3).trans rfl; have hfz20_0 := blk_frozen BK128.out 0; have hfz20_1 := blk_frozen BK128.out 1; have hfz20_2 := blk_frozen BK128.out 2; have hfz20_3 := blk_frozen BK128.out 3) | ((with_reducible refine gate_callee (f := 51) rfl ?_); refine goesL_ (some 4) rfl rfl Tryd.func51 (by kernel_rfl) rfl #[.agg #[.int .i64 a0_0, .int .i64 a0_1, .string a0_2, .slice A0_3 l0_3.length c0_3], .int .i64 70] rfl (by (try simp only [List.map_toArray, List.map_cons, List.map_nil]); first | done | rfl | (simp only [List.length_drop, List.length_take]; rfl)) ?_; (with_reducible refine (spindleref08_Depth.calls k a0_0 a0_1 a0_2 _ _ l0_3 70 t129 _ ?side1 ?side2 A2.out).mono ?_); (case side1 => repeat (first | exact (Kd.C_below HR0_3.out HB.out) | (with_reducible refine Kd.C_alloc ?_ _) | (with_reducible refine Kd.C_drewN ?_ _) | (with_reducible refine Kd.C_drew ?_))); (case side2 => exact HC0_3.out); rintro e w21 ⟨rfl, hb⟩; refine ⟨_, rfl, ?_⟩; have n0_ := Aside0.mk (blk_below (g := gb128) (o := .cells #[.int .i64 a0_0, .int .i64 a0_1, .string a0_2, .slice A0_3 l0_3.length c0_3] 84 (0, 0)) (by (with_reducible repeat (first | refine blk_drewN ?_ _ | refine blk_drew ?_ | refine blk_alloc ?_ _)); exact BK128.out) hb); have n1_ := Aside0.mk (below_step (by repeat (first | (with_reducible first | exact HB.out | apply below_alloc | apply pw_below_drewN | apply below_drew1 | refine below_set ?_ GE128.out) | exact HB.out)) hb); clear BK128; clear HB; have BK128 := n0_; have HB := n1_; clear n0_ n1_; (try clear hb); (try clear hb2); (try clear hk); (try clear hi)))
    go_ret
    exact ⟨by first | rfl | (simp [errW_none, errW_some] <;> rfl) | (simp [*, errW_none, errW_some] <;> rfl), by repeat (first | (with_reducible first | exact HB.out | apply below_alloc | apply pw_below_drewN | apply below_drew1 | refine below_set ?_ GE128.out) | exact HB.out)⟩

end Go.Proofs.YthighbbikpnpgaaDoor.PSh

/-! ShM -/
namespace Go.Proofs.YthighbbikpnpgaaDoor
open Go.RowKit Go.Proofs.YthighbbikpnpgaaDoor.PSh Go.Proofs.YthighbbikpnpgaaDoorW.PrintWords

theorem fits_depth (far : Nat) : ∀ (x : Dat) (wi : Nat), wi + far = 64 → fitsD x wi = true → ∀ f, f ≤ 70 → dpt x f ≤ far := by
  induction far with
  | zero =>
    intro x wi hw hf
    obtain ⟨k, n, t, l⟩ := x
    rw [fitsD, decide_eq_true (by omega)] at hf
    simp at hf
  | succ far ih =>
    intro x wi hw hf f hf70
    obtain ⟨k, n, t, l⟩ := x
    rw [dpt]
    by_cases h0 : f = 0
    · rw [if_pos h0]; omega
    rw [if_neg h0]
    have hl : l = [] ∨ fitsL l (wi + 1) = true := by
      rw [fitsD] at hf
      simp only [Bool.and_eq_true] at hf
      obtain ⟨_, hf⟩ := hf
      by_cases k1 : k = 1
      · rw [if_pos k1] at hf; simp only [Bool.and_eq_true, decide_eq_true_eq] at hf; exact .inl hf.1.1.1
      rw [if_neg k1] at hf
      by_cases k2 : k = 2
      · rw [if_pos k2] at hf; simp only [Bool.and_eq_true, decide_eq_true_eq] at hf; exact .inl hf.1.1
      rw [if_neg k2] at hf
      by_cases k3 : k = 3
      · rw [if_pos k3] at hf; simp only [Bool.and_eq_true, decide_eq_true_eq] at hf; exact .inl hf.1.1
      rw [if_neg k3] at hf
      by_cases k4 : k = 4
      · rw [if_pos k4] at hf; simp only [Bool.and_eq_true, decide_eq_true_eq] at hf; exact .inl hf.1.1
      rw [if_neg k4] at hf
      by_cases k5 : k = 5
      · rw [if_pos k5] at hf; simp only [Bool.and_eq_true, decide_eq_true_eq] at hf; exact .inl hf.1.1
      rw [if_neg k5] at hf
      by_cases k7 : k = 7
      · rw [if_pos k7] at hf; simp only [Bool.and_eq_true] at hf; exact .inr hf.1.1.2
      rw [if_neg k7] at hf
      by_cases k68 : k = 6 ∨ k = 8
      · rw [if_pos k68] at hf; simp only [Bool.and_eq_true] at hf; exact .inr hf.1.1
      · rw [if_neg k68] at hf; cases hf
    have : ∀ l : List Dat, (∀ x ∈ l, dpt x (f - 1) ≤ far) → dptL l (f - 1) ≤ far := by
      intro l
      induction l with
      | nil => intro _; rw [dptL]; omega
      | cons y r ihr => intro h; rw [dptL]; have h1 := h y (by simp); have h2 := ihr (fun z hz => h z (by simp [hz])); omega
    rcases hl with rfl | hl
    · rw [dptL]; omega
    · have := this l (fun x hx => ih x (wi + 1) (by omega) (fitsL_mem hl x hx) (f - 1) (by omega))
      omega

theorem len0 (L : List Dat) : ((L.length : Int) = 0) ↔ L = [] := by
  rw [← List.length_eq_zero_iff]; omega

theorem right_f (m : Nat) : ∀ x : Dat, szD x < m → ∀ (far : Nat) (K : Nat), 1 ≤ far → far ≤ 64 → prt x ≤ 100000 → 5 * szD x ≤ K →
    spindleref08_right.f K x.f0 x.f1 x.f2 x.f3 (far : Int) = some (fitsD x (64 - far)) := by
  induction m with
  | zero => intro x h; omega
  | succ m ih =>
    intro x hx far K h1 h64 hp hK
    have hxs : ∀ y ∈ x.f3, szD y < m := fun y hy => by have := dat_lt hy; omega
    obtain ⟨k, n, t, L⟩ := x
    have hs := sz_dat (a := k) (b := n) (c := t) (l := L)
    have hL1 : 1 ≤ SizeOf.sizeOf L := by cases L <;> simp <;> omega
    rw [prt] at hp
    have hlen := prt_len L
    obtain ⟨K, rfl⟩ : ∃ q, K = q + 1 := ⟨K - 1, by omega⟩
    simp only [spindleref08_right.f]
    rw [fitsD, decide_eq_false (show ¬ 64 ≤ 64 - far by omega), Bool.not_false, Bool.true_and]
    have l0 : ∀ (d j K : Nat), d = L.length - j → j ≤ L.length → 2 ≤ far ∨ L = [] → 5 * SizeOf.sizeOf (L.drop j) ≤ K →
        spindleref08_right.l0 K (far : Int) (j : Int) k n t L = some (fitsL (L.drop j) (64 - far + 1) && (if k = 7 then (decide (2 ≤ L.length) && !(lastK L == 6) && !(lastK L == 7)) else true)) := by
      intro d
      induction d with
      | zero =>
        intro j K hd hj h2 hK
        obtain rfl : j = L.length := by omega
        obtain ⟨K, rfl⟩ : ∃ q, K = q + 1 := ⟨K - 1, by simp at hK; omega⟩
        simp only [spindleref08_right.l0]
        rw [if_neg (by omega), List.drop_length, fitsL, Bool.true_and]
        by_cases k7 : k = 7
        · rw [if_pos k7, if_pos k7]
          by_cases hl2 : 2 ≤ L.length
          · have hla : rd_T84 L ((L.length - 1 : Nat) : Int) = L[L.length - 1]'(by omega) := rd_at (by omega)
            have hlk : lastK L = (L[L.length - 1]'(by omega)).f0 := by
              unfold lastK
              rw [List.getLast?_eq_getElem?, List.getElem?_eq_getElem (by omega)]
            rw [if_pos (by omega), wrapN (by omega) (by omega), if_pos (by omega), if_pos (by omega), hla, ← hlk, decide_eq_true hl2, Bool.true_and]
            generalize lastK L = q
            by_cases h6 : q = 6
            · rw [if_pos h6, h6]; rfl
            · rw [if_neg h6]
              have b6 : (q == 6) = false := by simpa using h6
              rw [b6]
              simp [bne]
          · rw [if_neg (by omega), decide_eq_false hl2]
            simp
        · rw [if_neg k7, if_neg k7]
      | succ d ihd =>
        intro j K hd hj h2 hK
        have hlt : j < L.length := by omega
        have h2' : 2 ≤ far := by
          rcases h2 with h2 | h2
          · exact h2
          · rw [h2] at hlt; simp at hlt
        rw [List.drop_eq_getElem_cons hlt] at hK ⊢
        rw [sz_cons] at hK
        obtain ⟨K, rfl⟩ : ∃ q, K = q + 1 := ⟨K - 1, by omega⟩
        simp only [spindleref08_right.l0]
        have hpi := prt_item hlt
        rw [if_pos (by omega), if_pos (by omega), rd_at hlt, wrapN (by omega) (by omega), wrapS (by omega), ih L[j] (hxs L[j] (List.getElem_mem hlt)) (far - 1) K (by omega) (by omega) (by omega) (by omega)]
        simp only [Option.bind_some]
        rw [fitsL, show 64 - (far - 1) = 64 - far + 1 by omega]
        generalize fitsD L[j] (64 - far + 1) = y
        cases y
        · rw [if_neg (by decide)]; simp
        · rw [if_pos rfl, ihd (j + 1) K (by omega) (by omega) (.inl h2') (by omega)]
          simp
    have jj : ∀ x5 : Bool, x5 = decide (L = []) → ∀ K, 5 * SizeOf.sizeOf L + 2 ≤ K → spindleref08_right.j0 K (far : Int) x5 true k n t L =
        some (fitsL L (64 - far + 1) && (n == 0) && decide (t.toList = []) && (if k = 7 then (decide (2 ≤ L.length) && !(lastK L == 6) && !(lastK L == 7)) else true)) := by
      intro x5 hx5 K hK
      obtain ⟨K, rfl⟩ : ∃ q, K = q + 1 + 1 := ⟨K - 2, by omega⟩
      simp only [spindleref08_right.j0]
      rw [if_pos True.intro]
      have hl0 := l0 L.length 0 K (by omega) (by omega)
      by_cases hn : n = 0
      · rw [if_pos hn]
        have bn : (n == 0) = true := by simpa using hn
        rw [bn]
        by_cases ht : t.toList = []
        · rw [if_pos ht, decide_eq_true ht]
          by_cases hf1 : (far : Int) ≤ 1
          · rw [if_pos hf1]
            simp only [spindleref08_right.j1]
            by_cases hL : L = []
            · rw [hx5, decide_eq_true hL, if_neg (by decide)]
              have := hl0 (.inr hL) (by simp; omega)
              rw [show (0 : Int) = ((0 : Nat) : Int) from rfl, this]
              simp
            · rw [hx5, decide_eq_false hL, if_pos (by decide)]
              obtain ⟨y, r, rfl⟩ : ∃ y r, L = y :: r := by
                cases L with
                | nil => exact absurd rfl hL
                | cons y r => exact ⟨y, r, rfl⟩
              rw [fitsL]
              have hz : fitsD y (64 - far + 1) = false := by
                obtain ⟨a, b, c, d⟩ := y
                rw [fitsD, decide_eq_true (show 64 ≤ 64 - far + 1 by omega)]
                rfl
              rw [hz]
              simp
          · rw [if_neg hf1]
            simp only [spindleref08_right.j1]
            rw [if_neg (by decide)]
            have := hl0 (.inl (by omega)) (by simp; omega)
            rw [show (0 : Int) = ((0 : Nat) : Int) from rfl, this]
            simp
        · rw [if_neg ht, decide_eq_false ht]
          simp only [spindleref08_right.j1]
          rw [if_pos True.intro]
          simp
      · rw [if_neg hn]
        have bn : (n == 0) = false := by simpa using hn
        rw [bn]
        simp only [spindleref08_right.j1]
        rw [if_pos True.intro]
        simp
    have hb5 : ((L.length : Int) == 0) = decide (L = []) := by
      rw [Bool.eq_iff_iff, beq_iff_eq, decide_eq_true_iff]
      exact len0 L
    have leaf : ∀ (r : Option Bool) (b : Bool), (L = [] → r = some b) → (if (L.length : Int) = 0 then r else some false) = some (decide (L = []) && b) := by
      intro r b h
      by_cases hL : L = []
      · rw [if_pos ((len0 L).2 hL), h hL, decide_eq_true hL]; rfl
      · rw [if_neg (fun e => hL ((len0 L).1 e)), decide_eq_false hL]; rfl
    have tl : ∀ (r : Option Bool) (b : Bool), (r = some b) → (if t.toList = [] then r else some false) = some (decide (t.toList = []) && b) := by
      intro r b h
      by_cases ht : t.toList = []
      · rw [if_pos ht, h, decide_eq_true ht]; rfl
      · rw [if_neg ht, decide_eq_false ht]; rfl
    by_cases k1 : k = 1
    · rw [if_pos k1, if_pos k1, leaf _ _ (fun _ => tl _ (decide (n ≤ 1152921504606846975) && decide (-1152921504606846976 ≤ n)) ?_)]
      · simp [Bool.and_assoc]
      · by_cases h : n ≥ -1152921504606846976
        · rw [if_pos h]
          congr 1
          rw [Bool.eq_iff_iff]
          simp
          omega
        · rw [if_neg h]
          congr 1
          symm
          simp
          omega
    rw [if_neg k1, if_neg k1]
    by_cases k2 : k = 2
    · rw [if_pos k2, if_pos k2, leaf _ _ (fun _ => tl _ (n == 0 || n == 1) ?_)]
      · simp [Bool.and_assoc]
      · by_cases h : n = 0
        · rw [if_pos h, h]; rfl
        · have : (n == 0) = false := by simpa using h
          rw [if_neg h, this]; rfl
    rw [if_neg k2, if_neg k2]
    by_cases k3 : k = 3
    · rw [if_pos k3, if_pos k3, leaf _ _ (fun _ => tl _ (decide (0 ≤ n) && decide (n ≤ 255)) ?_)]
      · simp [Bool.and_assoc]
      · by_cases h : n ≥ 0
        · rw [if_pos h, decide_eq_true (show 0 ≤ n from h)]; rfl
        · rw [if_neg h, decide_eq_false (show ¬ 0 ≤ n from h)]; rfl
    rw [if_neg k3, if_neg k3]
    by_cases k4 : k = 4
    · rw [if_pos k4, if_pos k4, leaf _ ((n == 0) && decide (t.size ≤ 500)) (fun _ => ?_)]
      · simp [Bool.and_assoc]
      · by_cases h : n = 0
        · have : (n == 0) = true := by simpa using h
          rw [if_pos h, this, Bool.true_and]
          congr 1
          exact decide_eq_decide.2 (by omega)
        · have : (n == 0) = false := by simpa using h
          rw [if_neg h, this]; rfl
    rw [if_neg k4, if_neg k4]
    by_cases k5 : k = 5
    · rw [if_pos k5, if_pos k5, leaf _ ((n == 0) && symL t.data.toList) (fun _ => ?_)]
      · simp [Bool.and_assoc]
      · by_cases h : n = 0
        · have : (n == 0) = true := by simpa using h
          rw [if_pos h, this, Bool.true_and]
          rfl
        · have : (n == 0) = false := by simpa using h
          rw [if_neg h, this]; rfl
    rw [if_neg k5, if_neg k5]
    have hKj : 5 * SizeOf.sizeOf L + 2 ≤ K := by omega
    by_cases k6 : k = 6
    · rw [if_pos k6, show (k == 6) = true by simpa using k6, jj _ hb5 K hKj, if_neg (by omega), if_neg (by omega), if_pos (.inl k6)]
      simp
    rw [if_neg k6]
    by_cases k7 : k = 7
    · rw [if_pos k7, show (k == 7) = true by simpa using k7, jj _ hb5 K hKj, if_pos k7, if_pos k7]
      generalize fitsL L (64 - far + 1) = a
      generalize (n == 0) = b
      generalize decide (t.toList = []) = c
      generalize decide (2 ≤ L.length) = d
      generalize (!(lastK L == 6)) = e
      generalize (!(lastK L == 7)) = f
      cases a <;> cases b <;> cases c <;> cases d <;> cases e <;> cases f <;> rfl
    rw [if_neg k7, if_neg k7]
    by_cases k8 : k = 8
    · rw [show (k == 8) = true by simpa using k8, jj _ hb5 K hKj, if_neg k7, if_pos (.inr k8)]
      simp
    · rw [show (k == 8) = false by simpa using k8, if_neg (by rintro (h | h); exact k6 h; exact k8 h)]
      obtain ⟨K, rfl⟩ : ∃ q, K = q + 1 := ⟨K - 1, by omega⟩
      simp only [spindleref08_right.j0]
      rw [if_neg (by decide)]

theorem seventy : ((70 : Nat) : Int) = 70 := by decide
theorem sixtyfour : ((64 : Nat) : Int) = 64 := by decide
theorem depth_70 (x : Dat) (K : Nat) (hp : prt x ≤ 100000) (hK : 3 * szD x ≤ K) : spindleref08_Depth.f K x.f0 x.f1 x.f2 x.f3 70 = some (dpt x 70 : Int) := by
  rw [← seventy]
  exact depth_f (szD x + 1) x (by omega) 70 K (by omega) hp hK
theorem right_64 (x : Dat) (K : Nat) (hp : prt x ≤ 100000) (hK : 5 * szD x ≤ K) : spindleref08_right.f K x.f0 x.f1 x.f2 x.f3 64 = some (fitsD x 0) := by
  rw [← sixtyfour]
  exact right_f (szD x + 1) x (by omega) 64 K (by omega) (by omega) hp hK

set_option maxRecDepth 1000000 in
theorem Right_f (x : Dat) (K : Nat) (hp : prt x ≤ 100000) (hK : 5 * szD x ≤ K) : spindleref08_Right.f K x.f0 x.f1 x.f2 x.f3 = some (rightD x) := by
  unfold spindleref08_Right.f rightD
  rw [depth_70 x K hp (by omega)]
  simp only [Option.bind_some]
  by_cases hf : fitsD x 0 = true
  · have hd := fits_depth 64 x 0 rfl hf 70 (by omega)
    rw [if_pos (by omega), parts_f x K (by omega)]
    simp only [Option.bind_some]
    by_cases hc : cnt x 0 ≤ 4000
    · rw [if_pos (by omega), right_64 x K hp hK, decide_eq_true hc, hf]; rfl
    · rw [if_neg (by omega), decide_eq_false hc]; rfl
  · have hf' : fitsD x 0 = false := by simpa using hf
    rw [hf', Bool.and_false]
    by_cases hd : (dpt x 70 : Int) ≤ 64
    · rw [if_pos hd, parts_f x K (by omega)]
      simp only [Option.bind_some]
      by_cases hc : (cnt x 0 : Int) ≤ 4000
      · rw [if_pos hc, right_64 x K hp hK, hf']; rfl
      · rw [if_neg hc]
    · rw [if_neg hd]
end Go.Proofs.YthighbbikpnpgaaDoor

/-! ShN -/
namespace Go.Proofs.YthighbbikpnpgaaDoor
open Go.RowKit Go.Proofs.YthighbbikpnpgaaDoor.PSh Go.Proofs.YthighbbikpnpgaaDoorW.PrintWords Go.ChangeShapes Go.WideShapes

section
variable {H : Type} {enc : TypeId × Value → H} {w : World} {b0 : Nat} {sp : Nat → Bool} {held : Bool}

theorem cells_dat : Tryd.prog.cellsOf 84 = 4 := by kernel_rfl
theorem cells_int : Tryd.prog.cellsOf 3 = 1 := by kernel_rfl
theorem cells_str : Tryd.prog.cellsOf 9 = 1 := by kernel_rfl
theorem cells_sl : Tryd.prog.cellsOf 82 = 1 := by kernel_rfl

set_option maxRecDepth 16000 in
theorem dat_read (fuel : Nat) : (∀ (cs : List Value) (z : DataW H × List MemPlace), DataW.trod enc Tryd.prog w b0 sp held fuel 84 cs = some z → ∃ x : Dat, kD.K w x cs) ∧
    (∀ (v : Value) (z : DataW H × List MemPlace), DataW.trod enc Tryd.prog w b0 sp held fuel 82 [v] = some z → ∃ (A : Option Addr) (c : Nat) (l : List Dat), v = .slice A l.length c ∧ l.length ≤ c ∧ Kd.C kD w A l.length l) := by
  induction fuel using Nat.strongRecOn with
  | ind fuel ih =>
    refine ⟨fun cs z h => ?_, fun v z h => ?_⟩
    · obtain ⟨xs, n, rfl, _, hl, hlen, hg⟩ := DataW.trod_struct Tryd.underlying84 h
      rw [cells_dat] at hl
      match cs, hl with
      | [a0, a1, a2, a3], _ =>
        match xs, hlen with
        | [y0, y1, y2, y3], _ =>
          have g0 : DataW.trod enc Tryd.prog w b0 sp held n 3 (([a0, a1, a2, a3].drop 0).take (Tryd.prog.cellsOf 3)) = some y0 := hg 0 _ rfl
          have g1 : DataW.trod enc Tryd.prog w b0 sp held n 3 (([a0, a1, a2, a3].drop 1).take (Tryd.prog.cellsOf 3)) = some y1 := hg 1 _ rfl
          have g2 : DataW.trod enc Tryd.prog w b0 sp held n 9 (([a0, a1, a2, a3].drop 2).take (Tryd.prog.cellsOf 9)) = some y2 := hg 2 _ rfl
          have g3 : DataW.trod enc Tryd.prog w b0 sp held n 82 (([a0, a1, a2, a3].drop 3).take (Tryd.prog.cellsOf 82)) = some y3 := hg 3 _ rfl
          rw [cells_int] at g0 g1
          rw [cells_str] at g2
          rw [cells_sl] at g3
          obtain ⟨n0, e0, _, _⟩ := DataW.trod_int Tryd.underlying3 g0
          obtain ⟨n1, e1, _, _⟩ := DataW.trod_int Tryd.underlying3 g1
          obtain ⟨s2, e2, _, _⟩ := DataW.trod_string Tryd.underlying9 g2
          obtain ⟨A, c, l, e3, hlc, hC⟩ := (ih n (by omega)).2 a3 y3 g3
          simp at e0 e1 e2
          subst e0 e1 e2 e3
          exact ⟨⟨n0, n1, s2, l⟩, k84_mk w ⟨n0, n1, s2, l⟩ hlc hC⟩
    · rcases DataW.trod_slice Tryd.underlying82 h with ⟨hcs, _⟩ | ⟨a, len, cap, elems, rest, n, rfl, hcs, _, hb, hlc, hcm, hel, hget, _, _⟩
      · simp at hcs
        subst hcs
        exact ⟨none, 0, [], rfl, Nat.le_refl _, row_none w none⟩
      · simp at hcs
        subst hcs
        have each : ∀ i, i < len → ∃ x : Dat, ∃ c, c.length = 4 ∧ kD.K w x c ∧ ∀ j u, c[j]? = some u → w.cell? (a.add (i * 4 + j)) = some u := by
          intro i hi
          have h1 := hget i hi
          rw [List.getElem?_eq_getElem (by omega), cells_dat, Option.bind_eq_some_iff] at h1
          obtain ⟨cs', hc', ht⟩ := h1
          obtain ⟨_, hl4, hat⟩ := World.cells?_some hc'
          obtain ⟨x, hK⟩ := (ih n (by omega)).1 cs' _ ht
          refine ⟨x, cs', hl4, hK, fun j u hu => ?_⟩
          have hj : j < 4 := by have := (List.getElem?_eq_some_iff.1 hu).1; omega
          rw [← Go.Deep.add_add, hat j hj, hu]
        have pick : ∀ k, k ≤ len → ∃ l : List Dat, l.length = k ∧ ∀ j p, l[j]? = some p → ∃ c, c.length = kD.sz ∧ kD.K w p c ∧ ∀ i u, c[i]? = some u → w.cell? (a.add (j * kD.sz + i)) = some u := by
          intro k
          induction k with
          | zero => intro _; exact ⟨[], rfl, by intro j p h; simp at h⟩
          | succ k ihk =>
            intro hk
            obtain ⟨l, hl, hp⟩ := ihk (by omega)
            obtain ⟨x, c, h1, h2, h3⟩ := each k (by omega)
            refine ⟨l ++ [x], by simp [hl], fun j p hj => ?_⟩
            by_cases hjl : j < l.length
            · rw [List.getElem?_append_left hjl] at hj
              exact hp j p hj
            · rw [List.getElem?_append_right (by omega)] at hj
              by_cases hje : j = l.length
              · subst hje
                simp at hj
                subst hj
                exact ⟨c, h1, h2, by rw [hl]; exact h3⟩
              · rw [List.getElem?_eq_none (by simp; omega)] at hj
                cases hj
        obtain ⟨l, hl, hp⟩ := pick len (Nat.le_refl _)
        subst hl
        exact ⟨some a, cap, l, rfl, hlc, ⟨rfl, by unfold maxLen at hcm; omega, fun _ => ⟨a, rfl, hp⟩⟩⟩

set_option maxRecDepth 16000 in
/-- A datum by value. -/
theorem dat_open {r : Reach} {base : Nat} {W : World} {v : Value} {d : DataW H} {p : List MemPlace} (hv : Value.okWide Tryd.prog W r base 84 v) (h : DataW.Trod enc Tryd.prog w b0 sp held 84 v d p) :
    ∃ (x : Dat) (A : Option Addr) (c : Nat), v = .agg #[.int .i64 x.f0, .int .i64 x.f1, .string x.f2, .slice A x.f3.length c] ∧ x.f3.length ≤ c ∧ Kd.C kD w A x.f3.length x.f3 := by
  obtain ⟨⟨cs⟩, rfl, hsz⟩ := okWide_struct Tryd.underlying84 hv
  obtain ⟨fuel, hf⟩ := h
  obtain ⟨x, hK⟩ := (dat_read fuel).1 _ _ hf
  obtain ⟨A, c, hcs, hl, hC⟩ := k84_open hK
  refine ⟨x, A, c, ?_, hl, hC⟩
  have : cs = [.int .i64 x.f0, .int .i64 x.f1, .string x.f2, .slice A x.f3.length c] := hcs
  rw [this]
end

set_option maxRecDepth 16000 in
theorem ShowChars_top {H : Type} {enc : TypeId × Value → H} (W : World) (base : Nat) (v0 : Value) (d0 : DataW H) (p0 : List MemPlace) (hv0 : Value.okWide Tryd.prog W .any base 3 v0) (h0 : DataW.Trod enc Tryd.prog W 0 (fun _ => true) true 3 v0 d0 p0)
    {ts : List TypeId} {ds : List (DataW H)} (_ : (DataW.weightsEach Tryd.prog ts ds).all (· ≤ reachBytes) = true) (hT : Tab W) :
    Calls Tryd.prog 13 #[v0] W fun e w' => e = .returned (.bool true) ∧ Below W.heap.size W w' := by
  obtain ⟨n, rfl, rfl, rfl, _⟩ := open_int Tryd.underlying3 hv0 h0
  clear h0 hv0
  have HT := Lib.hid hT
  clear hT
  go_enter Tryd.func13, Tryd.ntmps13
  go_wp2_with fail
  refine (awake_show _ HT.out).mono ?_
  rintro e w1 ⟨rfl, hb1⟩
  go_wp2_with fail
  refine (show_Char.calls n _ _ (showchar_f n)).mono ?_
  rintro e w2 ⟨rfl, hb2⟩
  go_wp2_with fail
  refine (spindleref09_Char.calls 1 n _ _ (refchar_f n 1 (Nat.le_refl _))).mono ?_
  rintro e w3 ⟨rfl, hb3⟩
  go_wp2_with fail
  go_ret
  exact ⟨by first | rfl | simp, below_trans hb1 (below_trans hb2 hb3)⟩
end Go.Proofs.YthighbbikpnpgaaDoor

/-! ShO -/
namespace Go.Proofs.YthighbbikpnpgaaDoor
open Go.RowKit Go.Proofs.YthighbbikpnpgaaDoor.PSh Go.Proofs.YthighbbikpnpgaaDoorW.PrintWords Go.ChangeShapes Go.WideShapes

def OwnTo (x : Dat) (w : World) (e : Ending) (w' : World) : Prop :=
  ∃ (A : Option Addr) (c : Nat), e = .returned (.agg #[.int .i64 x.f0, .int .i64 x.f1, .string x.f2, .slice A x.f3.length c]) ∧ x.f3.length ≤ c ∧ Kd.C kD w' A x.f3.length x.f3 ∧ Below w.heap.size w w'
theorem own_any (x : Dat) (A : Option Addr) (c : Nat) (w : World) (hl : x.f3.length ≤ c) (hC : Kd.C kD w A x.f3.length x.f3) (hp : prt x ≤ 4999) :
    Calls Tryd.prog 44 #[.agg #[.int .i64 x.f0, .int .i64 x.f1, .string x.f2, .slice A x.f3.length c]] w (OwnTo x w) := by
  refine (spindleref08_Own.calls (3 * szD x) x.f0 x.f1 x.f2 A c x.f3 _ _ _ _ w hC hl (own_f (szD x + 1) x (by omega) _ (by omega) (Nat.le_refl _))).mono ?_
  rintro e w' ⟨v, rfl, hR, hb⟩
  obtain ⟨A', c', rfl, hl', hC'⟩ := Kd.R_reads hR
  exact ⟨A', c', rfl, hl', hC', hb⟩

theorem small_prt {x : Dat} (h : smallD x = true) : prt x ≤ 4999 := by
  unfold smallD at h
  simp only [Bool.and_eq_true, decide_eq_true_eq] at h
  exact cnt_small (by omega)

theorem textV_cases (x : Dat) (p : Bool) : textV x p = if rightD x = true then .tuple #[.string ⟨(txtD x p).toArray⟩, .nilIface] else .tuple #[.string ⟨#[]⟩, kindV 7] := rfl

set_option maxRecDepth 100000 in
set_option maxHeartbeats 2000000 in
theorem texts_small (x : Dat) (A : Option Addr) (c : Nat) (w : World) (hl : x.f3.length ≤ c) (hC : Kd.C kD w A x.f3.length x.f3) (htab : Tab w) (hsm : smallD x = true) :
    Calls Tryd.prog 12 #[.agg #[.int .i64 x.f0, .int .i64 x.f1, .string x.f2, .slice A x.f3.length c]] w fun e w' => e = .returned (.bool true) ∧ Below w.heap.size w w' := by
  obtain ⟨W1, hW1⟩ : ∃ W1, W1 = w.alloc (.cells #[.int .i64 x.f0, .int .i64 x.f1, .string x.f2, .slice A x.f3.length c] 84) := ⟨_, rfl⟩
  have hbox := fun (w' : World) (hb : Below W1.heap.size W1 w') => box_cells w (.int .i64 x.f0) (.int .i64 x.f1) (.string x.f2) (.slice A x.f3.length c) 84 w' (by rw [← hW1]; exact hb)
  have HBX := Lib.hid hbox
  have hb1 : Below w.heap.size w W1 := by rw [hW1]; exact (Below.refl _ _).alloc (Nat.le_refl _) _
  have HC := Lib.hid (fun w' (hb : Below w.heap.size w w') => Kd.C_below hC hb)
  have HTab := Lib.hid htab
  have hp := small_prt hsm
  have HP := Lib.hid hp
  have HW := Lib.hid hW1
  have HSm := Lib.hid hsm
  have cO := Lib.hid (fun (w' : World) h => own_any x A c w' hl h hp)
  clear hbox hC htab hp hsm hW1
  go_enter Tryd.func12, Tryd.ntmps12
  go_wp2_with fail
  refine (awake_show _ (by rw [← HW.out]; exact tab_below HTab.out hb1)).mono ?_
  rintro e w1 ⟨rfl, hb2⟩
  rw [← HW.out] at hb2
  have hb02 := below_trans hb1 hb2
  obtain ⟨c0, c1, c2, c3⟩ := HBX.out w1 hb2
  go_wp2_with fail
  refine (spindleref08_Small.calls (3 * szD x) x.f0 x.f1 x.f2 A c x.f3 _ _ (HC.out _ hb02) hl (small_f x _ (Nat.le_refl _))).mono ?_
  rintro e w2 ⟨rfl, hb3⟩
  rw [HSm.out]
  have hb13 := below_trans hb2 hb3
  have hb03 := below_trans hb1 hb13
  clear c0 c1 c2 c3 hb2 hb3 hb02
  obtain ⟨c0, c1, c2, c3⟩ := HBX.out w2 hb13
  go_wp2_with fail
  refine (cO.out _ (HC.out _ hb03)).mono ?_
  rintro e w3 ⟨A3, c3', rfl, hl3, hC3, hb4⟩
  have HC3 := Lib.hid hC3
  have hb14 := below_trans hb13 hb4
  have hb04 := below_trans hb1 hb14
  clear c0 c1 c2 c3 hC3 hb4 hb13 hb03
  go_wp2_with fail
  refine (write_any x A3 c3' _ hl3 HC3.out (tab_below HTab.out hb04)).mono ?_
  rintro e w4 ⟨rfl, hb5⟩
  have hb15 := below_trans hb14 hb5
  have hb05 := below_trans hb1 hb15
  obtain ⟨c0, c1, c2, c3⟩ := HBX.out w4 hb15
  have hR : rightD x = true ∨ rightD x = false := by cases rightD x <;> simp
  clear hb5 hb14 hb04
  rcases hR with hR | hR
  · have HL := Lib.hid (right_len hR false)
    have HL2 := Lib.hid (right_len hR true)
    have HR := Lib.hid hR
    rw [textV_right hR]
    have HV := Lib.hid (textV_right hR true)
    clear hR
    go_wp2_with fail
    refine (cO.out _ (HC.out _ hb05)).mono ?_
    rintro e w5 ⟨A5, c5', rfl, hl5, hC5, hb6⟩
    have HC5 := Lib.hid hC5
    have hb16 := below_trans hb15 hb6
    have hb06 := below_trans hb1 hb16
    clear c0 c1 c2 c3 hC5 hb6 hb15 hb05
    go_wp2_with fail
    refine (display_any x A5 c5' _ hl5 HC5.out (tab_below HTab.out hb06)).mono ?_
    rintro e w6 ⟨rfl, hb7⟩
    rw [HV.out]
    have hb17 := below_trans hb16 hb7
    have hb07 := below_trans hb1 hb17
    obtain ⟨c0, c1, c2, c3⟩ := HBX.out w6 hb17
    clear hb7 hb16 hb06
    go_wp2_with fail
    refine (spindleref08_Right.calls (5 * szD x) x.f0 x.f1 x.f2 A c x.f3 _ _ (HC.out _ hb07) hl (Right_f x _ (by have := HP.out; omega) (Nat.le_refl _))).mono ?_
    rintro e w7 ⟨rfl, hb8⟩
    rw [HR.out]
    have hb18 := below_trans hb17 hb8
    have hb08 := below_trans hb1 hb18
    clear c0 c1 c2 c3 hb8 hb17 hb07
    obtain ⟨c0, c1, c2, c3⟩ := HBX.out w7 hb18
    go_wp2_with fail
    refine (reft_any (szD x + 1) x (by omega) 0 false _ A c HL.out.1 hl (HC.out _ hb08) (by have := HL.out.2; omega)).mono ?_
    rintro e w8 ⟨rfl, hb9⟩
    have hb19 := below_trans hb18 hb9
    have hb09 := below_trans hb1 hb19
    clear c0 c1 c2 c3 hb9 hb18 hb08
    obtain ⟨c0, c1, c2, c3⟩ := HBX.out w8 hb19
    go_wp2_with fail
    refine (reft_any (szD x + 1) x (by omega) 0 true _ A c HL.out.1 hl (HC.out _ hb09) (by have := HL2.out.2; omega)).mono ?_
    rintro e w9 ⟨rfl, hb10⟩
    go_wp2_with fail
    go_ret
    exact ⟨by first | rfl | simp, below_trans hb09 hb10⟩
  · have HR := Lib.hid hR
    rw [textV_bad hR]
    have HV := Lib.hid (textV_bad hR true)
    clear hR
    go_wp2_with fail
    refine (cO.out _ (HC.out _ hb05)).mono ?_
    rintro e w5 ⟨A5, c5', rfl, hl5, hC5, hb6⟩
    have HC5 := Lib.hid hC5
    have hb16 := below_trans hb15 hb6
    have hb06 := below_trans hb1 hb16
    clear c0 c1 c2 c3 hC5 hb6 hb15 hb05
    go_wp2_with fail
    refine (display_any x A5 c5' _ hl5 HC5.out (tab_below HTab.out hb06)).mono ?_
    rintro e w6 ⟨rfl, hb7⟩
    rw [HV.out]
    have hb17 := below_trans hb16 hb7
    have hb07 := below_trans hb1 hb17
    obtain ⟨c0, c1, c2, c3⟩ := HBX.out w6 hb17
    clear hb7 hb16 hb06
    go_wp2_with fail
    refine (spindleref08_Right.calls (5 * szD x) x.f0 x.f1 x.f2 A c x.f3 _ _ (HC.out _ hb07) hl (Right_f x _ (by have := HP.out; omega) (Nat.le_refl _))).mono ?_
    rintro e w7 ⟨rfl, hb8⟩
    rw [HR.out]
    go_wp2_with fail
    refine (is_kind _ _ _).mono ?_
    rintro e w' ⟨rfl, rfl⟩
    go_wp2_with fail
    refine (is_kind _ _ _).mono ?_
    rintro e w' ⟨rfl, rfl⟩
    go_wp2_with fail
    go_ret
    exact ⟨rfl, below_trans hb07 hb8⟩

set_option maxRecDepth 100000 in
set_option maxHeartbeats 2000000 in
theorem texts_great (x : Dat) (A : Option Addr) (c : Nat) (w : World) (hl : x.f3.length ≤ c) (hC : Kd.C kD w A x.f3.length x.f3) (htab : Tab w) (hsm : smallD x = false) :
    Calls Tryd.prog 12 #[.agg #[.int .i64 x.f0, .int .i64 x.f1, .string x.f2, .slice A x.f3.length c]] w fun e w' => e = .returned (.bool true) ∧ Below w.heap.size w w' := by
  obtain ⟨W1, hW1⟩ : ∃ W1, W1 = w.alloc (.cells #[.int .i64 x.f0, .int .i64 x.f1, .string x.f2, .slice A x.f3.length c] 84) := ⟨_, rfl⟩
  have hbox := fun (w' : World) (hb : Below W1.heap.size W1 w') => box_cells w (.int .i64 x.f0) (.int .i64 x.f1) (.string x.f2) (.slice A x.f3.length c) 84 w' (by rw [← hW1]; exact hb)
  have HBX := Lib.hid hbox
  have hb1 : Below w.heap.size w W1 := by rw [hW1]; exact (Below.refl _ _).alloc (Nat.le_refl _) _
  have HC := Lib.hid (fun w' (hb : Below w.heap.size w w') => Kd.C_below hC hb)
  have HTab := Lib.hid htab
  have HW := Lib.hid hW1
  have HSm := Lib.hid hsm
  clear hbox hC htab hsm hW1
  go_enter Tryd.func12, Tryd.ntmps12
  go_wp2_with fail
  refine (awake_show _ (by rw [← HW.out]; exact tab_below HTab.out hb1)).mono ?_
  rintro e w1 ⟨rfl, hb2⟩
  rw [← HW.out] at hb2
  have hb02 := below_trans hb1 hb2
  obtain ⟨c0, c1, c2, c3⟩ := HBX.out w1 hb2
  go_wp2_with fail
  refine (spindleref08_Small.calls (3 * szD x) x.f0 x.f1 x.f2 A c x.f3 _ _ (HC.out _ hb02) hl (small_f x _ (Nat.le_refl _))).mono ?_
  rintro e w2 ⟨rfl, hb3⟩
  rw [HSm.out]
  have hb03 := below_trans hb02 hb3
  clear c0 c1 c2 c3 hb3 hb02
  go_wp2_with fail
  refine (awake_show _ (tab_below HTab.out hb03)).mono ?_
  rintro e w3 ⟨rfl, hb4⟩
  go_wp2_with fail
  go_ret
  exact ⟨rfl, below_trans hb03 hb4⟩

set_option maxRecDepth 16000 in
theorem ShowTexts_top {H : Type} {enc : TypeId × Value → H} (W : World) (base : Nat) (v0 : Value) (d0 : DataW H) (p0 : List MemPlace) (hv0 : Value.okWide Tryd.prog W .any base 84 v0) (h0 : DataW.Trod enc Tryd.prog W 0 (fun _ => true) true 84 v0 d0 p0)
    {ts : List TypeId} {ds : List (DataW H)} (_ : (DataW.weightsEach Tryd.prog ts ds).all (· ≤ reachBytes) = true) (hT : Tab W) :
    Calls Tryd.prog 12 #[v0] W fun e w' => e = .returned (.bool true) ∧ Below W.heap.size W w' := by
  obtain ⟨x, A, c, rfl, hl, hC⟩ := dat_open hv0 h0
  have hR : smallD x = true ∨ smallD x = false := by cases smallD x <;> simp
  rcases hR with hR | hR
  · exact texts_small x A c W hl hC hT hR
  · exact texts_great x A c W hl hC hT hR
end Go.Proofs.YthighbbikpnpgaaDoor
