/-
  few: are arguments few and small?
-/
import Derived.Test.YtneokkhnjnomdaaGreatDoorGrB
namespace Go.Proofs.YtneokkhnjnomdaaGreatDoor
open Go.RowKit Go.Proofs.YtneokkhnjnomdaaGreatDoor.PSh Go.Proofs.YtneokkhnjnomdaaGreatDoorW.PrintWords Go.ChangeShapes Go.WideShapes

theorem few_end {a b : Bool} (h : b = a) : Ending.returned (.bool a) = .returned (.bool b) := by rw [h]

set_option maxRecDepth 400000 in
set_option maxHeartbeats 8000000 in
theorem few_any (l : List Dat) (A : Option Addr) (c : Nat) (W : World) (hC : Kd.C kD W A l.length l) :
    Calls Tryz.prog 7 #[.slice A l.length c] W (Giv (.bool (fewL l)) W) := by
  have HC := Lib.hid (fun w' (hb : Below W.heap.size W w') => Kd.C_below hC hb)
  have h63 : l.length ≤ 9223372036854775807 := hC.2.1
  clear hC
  by_cases h40 : l.length ≤ 40
  · have t1 : decide ((40 : Int) < (l.length : Nat)) = false := decide_eq_false (by omega)
    have HF := Lib.hid (show fewL l = l.all fewX by unfold fewL; rw [decide_eq_true h40, Bool.true_and])
    clear h40
    go_enter Tryz.func7, Tryz.ntmps7
    go_wp2_with fail
    go_loopw [10] (fun i wr => ∃ j : Nat, j ≤ l.length ∧ i = .int .i64 (j : Nat) ∧ Hid (Below W.heap.size W wr) ∧ Hid (fewL l = (l.drop j).all fewX)) (fun i _ => l.length - (intOf i).toNat)
    case atStart => exact ⟨0, Nat.zero_le _, rfl, Lib.hid (Below.refl _ _), Lib.hid (by rw [HF.out]; rfl)⟩
    case round =>
      obtain ⟨j, hj, rfl, HB, HR⟩ := hrel
      by_cases hlt : j < l.length
      · obtain ⟨ad, rfl, A', c', hDj⟩ := dat_item (HC.out _ HB.out) j hlt hlt
        have HLT := Lib.hid hlt
        have hs : fewL l = (fewX (l[j]'hlt) && (l.drop (j + 1)).all fewX) := by rw [HR.out, List.drop_eq_getElem_cons hlt, List.all_cons]
        obtain ⟨x, hx⟩ : ∃ x, l[j]'hlt = x := ⟨_, rfl⟩
        rw [hx] at hDj hs
        have HS := Lib.hid hs
        have d0 := hDj.c0
        have d1 := hDj.c1
        have d2 := hDj.c2
        have d3 := hDj.c3
        have hlx := hDj.len
        obtain ⟨W1, hW1⟩ : ∃ W1, W1 = wr.alloc (.cells #[.int .i64 x.f0, .int .i64 x.f1, .string x.f2, .slice A' x.f3.length c'] 26) := ⟨_, rfl⟩
        have HBX := Lib.hid (fun (w' : World) (hb : Below W1.heap.size W1 w') => box_cells wr (.int .i64 x.f0) (.int .i64 x.f1) (.string x.f2) (.slice A' x.f3.length c') 26 w' (by rw [← hW1]; exact hb))
        have hbw : Below wr.heap.size wr W1 := by rw [hW1]; exact (Below.refl _ _).alloc (Nat.le_refl _) _
        have HBW := Lib.hid hbw
        have HCx := Lib.hid (fun w' (hb : Below wr.heap.size wr w') => Kd.C_below hDj.items hb)
        have HW := Lib.hid hW1
        clear hDj hx hW1 hs hbw
        go_wp2_with fail
        refine (spindleref08_Small.calls (3 * szD x) x.f0 x.f1 x.f2 A' c' x.f3 _ _ (HCx.out _ (by rw [← HW.out]; exact HBW.out)) hlx (small_f x _ (Nat.le_refl _))).mono ?_
        rintro e w2 ⟨rfl, hb2⟩
        rw [← HW.out] at hb2
        have HB2 := Lib.hid hb2
        have hsm : smallD x = true ∨ smallD x = false := by cases smallD x <;> simp
        clear d0 d1 d2 d3 hb2
        rcases hsm with hsm | hsm
        · have HSM := Lib.hid hsm
          rw [hsm]
          clear hsm
          obtain ⟨e0, e1, e2, e3⟩ := HBX.out w2 HB2.out
          go_wp2_with fail
          refine (spindleref08_Parts.calls (3 * szD x) x.f0 x.f1 x.f2 A' c' x.f3 _ _ (HCx.out _ (below_trans HBW.out HB2.out)) hlx (parts_f x _ (Nat.le_refl _))).mono ?_
          rintro e w3 ⟨rfl, hb3⟩
          have HB3 := Lib.hid (below_trans HB.out (below_trans HBW.out (below_trans HB2.out hb3)))
          clear hb3 e0 e1 e2 e3
          by_cases h300 : (300 : Int) < (cnt x 0 : Nat)
          · have t2 : decide ((300 : Int) < (cnt x 0 : Nat)) = true := decide_eq_true h300
            have HN := Lib.hid (show fewL l = false by rw [HS.out]; unfold fewX; rw [decide_eq_false (show ¬ cnt x 0 ≤ 300 by omega)]; simp)
            clear h300
            go_wp2_with fail
            go_ret
            exact ⟨few_end HN.out, HB3.out⟩
          · have t2 : decide ((300 : Int) < (cnt x 0 : Nat)) = false := decide_eq_false h300
            have HN := Lib.hid (show fewL l = (l.drop (j + 1)).all fewX by rw [HS.out]; unfold fewX; rw [HSM.out, decide_eq_true (show cnt x 0 ≤ 300 by omega)]; simp)
            clear h300
            go_wp2_with fail
            go_roundw
            case rel => exact ⟨j + 1, HLT.out, by go_num, HB3, HN⟩
            case measure => have := HLT.out; simp [intOf]; omega
        · have HN := Lib.hid (show fewL l = false by rw [HS.out]; unfold fewX; rw [hsm]; simp)
          have HB3 := Lib.hid (below_trans HB.out (below_trans HBW.out HB2.out))
          rw [hsm]
          clear hsm
          go_wp2_with fail
          go_ret
          exact ⟨few_end HN.out, HB3.out⟩
      · obtain rfl : j = l.length := by omega
        have HN := Lib.hid (show fewL l = true by rw [HR.out, List.drop_length]; rfl)
        go_wp2_with fail
        go_ret
        exact ⟨few_end HN.out, HB.out⟩
  · have t1 : decide ((40 : Int) < (l.length : Nat)) = true := decide_eq_true (by omega)
    have HN := Lib.hid (show fewL l = false by unfold fewL; rw [decide_eq_false h40, Bool.false_and])
    clear h40
    go_enter Tryz.func7, Tryz.ntmps7
    go_wp2_with fail
    go_ret
    exact ⟨few_end HN.out, Below.refl _ _⟩

theorem few_parts {l : List Dat} (h : fewL l = true) : ∀ x ∈ l, smallD x = true ∧ cnt x 0 ≤ 300 ∧ prt x ≤ 300 := by
  intro x hx
  unfold fewL at h
  simp only [Bool.and_eq_true] at h
  have h2 := List.all_eq_true.1 h.2 x hx
  unfold fewX at h2
  simp only [Bool.and_eq_true, decide_eq_true_eq] at h2
  refine ⟨h2.1, h2.2, ?_⟩
  have := cnt_prt (szD x + 1) x (by omega) 0 (by omega)
  omega
theorem few_len {l : List Dat} (h : fewL l = true) : l.length ≤ 40 := by
  unfold fewL at h
  simp only [Bool.and_eq_true, decide_eq_true_eq] at h
  exact h.1
end Go.Proofs.YtneokkhnjnomdaaGreatDoor
