/-
  The reference's names.
-/
import Derived.Test.YtneokkhnjnomdaaDoorPrA
import Derived.Deep.LoopGhost
namespace Go.Proofs.YtneokkhnjnomdaaDoor
open Go.RowKit Go.Proofs.YtneokkhnjnomdaaDoorW.PrintWords

abbrev refCells : Obj := .cells (([] :: nameL).map fun l => Value.string ⟨l.toArray⟩).toArray 9

set_option maxRecDepth 100000 in
set_option maxHeartbeats 4000000 in
theorem refnames_of (w : World) : Calls Tryd.prog 23 #[] w fun e w' => e = .returned (.slice (some ⟨w.heap.size, 0, none⟩) 55 55) ∧ w' = w.alloc refCells := by
  go_enter Tryd.func23, Tryd.ntmps23
  go_wp2_with fail
  go_ret
  exact ⟨rfl, rfl⟩

set_option maxRecDepth 100000 in
theorem refnames_cell (w : World) (j : Nat) (hj : j < 55) : (w.alloc refCells).cell? ⟨w.heap.size, j, none⟩ = some (.string (nameS (([] :: nameL).getD j []))) := by
  rw [blk_cell (blk_new w (.cells (([] :: nameL).map fun l => Value.string ⟨l.toArray⟩).toArray 9 (0, 0))) j]
  have hl : ([] :: nameL).length = 55 := rfl
  generalize ([] :: nameL) = L at hl ⊢
  simp [List.getD, List.getElem?_eq_getElem (show j < L.length by omega), nameS]

set_option maxRecDepth 100000 in
set_option maxHeartbeats 4000000 in
theorem refname_of (n : Int) (w : World) : Calls Tryd.prog 12 #[.int .i64 n] w fun e w' => e = .returned (.string (nameS (nameN n))) ∧ Below w.heap.size w w' := by
  by_cases h1 : n < 1
  · have b1 : decide (n < 1) = true := decide_eq_true h1
    rw [name_lt n (fun h => absurd h.1 (by omega))]
    go_enter Tryd.func12, Tryd.ntmps12
    go_wp2_with fail
    go_ret
    exact ⟨rfl, Below.refl _ _⟩
  · have b1 : decide (n < 1) = false := decide_eq_false h1
    by_cases h2 : 55 ≤ n
    · have b2 : decide (55 ≤ n) = true := decide_eq_true h2
      rw [name_lt n (fun h => absurd h.2 (by omega))]
      have HB := Lib.hid (below_alloc (Below.refl w.heap.size w) refCells)
      go_enter Tryd.func12, Tryd.ntmps12
      go_wp2_with fail
      refine (refnames_of _).mono ?_
      rintro e w' ⟨rfl, rfl⟩
      generalize w.alloc refCells = w2 at HB ⊢
      go_wp2_with fail
      go_ret
      exact ⟨rfl, HB.out⟩
    · have b2 : decide (55 ≤ n) = false := decide_eq_false h2
      have HB := Lib.hid (below_alloc (Below.refl w.heap.size w) refCells)
      have HN := Lib.hid (show ([] :: nameL).getD n.toNat [] = nameN n by
        rw [name_at n (by omega) (by omega)]
        obtain ⟨k, hk⟩ : ∃ k, n.toNat = k + 1 := ⟨n.toNat - 1, by omega⟩
        rw [hk]
        rfl)
      go_enter Tryd.func12, Tryd.ntmps12
      go_wp2_with fail
      refine (refnames_of _).mono ?_
      rintro e w' ⟨rfl, rfl⟩
      have HB2 := Lib.hid (below_step HB.out (below_alloc (Below.refl (w.alloc refCells).heap.size (w.alloc refCells)) refCells))
      have HC := Lib.hid (refnames_cell (w.alloc refCells) n.toNat (by omega))
      clear HB
      generalize w.alloc refCells = w2 at HB2 HC ⊢
      go_wp2_with fail
      refine (refnames_of _).mono ?_
      rintro e w' ⟨rfl, rfl⟩
      have hc := HC.out
      rw [HN.out] at hc
      generalize w2.alloc refCells = w3 at HB2 hc ⊢
      generalize w2.heap.size = g at hc ⊢
      go_wp2_with fail
      go_ret
      exact ⟨rfl, HB2.out⟩

structure RfI (s : ByteArray) (w : World) (k : Nat) (w' : World) : Prop where
  below : Below w.heap.size w w'
  ge : 1 ≤ k
  le : k ≤ 55
  none : ∀ j, j < k - 1 → nameS (nameL.getD j []) ≠ s

theorem names_getD (j : Nat) (hj : j < 54) : (nameL.map nameS).getD j ByteArray.empty = nameS (nameL.getD j []) := by
  have hl2 : nameL.length = 54 := rfl
  simp [List.getD, List.getElem?_eq_getElem (show j < nameL.length by omega), nameS]

set_option maxRecDepth 100000 in
set_option maxHeartbeats 4000000 in
theorem reffind_of (s : ByteArray) (w : World) : Calls Tryd.prog 10 #[.string s] w fun e w' => e = .returned (.int .i64 (findN s)) ∧ Below w.heap.size w w' := by
  have HB := Lib.hid (below_alloc (Below.refl w.heap.size w) refCells)
  have HC := Lib.hid (refnames_cell w)
  have hlen : (nameL.map nameS).length = 54 := rfl
  have HLEN := Lib.hid hlen
  clear hlen
  go_enter Tryd.func10, Tryd.ntmps10
  go_wp2_with fail
  refine (refnames_of _).mono ?_
  rintro e w' ⟨rfl, rfl⟩
  have hg : w.heap.size < (w.alloc refCells).heap.size := by simp
  generalize w.alloc refCells = w2 at HB HC hg ⊢
  generalize w.heap.size = g at HC hg ⊢
  go_wp2_with fail
  go_loopg [4] 54 (fun gk v w' => ∃ (k : Nat), v = .int .i64 (k : Nat) ∧ gk = 55 - k ∧ w' = w2 ∧ Hid (1 ≤ k ∧ k ≤ 55 ∧ ∀ j, j < k - 1 → nameS (nameL.getD j []) ≠ s))
  case atStart => exact ⟨1, rfl, rfl, rfl, Lib.hid ⟨by omega, by omega, fun j hj => absurd hj (by omega)⟩⟩
  case round =>
    obtain ⟨k, rfl, rfl, rfl, HJ⟩ := hrel
    have hk1 := HJ.out.1
    have hk2 := HJ.out.2.1
    by_cases hlt : k < 55
    · have hlt' : (k : Int) < 55 := by omega
      have hb1 : decide ((k : Int) < 55) = true := decide_eq_true hlt'
      have hc := HC.out k hlt
      obtain ⟨x, hx⟩ : ∃ x, nameS (([] :: nameL).getD k []) = x := ⟨_, rfl⟩
      rw [hx] at hc
      have HX := Lib.hid (show nameS (nameL.getD (k - 1) []) = x by
        rw [← hx]
        obtain ⟨j, rfl⟩ : ∃ j, k = j + 1 := ⟨k - 1, by omega⟩
        rfl)
      clear hx
      by_cases hxs : x = s
      · have HE := Lib.hid (show findN s = (k : Int) by
          have := Lib.idxFromS_hit s (nameL.map nameS) (k - 1) 0 (by rw [HLEN.out]; omega) (by rw [names_getD _ (by omega), HX.out]; exact hxs) (fun j hj => by rw [names_getD _ (by omega)]; exact HJ.out.2.2 j hj)
          rw [findN, Lib.idxOfS, this]
          omega)
        have e1 : x.toList = s.toList := by rw [hxs]
        have e2 : (x.toList == s.toList) = true := by simp [e1]
        clear hxs
        go_wp2_with fail
        go_ret
        exact ⟨by rw [HE.out]; rfl, HB.out⟩
      · have e1 : ¬ x.toList = s.toList := fun e => hxs (ByteArray.ext (Array.ext' (by rw [ByteArray.toList_eq, ByteArray.toList_eq] at e; exact e)))
        have e2 : (x.toList == s.toList) = false := by simpa using e1
        have HN := Lib.hid (show ∀ j, j < k + 1 - 1 → nameS (nameL.getD j []) ≠ s from fun j hj => by
          by_cases hjk : j < k - 1
          · exact HJ.out.2.2 j hjk
          · obtain rfl : j = k - 1 := by omega
            rw [HX.out]; exact hxs)
        clear hxs
        go_wp2_with fail
        go_roundg (55 - (k + 1))
        case measure => omega
        case rel => exact ⟨k + 1, rfl, rfl, rfl, Lib.hid ⟨by omega, by omega, HN.out⟩⟩
    · have hlt' : ¬ (k : Int) < 55 := by omega
      have hb1 : decide ((k : Int) < 55) = false := decide_eq_false hlt'
      have HE := Lib.hid (show findN s = 0 by
        have := Lib.idxFromS_miss s (nameL.map nameS) 0 (fun j hj => by rw [HLEN.out] at hj; rw [names_getD _ hj]; exact HJ.out.2.2 j (by omega))
        rw [findN, Lib.idxOfS, this]
        rfl)
      go_wp2_with fail
      go_ret
      exact ⟨by rw [HE.out]; rfl, HB.out⟩

set_option maxRecDepth 100000 in
set_option maxHeartbeats 4000000 in
theorem refpure_of (n : Int) (w : World) : Calls Tryd.prog 14 #[.int .i64 n] w fun e w' => e = .returned (.bool (pureB n)) ∧ w' = w := by
  have hc : n < 1 ∨ (1 ≤ n ∧ n ≤ 8) ∨ (9 ≤ n ∧ n ≤ 28) ∨ (29 ≤ n ∧ n ≤ 39) ∨ 40 ≤ n := by omega
  rcases hc with hc | hc | hc | hc | hc
  · have hv : pureB n = false := by rw [pureB]; exact decide_eq_false (by omega)
    have b0 : decide (1 ≤ n) = false := decide_eq_false (by omega)
    have b1 : decide (29 ≤ n) = false := decide_eq_false (by omega)
    have c0 : ¬ 1 ≤ n := by omega
    have c1 : ¬ 29 ≤ n := by omega
    rw [hv]
    clear hv
    go_enter Tryd.func14, Tryd.ntmps14
    go_wp2_with fail
    go_ret
    exact ⟨rfl, rfl⟩
  · have hv : pureB n = true := by rw [pureB]; exact decide_eq_true (by omega)
    have b0 : decide (1 ≤ n) = true := decide_eq_true (by omega)
    have b1 : decide (n ≤ 8) = true := decide_eq_true (by omega)
    have c0 : 1 ≤ n := by omega
    have c1 : n ≤ 8 := by omega
    rw [hv]
    clear hv
    go_enter Tryd.func14, Tryd.ntmps14
    go_wp2_with fail
    go_ret
    exact ⟨rfl, rfl⟩
  · have hv : pureB n = false := by rw [pureB]; exact decide_eq_false (by omega)
    have b0 : decide (1 ≤ n) = true := decide_eq_true (by omega)
    have b1 : decide (n ≤ 8) = false := decide_eq_false (by omega)
    have b2 : decide (29 ≤ n) = false := decide_eq_false (by omega)
    have c0 : 1 ≤ n := by omega
    have c1 : ¬ n ≤ 8 := by omega
    have c2 : ¬ 29 ≤ n := by omega
    rw [hv]
    clear hv
    go_enter Tryd.func14, Tryd.ntmps14
    go_wp2_with fail
    go_ret
    exact ⟨rfl, rfl⟩
  · have hv : pureB n = true := by rw [pureB]; exact decide_eq_true (by omega)
    have b0 : decide (1 ≤ n) = true := decide_eq_true (by omega)
    have b1 : decide (n ≤ 8) = false := decide_eq_false (by omega)
    have b2 : decide (29 ≤ n) = true := decide_eq_true (by omega)
    have b3 : decide (n ≤ 39) = true := decide_eq_true (by omega)
    have c0 : 1 ≤ n := by omega
    have c1 : ¬ n ≤ 8 := by omega
    have c2 : 29 ≤ n := by omega
    have c3 : n ≤ 39 := by omega
    rw [hv]
    clear hv
    go_enter Tryd.func14, Tryd.ntmps14
    go_wp2_with fail
    go_ret
    exact ⟨rfl, rfl⟩
  · have hv : pureB n = false := by rw [pureB]; exact decide_eq_false (by omega)
    have b0 : decide (1 ≤ n) = true := decide_eq_true (by omega)
    have b1 : decide (n ≤ 8) = false := decide_eq_false (by omega)
    have b2 : decide (29 ≤ n) = true := decide_eq_true (by omega)
    have b3 : decide (n ≤ 39) = false := decide_eq_false (by omega)
    have c0 : 1 ≤ n := by omega
    have c1 : ¬ n ≤ 8 := by omega
    have c2 : 29 ≤ n := by omega
    have c3 : ¬ n ≤ 39 := by omega
    rw [hv]
    clear hv
    go_enter Tryd.func14, Tryd.ntmps14
    go_wp2_with fail
    go_ret
    exact ⟨rfl, rfl⟩
end Go.Proofs.YtneokkhnjnomdaaDoor
