/-
  One datum: its parts are counted, and what may be plain is told.
-/
import Derived.Test.YtneokkhnjnomdaaGreatDoorPrA
import Derived.Test.YtneokkhnjnomdaaGreatDoorGB2
import Derived.Test.YtneokkhnjnomdaaGreatDoorPrU
namespace Go.Proofs.YtneokkhnjnomdaaGreatDoor
open Go.RowKit Go.Proofs.YtneokkhnjnomdaaGreatDoorW.PrintWords

structure Nd where
  k : Int
  n : Int
  t : ByteArray
  a : Option Addr
  m : Nat
  c : Nat
abbrev Nd.val (d : Nd) : Value := .agg #[.int .i64 d.k, .int .i64 d.n, .string d.t, .slice d.a d.m d.c]
abbrev Nd.obj (d : Nd) : Obj := .cells #[.int .i64 d.k, .int .i64 d.n, .string d.t, .slice d.a d.m d.c] 26 (0, 0)

/-- It returned v, and changed nothing that there was. -/
structure Giv (v : Value) (w : World) (e : Ending) (w' : World) : Prop where
  ret : e = .returned v
  below : Below w.heap.size w w'

def plainN (d : Nd) : Bool :=
  decide (d.m = 0) && (if d.k = 1 then decide (d.t.data.toList = []) && decide (d.n ≤ 1152921504606846975) && decide (-1152921504606846976 ≤ d.n)
  else if d.k = 2 then decide (d.t.data.toList = []) && decide (d.n = 0 ∨ d.n = 1)
  else if d.k = 3 then decide (d.t.data.toList = []) && decide (0 ≤ d.n ∧ d.n ≤ 255)
  else if d.k = 4 then decide (d.n = 0) && decide (d.t.size ≤ 500)
  else if d.k = 5 then decide (d.n = 0) && symL d.t.data.toList else false)

set_option maxRecDepth 100000 in
set_option maxHeartbeats 4000000 in
theorem counted_nil (b : Nat) (d : Nd) (x : Int) (w : World) (h : w.heap[b]? = some d.obj) (hm : d.m = 0) (h0 : 0 ≤ x) (h1 : x ≤ 1000000) :
    Calls Tryz.prog 78 #[.pointer (some ⟨b, 0, none⟩), .int .i64 x] w fun e w' => e = .returned (.int .i64 (x + 1)) ∧ w' = w := by
  have c3 : w.cell? ⟨b, 3, none⟩ = some (.slice d.a 0 d.c) := by rw [← hm]; exact blk_cell h 3
  clear h hm
  go_enter Tryz.func78, Tryz.ntmps78
  go_wp2_with fail
  refine wp_loop_rounds 1 ?_
  rw [rounds_succ]
  go_wp2_with fail
  go_ret
  exact ⟨rfl, rfl⟩

set_option maxRecDepth 100000 in
set_option maxHeartbeats 4000000 in
theorem parts_nil (d : Nd) (w : World) (hm : d.m = 0) : Calls Tryz.prog 54 #[d.val] w (Giv (.int .i64 1) w) := by
  have HM := Lib.hid hm
  clear hm
  go_enter Tryz.func54, Tryz.ntmps54
  go_wp2_with fail
  refine (counted_nil w.heap.size d 0 _ (blk_new w _) HM.out (by omega) (by omega)).mono ?_
  rintro e w' ⟨rfl, rfl⟩
  go_wp2_with fail
  go_ret
  exact ⟨rfl, below_alloc (Below.refl _ _) _⟩

set_option maxRecDepth 100000 in
set_option maxHeartbeats 8000000 in
theorem fits_plain (b : Nat) (d : Nd) (w : World) (h : w.heap[b]? = some d.obj) (h5 : d.k ≤ 5) (hn0 : -9223372036854775808 ≤ d.n) (hn1 : d.n ≤ 9223372036854775807) :
    Calls Tryz.prog 55 #[.pointer (some ⟨b, 0, none⟩), .int .i64 0] w (Giv (.bool (plainN d)) w) := by
  have c0 : w.cell? ⟨b, 0, none⟩ = some (.int .i64 d.k) := blk_cell h 0
  have c1 : w.cell? ⟨b, 1, none⟩ = some (.int .i64 d.n) := blk_cell h 1
  have c2 : w.cell? ⟨b, 2, none⟩ = some (.string d.t) := blk_cell h 2
  have c3 : w.cell? ⟨b, 3, none⟩ = some (.slice d.a d.m d.c) := blk_cell h 3
  clear h
  by_cases hk : d.k = 1
  · rw [hk] at c0
    by_cases hm : d.m = 0
    · have am : (d.m : Int) = 0 := by omega
      have bm : ((d.m : Int) == 0) = true := by simp [am]
      by_cases ht : d.t.data.toList = []
      · have at1 : d.t.toList = [] := by rw [ByteArray.toList_eq]; exact ht
        have bt : (d.t.toList == []) = true := by simp [at1]
        by_cases hu : d.n ≤ 1152921504606846975
        · have bu : decide (d.n ≤ 1152921504606846975) = true := decide_eq_true hu
          by_cases hv : -1152921504606846976 ≤ d.n
          · have bv : decide (-1152921504606846976 ≤ d.n) = true := decide_eq_true hv
            rw [show plainN d = true by simp [plainN, hk, hm, ht, hu, hv]]
            go_enter Tryz.func55, Tryz.ntmps55
            go_wp2_with fail
            go_ret
            exact ⟨rfl, Below.refl _ _⟩
          · have bv : decide (-1152921504606846976 ≤ d.n) = false := decide_eq_false hv
            rw [show plainN d = false by simp [plainN, hk, hm, ht, hu, hv]]
            go_enter Tryz.func55, Tryz.ntmps55
            go_wp2_with fail
            go_ret
            exact ⟨rfl, Below.refl _ _⟩
        · have bu : decide (d.n ≤ 1152921504606846975) = false := decide_eq_false hu
          rw [show plainN d = false by simp [plainN, hk, hm, ht, hu]]
          go_enter Tryz.func55, Tryz.ntmps55
          go_wp2_with fail
          go_ret
          exact ⟨rfl, Below.refl _ _⟩
      · have at1 : ¬ d.t.toList = [] := by rw [ByteArray.toList_eq]; exact ht
        have bt : (d.t.toList == []) = false := by simpa using at1
        rw [show plainN d = false by simp [plainN, hk, hm, ht]]
        go_enter Tryz.func55, Tryz.ntmps55
        go_wp2_with fail
        go_ret
        exact ⟨rfl, Below.refl _ _⟩
    · have am : ¬ (d.m : Int) = 0 := by omega
      have bm : ((d.m : Int) == 0) = false := beq_eq_false_iff_ne.2 am
      rw [show plainN d = false by simp [plainN, hk, hm]]
      go_enter Tryz.func55, Tryz.ntmps55
      go_wp2_with fail
      go_ret
      exact ⟨rfl, Below.refl _ _⟩
  have k1 : (d.k == 1) = false := beq_eq_false_iff_ne.2 hk
  have n1 : ¬ d.k = 1 := hk
  clear hk
  by_cases hk : d.k = 2
  · rw [hk] at c0
    by_cases hm : d.m = 0
    · have am : (d.m : Int) = 0 := by omega
      have bm : ((d.m : Int) == 0) = true := by simp [am]
      by_cases ht : d.t.data.toList = []
      · have at1 : d.t.toList = [] := by rw [ByteArray.toList_eq]; exact ht
        have bt : (d.t.toList == []) = true := by simp [at1]
        rw [show plainN d = (d.n / 2 == 0) by rw [Bool.eq_iff_iff]; simp [plainN, hk, hm, ht]; omega]
        go_enter Tryz.func55, Tryz.ntmps55
        go_wp2_with fail
        go_ret
        exact ⟨rfl, Below.refl _ _⟩
      · have at1 : ¬ d.t.toList = [] := by rw [ByteArray.toList_eq]; exact ht
        have bt : (d.t.toList == []) = false := by simpa using at1
        rw [show plainN d = false by simp [plainN, hk, hm, ht]]
        go_enter Tryz.func55, Tryz.ntmps55
        go_wp2_with fail
        go_ret
        exact ⟨rfl, Below.refl _ _⟩
    · have am : ¬ (d.m : Int) = 0 := by omega
      have bm : ((d.m : Int) == 0) = false := beq_eq_false_iff_ne.2 am
      rw [show plainN d = false by simp [plainN, hk, hm]]
      go_enter Tryz.func55, Tryz.ntmps55
      go_wp2_with fail
      go_ret
      exact ⟨rfl, Below.refl _ _⟩
  have k2 : (d.k == 2) = false := beq_eq_false_iff_ne.2 hk
  have n2 : ¬ d.k = 2 := hk
  clear hk
  by_cases hk : d.k = 3
  · rw [hk] at c0
    by_cases hm : d.m = 0
    · have am : (d.m : Int) = 0 := by omega
      have bm : ((d.m : Int) == 0) = true := by simp [am]
      by_cases ht : d.t.data.toList = []
      · have at1 : d.t.toList = [] := by rw [ByteArray.toList_eq]; exact ht
        have bt : (d.t.toList == []) = true := by simp [at1]
        rw [show plainN d = (d.n / 256 == 0) by rw [Bool.eq_iff_iff]; simp [plainN, hk, hm, ht]; omega]
        go_enter Tryz.func55, Tryz.ntmps55
        go_wp2_with fail
        go_ret
        exact ⟨rfl, Below.refl _ _⟩
      · have at1 : ¬ d.t.toList = [] := by rw [ByteArray.toList_eq]; exact ht
        have bt : (d.t.toList == []) = false := by simpa using at1
        rw [show plainN d = false by simp [plainN, hk, hm, ht]]
        go_enter Tryz.func55, Tryz.ntmps55
        go_wp2_with fail
        go_ret
        exact ⟨rfl, Below.refl _ _⟩
    · have am : ¬ (d.m : Int) = 0 := by omega
      have bm : ((d.m : Int) == 0) = false := beq_eq_false_iff_ne.2 am
      rw [show plainN d = false by simp [plainN, hk, hm]]
      go_enter Tryz.func55, Tryz.ntmps55
      go_wp2_with fail
      go_ret
      exact ⟨rfl, Below.refl _ _⟩
  have k3 : (d.k == 3) = false := beq_eq_false_iff_ne.2 hk
  have n3 : ¬ d.k = 3 := hk
  clear hk
  by_cases hk : d.k = 4
  · rw [hk] at c0
    by_cases hm : d.m = 0
    · have am : (d.m : Int) = 0 := by omega
      have bm : ((d.m : Int) == 0) = true := by simp [am]
      by_cases hz : d.n = 0
      · have bz : (d.n == 0) = true := by simp [hz]
        by_cases hs : d.t.size ≤ 500
        · have bs : decide ((d.t.size : Int) ≤ 500) = true := decide_eq_true (by omega)
          have as1 : (d.t.size : Int) ≤ 500 := by omega
          rw [show plainN d = true by simp [plainN, hk, hm, hz, hs]]
          go_enter Tryz.func55, Tryz.ntmps55
          go_wp2_with fail
          go_ret
          exact ⟨rfl, Below.refl _ _⟩
        · have bs : decide ((d.t.size : Int) ≤ 500) = false := decide_eq_false (by omega)
          have as1 : ¬ (d.t.size : Int) ≤ 500 := by omega
          rw [show plainN d = false by simp [plainN, hk, hm, hz, hs]]
          go_enter Tryz.func55, Tryz.ntmps55
          go_wp2_with fail
          go_ret
          exact ⟨rfl, Below.refl _ _⟩
      · have bz : (d.n == 0) = false := beq_eq_false_iff_ne.2 hz
        rw [show plainN d = false by simp [plainN, hk, hm, hz]]
        go_enter Tryz.func55, Tryz.ntmps55
        go_wp2_with fail
        go_ret
        exact ⟨rfl, Below.refl _ _⟩
    · have am : ¬ (d.m : Int) = 0 := by omega
      have bm : ((d.m : Int) == 0) = false := beq_eq_false_iff_ne.2 am
      rw [show plainN d = false by simp [plainN, hk, hm]]
      go_enter Tryz.func55, Tryz.ntmps55
      go_wp2_with fail
      go_ret
      exact ⟨rfl, Below.refl _ _⟩
  have k4 : (d.k == 4) = false := beq_eq_false_iff_ne.2 hk
  have n4 : ¬ d.k = 4 := hk
  clear hk
  by_cases hk : d.k = 5
  · rw [hk] at c0
    by_cases hm : d.m = 0
    · have am : (d.m : Int) = 0 := by omega
      have bm : ((d.m : Int) == 0) = true := by simp [am]
      by_cases hz : d.n = 0
      · have bz : (d.n == 0) = true := by simp [hz]
        rw [show plainN d = symL d.t.data.toList by simp [plainN, hk, hm, hz]]
        go_enter Tryz.func55, Tryz.ntmps55
        go_wp2_with fail
        refine (symbol_any _ _).mono ?_
        rintro e w' ⟨rfl, hb⟩
        go_wp2_with fail
        go_ret
        exact ⟨rfl, hb⟩
      · have bz : (d.n == 0) = false := beq_eq_false_iff_ne.2 hz
        rw [show plainN d = false by simp [plainN, hk, hm, hz]]
        go_enter Tryz.func55, Tryz.ntmps55
        go_wp2_with fail
        go_ret
        exact ⟨rfl, Below.refl _ _⟩
    · have am : ¬ (d.m : Int) = 0 := by omega
      have bm : ((d.m : Int) == 0) = false := beq_eq_false_iff_ne.2 am
      rw [show plainN d = false by simp [plainN, hk, hm]]
      go_enter Tryz.func55, Tryz.ntmps55
      go_wp2_with fail
      go_ret
      exact ⟨rfl, Below.refl _ _⟩
  have k5 : (d.k == 5) = false := beq_eq_false_iff_ne.2 hk
  have n5 : ¬ d.k = 5 := hk
  clear hk
  rw [show plainN d = false by simp [plainN, n1, n2, n3, n4, n5]]
  have k7 : (d.k == 7) = false := beq_eq_false_iff_ne.2 (by omega)
  have k6 : (d.k == 6) = false := beq_eq_false_iff_ne.2 (by omega)
  have k8 : (d.k == 8) = false := beq_eq_false_iff_ne.2 (by omega)
  have n7 : ¬ d.k = 7 := by omega
  have n6 : ¬ d.k = 6 := by omega
  have n8 : ¬ d.k = 8 := by omega
  go_enter Tryz.func55, Tryz.ntmps55
  go_wp2_with fail
  go_ret
  exact ⟨rfl, Below.refl _ _⟩

set_option maxRecDepth 100000 in
set_option maxHeartbeats 4000000 in
theorem check_of (d : Nd) (w : World) (h5 : d.k ≤ 5) (hn0 : -9223372036854775808 ≤ d.n) (hn1 : d.n ≤ 9223372036854775807) (p : Int) (hp : ¬ 4000 < p) (cP : ∀ w', Below w.heap.size w w' → Calls Tryz.prog 54 #[d.val] w' (Giv (.int .i64 p) w')) :
    Calls Tryz.prog 27 #[d.val] w (Giv (if plainN d = true then .nilIface else kindV 7) w) := by
  have HC := Lib.hid cP
  have hp2 : decide (4000 < p) = false := decide_eq_false hp
  clear cP
  have hpl : plainN d = true ∨ plainN d = false := by cases plainN d <;> simp
  rcases hpl with hpl | hpl
  · have HPL := Lib.hid hpl
    rw [if_pos hpl]
    clear hpl
    go_enter Tryz.func27, Tryz.ntmps27
    go_wp2_with fail
    have HD := Lib.hid (blk_new w d.obj)
    have HB := Lib.hid (below_alloc (Below.refl w.heap.size w) d.obj)
    refine (HC.out _ HB.out).mono ?_
    rintro e w2 ⟨rfl, hb2⟩
    have HD2 := Lib.hid (blk_below HD.out hb2)
    have HB2 := Lib.hid (below_step HB.out hb2)
    clear hb2
    go_wp2_with fail
    refine (fits_plain w.heap.size d _ HD2.out h5 hn0 hn1).mono ?_
    rintro e w3 ⟨rfl, hb3⟩
    have HB3 := Lib.hid (below_step HB2.out hb3)
    clear hb3
    rw [HPL.out]
    go_wp2_with fail
    go_ret
    exact ⟨rfl, HB3.out⟩
  · have HPL := Lib.hid hpl
    rw [if_neg (by rw [hpl]; decide)]
    clear hpl
    go_enter Tryz.func27, Tryz.ntmps27
    go_wp2_with fail
    have HD := Lib.hid (blk_new w d.obj)
    have HB := Lib.hid (below_alloc (Below.refl w.heap.size w) d.obj)
    refine (HC.out _ HB.out).mono ?_
    rintro e w2 ⟨rfl, hb2⟩
    have HD2 := Lib.hid (blk_below HD.out hb2)
    have HB2 := Lib.hid (below_step HB.out hb2)
    clear hb2
    go_wp2_with fail
    refine (fits_plain w.heap.size d _ HD2.out h5 hn0 hn1).mono ?_
    rintro e w3 ⟨rfl, hb3⟩
    have HB3 := Lib.hid (below_step HB2.out hb3)
    clear hb3
    rw [HPL.out]
    go_wp2_with fail
    go_ret
    exact ⟨rfl, HB3.out⟩
end Go.Proofs.YtneokkhnjnomdaaGreatDoor
