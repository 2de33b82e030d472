/-
  The closures that Eval hands on.
-/
import Derived.Test.YtneokkhnjnomdaaGreatDoorPrB
namespace Go.Proofs.YtneokkhnjnomdaaGreatDoor
open Go.RowKit Go.Proofs.YtneokkhnjnomdaaGreatDoorW.PrintWords

/-- What a datum's numbers are bound by, and its parts. -/
structure NdOk (d : Nd) (p : Int) (w : World) : Prop where
  n0 : -9223372036854775808 ≤ d.n
  n1 : d.n ≤ 9223372036854775807
  few : ¬ 4000 < p
  parts : ∀ w', Below w.heap.size w w' → Calls Tryz.prog 54 #[d.val] w' (Giv (.int .i64 p) w')
theorem NdOk.later {d : Nd} {p : Int} {w w' : World} (h : NdOk d p w) (hb : Below w.heap.size w w') : NdOk d p w' :=
  ⟨h.n0, h.n1, h.few, fun w2 hb2 => h.parts w2 (below_step hb hb2)⟩

theorem plain_high {d : Nd} (h : ¬ d.k ≤ 5) : plainN d = false := by
  simp [plainN, show ¬ d.k = 1 by omega, show ¬ d.k = 2 by omega, show ¬ d.k = 3 by omega, show ¬ d.k = 4 by omega, show ¬ d.k = 5 by omega]

set_option maxRecDepth 100000 in
set_option maxHeartbeats 4000000 in
theorem clo1_of (d : Nd) (p : Int) (w : World) (h : NdOk d p w) : Calls Tryz.prog 26 #[d.val] w (Giv (.bool (plainN d)) w) := by
  have HH := Lib.hid h
  clear h
  by_cases h5 : d.k ≤ 5
  · have b5 : decide (d.k ≤ 5) = true := decide_eq_true h5
    have HC := Lib.hid (fun w' (hb : Below w.heap.size w w') => check_of d w' h5 HH.out.n0 HH.out.n1 p HH.out.few (fun w2 hb2 => HH.out.parts w2 (below_step hb hb2)))
    have hpl : plainN d = true ∨ plainN d = false := by cases plainN d <;> simp
    rcases hpl with hpl | hpl
    · rw [hpl] at HC ⊢
      rw [if_pos rfl] at HC
      clear hpl
      go_enter Tryz.func26, Tryz.ntmps26
      go_wp2_with fail
      have HB := Lib.hid (below_alloc (Below.refl w.heap.size w) d.obj)
      refine (HC.out _ HB.out).mono ?_
      rintro e w2 ⟨rfl, hb2⟩
      have HB2 := Lib.hid (below_step HB.out hb2)
      clear hb2
      go_wp2_with fail
      go_ret
      exact ⟨rfl, HB2.out⟩
    · rw [hpl] at HC ⊢
      rw [if_neg (by decide)] at HC
      clear hpl
      go_enter Tryz.func26, Tryz.ntmps26
      go_wp2_with fail
      have HB := Lib.hid (below_alloc (Below.refl w.heap.size w) d.obj)
      refine (HC.out _ HB.out).mono ?_
      rintro e w2 ⟨rfl, hb2⟩
      have HB2 := Lib.hid (below_step HB.out hb2)
      clear hb2
      go_wp2_with fail
      go_ret
      exact ⟨rfl, HB2.out⟩
  · have b5 : decide (d.k ≤ 5) = false := decide_eq_false h5
    rw [plain_high h5]
    go_enter Tryz.func26, Tryz.ntmps26
    go_wp2_with fail
    go_ret
    exact ⟨rfl, below_alloc (Below.refl _ _) _⟩

set_option maxRecDepth 100000 in
set_option maxHeartbeats 4000000 in
theorem clo3_of (d : Nd) (k : Int) (w : World) : Calls Tryz.prog 32 #[d.val, .int .i64 k] w (Giv (.bool (d.k == k)) w) := by
  go_enter Tryz.func32, Tryz.ntmps32
  go_wp2_with fail
  go_ret
  exact ⟨rfl, below_alloc (Below.refl _ _) _⟩

/-- The variable that holds the test. -/
def PlainAt (pb : Nat) (w : World) : Prop := w.heap[pb]? = some (.cells #[.func (.func 26) #[] #[]] 28 (0, 0))

set_option maxRecDepth 100000 in
set_option maxHeartbeats 4000000 in
theorem clo2_of (pb : Nat) (d : Nd) (p : Int) (w : World) (hp : PlainAt pb w) (h : NdOk d p w) : Calls Tryz.prog 29 #[d.val, .pointer (some ⟨pb, 0, none⟩)] w (Giv (.bool (!plainN d)) w) := by
  have c0 : (w.alloc (.cells #[.int .i64 d.k, .int .i64 d.n, .string d.t, .slice d.a d.m d.c] 26)).cell? ⟨pb, 0, none⟩ = some (.func (.func 26) #[] #[]) := blk_cell (blk_alloc hp _) 0
  have HH := Lib.hid h
  clear h hp
  go_enter Tryz.func29, Tryz.ntmps29
  go_wp2_with fail
  have HB := Lib.hid (below_alloc (Below.refl w.heap.size w) d.obj)
  refine (clo1_of d p _ (HH.out.later HB.out)).mono ?_
  rintro e w2 ⟨rfl, hb2⟩
  have HB2 := Lib.hid (below_step HB.out hb2)
  clear hb2
  go_wp2_with fail
  go_ret
  exact ⟨rfl, HB2.out⟩
end Go.Proofs.YtneokkhnjnomdaaGreatDoor
