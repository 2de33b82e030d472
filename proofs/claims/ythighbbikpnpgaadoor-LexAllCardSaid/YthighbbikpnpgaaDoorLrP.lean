/-
  Two rows of tokens are held against one another.
-/
import Derived.Test.YthighbbikpnpgaaDoorLrE
import Derived.Test.YthighbbikpnpgaaDoorLrR
import Derived.Deep.RegionHeld3
namespace Go.Proofs.YthighbbikpnpgaaDoor
open Go.RowKit Go.Proofs.YthighbbikpnpgaaDoorW.PrintWords

/-- A row of tokens lies there. -/
structure RowAt (L : List TokR) (v : Value) (w : World) : Prop where
  row : ∃ A cap, v = .slice A L.length cap ∧ ∀ k x, (L.flatMap tokCells)[k]? = some x → ∃ g, A = some ⟨g, 0, none⟩ ∧ g < w.heap.size ∧ w.cell? ⟨g, k, none⟩ = some x
theorem RowAt.below {L : List TokR} {v : Value} {w w' : World} (h : RowAt L v w) (hb : Below w.heap.size w w') : RowAt L v w' := by
  obtain ⟨A, cap, rfl, hc⟩ := h.row
  refine ⟨⟨A, cap, rfl, fun k x hx => ?_⟩⟩
  obtain ⟨g, e, hg, h⟩ := hc k x hx
  exact ⟨g, e, Nat.lt_of_lt_of_le hg hb.size, (hb.cell hg).trans h⟩

set_option maxRecDepth 400000 in
set_option maxHeartbeats 8000000 in
theorem same_toks (L : List TokR) (v1 v2 : Value) (w : World) (h1 : RowAt L v1 w) (h2 : RowAt L v2 w) (hL : L.length ≤ 1000000000) : Calls Tryd.prog 37 #[v1, v2] w (NextTo (.bool true) w) := by
  obtain ⟨A1, cap1, rfl, hc1⟩ := h1.row
  obtain ⟨A2, cap2, rfl, hc2⟩ := h2.row
  have HC1 := Lib.hid hc1
  have HC2 := Lib.hid hc2
  clear hc1 hc2 h1 h2
  go_enter Tryd.func37, Tryd.ntmps37
  go_wp2_with fail
  go_loopg [5] L.length (fun gk v w' => ∃ (k : Nat), v = .int .i64 (k : Nat) ∧ gk = L.length - k ∧ k ≤ L.length ∧ Hid (Below w.heap.size w w'))
  case atStart => exact ⟨0, rfl, rfl, Nat.zero_le _, Lib.hid (Below.refl _ _)⟩
  case round =>
    obtain ⟨k, rfl, rfl, hk, HJ⟩ := hrel
    by_cases hlt : k < L.length
    · have hlt' : (k : Int) < (L.length : Nat) := by omega
      obtain ⟨t, ht⟩ : ∃ t, L[k] = t := ⟨_, rfl⟩
      have hfl := flat_at L k hlt
      rw [ht] at hfl
      obtain ⟨g1, rfl, hg1, -⟩ := HC1.out (k * 6) _ (hfl 0 (by omega))
      obtain ⟨g2, rfl, hg2, -⟩ := HC2.out (k * 6) _ (hfl 0 (by omega))
      have hcs1 : ∀ j x, j < 6 → (tokCells t)[j]? = some x → wr.cell? ⟨g1, k * 6 + j, none⟩ = some x := fun j x hj hx => by
        obtain ⟨g', e, _, h⟩ := HC1.out (k * 6 + j) x ((hfl j hj).trans hx)
        injection e with e
        injection e with e
        subst e
        exact (HJ.out.cell hg1).trans h
      have hcs2 : ∀ j x, j < 6 → (tokCells t)[j]? = some x → wr.cell? ⟨g2, k * 6 + j, none⟩ = some x := fun j x hj hx => by
        obtain ⟨g', e, _, h⟩ := HC2.out (k * 6 + j) x ((hfl j hj).trans hx)
        injection e with e
        injection e with e
        subst e
        exact (HJ.out.cell hg2).trans h
      have k0 : wr.cell? ⟨g1, k * 6, none⟩ = some (.int .i64 t.k) := hcs1 0 _ (by omega) rfl
      have k1 : wr.cell? ⟨g1, k * 6 + 1, none⟩ = some (.int .i64 t.n) := hcs1 1 _ (by omega) rfl
      have k2 : wr.cell? ⟨g1, k * 6 + 2, none⟩ = some (.string ⟨t.x.toArray⟩) := hcs1 2 _ (by omega) rfl
      have k3 : wr.cell? ⟨g1, k * 6 + 3, none⟩ = some (.int .i64 t.ln) := hcs1 3 _ (by omega) rfl
      have k4 : wr.cell? ⟨g1, k * 6 + 4, none⟩ = some (.int .i64 t.cl) := hcs1 4 _ (by omega) rfl
      have k5 : wr.cell? ⟨g1, k * 6 + 5, none⟩ = some (.int .i64 (t.nx : Nat)) := hcs1 5 _ (by omega) rfl
      have m0 : wr.cell? ⟨g2, k * 6, none⟩ = some (.int .i64 t.k) := hcs2 0 _ (by omega) rfl
      have m1 : wr.cell? ⟨g2, k * 6 + 1, none⟩ = some (.int .i64 t.n) := hcs2 1 _ (by omega) rfl
      have m2 : wr.cell? ⟨g2, k * 6 + 2, none⟩ = some (.string ⟨t.x.toArray⟩) := hcs2 2 _ (by omega) rfl
      have m3 : wr.cell? ⟨g2, k * 6 + 3, none⟩ = some (.int .i64 t.ln) := hcs2 3 _ (by omega) rfl
      have m4 : wr.cell? ⟨g2, k * 6 + 4, none⟩ = some (.int .i64 t.cl) := hcs2 4 _ (by omega) rfl
      have m5 : wr.cell? ⟨g2, k * 6 + 5, none⟩ = some (.int .i64 (t.nx : Nat)) := hcs2 5 _ (by omega) rfl
      have hne : ∀ w, (binOp .neq TT (.agg #[.int .i64 t.k, .int .i64 t.n, .string ⟨t.x.toArray⟩, .int .i64 t.ln, .int .i64 t.cl, .int .i64 (t.nx : Nat)]) (.agg #[.int .i64 t.k, .int .i64 t.n, .string ⟨t.x.toArray⟩, .int .i64 t.ln, .int .i64 t.cl, .int .i64 (t.nx : Nat)])).run Tryd.prog w = .ok (.bool false) w := fun w => tok_neq t w
      clear hcs1 hcs2 hfl ht
      go_wp2_with fail
      go_region_held3 (fun w' => w'.cell? ⟨g1, k * 6, none⟩ = some (.int .i64 t.k) ∧ w'.cell? ⟨g1, k * 6 + 1, none⟩ = some (.int .i64 t.n) ∧ w'.cell? ⟨g1, k * 6 + 2, none⟩ = some (.string ⟨t.x.toArray⟩) ∧ w'.cell? ⟨g1, k * 6 + 3, none⟩ = some (.int .i64 t.ln) ∧ w'.cell? ⟨g1, k * 6 + 4, none⟩ = some (.int .i64 t.cl) ∧ w'.cell? ⟨g1, k * 6 + 5, none⟩ = some (.int .i64 (t.nx : Nat)) ∧ w'.cell? ⟨g2, k * 6, none⟩ = some (.int .i64 t.k) ∧ w'.cell? ⟨g2, k * 6 + 1, none⟩ = some (.int .i64 t.n) ∧ w'.cell? ⟨g2, k * 6 + 2, none⟩ = some (.string ⟨t.x.toArray⟩) ∧ w'.cell? ⟨g2, k * 6 + 3, none⟩ = some (.int .i64 t.ln) ∧ w'.cell? ⟨g2, k * 6 + 4, none⟩ = some (.int .i64 t.cl) ∧ w'.cell? ⟨g2, k * 6 + 5, none⟩ = some (.int .i64 (t.nx : Nat))) (go_keep) (fail)
      all_goals clear k0 k1 k2 k3 k4 k5 m0 m1 m2 m3 m4 m5
      all_goals go_wp2_with fail
      all_goals go_roundg (L.length - (k + 1))
      all_goals first
        | omega
        | exact ⟨k + 1, rfl, rfl, hlt, Lib.hid (below_drew HJ.out)⟩
    · have hlt' : ¬ (k : Int) < (L.length : Nat) := by omega
      go_wp2_with fail
      go_ret
      exact ⟨rfl, HJ.out⟩
end Go.Proofs.YthighbbikpnpgaaDoor
