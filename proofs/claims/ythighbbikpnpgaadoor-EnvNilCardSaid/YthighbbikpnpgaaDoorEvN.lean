/-
  Layer 11: the law EnvNil.
-/
import Derived.Test.YthighbbikpnpgaaDoorEvK
import Derived.ProofKit
import Derived.OpenShut
namespace Go.Proofs.YthighbbikpnpgaaDoor
open Go.RowKit Go.Maps Go.ChangeShapes Go.WideShapes

set_option maxRecDepth 16000 in
theorem op_open {H : Type} {enc : TypeId × Value → H} {w W : World} {base b0 : Nat} {sp : Nat → Bool} {held : Bool} {r : Reach} {v : Value} {d : DataW H} {p : List MemPlace}
    (hv : Value.okWide Tryd.prog W r base 39 v) (h : DataW.Trod enc Tryd.prog w b0 sp held 39 v d p) :
    ∃ (c0 c1 c2 c3 c4 c5 c6 : Int) (c7 : ByteArray), v = .agg #[.int .i64 c0, .int .i64 c1, .int .i64 c2, .int .i64 c3, .int .i64 c4, .int .i64 c5, .int .i64 c6, .string c7] ∧ c7.size ≤ maxLen := by
  obtain ⟨⟨cs⟩, rfl, hsz⟩ := okWide_struct Tryd.underlying39 hv
  have hC : Tryd.prog.cellsOf 39 = 8 := by kernel_rfl
  have hi : Tryd.prog.cellsOf 3 = 1 := by kernel_rfl
  have hs : Tryd.prog.cellsOf 9 = 1 := by kernel_rfl
  have hm : Tryd.prog.cellsOf 27 = 2 := by kernel_rfl
  rw [hC] at hsz
  obtain ⟨fuel, hf⟩ := h
  obtain ⟨xs, n, _, _, _, hlen, hg⟩ := DataW.trod_struct Tryd.underlying39 hf
  match cs, hsz with
  | [a0, a1, a2, a3, a4, a5, a6, a7], _ =>
    match xs, hlen with
    | [y0, y1, y2, y3, y4, y5, y6], _ =>
      have g0 : DataW.trod enc Tryd.prog w b0 sp held n 3 (([a0, a1, a2, a3, a4, a5, a6, a7].drop 0).take (Tryd.prog.cellsOf 3)) = some y0 := hg 0 _ rfl
      rw [hi] at g0
      have g1 : DataW.trod enc Tryd.prog w b0 sp held n 3 (([a0, a1, a2, a3, a4, a5, a6, a7].drop 1).take (Tryd.prog.cellsOf 3)) = some y1 := hg 1 _ rfl
      rw [hi] at g1
      have g2 : DataW.trod enc Tryd.prog w b0 sp held n 3 (([a0, a1, a2, a3, a4, a5, a6, a7].drop 2).take (Tryd.prog.cellsOf 3)) = some y2 := hg 2 _ rfl
      rw [hi] at g2
      have g3 : DataW.trod enc Tryd.prog w b0 sp held n 3 (([a0, a1, a2, a3, a4, a5, a6, a7].drop 3).take (Tryd.prog.cellsOf 3)) = some y3 := hg 3 _ rfl
      rw [hi] at g3
      have g4 : DataW.trod enc Tryd.prog w b0 sp held n 3 (([a0, a1, a2, a3, a4, a5, a6, a7].drop 4).take (Tryd.prog.cellsOf 3)) = some y4 := hg 4 _ rfl
      rw [hi] at g4
      have g5 : DataW.trod enc Tryd.prog w b0 sp held n 27 (([a0, a1, a2, a3, a4, a5, a6, a7].drop 5).take (Tryd.prog.cellsOf 27)) = some y5 := hg 5 _ rfl
      rw [hm] at g5
      have g6 : DataW.trod enc Tryd.prog w b0 sp held n 9 (([a0, a1, a2, a3, a4, a5, a6, a7].drop 7).take (Tryd.prog.cellsOf 9)) = some y6 := hg 6 _ rfl
      rw [hs] at g6
      obtain ⟨n0, e0, _, _⟩ := DataW.trod_int Tryd.underlying3 g0
      obtain ⟨n1, e1, _, _⟩ := DataW.trod_int Tryd.underlying3 g1
      obtain ⟨n2, e2, _, _⟩ := DataW.trod_int Tryd.underlying3 g2
      obtain ⟨n3, e3, _, _⟩ := DataW.trod_int Tryd.underlying3 g3
      obtain ⟨n4, e4, _, _⟩ := DataW.trod_int Tryd.underlying3 g4
      obtain ⟨s, e6, _, hl⟩ := DataW.trod_string Tryd.underlying9 g6
      obtain ⟨ys, m, _, _, _, hlen2, hg2⟩ := DataW.trod_struct Tryd.underlying27 g5
      match ys, hlen2 with
      | [z0, z1], _ =>
        have k0 : DataW.trod enc Tryd.prog w b0 sp held m 3 (([a5, a6].drop 0).take (Tryd.prog.cellsOf 3)) = some z0 := hg2 0 _ rfl
        rw [hi] at k0
        have k1 : DataW.trod enc Tryd.prog w b0 sp held m 3 (([a5, a6].drop 1).take (Tryd.prog.cellsOf 3)) = some z1 := hg2 1 _ rfl
        rw [hi] at k1
        obtain ⟨m0, f0, _, _⟩ := DataW.trod_int Tryd.underlying3 k0
        obtain ⟨m1, f1, _, _⟩ := DataW.trod_int Tryd.underlying3 k1
        simp at e0 e1 e2 e3 e4 e6 f0 f1
        subst e0 e1 e2 e3 e4 e6 f0 f1
        exact ⟨_, _, _, _, _, _, _, _, rfl, hl⟩

theorem cells_at8 {w : World} {b : Nat} {a0 a1 a2 a3 a4 a5 a6 a7 : Value} {t : TypeId} (h : w.heap[b]? = some (.cells #[a0, a1, a2, a3, a4, a5, a6, a7] t (0, 0))) :
    w.cell? ⟨b, 1, none⟩ = some a1 ∧ w.cell? ⟨b, 5, none⟩ = some a5 ∧ w.cell? ⟨b, 6, none⟩ = some a6 := by
  refine ⟨?_, ?_, ?_⟩
  all_goals (rw [cell_of_row w b _ _ t (0, 0) h]; rfl)

set_option maxRecDepth 100000 in
set_option maxHeartbeats 2000000 in
theorem nil_walk (c0 c1 c2 c3 c4 c5 c6 : Int) (c7 : ByteArray) (W : World) (htab : Tab W) :
    Calls Tryd.prog 5 #[.agg #[.int .i64 c0, .int .i64 c1, .int .i64 c2, .int .i64 c3, .int .i64 c4, .int .i64 c5, .int .i64 c6, .string c7]] W fun e w' => e = .returned (.bool true) ∧ Below W.heap.size W w' := by
  have HTab := Lib.hid htab
  clear htab
  have hb0 : Below W.heap.size W (W.alloc (.cells #[.int .i64 c0, .int .i64 c1, .int .i64 c2, .int .i64 c3, .int .i64 c4, .int .i64 c5, .int .i64 c6, .string c7] 39)) := (Below.refl _ _).alloc (Nat.le_refl _) _
  have K := fun (w : World) (hb : Below (W.alloc (.cells #[.int .i64 c0, .int .i64 c1, .int .i64 c2, .int .i64 c3, .int .i64 c4, .int .i64 c5, .int .i64 c6, .string c7] 39)).heap.size (W.alloc (.cells #[.int .i64 c0, .int .i64 c1, .int .i64 c2, .int .i64 c3, .int .i64 c4, .int .i64 c5, .int .i64 c6, .string c7] 39)) w) => cells_at8 (heap_below (heap_alloc_new W _) hb (by simp))
  have HK := Lib.hid K
  clear K
  go_enter Tryd.func5, Tryd.ntmps5
  go_wp2_with fail
  refine (extend_nil _ _ _ _ _).mono ?_
  rintro e w1 ⟨rfl, hb1⟩
  obtain ⟨k1, k5, k6⟩ := HK.out w1 hb1
  go_wp2_with fail
  refine (alias_nil _ _ _).mono ?_
  rintro e w' ⟨rfl, rfl⟩
  go_wp2_with fail
  refine (find_nil _ _ _).mono ?_
  rintro e w2 ⟨rfl, hb2⟩
  have hb12 := below_trans hb1 hb2
  clear k1 k5 k6
  obtain ⟨k1, k5, k6⟩ := HK.out w2 hb12
  go_wp2_with fail
  refine (awake_env _ ?_).mono ?_
  · exact tab_below HTab.out (below_trans hb0 (below_trans hb12 ((Below.refl _ _).alloc (Nat.le_refl _) _)))
  rintro e w3 ⟨rfl, hb3⟩
  obtain ⟨c00, c01, _, _, l2⟩ := new_cells2 w2 w3 _ _ _ hb3
  have hb23 : Below w2.heap.size w2 w3 := below_trans ((Below.refl _ _).alloc (Nat.le_refl _) _) hb3
  have hb13 := below_trans hb12 hb23
  clear k1 k5 k6 hb3
  obtain ⟨k1, k5, k6⟩ := HK.out w3 hb13
  go_wp2_with fail
  refine (kind_one _).mono ?_
  rintro e w4 ⟨rfl, hb4⟩
  go_wp2_with fail
  refine (kind_one _).mono ?_
  rintro e w5 ⟨rfl, hb5⟩
  go_wp2_with fail
  refine (kind_one _).mono ?_
  rintro e w6 ⟨rfl, hb6⟩
  have hb36 := below_trans hb4 (below_trans hb5 hb6)
  have hb16 := below_trans hb13 hb36
  clear k1 k5 k6
  obtain ⟨k1, k5, k6⟩ := HK.out w6 hb16
  go_wp2_with fail
  refine (top_nil _ _ _ _).mono ?_
  rintro e w7 ⟨rfl, hb7⟩
  go_wp2_with fail
  refine (kind_one _).mono ?_
  rintro e w8 ⟨rfl, hb8⟩
  go_wp2_with fail
  refine (same_nil _ _ _ _ _).mono ?_
  rintro e w' ⟨rfl, rfl⟩
  go_wp2_with fail
  refine (strip_nil _ _).mono ?_
  rintro e w' ⟨rfl, rfl⟩
  go_wp2_with fail
  go_ret
  exact ⟨rfl, below_trans hb0 (below_trans hb16 (below_trans hb7 hb8))⟩

set_option maxRecDepth 16000 in
theorem EnvNil_top {H : Type} {enc : TypeId × Value → H} (W : World) (base : Nat) (v0 : Value) (d0 : DataW H) (p0 : List MemPlace) (hv0 : Value.okWide Tryd.prog W .any base 39 v0) (h0 : DataW.Trod enc Tryd.prog W 0 (fun _ => true) true 39 v0 d0 p0)
    {ts : List TypeId} {ds : List (DataW H)} (_ : (DataW.weightsEach Tryd.prog ts ds).all (· ≤ reachBytes) = true) (hT : Tab W) :
    Calls Tryd.prog 5 #[v0] W fun e w' => e = .returned (.bool true) ∧ Below W.heap.size W w' := by
  obtain ⟨c0, c1, c2, c3, c4, c5, c6, c7, rfl, _⟩ := op_open hv0 h0
  exact nil_walk c0 c1 c2 c3 c4 c5 c6 c7 W hT
end Go.Proofs.YthighbbikpnpgaaDoor
