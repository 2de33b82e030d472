/-
  What comes to texts and characters.
-/
import Derived.Test.YtneokkhnjnomdaaGreatDoorPrE
import Derived.Test.YtneokkhnjnomdaaGreatDoorGB2
namespace Go.Proofs.YtneokkhnjnomdaaGreatDoor
open Go.RowKit Go.Proofs.YtneokkhnjnomdaaGreatDoorW.PrintWords

/-- The two variables that text begins with. -/
structure TxI (w : World) (x : Nd) (w' : World) : Prop where
  res : w'.heap[w.heap.size]? = some (.cells #[.int .i64 0, .int .i64 0, .string ⟨#[]⟩, .slice none 0 0] 26 (0, 0))
  last : w'.heap[w.heap.size + 1]? = some x.obj
  below : Below w.heap.size w w'
theorem TxI.step {w : World} {x : Nd} {w1 w2 : World} (h : TxI w x w1) (hb : Below w1.heap.size w1 w2) : TxI w x w2 := ⟨blk_below h.res hb, blk_below h.last hb, below_step h.below hb⟩
theorem txI_start (w : World) (x : Nd) : TxI w x ((w.alloc (.cells #[.int .i64 0, .int .i64 0, .string ⟨#[]⟩, .slice none 0 0] 26)).alloc (.cells #[.int .i64 x.k, .int .i64 x.n, .string x.t, .slice x.a x.m x.c] 26)) := by
  refine ⟨blk_alloc (blk_new w _) _, ?_, below_alloc (below_alloc (Below.refl _ _) _) _⟩
  have := blk_new (w.alloc (.cells #[.int .i64 0, .int .i64 0, .string ⟨#[]⟩, .slice none 0 0] 26)) x.obj
  rw [show (w.alloc (.cells #[.int .i64 0, .int .i64 0, .string ⟨#[]⟩, .slice none 0 0] 26)).heap.size = w.heap.size + 1 by simp] at this
  exact this

set_option maxRecDepth 100000 in
set_option maxHeartbeats 4000000 in
theorem text_29 (d : Nd) (v : Value) (w : World) (hA : ArgsAt [d] v w) : Calls Tryz.prog 34 #[.string ⟨#[115, 116, 114, 105, 110, 103, 45, 108, 101, 110, 103, 116, 104]⟩, v] w (Giv (.tuple #[datV 1 (d.t.size : Nat) ⟨#[]⟩, .nilIface]) w) := by
  obtain ⟨A, cap, rfl, hc⟩ := hA.row
  obtain ⟨g, o, rfl, hg, a0, a1, a2, a3⟩ := hc 0 (by simp)
  replace a0 : w.cell? ⟨g, o, none⟩ = some (.int .i64 d.k) := a0
  replace a1 : w.cell? ⟨g, o + 1, none⟩ = some (.int .i64 d.n) := a1
  replace a2 : w.cell? ⟨g, o + 2, none⟩ = some (.string d.t) := a2
  replace a3 : w.cell? ⟨g, o + 3, none⟩ = some (.slice d.a d.m d.c) := a3
  have hlen : [d].length = 1 := rfl
  rw [hlen]
  clear hc hA hlen

  have HARG := Lib.hid (fun (w2 : World) (hb : Below w.heap.size w w2) (i : Nat) => hb.cell (p := ⟨g, i, none⟩) hg)
  go_enter Tryz.func34, Tryz.ntmps34
  go_upto_region 3 with (fail)
  have HT := Lib.hid (txI_start w d)
  generalize (w.alloc (.cells #[.int .i64 0, .int .i64 0, .string ⟨#[]⟩, .slice none 0 0] 26)).alloc (.cells #[.int .i64 d.k, .int .i64 d.n, .string d.t, .slice d.a d.m d.c] 26) = w0 at HT ⊢
  replace a0 := (HARG.out w0 HT.out.below (o)).trans a0
  replace a1 := (HARG.out w0 HT.out.below (o + 1)).trans a1
  replace a2 := (HARG.out w0 HT.out.below (o + 2)).trans a2
  replace a3 := (HARG.out w0 HT.out.below (o + 3)).trans a3
  have r0 : w0.cell? ⟨w.heap.size, 0, none⟩ = some (.int .i64 0) := blk_cell HT.out.res 0
  have s0 := blk_frozen HT.out.res 0
  have r1 : w0.cell? ⟨w.heap.size, 1, none⟩ = some (.int .i64 0) := blk_cell HT.out.res 1
  have s1 := blk_frozen HT.out.res 1
  have r2 : w0.cell? ⟨w.heap.size, 2, none⟩ = some (.string ⟨#[]⟩) := blk_cell HT.out.res 2
  have s2 := blk_frozen HT.out.res 2
  have r3 : w0.cell? ⟨w.heap.size, 3, none⟩ = some (.slice none 0 0) := blk_cell HT.out.res 3
  have s3 := blk_frozen HT.out.res 3
  have l0 : w0.cell? ⟨w.heap.size + 1, 0, none⟩ = some (.int .i64 d.k) := blk_cell HT.out.last 0
  have l1 : w0.cell? ⟨w.heap.size + 1, 1, none⟩ = some (.int .i64 d.n) := blk_cell HT.out.last 1
  have l2 : w0.cell? ⟨w.heap.size + 1, 2, none⟩ = some (.string d.t) := blk_cell HT.out.last 2
  have l3 : w0.cell? ⟨w.heap.size + 1, 3, none⟩ = some (.slice d.a d.m d.c) := blk_cell HT.out.last 3
  go_wp2_with fail
  have H4 := dat_put HT.out.res (1) ((d.t.size : Nat)) (⟨#[]⟩)
  have HB4 := Lib.hid (below_put HT.out.below (1) ((d.t.size : Nat)) (⟨#[]⟩))
  have q0 := blk_cell H4 0
  have q1 := blk_cell H4 1
  have q2 := blk_cell H4 2
  have q3 := blk_cell H4 3
  clear r0 r1 r2 r3 s0 s1 s2 s3
  (try simp only [Exit.inBlock, Exit.then])
  refine bodyPost_ret (by simp [results, Tryz.results34, go_sem, q0, q1, q2, q3]; rfl) rfl ?_
  exact ⟨rfl, HB4.out⟩
set_option maxRecDepth 100000 in
set_option maxHeartbeats 4000000 in
theorem text_30 (d e : Nd) (v : Value) (w : World) (hA : ArgsAt [d, e] v w) (h0 : 0 ≤ e.n) (h1 : e.n < d.t.size) (x : UInt8) (hx : ∀ h, d.t[e.n.toNat]'h = x) : Calls Tryz.prog 34 #[.string ⟨#[115, 116, 114, 105, 110, 103, 45, 114, 101, 102]⟩, v] w (Giv (.tuple #[datV 3 (x.toNat : Int) ⟨#[]⟩, .nilIface]) w) := by
  obtain ⟨A, cap, rfl, hc⟩ := hA.row
  obtain ⟨g, o, rfl, hg, a0, a1, a2, a3⟩ := hc 0 (by simp)
  obtain ⟨g1, o1, e1, -, b0, b1, b2, b3⟩ := hc 1 (by simp)
  injection e1 with e1
  injection e1 with eg1 eo1 _
  subst eg1 eo1
  replace a0 : w.cell? ⟨g, o, none⟩ = some (.int .i64 d.k) := a0
  replace a1 : w.cell? ⟨g, o + 1, none⟩ = some (.int .i64 d.n) := a1
  replace a2 : w.cell? ⟨g, o + 2, none⟩ = some (.string d.t) := a2
  replace a3 : w.cell? ⟨g, o + 3, none⟩ = some (.slice d.a d.m d.c) := a3
  replace b0 : w.cell? ⟨g, o + 4, none⟩ = some (.int .i64 e.k) := b0
  replace b1 : w.cell? ⟨g, o + 5, none⟩ = some (.int .i64 e.n) := b1
  replace b2 : w.cell? ⟨g, o + 6, none⟩ = some (.string e.t) := b2
  replace b3 : w.cell? ⟨g, o + 7, none⟩ = some (.slice e.a e.m e.c) := b3
  have hlen : [d, e].length = 2 := rfl
  rw [hlen]
  clear hc hA hlen
  have x256 : x.toNat < 256 := x.toNat_lt
  have y0 : decide (e.n < 0) = false := decide_eq_false (by omega)
  have y1 : decide ((d.t.size : Int) ≤ e.n) = false := decide_eq_false (by omega)
  have HARG := Lib.hid (fun (w2 : World) (hb : Below w.heap.size w w2) (i : Nat) => hb.cell (p := ⟨g, i, none⟩) hg)
  go_enter Tryz.func34, Tryz.ntmps34
  go_upto_region 3 with (fail)
  have HT := Lib.hid (txI_start w e)
  generalize (w.alloc (.cells #[.int .i64 0, .int .i64 0, .string ⟨#[]⟩, .slice none 0 0] 26)).alloc (.cells #[.int .i64 e.k, .int .i64 e.n, .string e.t, .slice e.a e.m e.c] 26) = w0 at HT ⊢
  replace a0 := (HARG.out w0 HT.out.below (o)).trans a0
  replace a1 := (HARG.out w0 HT.out.below (o + 1)).trans a1
  replace a2 := (HARG.out w0 HT.out.below (o + 2)).trans a2
  replace a3 := (HARG.out w0 HT.out.below (o + 3)).trans a3
  replace b0 := (HARG.out w0 HT.out.below (o + 4)).trans b0
  replace b1 := (HARG.out w0 HT.out.below (o + 5)).trans b1
  replace b2 := (HARG.out w0 HT.out.below (o + 6)).trans b2
  replace b3 := (HARG.out w0 HT.out.below (o + 7)).trans b3
  have r0 : w0.cell? ⟨w.heap.size, 0, none⟩ = some (.int .i64 0) := blk_cell HT.out.res 0
  have s0 := blk_frozen HT.out.res 0
  have r1 : w0.cell? ⟨w.heap.size, 1, none⟩ = some (.int .i64 0) := blk_cell HT.out.res 1
  have s1 := blk_frozen HT.out.res 1
  have r2 : w0.cell? ⟨w.heap.size, 2, none⟩ = some (.string ⟨#[]⟩) := blk_cell HT.out.res 2
  have s2 := blk_frozen HT.out.res 2
  have r3 : w0.cell? ⟨w.heap.size, 3, none⟩ = some (.slice none 0 0) := blk_cell HT.out.res 3
  have s3 := blk_frozen HT.out.res 3
  have l0 : w0.cell? ⟨w.heap.size + 1, 0, none⟩ = some (.int .i64 e.k) := blk_cell HT.out.last 0
  have l1 : w0.cell? ⟨w.heap.size + 1, 1, none⟩ = some (.int .i64 e.n) := blk_cell HT.out.last 1
  have l2 : w0.cell? ⟨w.heap.size + 1, 2, none⟩ = some (.string e.t) := blk_cell HT.out.last 2
  have l3 : w0.cell? ⟨w.heap.size + 1, 3, none⟩ = some (.slice e.a e.m e.c) := blk_cell HT.out.last 3
  go_wp2_with fail
  have H4 := dat_put HT.out.res (3) ((x.toNat : Int)) (⟨#[]⟩)
  have HB4 := Lib.hid (below_put HT.out.below (3) ((x.toNat : Int)) (⟨#[]⟩))
  have q0 := blk_cell H4 0
  have q1 := blk_cell H4 1
  have q2 := blk_cell H4 2
  have q3 := blk_cell H4 3
  clear r0 r1 r2 r3 s0 s1 s2 s3
  (try simp only [Exit.inBlock, Exit.then])
  refine bodyPost_ret (by simp [results, Tryz.results34, go_sem, q0, q1, q2, q3]; rfl) rfl ?_
  exact ⟨rfl, HB4.out⟩
set_option maxRecDepth 100000 in
set_option maxHeartbeats 4000000 in
theorem text_30a (d e : Nd) (v : Value) (w : World) (hA : ArgsAt [d, e] v w) (h0 : e.n < 0) : Calls Tryz.prog 34 #[.string ⟨#[115, 116, 114, 105, 110, 103, 45, 114, 101, 102]⟩, v] w (Giv (.tuple #[datV 0 0 ⟨#[]⟩, kindV 13]) w) := by
  obtain ⟨A, cap, rfl, hc⟩ := hA.row
  obtain ⟨g, o, rfl, hg, a0, a1, a2, a3⟩ := hc 0 (by simp)
  obtain ⟨g1, o1, e1, -, b0, b1, b2, b3⟩ := hc 1 (by simp)
  injection e1 with e1
  injection e1 with eg1 eo1 _
  subst eg1 eo1
  replace a0 : w.cell? ⟨g, o, none⟩ = some (.int .i64 d.k) := a0
  replace a1 : w.cell? ⟨g, o + 1, none⟩ = some (.int .i64 d.n) := a1
  replace a2 : w.cell? ⟨g, o + 2, none⟩ = some (.string d.t) := a2
  replace a3 : w.cell? ⟨g, o + 3, none⟩ = some (.slice d.a d.m d.c) := a3
  replace b0 : w.cell? ⟨g, o + 4, none⟩ = some (.int .i64 e.k) := b0
  replace b1 : w.cell? ⟨g, o + 5, none⟩ = some (.int .i64 e.n) := b1
  replace b2 : w.cell? ⟨g, o + 6, none⟩ = some (.string e.t) := b2
  replace b3 : w.cell? ⟨g, o + 7, none⟩ = some (.slice e.a e.m e.c) := b3
  have hlen : [d, e].length = 2 := rfl
  rw [hlen]
  clear hc hA hlen
  have y0 : decide (e.n < 0) = true := decide_eq_true h0
  have HARG := Lib.hid (fun (w2 : World) (hb : Below w.heap.size w w2) (i : Nat) => hb.cell (p := ⟨g, i, none⟩) hg)
  go_enter Tryz.func34, Tryz.ntmps34
  go_upto_region 3 with (fail)
  have HT := Lib.hid (txI_start w e)
  generalize (w.alloc (.cells #[.int .i64 0, .int .i64 0, .string ⟨#[]⟩, .slice none 0 0] 26)).alloc (.cells #[.int .i64 e.k, .int .i64 e.n, .string e.t, .slice e.a e.m e.c] 26) = w0 at HT ⊢
  replace a0 := (HARG.out w0 HT.out.below (o)).trans a0
  replace a1 := (HARG.out w0 HT.out.below (o + 1)).trans a1
  replace a2 := (HARG.out w0 HT.out.below (o + 2)).trans a2
  replace a3 := (HARG.out w0 HT.out.below (o + 3)).trans a3
  replace b0 := (HARG.out w0 HT.out.below (o + 4)).trans b0
  replace b1 := (HARG.out w0 HT.out.below (o + 5)).trans b1
  replace b2 := (HARG.out w0 HT.out.below (o + 6)).trans b2
  replace b3 := (HARG.out w0 HT.out.below (o + 7)).trans b3
  have r0 : w0.cell? ⟨w.heap.size, 0, none⟩ = some (.int .i64 0) := blk_cell HT.out.res 0
  have s0 := blk_frozen HT.out.res 0
  have r1 : w0.cell? ⟨w.heap.size, 1, none⟩ = some (.int .i64 0) := blk_cell HT.out.res 1
  have s1 := blk_frozen HT.out.res 1
  have r2 : w0.cell? ⟨w.heap.size, 2, none⟩ = some (.string ⟨#[]⟩) := blk_cell HT.out.res 2
  have s2 := blk_frozen HT.out.res 2
  have r3 : w0.cell? ⟨w.heap.size, 3, none⟩ = some (.slice none 0 0) := blk_cell HT.out.res 3
  have s3 := blk_frozen HT.out.res 3
  have l0 : w0.cell? ⟨w.heap.size + 1, 0, none⟩ = some (.int .i64 e.k) := blk_cell HT.out.last 0
  have l1 : w0.cell? ⟨w.heap.size + 1, 1, none⟩ = some (.int .i64 e.n) := blk_cell HT.out.last 1
  have l2 : w0.cell? ⟨w.heap.size + 1, 2, none⟩ = some (.string e.t) := blk_cell HT.out.last 2
  have l3 : w0.cell? ⟨w.heap.size + 1, 3, none⟩ = some (.slice e.a e.m e.c) := blk_cell HT.out.last 3
  go_wp2_with fail
  have H4 := dat_put HT.out.res (0) (0) (⟨#[]⟩)
  have HB4 := Lib.hid (below_put HT.out.below (0) (0) (⟨#[]⟩))
  have q0 := blk_cell H4 0
  have q1 := blk_cell H4 1
  have q2 := blk_cell H4 2
  have q3 := blk_cell H4 3
  clear r0 r1 r2 r3 s0 s1 s2 s3
  (try simp only [Exit.inBlock, Exit.then])
  refine bodyPost_ret (by simp [results, Tryz.results34, go_sem, q0, q1, q2, q3]; rfl) rfl ?_
  exact ⟨rfl, HB4.out⟩
set_option maxRecDepth 100000 in
set_option maxHeartbeats 4000000 in
theorem text_30b (d e : Nd) (v : Value) (w : World) (hA : ArgsAt [d, e] v w) (h0 : 0 ≤ e.n) (h1 : (d.t.size : Int) ≤ e.n) : Calls Tryz.prog 34 #[.string ⟨#[115, 116, 114, 105, 110, 103, 45, 114, 101, 102]⟩, v] w (Giv (.tuple #[datV 0 0 ⟨#[]⟩, kindV 13]) w) := by
  obtain ⟨A, cap, rfl, hc⟩ := hA.row
  obtain ⟨g, o, rfl, hg, a0, a1, a2, a3⟩ := hc 0 (by simp)
  obtain ⟨g1, o1, e1, -, b0, b1, b2, b3⟩ := hc 1 (by simp)
  injection e1 with e1
  injection e1 with eg1 eo1 _
  subst eg1 eo1
  replace a0 : w.cell? ⟨g, o, none⟩ = some (.int .i64 d.k) := a0
  replace a1 : w.cell? ⟨g, o + 1, none⟩ = some (.int .i64 d.n) := a1
  replace a2 : w.cell? ⟨g, o + 2, none⟩ = some (.string d.t) := a2
  replace a3 : w.cell? ⟨g, o + 3, none⟩ = some (.slice d.a d.m d.c) := a3
  replace b0 : w.cell? ⟨g, o + 4, none⟩ = some (.int .i64 e.k) := b0
  replace b1 : w.cell? ⟨g, o + 5, none⟩ = some (.int .i64 e.n) := b1
  replace b2 : w.cell? ⟨g, o + 6, none⟩ = some (.string e.t) := b2
  replace b3 : w.cell? ⟨g, o + 7, none⟩ = some (.slice e.a e.m e.c) := b3
  have hlen : [d, e].length = 2 := rfl
  rw [hlen]
  clear hc hA hlen
  have y0 : decide (e.n < 0) = false := decide_eq_false (by omega)
  have y1 : decide ((d.t.size : Int) ≤ e.n) = true := decide_eq_true h1
  have HARG := Lib.hid (fun (w2 : World) (hb : Below w.heap.size w w2) (i : Nat) => hb.cell (p := ⟨g, i, none⟩) hg)
  go_enter Tryz.func34, Tryz.ntmps34
  go_upto_region 3 with (fail)
  have HT := Lib.hid (txI_start w e)
  generalize (w.alloc (.cells #[.int .i64 0, .int .i64 0, .string ⟨#[]⟩, .slice none 0 0] 26)).alloc (.cells #[.int .i64 e.k, .int .i64 e.n, .string e.t, .slice e.a e.m e.c] 26) = w0 at HT ⊢
  replace a0 := (HARG.out w0 HT.out.below (o)).trans a0
  replace a1 := (HARG.out w0 HT.out.below (o + 1)).trans a1
  replace a2 := (HARG.out w0 HT.out.below (o + 2)).trans a2
  replace a3 := (HARG.out w0 HT.out.below (o + 3)).trans a3
  replace b0 := (HARG.out w0 HT.out.below (o + 4)).trans b0
  replace b1 := (HARG.out w0 HT.out.below (o + 5)).trans b1
  replace b2 := (HARG.out w0 HT.out.below (o + 6)).trans b2
  replace b3 := (HARG.out w0 HT.out.below (o + 7)).trans b3
  have r0 : w0.cell? ⟨w.heap.size, 0, none⟩ = some (.int .i64 0) := blk_cell HT.out.res 0
  have s0 := blk_frozen HT.out.res 0
  have r1 : w0.cell? ⟨w.heap.size, 1, none⟩ = some (.int .i64 0) := blk_cell HT.out.res 1
  have s1 := blk_frozen HT.out.res 1
  have r2 : w0.cell? ⟨w.heap.size, 2, none⟩ = some (.string ⟨#[]⟩) := blk_cell HT.out.res 2
  have s2 := blk_frozen HT.out.res 2
  have r3 : w0.cell? ⟨w.heap.size, 3, none⟩ = some (.slice none 0 0) := blk_cell HT.out.res 3
  have s3 := blk_frozen HT.out.res 3
  have l0 : w0.cell? ⟨w.heap.size + 1, 0, none⟩ = some (.int .i64 e.k) := blk_cell HT.out.last 0
  have l1 : w0.cell? ⟨w.heap.size + 1, 1, none⟩ = some (.int .i64 e.n) := blk_cell HT.out.last 1
  have l2 : w0.cell? ⟨w.heap.size + 1, 2, none⟩ = some (.string e.t) := blk_cell HT.out.last 2
  have l3 : w0.cell? ⟨w.heap.size + 1, 3, none⟩ = some (.slice e.a e.m e.c) := blk_cell HT.out.last 3
  go_wp2_with fail
  have H4 := dat_put HT.out.res (0) (0) (⟨#[]⟩)
  have HB4 := Lib.hid (below_put HT.out.below (0) (0) (⟨#[]⟩))
  have q0 := blk_cell H4 0
  have q1 := blk_cell H4 1
  have q2 := blk_cell H4 2
  have q3 := blk_cell H4 3
  clear r0 r1 r2 r3 s0 s1 s2 s3
  (try simp only [Exit.inBlock, Exit.then])
  refine bodyPost_ret (by simp [results, Tryz.results34, go_sem, q0, q1, q2, q3]; rfl) rfl ?_
  exact ⟨rfl, HB4.out⟩
set_option maxRecDepth 100000 in
set_option maxHeartbeats 4000000 in
theorem text_31 (d e : Nd) (v : Value) (w : World) (hA : ArgsAt [d, e] v w) (hz : (d.t.size : Int) ≤ 1000000000) (hz2 : (e.t.size : Int) ≤ 1000000000) (h : (d.t.size : Int) + e.t.size ≤ 500) : Calls Tryz.prog 34 #[.string ⟨#[115, 116, 114, 105, 110, 103, 45, 97, 112, 112, 101, 110, 100]⟩, v] w (Giv (.tuple #[datV 4 0 (d.t ++ e.t), .nilIface]) w) := by
  obtain ⟨A, cap, rfl, hc⟩ := hA.row
  obtain ⟨g, o, rfl, hg, a0, a1, a2, a3⟩ := hc 0 (by simp)
  obtain ⟨g1, o1, e1, -, b0, b1, b2, b3⟩ := hc 1 (by simp)
  injection e1 with e1
  injection e1 with eg1 eo1 _
  subst eg1 eo1
  replace a0 : w.cell? ⟨g, o, none⟩ = some (.int .i64 d.k) := a0
  replace a1 : w.cell? ⟨g, o + 1, none⟩ = some (.int .i64 d.n) := a1
  replace a2 : w.cell? ⟨g, o + 2, none⟩ = some (.string d.t) := a2
  replace a3 : w.cell? ⟨g, o + 3, none⟩ = some (.slice d.a d.m d.c) := a3
  replace b0 : w.cell? ⟨g, o + 4, none⟩ = some (.int .i64 e.k) := b0
  replace b1 : w.cell? ⟨g, o + 5, none⟩ = some (.int .i64 e.n) := b1
  replace b2 : w.cell? ⟨g, o + 6, none⟩ = some (.string e.t) := b2
  replace b3 : w.cell? ⟨g, o + 7, none⟩ = some (.slice e.a e.m e.c) := b3
  have hlen : [d, e].length = 2 := rfl
  rw [hlen]
  clear hc hA hlen
  have y0 : decide ((500 : Int) < (d.t.size : Nat) + (e.t.size : Nat)) = false := decide_eq_false (by omega)
  have HARG := Lib.hid (fun (w2 : World) (hb : Below w.heap.size w w2) (i : Nat) => hb.cell (p := ⟨g, i, none⟩) hg)
  go_enter Tryz.func34, Tryz.ntmps34
  go_upto_region 3 with (fail)
  have HT := Lib.hid (txI_start w e)
  generalize (w.alloc (.cells #[.int .i64 0, .int .i64 0, .string ⟨#[]⟩, .slice none 0 0] 26)).alloc (.cells #[.int .i64 e.k, .int .i64 e.n, .string e.t, .slice e.a e.m e.c] 26) = w0 at HT ⊢
  replace a0 := (HARG.out w0 HT.out.below (o)).trans a0
  replace a1 := (HARG.out w0 HT.out.below (o + 1)).trans a1
  replace a2 := (HARG.out w0 HT.out.below (o + 2)).trans a2
  replace a3 := (HARG.out w0 HT.out.below (o + 3)).trans a3
  replace b0 := (HARG.out w0 HT.out.below (o + 4)).trans b0
  replace b1 := (HARG.out w0 HT.out.below (o + 5)).trans b1
  replace b2 := (HARG.out w0 HT.out.below (o + 6)).trans b2
  replace b3 := (HARG.out w0 HT.out.below (o + 7)).trans b3
  have r0 : w0.cell? ⟨w.heap.size, 0, none⟩ = some (.int .i64 0) := blk_cell HT.out.res 0
  have s0 := blk_frozen HT.out.res 0
  have r1 : w0.cell? ⟨w.heap.size, 1, none⟩ = some (.int .i64 0) := blk_cell HT.out.res 1
  have s1 := blk_frozen HT.out.res 1
  have r2 : w0.cell? ⟨w.heap.size, 2, none⟩ = some (.string ⟨#[]⟩) := blk_cell HT.out.res 2
  have s2 := blk_frozen HT.out.res 2
  have r3 : w0.cell? ⟨w.heap.size, 3, none⟩ = some (.slice none 0 0) := blk_cell HT.out.res 3
  have s3 := blk_frozen HT.out.res 3
  have l0 : w0.cell? ⟨w.heap.size + 1, 0, none⟩ = some (.int .i64 e.k) := blk_cell HT.out.last 0
  have l1 : w0.cell? ⟨w.heap.size + 1, 1, none⟩ = some (.int .i64 e.n) := blk_cell HT.out.last 1
  have l2 : w0.cell? ⟨w.heap.size + 1, 2, none⟩ = some (.string e.t) := blk_cell HT.out.last 2
  have l3 : w0.cell? ⟨w.heap.size + 1, 3, none⟩ = some (.slice e.a e.m e.c) := blk_cell HT.out.last 3
  go_wp2_with fail
  refine (str_of _ _).mono ?_
  rintro e' w2 ⟨rfl, hb2⟩
  have HT2 := Lib.hid (HT.out.step hb2)
  clear r0 r1 r2 r3 s0 s1 s2 s3 hb2
  have r0 : w2.cell? ⟨w.heap.size, 0, none⟩ = some (.int .i64 0) := blk_cell HT2.out.res 0
  have s0 := blk_frozen HT2.out.res 0
  have r1 : w2.cell? ⟨w.heap.size, 1, none⟩ = some (.int .i64 0) := blk_cell HT2.out.res 1
  have s1 := blk_frozen HT2.out.res 1
  have r2 : w2.cell? ⟨w.heap.size, 2, none⟩ = some (.string ⟨#[]⟩) := blk_cell HT2.out.res 2
  have s2 := blk_frozen HT2.out.res 2
  have r3 : w2.cell? ⟨w.heap.size, 3, none⟩ = some (.slice none 0 0) := blk_cell HT2.out.res 3
  have s3 := blk_frozen HT2.out.res 3
  go_wp2_with fail
  have H4 := dat_put HT2.out.res (4) (0) ((d.t ++ e.t))
  have HB4 := Lib.hid (below_put HT2.out.below (4) (0) ((d.t ++ e.t)))
  have q0 := blk_cell H4 0
  have q1 := blk_cell H4 1
  have q2 := blk_cell H4 2
  have q3 := blk_cell H4 3
  clear r0 r1 r2 r3 s0 s1 s2 s3
  (try simp only [Exit.inBlock, Exit.then])
  refine bodyPost_ret (by simp [results, Tryz.results34, go_sem, q0, q1, q2, q3]; rfl) rfl ?_
  exact ⟨rfl, HB4.out⟩
set_option maxRecDepth 100000 in
set_option maxHeartbeats 4000000 in
theorem text_31a (d e : Nd) (v : Value) (w : World) (hA : ArgsAt [d, e] v w) (hz : (d.t.size : Int) ≤ 1000000000) (hz2 : (e.t.size : Int) ≤ 1000000000) (h : 500 < (d.t.size : Int) + e.t.size) : Calls Tryz.prog 34 #[.string ⟨#[115, 116, 114, 105, 110, 103, 45, 97, 112, 112, 101, 110, 100]⟩, v] w (Giv (.tuple #[datV 0 0 ⟨#[]⟩, kindV 14]) w) := by
  obtain ⟨A, cap, rfl, hc⟩ := hA.row
  obtain ⟨g, o, rfl, hg, a0, a1, a2, a3⟩ := hc 0 (by simp)
  obtain ⟨g1, o1, e1, -, b0, b1, b2, b3⟩ := hc 1 (by simp)
  injection e1 with e1
  injection e1 with eg1 eo1 _
  subst eg1 eo1
  replace a0 : w.cell? ⟨g, o, none⟩ = some (.int .i64 d.k) := a0
  replace a1 : w.cell? ⟨g, o + 1, none⟩ = some (.int .i64 d.n) := a1
  replace a2 : w.cell? ⟨g, o + 2, none⟩ = some (.string d.t) := a2
  replace a3 : w.cell? ⟨g, o + 3, none⟩ = some (.slice d.a d.m d.c) := a3
  replace b0 : w.cell? ⟨g, o + 4, none⟩ = some (.int .i64 e.k) := b0
  replace b1 : w.cell? ⟨g, o + 5, none⟩ = some (.int .i64 e.n) := b1
  replace b2 : w.cell? ⟨g, o + 6, none⟩ = some (.string e.t) := b2
  replace b3 : w.cell? ⟨g, o + 7, none⟩ = some (.slice e.a e.m e.c) := b3
  have hlen : [d, e].length = 2 := rfl
  rw [hlen]
  clear hc hA hlen
  have y0 : decide ((500 : Int) < (d.t.size : Nat) + (e.t.size : Nat)) = true := decide_eq_true h
  have HARG := Lib.hid (fun (w2 : World) (hb : Below w.heap.size w w2) (i : Nat) => hb.cell (p := ⟨g, i, none⟩) hg)
  go_enter Tryz.func34, Tryz.ntmps34
  go_upto_region 3 with (fail)
  have HT := Lib.hid (txI_start w e)
  generalize (w.alloc (.cells #[.int .i64 0, .int .i64 0, .string ⟨#[]⟩, .slice none 0 0] 26)).alloc (.cells #[.int .i64 e.k, .int .i64 e.n, .string e.t, .slice e.a e.m e.c] 26) = w0 at HT ⊢
  replace a0 := (HARG.out w0 HT.out.below (o)).trans a0
  replace a1 := (HARG.out w0 HT.out.below (o + 1)).trans a1
  replace a2 := (HARG.out w0 HT.out.below (o + 2)).trans a2
  replace a3 := (HARG.out w0 HT.out.below (o + 3)).trans a3
  replace b0 := (HARG.out w0 HT.out.below (o + 4)).trans b0
  replace b1 := (HARG.out w0 HT.out.below (o + 5)).trans b1
  replace b2 := (HARG.out w0 HT.out.below (o + 6)).trans b2
  replace b3 := (HARG.out w0 HT.out.below (o + 7)).trans b3
  have r0 : w0.cell? ⟨w.heap.size, 0, none⟩ = some (.int .i64 0) := blk_cell HT.out.res 0
  have s0 := blk_frozen HT.out.res 0
  have r1 : w0.cell? ⟨w.heap.size, 1, none⟩ = some (.int .i64 0) := blk_cell HT.out.res 1
  have s1 := blk_frozen HT.out.res 1
  have r2 : w0.cell? ⟨w.heap.size, 2, none⟩ = some (.string ⟨#[]⟩) := blk_cell HT.out.res 2
  have s2 := blk_frozen HT.out.res 2
  have r3 : w0.cell? ⟨w.heap.size, 3, none⟩ = some (.slice none 0 0) := blk_cell HT.out.res 3
  have s3 := blk_frozen HT.out.res 3
  have l0 : w0.cell? ⟨w.heap.size + 1, 0, none⟩ = some (.int .i64 e.k) := blk_cell HT.out.last 0
  have l1 : w0.cell? ⟨w.heap.size + 1, 1, none⟩ = some (.int .i64 e.n) := blk_cell HT.out.last 1
  have l2 : w0.cell? ⟨w.heap.size + 1, 2, none⟩ = some (.string e.t) := blk_cell HT.out.last 2
  have l3 : w0.cell? ⟨w.heap.size + 1, 3, none⟩ = some (.slice e.a e.m e.c) := blk_cell HT.out.last 3
  go_wp2_with fail
  have H4 := dat_put HT.out.res (0) (0) (⟨#[]⟩)
  have HB4 := Lib.hid (below_put HT.out.below (0) (0) (⟨#[]⟩))
  have q0 := blk_cell H4 0
  have q1 := blk_cell H4 1
  have q2 := blk_cell H4 2
  have q3 := blk_cell H4 3
  clear r0 r1 r2 r3 s0 s1 s2 s3
  (try simp only [Exit.inBlock, Exit.then])
  refine bodyPost_ret (by simp [results, Tryz.results34, go_sem, q0, q1, q2, q3]; rfl) rfl ?_
  exact ⟨rfl, HB4.out⟩
set_option maxRecDepth 100000 in
set_option maxHeartbeats 4000000 in
theorem text_32 (d e : Nd) (v : Value) (w : World) (hA : ArgsAt [d, e] v w) : Calls Tryz.prog 34 #[.string ⟨#[115, 116, 114, 105, 110, 103, 61, 63]⟩, v] w (Giv (.tuple #[datV 2 (if (d.t.toList == e.t.toList) = true then 1 else 0) ⟨#[]⟩, .nilIface]) w) := by
  obtain ⟨A, cap, rfl, hc⟩ := hA.row
  obtain ⟨g, o, rfl, hg, a0, a1, a2, a3⟩ := hc 0 (by simp)
  obtain ⟨g1, o1, e1, -, b0, b1, b2, b3⟩ := hc 1 (by simp)
  injection e1 with e1
  injection e1 with eg1 eo1 _
  subst eg1 eo1
  replace a0 : w.cell? ⟨g, o, none⟩ = some (.int .i64 d.k) := a0
  replace a1 : w.cell? ⟨g, o + 1, none⟩ = some (.int .i64 d.n) := a1
  replace a2 : w.cell? ⟨g, o + 2, none⟩ = some (.string d.t) := a2
  replace a3 : w.cell? ⟨g, o + 3, none⟩ = some (.slice d.a d.m d.c) := a3
  replace b0 : w.cell? ⟨g, o + 4, none⟩ = some (.int .i64 e.k) := b0
  replace b1 : w.cell? ⟨g, o + 5, none⟩ = some (.int .i64 e.n) := b1
  replace b2 : w.cell? ⟨g, o + 6, none⟩ = some (.string e.t) := b2
  replace b3 : w.cell? ⟨g, o + 7, none⟩ = some (.slice e.a e.m e.c) := b3
  have hlen : [d, e].length = 2 := rfl
  rw [hlen]
  clear hc hA hlen
  have hcT := Lib.hid (fun w => truth_of (d.t.toList == e.t.toList) w)
  obtain ⟨N, hN⟩ : ∃ N : Int, (if (d.t.toList == e.t.toList) = true then 1 else 0) = N := ⟨_, rfl⟩
  rw [hN] at hcT ⊢
  clear hN
  have HARG := Lib.hid (fun (w2 : World) (hb : Below w.heap.size w w2) (i : Nat) => hb.cell (p := ⟨g, i, none⟩) hg)
  go_enter Tryz.func34, Tryz.ntmps34
  go_upto_region 3 with (fail)
  have HT := Lib.hid (txI_start w e)
  generalize (w.alloc (.cells #[.int .i64 0, .int .i64 0, .string ⟨#[]⟩, .slice none 0 0] 26)).alloc (.cells #[.int .i64 e.k, .int .i64 e.n, .string e.t, .slice e.a e.m e.c] 26) = w0 at HT ⊢
  replace a0 := (HARG.out w0 HT.out.below (o)).trans a0
  replace a1 := (HARG.out w0 HT.out.below (o + 1)).trans a1
  replace a2 := (HARG.out w0 HT.out.below (o + 2)).trans a2
  replace a3 := (HARG.out w0 HT.out.below (o + 3)).trans a3
  replace b0 := (HARG.out w0 HT.out.below (o + 4)).trans b0
  replace b1 := (HARG.out w0 HT.out.below (o + 5)).trans b1
  replace b2 := (HARG.out w0 HT.out.below (o + 6)).trans b2
  replace b3 := (HARG.out w0 HT.out.below (o + 7)).trans b3
  have r0 : w0.cell? ⟨w.heap.size, 0, none⟩ = some (.int .i64 0) := blk_cell HT.out.res 0
  have s0 := blk_frozen HT.out.res 0
  have r1 : w0.cell? ⟨w.heap.size, 1, none⟩ = some (.int .i64 0) := blk_cell HT.out.res 1
  have s1 := blk_frozen HT.out.res 1
  have r2 : w0.cell? ⟨w.heap.size, 2, none⟩ = some (.string ⟨#[]⟩) := blk_cell HT.out.res 2
  have s2 := blk_frozen HT.out.res 2
  have r3 : w0.cell? ⟨w.heap.size, 3, none⟩ = some (.slice none 0 0) := blk_cell HT.out.res 3
  have s3 := blk_frozen HT.out.res 3
  have l0 : w0.cell? ⟨w.heap.size + 1, 0, none⟩ = some (.int .i64 e.k) := blk_cell HT.out.last 0
  have l1 : w0.cell? ⟨w.heap.size + 1, 1, none⟩ = some (.int .i64 e.n) := blk_cell HT.out.last 1
  have l2 : w0.cell? ⟨w.heap.size + 1, 2, none⟩ = some (.string e.t) := blk_cell HT.out.last 2
  have l3 : w0.cell? ⟨w.heap.size + 1, 3, none⟩ = some (.slice e.a e.m e.c) := blk_cell HT.out.last 3
  go_wp2_with fail
  refine (hcT.out  _).mono ?_
  rintro e' w2 ⟨rfl, hb2⟩
  have HT2 := Lib.hid (HT.out.step hb2)
  clear r0 r1 r2 r3 s0 s1 s2 s3 hb2
  have r0 : w2.cell? ⟨w.heap.size, 0, none⟩ = some (.int .i64 0) := blk_cell HT2.out.res 0
  have s0 := blk_frozen HT2.out.res 0
  have r1 : w2.cell? ⟨w.heap.size, 1, none⟩ = some (.int .i64 0) := blk_cell HT2.out.res 1
  have s1 := blk_frozen HT2.out.res 1
  have r2 : w2.cell? ⟨w.heap.size, 2, none⟩ = some (.string ⟨#[]⟩) := blk_cell HT2.out.res 2
  have s2 := blk_frozen HT2.out.res 2
  have r3 : w2.cell? ⟨w.heap.size, 3, none⟩ = some (.slice none 0 0) := blk_cell HT2.out.res 3
  have s3 := blk_frozen HT2.out.res 3
  go_wp2_with fail
  have H4 := dat_put HT2.out.res (2) (N) (⟨#[]⟩)
  have HB4 := Lib.hid (below_put HT2.out.below (2) (N) (⟨#[]⟩))
  have q0 := blk_cell H4 0
  have q1 := blk_cell H4 1
  have q2 := blk_cell H4 2
  have q3 := blk_cell H4 3
  clear r0 r1 r2 r3 s0 s1 s2 s3
  (try simp only [Exit.inBlock, Exit.then])
  refine bodyPost_ret (by simp [results, Tryz.results34, go_sem, q0, q1, q2, q3]; rfl) rfl ?_
  exact ⟨rfl, HB4.out⟩
set_option maxRecDepth 100000 in
set_option maxHeartbeats 4000000 in
theorem text_33a (d e f : Nd) (v : Value) (w : World) (hA : ArgsAt [d, e, f] v w) (h0 : e.n < 0) : Calls Tryz.prog 34 #[.string ⟨#[115, 117, 98, 115, 116, 114, 105, 110, 103]⟩, v] w (Giv (.tuple #[datV 0 0 ⟨#[]⟩, kindV 13]) w) := by
  obtain ⟨A, cap, rfl, hc⟩ := hA.row
  obtain ⟨g, o, rfl, hg, a0, a1, a2, a3⟩ := hc 0 (by simp)
  obtain ⟨g1, o1, e1, -, b0, b1, b2, b3⟩ := hc 1 (by simp)
  injection e1 with e1
  injection e1 with eg1 eo1 _
  subst eg1 eo1
  obtain ⟨g2, o2, e2, -, c0, c1, c2, c3⟩ := hc 2 (by simp)
  injection e2 with e2
  injection e2 with eg2 eo2 _
  subst eg2 eo2
  replace a0 : w.cell? ⟨g, o, none⟩ = some (.int .i64 d.k) := a0
  replace a1 : w.cell? ⟨g, o + 1, none⟩ = some (.int .i64 d.n) := a1
  replace a2 : w.cell? ⟨g, o + 2, none⟩ = some (.string d.t) := a2
  replace a3 : w.cell? ⟨g, o + 3, none⟩ = some (.slice d.a d.m d.c) := a3
  replace b0 : w.cell? ⟨g, o + 4, none⟩ = some (.int .i64 e.k) := b0
  replace b1 : w.cell? ⟨g, o + 5, none⟩ = some (.int .i64 e.n) := b1
  replace b2 : w.cell? ⟨g, o + 6, none⟩ = some (.string e.t) := b2
  replace b3 : w.cell? ⟨g, o + 7, none⟩ = some (.slice e.a e.m e.c) := b3
  replace c0 : w.cell? ⟨g, o + 8, none⟩ = some (.int .i64 f.k) := c0
  replace c1 : w.cell? ⟨g, o + 9, none⟩ = some (.int .i64 f.n) := c1
  replace c2 : w.cell? ⟨g, o + 10, none⟩ = some (.string f.t) := c2
  replace c3 : w.cell? ⟨g, o + 11, none⟩ = some (.slice f.a f.m f.c) := c3
  have hlen : [d, e, f].length = 3 := rfl
  rw [hlen]
  clear hc hA hlen
  have y0 : decide (e.n < 0) = true := decide_eq_true h0
  have HARG := Lib.hid (fun (w2 : World) (hb : Below w.heap.size w w2) (i : Nat) => hb.cell (p := ⟨g, i, none⟩) hg)
  go_enter Tryz.func34, Tryz.ntmps34
  go_upto_region 3 with (fail)
  have HT := Lib.hid (txI_start w f)
  generalize (w.alloc (.cells #[.int .i64 0, .int .i64 0, .string ⟨#[]⟩, .slice none 0 0] 26)).alloc (.cells #[.int .i64 f.k, .int .i64 f.n, .string f.t, .slice f.a f.m f.c] 26) = w0 at HT ⊢
  replace a0 := (HARG.out w0 HT.out.below (o)).trans a0
  replace a1 := (HARG.out w0 HT.out.below (o + 1)).trans a1
  replace a2 := (HARG.out w0 HT.out.below (o + 2)).trans a2
  replace a3 := (HARG.out w0 HT.out.below (o + 3)).trans a3
  replace b0 := (HARG.out w0 HT.out.below (o + 4)).trans b0
  replace b1 := (HARG.out w0 HT.out.below (o + 5)).trans b1
  replace b2 := (HARG.out w0 HT.out.below (o + 6)).trans b2
  replace b3 := (HARG.out w0 HT.out.below (o + 7)).trans b3
  replace c0 := (HARG.out w0 HT.out.below (o + 8)).trans c0
  replace c1 := (HARG.out w0 HT.out.below (o + 9)).trans c1
  replace c2 := (HARG.out w0 HT.out.below (o + 10)).trans c2
  replace c3 := (HARG.out w0 HT.out.below (o + 11)).trans c3
  have r0 : w0.cell? ⟨w.heap.size, 0, none⟩ = some (.int .i64 0) := blk_cell HT.out.res 0
  have s0 := blk_frozen HT.out.res 0
  have r1 : w0.cell? ⟨w.heap.size, 1, none⟩ = some (.int .i64 0) := blk_cell HT.out.res 1
  have s1 := blk_frozen HT.out.res 1
  have r2 : w0.cell? ⟨w.heap.size, 2, none⟩ = some (.string ⟨#[]⟩) := blk_cell HT.out.res 2
  have s2 := blk_frozen HT.out.res 2
  have r3 : w0.cell? ⟨w.heap.size, 3, none⟩ = some (.slice none 0 0) := blk_cell HT.out.res 3
  have s3 := blk_frozen HT.out.res 3
  have l0 : w0.cell? ⟨w.heap.size + 1, 0, none⟩ = some (.int .i64 f.k) := blk_cell HT.out.last 0
  have l1 : w0.cell? ⟨w.heap.size + 1, 1, none⟩ = some (.int .i64 f.n) := blk_cell HT.out.last 1
  have l2 : w0.cell? ⟨w.heap.size + 1, 2, none⟩ = some (.string f.t) := blk_cell HT.out.last 2
  have l3 : w0.cell? ⟨w.heap.size + 1, 3, none⟩ = some (.slice f.a f.m f.c) := blk_cell HT.out.last 3
  go_wp2_with fail
  have H4 := dat_put HT.out.res (0) (0) (⟨#[]⟩)
  have HB4 := Lib.hid (below_put HT.out.below (0) (0) (⟨#[]⟩))
  have q0 := blk_cell H4 0
  have q1 := blk_cell H4 1
  have q2 := blk_cell H4 2
  have q3 := blk_cell H4 3
  clear r0 r1 r2 r3 s0 s1 s2 s3
  (try simp only [Exit.inBlock, Exit.then])
  refine bodyPost_ret (by simp [results, Tryz.results34, go_sem, q0, q1, q2, q3]; rfl) rfl ?_
  exact ⟨rfl, HB4.out⟩
set_option maxRecDepth 100000 in
set_option maxHeartbeats 4000000 in
theorem text_33b (d e f : Nd) (v : Value) (w : World) (hA : ArgsAt [d, e, f] v w) (h0 : 0 ≤ e.n) (h1 : f.n < e.n) : Calls Tryz.prog 34 #[.string ⟨#[115, 117, 98, 115, 116, 114, 105, 110, 103]⟩, v] w (Giv (.tuple #[datV 0 0 ⟨#[]⟩, kindV 13]) w) := by
  obtain ⟨A, cap, rfl, hc⟩ := hA.row
  obtain ⟨g, o, rfl, hg, a0, a1, a2, a3⟩ := hc 0 (by simp)
  obtain ⟨g1, o1, e1, -, b0, b1, b2, b3⟩ := hc 1 (by simp)
  injection e1 with e1
  injection e1 with eg1 eo1 _
  subst eg1 eo1
  obtain ⟨g2, o2, e2, -, c0, c1, c2, c3⟩ := hc 2 (by simp)
  injection e2 with e2
  injection e2 with eg2 eo2 _
  subst eg2 eo2
  replace a0 : w.cell? ⟨g, o, none⟩ = some (.int .i64 d.k) := a0
  replace a1 : w.cell? ⟨g, o + 1, none⟩ = some (.int .i64 d.n) := a1
  replace a2 : w.cell? ⟨g, o + 2, none⟩ = some (.string d.t) := a2
  replace a3 : w.cell? ⟨g, o + 3, none⟩ = some (.slice d.a d.m d.c) := a3
  replace b0 : w.cell? ⟨g, o + 4, none⟩ = some (.int .i64 e.k) := b0
  replace b1 : w.cell? ⟨g, o + 5, none⟩ = some (.int .i64 e.n) := b1
  replace b2 : w.cell? ⟨g, o + 6, none⟩ = some (.string e.t) := b2
  replace b3 : w.cell? ⟨g, o + 7, none⟩ = some (.slice e.a e.m e.c) := b3
  replace c0 : w.cell? ⟨g, o + 8, none⟩ = some (.int .i64 f.k) := c0
  replace c1 : w.cell? ⟨g, o + 9, none⟩ = some (.int .i64 f.n) := c1
  replace c2 : w.cell? ⟨g, o + 10, none⟩ = some (.string f.t) := c2
  replace c3 : w.cell? ⟨g, o + 11, none⟩ = some (.slice f.a f.m f.c) := c3
  have hlen : [d, e, f].length = 3 := rfl
  rw [hlen]
  clear hc hA hlen
  have y0 : decide (e.n < 0) = false := decide_eq_false (by omega)
  have y1 : decide (f.n < e.n) = true := decide_eq_true h1
  have HARG := Lib.hid (fun (w2 : World) (hb : Below w.heap.size w w2) (i : Nat) => hb.cell (p := ⟨g, i, none⟩) hg)
  go_enter Tryz.func34, Tryz.ntmps34
  go_upto_region 3 with (fail)
  have HT := Lib.hid (txI_start w f)
  generalize (w.alloc (.cells #[.int .i64 0, .int .i64 0, .string ⟨#[]⟩, .slice none 0 0] 26)).alloc (.cells #[.int .i64 f.k, .int .i64 f.n, .string f.t, .slice f.a f.m f.c] 26) = w0 at HT ⊢
  replace a0 := (HARG.out w0 HT.out.below (o)).trans a0
  replace a1 := (HARG.out w0 HT.out.below (o + 1)).trans a1
  replace a2 := (HARG.out w0 HT.out.below (o + 2)).trans a2
  replace a3 := (HARG.out w0 HT.out.below (o + 3)).trans a3
  replace b0 := (HARG.out w0 HT.out.below (o + 4)).trans b0
  replace b1 := (HARG.out w0 HT.out.below (o + 5)).trans b1
  replace b2 := (HARG.out w0 HT.out.below (o + 6)).trans b2
  replace b3 := (HARG.out w0 HT.out.below (o + 7)).trans b3
  replace c0 := (HARG.out w0 HT.out.below (o + 8)).trans c0
  replace c1 := (HARG.out w0 HT.out.below (o + 9)).trans c1
  replace c2 := (HARG.out w0 HT.out.below (o + 10)).trans c2
  replace c3 := (HARG.out w0 HT.out.below (o + 11)).trans c3
  have r0 : w0.cell? ⟨w.heap.size, 0, none⟩ = some (.int .i64 0) := blk_cell HT.out.res 0
  have s0 := blk_frozen HT.out.res 0
  have r1 : w0.cell? ⟨w.heap.size, 1, none⟩ = some (.int .i64 0) := blk_cell HT.out.res 1
  have s1 := blk_frozen HT.out.res 1
  have r2 : w0.cell? ⟨w.heap.size, 2, none⟩ = some (.string ⟨#[]⟩) := blk_cell HT.out.res 2
  have s2 := blk_frozen HT.out.res 2
  have r3 : w0.cell? ⟨w.heap.size, 3, none⟩ = some (.slice none 0 0) := blk_cell HT.out.res 3
  have s3 := blk_frozen HT.out.res 3
  have l0 : w0.cell? ⟨w.heap.size + 1, 0, none⟩ = some (.int .i64 f.k) := blk_cell HT.out.last 0
  have l1 : w0.cell? ⟨w.heap.size + 1, 1, none⟩ = some (.int .i64 f.n) := blk_cell HT.out.last 1
  have l2 : w0.cell? ⟨w.heap.size + 1, 2, none⟩ = some (.string f.t) := blk_cell HT.out.last 2
  have l3 : w0.cell? ⟨w.heap.size + 1, 3, none⟩ = some (.slice f.a f.m f.c) := blk_cell HT.out.last 3
  go_wp2_with fail
  have H4 := dat_put HT.out.res (0) (0) (⟨#[]⟩)
  have HB4 := Lib.hid (below_put HT.out.below (0) (0) (⟨#[]⟩))
  have q0 := blk_cell H4 0
  have q1 := blk_cell H4 1
  have q2 := blk_cell H4 2
  have q3 := blk_cell H4 3
  clear r0 r1 r2 r3 s0 s1 s2 s3
  (try simp only [Exit.inBlock, Exit.then])
  refine bodyPost_ret (by simp [results, Tryz.results34, go_sem, q0, q1, q2, q3]; rfl) rfl ?_
  exact ⟨rfl, HB4.out⟩
set_option maxRecDepth 100000 in
set_option maxHeartbeats 4000000 in
theorem text_33c (d e f : Nd) (v : Value) (w : World) (hA : ArgsAt [d, e, f] v w) (h0 : 0 ≤ e.n) (h1 : e.n ≤ f.n) (h2 : (d.t.size : Int) < f.n) : Calls Tryz.prog 34 #[.string ⟨#[115, 117, 98, 115, 116, 114, 105, 110, 103]⟩, v] w (Giv (.tuple #[datV 0 0 ⟨#[]⟩, kindV 13]) w) := by
  obtain ⟨A, cap, rfl, hc⟩ := hA.row
  obtain ⟨g, o, rfl, hg, a0, a1, a2, a3⟩ := hc 0 (by simp)
  obtain ⟨g1, o1, e1, -, b0, b1, b2, b3⟩ := hc 1 (by simp)
  injection e1 with e1
  injection e1 with eg1 eo1 _
  subst eg1 eo1
  obtain ⟨g2, o2, e2, -, c0, c1, c2, c3⟩ := hc 2 (by simp)
  injection e2 with e2
  injection e2 with eg2 eo2 _
  subst eg2 eo2
  replace a0 : w.cell? ⟨g, o, none⟩ = some (.int .i64 d.k) := a0
  replace a1 : w.cell? ⟨g, o + 1, none⟩ = some (.int .i64 d.n) := a1
  replace a2 : w.cell? ⟨g, o + 2, none⟩ = some (.string d.t) := a2
  replace a3 : w.cell? ⟨g, o + 3, none⟩ = some (.slice d.a d.m d.c) := a3
  replace b0 : w.cell? ⟨g, o + 4, none⟩ = some (.int .i64 e.k) := b0
  replace b1 : w.cell? ⟨g, o + 5, none⟩ = some (.int .i64 e.n) := b1
  replace b2 : w.cell? ⟨g, o + 6, none⟩ = some (.string e.t) := b2
  replace b3 : w.cell? ⟨g, o + 7, none⟩ = some (.slice e.a e.m e.c) := b3
  replace c0 : w.cell? ⟨g, o + 8, none⟩ = some (.int .i64 f.k) := c0
  replace c1 : w.cell? ⟨g, o + 9, none⟩ = some (.int .i64 f.n) := c1
  replace c2 : w.cell? ⟨g, o + 10, none⟩ = some (.string f.t) := c2
  replace c3 : w.cell? ⟨g, o + 11, none⟩ = some (.slice f.a f.m f.c) := c3
  have hlen : [d, e, f].length = 3 := rfl
  rw [hlen]
  clear hc hA hlen
  have y0 : decide (e.n < 0) = false := decide_eq_false (by omega)
  have y1 : decide (f.n < e.n) = false := decide_eq_false (by omega)
  have y2 : decide ((d.t.size : Int) < f.n) = true := decide_eq_true h2
  have HARG := Lib.hid (fun (w2 : World) (hb : Below w.heap.size w w2) (i : Nat) => hb.cell (p := ⟨g, i, none⟩) hg)
  go_enter Tryz.func34, Tryz.ntmps34
  go_upto_region 3 with (fail)
  have HT := Lib.hid (txI_start w f)
  generalize (w.alloc (.cells #[.int .i64 0, .int .i64 0, .string ⟨#[]⟩, .slice none 0 0] 26)).alloc (.cells #[.int .i64 f.k, .int .i64 f.n, .string f.t, .slice f.a f.m f.c] 26) = w0 at HT ⊢
  replace a0 := (HARG.out w0 HT.out.below (o)).trans a0
  replace a1 := (HARG.out w0 HT.out.below (o + 1)).trans a1
  replace a2 := (HARG.out w0 HT.out.below (o + 2)).trans a2
  replace a3 := (HARG.out w0 HT.out.below (o + 3)).trans a3
  replace b0 := (HARG.out w0 HT.out.below (o + 4)).trans b0
  replace b1 := (HARG.out w0 HT.out.below (o + 5)).trans b1
  replace b2 := (HARG.out w0 HT.out.below (o + 6)).trans b2
  replace b3 := (HARG.out w0 HT.out.below (o + 7)).trans b3
  replace c0 := (HARG.out w0 HT.out.below (o + 8)).trans c0
  replace c1 := (HARG.out w0 HT.out.below (o + 9)).trans c1
  replace c2 := (HARG.out w0 HT.out.below (o + 10)).trans c2
  replace c3 := (HARG.out w0 HT.out.below (o + 11)).trans c3
  have r0 : w0.cell? ⟨w.heap.size, 0, none⟩ = some (.int .i64 0) := blk_cell HT.out.res 0
  have s0 := blk_frozen HT.out.res 0
  have r1 : w0.cell? ⟨w.heap.size, 1, none⟩ = some (.int .i64 0) := blk_cell HT.out.res 1
  have s1 := blk_frozen HT.out.res 1
  have r2 : w0.cell? ⟨w.heap.size, 2, none⟩ = some (.string ⟨#[]⟩) := blk_cell HT.out.res 2
  have s2 := blk_frozen HT.out.res 2
  have r3 : w0.cell? ⟨w.heap.size, 3, none⟩ = some (.slice none 0 0) := blk_cell HT.out.res 3
  have s3 := blk_frozen HT.out.res 3
  have l0 : w0.cell? ⟨w.heap.size + 1, 0, none⟩ = some (.int .i64 f.k) := blk_cell HT.out.last 0
  have l1 : w0.cell? ⟨w.heap.size + 1, 1, none⟩ = some (.int .i64 f.n) := blk_cell HT.out.last 1
  have l2 : w0.cell? ⟨w.heap.size + 1, 2, none⟩ = some (.string f.t) := blk_cell HT.out.last 2
  have l3 : w0.cell? ⟨w.heap.size + 1, 3, none⟩ = some (.slice f.a f.m f.c) := blk_cell HT.out.last 3
  go_wp2_with fail
  have H4 := dat_put HT.out.res (0) (0) (⟨#[]⟩)
  have HB4 := Lib.hid (below_put HT.out.below (0) (0) (⟨#[]⟩))
  have q0 := blk_cell H4 0
  have q1 := blk_cell H4 1
  have q2 := blk_cell H4 2
  have q3 := blk_cell H4 3
  clear r0 r1 r2 r3 s0 s1 s2 s3
  (try simp only [Exit.inBlock, Exit.then])
  refine bodyPost_ret (by simp [results, Tryz.results34, go_sem, q0, q1, q2, q3]; rfl) rfl ?_
  exact ⟨rfl, HB4.out⟩
set_option maxRecDepth 100000 in
set_option maxHeartbeats 4000000 in
theorem text_33 (d e f : Nd) (v : Value) (w : World) (hA : ArgsAt [d, e, f] v w) (h0 : 0 ≤ e.n) (h1 : e.n ≤ f.n) (h2 : f.n ≤ d.t.size) : Calls Tryz.prog 34 #[.string ⟨#[115, 117, 98, 115, 116, 114, 105, 110, 103]⟩, v] w (Giv (.tuple #[datV 4 0 (d.t.extract e.n.toNat f.n.toNat), .nilIface]) w) := by
  obtain ⟨A, cap, rfl, hc⟩ := hA.row
  obtain ⟨g, o, rfl, hg, a0, a1, a2, a3⟩ := hc 0 (by simp)
  obtain ⟨g1, o1, e1, -, b0, b1, b2, b3⟩ := hc 1 (by simp)
  injection e1 with e1
  injection e1 with eg1 eo1 _
  subst eg1 eo1
  obtain ⟨g2, o2, e2, -, c0, c1, c2, c3⟩ := hc 2 (by simp)
  injection e2 with e2
  injection e2 with eg2 eo2 _
  subst eg2 eo2
  replace a0 : w.cell? ⟨g, o, none⟩ = some (.int .i64 d.k) := a0
  replace a1 : w.cell? ⟨g, o + 1, none⟩ = some (.int .i64 d.n) := a1
  replace a2 : w.cell? ⟨g, o + 2, none⟩ = some (.string d.t) := a2
  replace a3 : w.cell? ⟨g, o + 3, none⟩ = some (.slice d.a d.m d.c) := a3
  replace b0 : w.cell? ⟨g, o + 4, none⟩ = some (.int .i64 e.k) := b0
  replace b1 : w.cell? ⟨g, o + 5, none⟩ = some (.int .i64 e.n) := b1
  replace b2 : w.cell? ⟨g, o + 6, none⟩ = some (.string e.t) := b2
  replace b3 : w.cell? ⟨g, o + 7, none⟩ = some (.slice e.a e.m e.c) := b3
  replace c0 : w.cell? ⟨g, o + 8, none⟩ = some (.int .i64 f.k) := c0
  replace c1 : w.cell? ⟨g, o + 9, none⟩ = some (.int .i64 f.n) := c1
  replace c2 : w.cell? ⟨g, o + 10, none⟩ = some (.string f.t) := c2
  replace c3 : w.cell? ⟨g, o + 11, none⟩ = some (.slice f.a f.m f.c) := c3
  have hlen : [d, e, f].length = 3 := rfl
  rw [hlen]
  clear hc hA hlen
  have y0 : decide (e.n < 0) = false := decide_eq_false (by omega)
  have y1 : decide (f.n < e.n) = false := decide_eq_false (by omega)
  have y2 : decide ((d.t.size : Int) < f.n) = false := decide_eq_false (by omega)
  have hsl := fun w => run_slice_string (P := Tryz.prog) (w := w) 9 d.t .i64 .i64 e.n f.n Tryz.underlying9 h0 h1 h2
  have HARG := Lib.hid (fun (w2 : World) (hb : Below w.heap.size w w2) (i : Nat) => hb.cell (p := ⟨g, i, none⟩) hg)
  go_enter Tryz.func34, Tryz.ntmps34
  go_upto_region 3 with (fail)
  have HT := Lib.hid (txI_start w f)
  generalize (w.alloc (.cells #[.int .i64 0, .int .i64 0, .string ⟨#[]⟩, .slice none 0 0] 26)).alloc (.cells #[.int .i64 f.k, .int .i64 f.n, .string f.t, .slice f.a f.m f.c] 26) = w0 at HT ⊢
  replace a0 := (HARG.out w0 HT.out.below (o)).trans a0
  replace a1 := (HARG.out w0 HT.out.below (o + 1)).trans a1
  replace a2 := (HARG.out w0 HT.out.below (o + 2)).trans a2
  replace a3 := (HARG.out w0 HT.out.below (o + 3)).trans a3
  replace b0 := (HARG.out w0 HT.out.below (o + 4)).trans b0
  replace b1 := (HARG.out w0 HT.out.below (o + 5)).trans b1
  replace b2 := (HARG.out w0 HT.out.below (o + 6)).trans b2
  replace b3 := (HARG.out w0 HT.out.below (o + 7)).trans b3
  replace c0 := (HARG.out w0 HT.out.below (o + 8)).trans c0
  replace c1 := (HARG.out w0 HT.out.below (o + 9)).trans c1
  replace c2 := (HARG.out w0 HT.out.below (o + 10)).trans c2
  replace c3 := (HARG.out w0 HT.out.below (o + 11)).trans c3
  have r0 : w0.cell? ⟨w.heap.size, 0, none⟩ = some (.int .i64 0) := blk_cell HT.out.res 0
  have s0 := blk_frozen HT.out.res 0
  have r1 : w0.cell? ⟨w.heap.size, 1, none⟩ = some (.int .i64 0) := blk_cell HT.out.res 1
  have s1 := blk_frozen HT.out.res 1
  have r2 : w0.cell? ⟨w.heap.size, 2, none⟩ = some (.string ⟨#[]⟩) := blk_cell HT.out.res 2
  have s2 := blk_frozen HT.out.res 2
  have r3 : w0.cell? ⟨w.heap.size, 3, none⟩ = some (.slice none 0 0) := blk_cell HT.out.res 3
  have s3 := blk_frozen HT.out.res 3
  have l0 : w0.cell? ⟨w.heap.size + 1, 0, none⟩ = some (.int .i64 f.k) := blk_cell HT.out.last 0
  have l1 : w0.cell? ⟨w.heap.size + 1, 1, none⟩ = some (.int .i64 f.n) := blk_cell HT.out.last 1
  have l2 : w0.cell? ⟨w.heap.size + 1, 2, none⟩ = some (.string f.t) := blk_cell HT.out.last 2
  have l3 : w0.cell? ⟨w.heap.size + 1, 3, none⟩ = some (.slice f.a f.m f.c) := blk_cell HT.out.last 3
  go_wp2_with fail
  have hlr : w.heap.size < w0.heap.size := blk_lt HT.out.res
  have hll : w.heap.size + 1 < w0.heap.size := blk_lt HT.out.last
  have hlg : g < w0.heap.size := Nat.lt_of_lt_of_le hg HT.out.below.size
  have hgn : ¬ g = w.heap.size := by omega
  have hgm : ¬ w.heap.size = g := by omega
  go_region_held3 (fun w' => w'.cell? ⟨g, o + 5, none⟩ = some (.int .i64 e.n) ∧ w'.cell? ⟨w.heap.size + 1, 1, none⟩ = some (.int .i64 f.n))
    (first | go_keep | exact ⟨(hb6.cell (p := ⟨g, o + 5, none⟩) hlg).trans b1, (hb6.cell (p := ⟨w.heap.size + 1, 1, none⟩) hll).trans l1⟩)
    ((go_at_call 64; refine (str_of _ _).mono ?_; rintro e' w6 ⟨rfl, hb6⟩; have HT6 := Lib.hid (HT.out.step (below_step (below_drew (Below.refl _ _)) hb6)); have p0 := blk_cell HT6.out.res 0; have p1 := blk_cell HT6.out.res 1; have p2 := blk_cell HT6.out.res 2; have p3 := blk_cell HT6.out.res 3; have z0 := blk_frozen HT6.out.res 0; have z1 := blk_frozen HT6.out.res 1; have z2 := blk_frozen HT6.out.res 2; have z3 := blk_frozen HT6.out.res 3; have v1 := (hb6.cell (p := ⟨g, o + 5, none⟩) hlg).trans b1; have v2 := (hb6.cell (p := ⟨w.heap.size + 1, 1, none⟩) hll).trans l1))
  all_goals go_wp2_with fail
  all_goals (
    have H4 := dat_put HT6.out.res (4) (0) ((d.t.extract e.n.toNat f.n.toNat))
    have HB4 := Lib.hid (below_put HT6.out.below (4) (0) ((d.t.extract e.n.toNat f.n.toNat)))
    have q0 := blk_cell H4 0
    have q1 := blk_cell H4 1
    have q2 := blk_cell H4 2
    have q3 := blk_cell H4 3
    clear r0 r1 r2 r3 s0 s1 s2 s3
    (try simp only [Exit.inBlock, Exit.then])
    refine bodyPost_ret (by simp [results, Tryz.results34, go_sem, q0, q1, q2, q3]; rfl) rfl ?_
    exact ⟨rfl, HB4.out⟩)
set_option maxRecDepth 100000 in
set_option maxHeartbeats 4000000 in
theorem text_34 (d : Nd) (v : Value) (w : World) (hA : ArgsAt [d] v w) (h0 : -9223372036854775808 ≤ d.n) (h1 : d.n ≤ 9223372036854775807) (htab : Tab w) : Calls Tryz.prog 34 #[.string ⟨#[110, 117, 109, 98, 101, 114, 45, 62, 115, 116, 114, 105, 110, 103]⟩, v] w (Giv (.tuple #[datV 4 0 ⟨(Lib.itoa d.n).toArray⟩, .nilIface]) w) := by
  obtain ⟨A, cap, rfl, hc⟩ := hA.row
  obtain ⟨g, o, rfl, hg, a0, a1, a2, a3⟩ := hc 0 (by simp)
  replace a0 : w.cell? ⟨g, o, none⟩ = some (.int .i64 d.k) := a0
  replace a1 : w.cell? ⟨g, o + 1, none⟩ = some (.int .i64 d.n) := a1
  replace a2 : w.cell? ⟨g, o + 2, none⟩ = some (.string d.t) := a2
  replace a3 : w.cell? ⟨g, o + 3, none⟩ = some (.slice d.a d.m d.c) := a3
  have hlen : [d].length = 1 := rfl
  rw [hlen]
  clear hc hA hlen
  have HTB := Lib.hid htab
  clear htab
  have HARG := Lib.hid (fun (w2 : World) (hb : Below w.heap.size w w2) (i : Nat) => hb.cell (p := ⟨g, i, none⟩) hg)
  go_enter Tryz.func34, Tryz.ntmps34
  go_upto_region 3 with (fail)
  have HT := Lib.hid (txI_start w d)
  generalize (w.alloc (.cells #[.int .i64 0, .int .i64 0, .string ⟨#[]⟩, .slice none 0 0] 26)).alloc (.cells #[.int .i64 d.k, .int .i64 d.n, .string d.t, .slice d.a d.m d.c] 26) = w0 at HT ⊢
  replace a0 := (HARG.out w0 HT.out.below (o)).trans a0
  replace a1 := (HARG.out w0 HT.out.below (o + 1)).trans a1
  replace a2 := (HARG.out w0 HT.out.below (o + 2)).trans a2
  replace a3 := (HARG.out w0 HT.out.below (o + 3)).trans a3
  have r0 : w0.cell? ⟨w.heap.size, 0, none⟩ = some (.int .i64 0) := blk_cell HT.out.res 0
  have s0 := blk_frozen HT.out.res 0
  have r1 : w0.cell? ⟨w.heap.size, 1, none⟩ = some (.int .i64 0) := blk_cell HT.out.res 1
  have s1 := blk_frozen HT.out.res 1
  have r2 : w0.cell? ⟨w.heap.size, 2, none⟩ = some (.string ⟨#[]⟩) := blk_cell HT.out.res 2
  have s2 := blk_frozen HT.out.res 2
  have r3 : w0.cell? ⟨w.heap.size, 3, none⟩ = some (.slice none 0 0) := blk_cell HT.out.res 3
  have s3 := blk_frozen HT.out.res 3
  have l0 : w0.cell? ⟨w.heap.size + 1, 0, none⟩ = some (.int .i64 d.k) := blk_cell HT.out.last 0
  have l1 : w0.cell? ⟨w.heap.size + 1, 1, none⟩ = some (.int .i64 d.n) := blk_cell HT.out.last 1
  have l2 : w0.cell? ⟨w.heap.size + 1, 2, none⟩ = some (.string d.t) := blk_cell HT.out.last 2
  have l3 : w0.cell? ⟨w.heap.size + 1, 3, none⟩ = some (.slice d.a d.m d.c) := blk_cell HT.out.last 3
  go_wp2_with fail
  refine (text_any d.n _ h0 h1 (tab_below HTB.out HT.out.below)).mono ?_
  rintro e' w1 ⟨rfl, hb1⟩
  have HT1 := Lib.hid (HT.out.step hb1)
  clear r0 r1 r2 r3 s0 s1 s2 s3 hb1
  go_wp2_with fail
  refine (str_of _ _).mono ?_
  rintro e' w2 ⟨rfl, hb2⟩
  have HT2 := Lib.hid (HT1.out.step hb2)
  clear hb2
  have r0 : w2.cell? ⟨w.heap.size, 0, none⟩ = some (.int .i64 0) := blk_cell HT2.out.res 0
  have s0 := blk_frozen HT2.out.res 0
  have r1 : w2.cell? ⟨w.heap.size, 1, none⟩ = some (.int .i64 0) := blk_cell HT2.out.res 1
  have s1 := blk_frozen HT2.out.res 1
  have r2 : w2.cell? ⟨w.heap.size, 2, none⟩ = some (.string ⟨#[]⟩) := blk_cell HT2.out.res 2
  have s2 := blk_frozen HT2.out.res 2
  have r3 : w2.cell? ⟨w.heap.size, 3, none⟩ = some (.slice none 0 0) := blk_cell HT2.out.res 3
  have s3 := blk_frozen HT2.out.res 3
  go_wp2_with fail
  have H4 := dat_put HT2.out.res (4) (0) (⟨(Lib.itoa d.n).toArray⟩)
  have HB4 := Lib.hid (below_put HT2.out.below (4) (0) (⟨(Lib.itoa d.n).toArray⟩))
  have q0 := blk_cell H4 0
  have q1 := blk_cell H4 1
  have q2 := blk_cell H4 2
  have q3 := blk_cell H4 3
  clear r0 r1 r2 r3 s0 s1 s2 s3
  (try simp only [Exit.inBlock, Exit.then])
  refine bodyPost_ret (by simp [results, Tryz.results34, go_sem, q0, q1, q2, q3]; rfl) rfl ?_
  exact ⟨rfl, HB4.out⟩
set_option maxRecDepth 100000 in
set_option maxHeartbeats 4000000 in
theorem text_35 (d : Nd) (v : Value) (w : World) (hA : ArgsAt [d] v w) (n : Int) (hp : parseL d.t.data.toList = (n, 0)) : Calls Tryz.prog 34 #[.string ⟨#[115, 116, 114, 105, 110, 103, 45, 62, 110, 117, 109, 98, 101, 114]⟩, v] w (Giv (.tuple #[datV 1 n ⟨#[]⟩, .nilIface]) w) := by
  obtain ⟨A, cap, rfl, hc⟩ := hA.row
  obtain ⟨g, o, rfl, hg, a0, a1, a2, a3⟩ := hc 0 (by simp)
  replace a0 : w.cell? ⟨g, o, none⟩ = some (.int .i64 d.k) := a0
  replace a1 : w.cell? ⟨g, o + 1, none⟩ = some (.int .i64 d.n) := a1
  replace a2 : w.cell? ⟨g, o + 2, none⟩ = some (.string d.t) := a2
  replace a3 : w.cell? ⟨g, o + 3, none⟩ = some (.slice d.a d.m d.c) := a3
  have hlen : [d].length = 1 := rfl
  rw [hlen]
  clear hc hA hlen
  have HPR := Lib.hid hp
  clear hp
  have HARG := Lib.hid (fun (w2 : World) (hb : Below w.heap.size w w2) (i : Nat) => hb.cell (p := ⟨g, i, none⟩) hg)
  go_enter Tryz.func34, Tryz.ntmps34
  go_upto_region 3 with (fail)
  have HT := Lib.hid (txI_start w d)
  generalize (w.alloc (.cells #[.int .i64 0, .int .i64 0, .string ⟨#[]⟩, .slice none 0 0] 26)).alloc (.cells #[.int .i64 d.k, .int .i64 d.n, .string d.t, .slice d.a d.m d.c] 26) = w0 at HT ⊢
  replace a0 := (HARG.out w0 HT.out.below (o)).trans a0
  replace a1 := (HARG.out w0 HT.out.below (o + 1)).trans a1
  replace a2 := (HARG.out w0 HT.out.below (o + 2)).trans a2
  replace a3 := (HARG.out w0 HT.out.below (o + 3)).trans a3
  have r0 : w0.cell? ⟨w.heap.size, 0, none⟩ = some (.int .i64 0) := blk_cell HT.out.res 0
  have s0 := blk_frozen HT.out.res 0
  have r1 : w0.cell? ⟨w.heap.size, 1, none⟩ = some (.int .i64 0) := blk_cell HT.out.res 1
  have s1 := blk_frozen HT.out.res 1
  have r2 : w0.cell? ⟨w.heap.size, 2, none⟩ = some (.string ⟨#[]⟩) := blk_cell HT.out.res 2
  have s2 := blk_frozen HT.out.res 2
  have r3 : w0.cell? ⟨w.heap.size, 3, none⟩ = some (.slice none 0 0) := blk_cell HT.out.res 3
  have s3 := blk_frozen HT.out.res 3
  have l0 : w0.cell? ⟨w.heap.size + 1, 0, none⟩ = some (.int .i64 d.k) := blk_cell HT.out.last 0
  have l1 : w0.cell? ⟨w.heap.size + 1, 1, none⟩ = some (.int .i64 d.n) := blk_cell HT.out.last 1
  have l2 : w0.cell? ⟨w.heap.size + 1, 2, none⟩ = some (.string d.t) := blk_cell HT.out.last 2
  have l3 : w0.cell? ⟨w.heap.size + 1, 3, none⟩ = some (.slice d.a d.m d.c) := blk_cell HT.out.last 3
  go_wp2_with fail
  refine (parse_any d.t _).mono ?_
  rintro e' w1 ⟨rfl, hb1⟩
  have HT1 := Lib.hid (HT.out.step hb1)
  clear r0 r1 r2 r3 s0 s1 s2 s3 hb1
  have r0 : w1.cell? ⟨w.heap.size, 0, none⟩ = some (.int .i64 0) := blk_cell HT1.out.res 0
  have s0 := blk_frozen HT1.out.res 0
  have r1 : w1.cell? ⟨w.heap.size, 1, none⟩ = some (.int .i64 0) := blk_cell HT1.out.res 1
  have s1 := blk_frozen HT1.out.res 1
  have r2 : w1.cell? ⟨w.heap.size, 2, none⟩ = some (.string ⟨#[]⟩) := blk_cell HT1.out.res 2
  have s2 := blk_frozen HT1.out.res 2
  have r3 : w1.cell? ⟨w.heap.size, 3, none⟩ = some (.slice none 0 0) := blk_cell HT1.out.res 3
  have s3 := blk_frozen HT1.out.res 3
  rw [HPR.out, show resV (n, 0) = .tuple #[.int .i64 n, .nilIface] from rfl]
  go_wp2_with fail
  have H4 := dat_put HT1.out.res (1) (n) (⟨#[]⟩)
  have HB4 := Lib.hid (below_put HT1.out.below (1) (n) (⟨#[]⟩))
  have q0 := blk_cell H4 0
  have q1 := blk_cell H4 1
  have q2 := blk_cell H4 2
  have q3 := blk_cell H4 3
  clear r0 r1 r2 r3 s0 s1 s2 s3
  (try simp only [Exit.inBlock, Exit.then])
  refine bodyPost_ret (by simp [results, Tryz.results34, go_sem, q0, q1, q2, q3]; rfl) rfl ?_
  exact ⟨rfl, HB4.out⟩
set_option maxRecDepth 100000 in
set_option maxHeartbeats 4000000 in
theorem text_35a (d : Nd) (v : Value) (w : World) (hA : ArgsAt [d] v w) (k : Int) (hk : k ≠ 0) (m : Int) (hp : parseL d.t.data.toList = (m, k)) : Calls Tryz.prog 34 #[.string ⟨#[115, 116, 114, 105, 110, 103, 45, 62, 110, 117, 109, 98, 101, 114]⟩, v] w (Giv (.tuple #[datV 2 0 ⟨#[]⟩, .nilIface]) w) := by
  obtain ⟨A, cap, rfl, hc⟩ := hA.row
  obtain ⟨g, o, rfl, hg, a0, a1, a2, a3⟩ := hc 0 (by simp)
  replace a0 : w.cell? ⟨g, o, none⟩ = some (.int .i64 d.k) := a0
  replace a1 : w.cell? ⟨g, o + 1, none⟩ = some (.int .i64 d.n) := a1
  replace a2 : w.cell? ⟨g, o + 2, none⟩ = some (.string d.t) := a2
  replace a3 : w.cell? ⟨g, o + 3, none⟩ = some (.slice d.a d.m d.c) := a3
  have hlen : [d].length = 1 := rfl
  rw [hlen]
  clear hc hA hlen
  have HPR := Lib.hid hp
  have HKV := Lib.hid (show resV (m, k) = .tuple #[.int .i64 m, kindV k] by unfold resV errV; rw [if_neg (by simpa using hk)])
  clear hp
  have HARG := Lib.hid (fun (w2 : World) (hb : Below w.heap.size w w2) (i : Nat) => hb.cell (p := ⟨g, i, none⟩) hg)
  go_enter Tryz.func34, Tryz.ntmps34
  go_upto_region 3 with (fail)
  have HT := Lib.hid (txI_start w d)
  generalize (w.alloc (.cells #[.int .i64 0, .int .i64 0, .string ⟨#[]⟩, .slice none 0 0] 26)).alloc (.cells #[.int .i64 d.k, .int .i64 d.n, .string d.t, .slice d.a d.m d.c] 26) = w0 at HT ⊢
  replace a0 := (HARG.out w0 HT.out.below (o)).trans a0
  replace a1 := (HARG.out w0 HT.out.below (o + 1)).trans a1
  replace a2 := (HARG.out w0 HT.out.below (o + 2)).trans a2
  replace a3 := (HARG.out w0 HT.out.below (o + 3)).trans a3
  have r0 : w0.cell? ⟨w.heap.size, 0, none⟩ = some (.int .i64 0) := blk_cell HT.out.res 0
  have s0 := blk_frozen HT.out.res 0
  have r1 : w0.cell? ⟨w.heap.size, 1, none⟩ = some (.int .i64 0) := blk_cell HT.out.res 1
  have s1 := blk_frozen HT.out.res 1
  have r2 : w0.cell? ⟨w.heap.size, 2, none⟩ = some (.string ⟨#[]⟩) := blk_cell HT.out.res 2
  have s2 := blk_frozen HT.out.res 2
  have r3 : w0.cell? ⟨w.heap.size, 3, none⟩ = some (.slice none 0 0) := blk_cell HT.out.res 3
  have s3 := blk_frozen HT.out.res 3
  have l0 : w0.cell? ⟨w.heap.size + 1, 0, none⟩ = some (.int .i64 d.k) := blk_cell HT.out.last 0
  have l1 : w0.cell? ⟨w.heap.size + 1, 1, none⟩ = some (.int .i64 d.n) := blk_cell HT.out.last 1
  have l2 : w0.cell? ⟨w.heap.size + 1, 2, none⟩ = some (.string d.t) := blk_cell HT.out.last 2
  have l3 : w0.cell? ⟨w.heap.size + 1, 3, none⟩ = some (.slice d.a d.m d.c) := blk_cell HT.out.last 3
  go_wp2_with fail
  refine (parse_any d.t _).mono ?_
  rintro e' w1 ⟨rfl, hb1⟩
  have HT1 := Lib.hid (HT.out.step hb1)
  clear r0 r1 r2 r3 s0 s1 s2 s3 hb1
  rw [HPR.out, HKV.out]
  go_wp2_with fail
  refine (truth_of _ _).mono ?_
  rintro e' w2 ⟨rfl, hb2⟩
  have HT2 := Lib.hid (HT1.out.step hb2)
  clear hb2
  have r0 : w2.cell? ⟨w.heap.size, 0, none⟩ = some (.int .i64 0) := blk_cell HT2.out.res 0
  have s0 := blk_frozen HT2.out.res 0
  have r1 : w2.cell? ⟨w.heap.size, 1, none⟩ = some (.int .i64 0) := blk_cell HT2.out.res 1
  have s1 := blk_frozen HT2.out.res 1
  have r2 : w2.cell? ⟨w.heap.size, 2, none⟩ = some (.string ⟨#[]⟩) := blk_cell HT2.out.res 2
  have s2 := blk_frozen HT2.out.res 2
  have r3 : w2.cell? ⟨w.heap.size, 3, none⟩ = some (.slice none 0 0) := blk_cell HT2.out.res 3
  have s3 := blk_frozen HT2.out.res 3
  go_wp2_with fail
  have H4 := dat_put HT2.out.res (2) (0) (⟨#[]⟩)
  have HB4 := Lib.hid (below_put HT2.out.below (2) (0) (⟨#[]⟩))
  have q0 := blk_cell H4 0
  have q1 := blk_cell H4 1
  have q2 := blk_cell H4 2
  have q3 := blk_cell H4 3
  clear r0 r1 r2 r3 s0 s1 s2 s3
  (try simp only [Exit.inBlock, Exit.then])
  refine bodyPost_ret (by simp [results, Tryz.results34, go_sem, q0, q1, q2, q3]; rfl) rfl ?_
  exact ⟨rfl, HB4.out⟩
set_option maxRecDepth 100000 in
set_option maxHeartbeats 4000000 in
theorem text_36 (d : Nd) (v : Value) (w : World) (hA : ArgsAt [d] v w) : Calls Tryz.prog 34 #[.string ⟨#[115, 121, 109, 98, 111, 108, 45, 62, 115, 116, 114, 105, 110, 103]⟩, v] w (Giv (.tuple #[datV 4 0 d.t, .nilIface]) w) := by
  obtain ⟨A, cap, rfl, hc⟩ := hA.row
  obtain ⟨g, o, rfl, hg, a0, a1, a2, a3⟩ := hc 0 (by simp)
  replace a0 : w.cell? ⟨g, o, none⟩ = some (.int .i64 d.k) := a0
  replace a1 : w.cell? ⟨g, o + 1, none⟩ = some (.int .i64 d.n) := a1
  replace a2 : w.cell? ⟨g, o + 2, none⟩ = some (.string d.t) := a2
  replace a3 : w.cell? ⟨g, o + 3, none⟩ = some (.slice d.a d.m d.c) := a3
  have hlen : [d].length = 1 := rfl
  rw [hlen]
  clear hc hA hlen

  have HARG := Lib.hid (fun (w2 : World) (hb : Below w.heap.size w w2) (i : Nat) => hb.cell (p := ⟨g, i, none⟩) hg)
  go_enter Tryz.func34, Tryz.ntmps34
  go_upto_region 3 with (fail)
  have HT := Lib.hid (txI_start w d)
  generalize (w.alloc (.cells #[.int .i64 0, .int .i64 0, .string ⟨#[]⟩, .slice none 0 0] 26)).alloc (.cells #[.int .i64 d.k, .int .i64 d.n, .string d.t, .slice d.a d.m d.c] 26) = w0 at HT ⊢
  replace a0 := (HARG.out w0 HT.out.below (o)).trans a0
  replace a1 := (HARG.out w0 HT.out.below (o + 1)).trans a1
  replace a2 := (HARG.out w0 HT.out.below (o + 2)).trans a2
  replace a3 := (HARG.out w0 HT.out.below (o + 3)).trans a3
  have r0 : w0.cell? ⟨w.heap.size, 0, none⟩ = some (.int .i64 0) := blk_cell HT.out.res 0
  have s0 := blk_frozen HT.out.res 0
  have r1 : w0.cell? ⟨w.heap.size, 1, none⟩ = some (.int .i64 0) := blk_cell HT.out.res 1
  have s1 := blk_frozen HT.out.res 1
  have r2 : w0.cell? ⟨w.heap.size, 2, none⟩ = some (.string ⟨#[]⟩) := blk_cell HT.out.res 2
  have s2 := blk_frozen HT.out.res 2
  have r3 : w0.cell? ⟨w.heap.size, 3, none⟩ = some (.slice none 0 0) := blk_cell HT.out.res 3
  have s3 := blk_frozen HT.out.res 3
  have l0 : w0.cell? ⟨w.heap.size + 1, 0, none⟩ = some (.int .i64 d.k) := blk_cell HT.out.last 0
  have l1 : w0.cell? ⟨w.heap.size + 1, 1, none⟩ = some (.int .i64 d.n) := blk_cell HT.out.last 1
  have l2 : w0.cell? ⟨w.heap.size + 1, 2, none⟩ = some (.string d.t) := blk_cell HT.out.last 2
  have l3 : w0.cell? ⟨w.heap.size + 1, 3, none⟩ = some (.slice d.a d.m d.c) := blk_cell HT.out.last 3
  go_wp2_with fail
  refine (str_of _ _).mono ?_
  rintro e' w2 ⟨rfl, hb2⟩
  have HT2 := Lib.hid (HT.out.step hb2)
  clear r0 r1 r2 r3 s0 s1 s2 s3 hb2
  have r0 : w2.cell? ⟨w.heap.size, 0, none⟩ = some (.int .i64 0) := blk_cell HT2.out.res 0
  have s0 := blk_frozen HT2.out.res 0
  have r1 : w2.cell? ⟨w.heap.size, 1, none⟩ = some (.int .i64 0) := blk_cell HT2.out.res 1
  have s1 := blk_frozen HT2.out.res 1
  have r2 : w2.cell? ⟨w.heap.size, 2, none⟩ = some (.string ⟨#[]⟩) := blk_cell HT2.out.res 2
  have s2 := blk_frozen HT2.out.res 2
  have r3 : w2.cell? ⟨w.heap.size, 3, none⟩ = some (.slice none 0 0) := blk_cell HT2.out.res 3
  have s3 := blk_frozen HT2.out.res 3
  go_wp2_with fail
  have H4 := dat_put HT2.out.res (4) (0) (d.t)
  have HB4 := Lib.hid (below_put HT2.out.below (4) (0) (d.t))
  have q0 := blk_cell H4 0
  have q1 := blk_cell H4 1
  have q2 := blk_cell H4 2
  have q3 := blk_cell H4 3
  clear r0 r1 r2 r3 s0 s1 s2 s3
  (try simp only [Exit.inBlock, Exit.then])
  refine bodyPost_ret (by simp [results, Tryz.results34, go_sem, q0, q1, q2, q3]; rfl) rfl ?_
  exact ⟨rfl, HB4.out⟩
set_option maxRecDepth 100000 in
set_option maxHeartbeats 4000000 in
theorem text_37 (d : Nd) (v : Value) (w : World) (hA : ArgsAt [d] v w) (h : symL d.t.data.toList = true) : Calls Tryz.prog 34 #[.string ⟨#[115, 116, 114, 105, 110, 103, 45, 62, 115, 121, 109, 98, 111, 108]⟩, v] w (Giv (.tuple #[datV 5 0 d.t, .nilIface]) w) := by
  obtain ⟨A, cap, rfl, hc⟩ := hA.row
  obtain ⟨g, o, rfl, hg, a0, a1, a2, a3⟩ := hc 0 (by simp)
  replace a0 : w.cell? ⟨g, o, none⟩ = some (.int .i64 d.k) := a0
  replace a1 : w.cell? ⟨g, o + 1, none⟩ = some (.int .i64 d.n) := a1
  replace a2 : w.cell? ⟨g, o + 2, none⟩ = some (.string d.t) := a2
  replace a3 : w.cell? ⟨g, o + 3, none⟩ = some (.slice d.a d.m d.c) := a3
  have hlen : [d].length = 1 := rfl
  rw [hlen]
  clear hc hA hlen
  have HS := Lib.hid h
  clear h
  have HARG := Lib.hid (fun (w2 : World) (hb : Below w.heap.size w w2) (i : Nat) => hb.cell (p := ⟨g, i, none⟩) hg)
  go_enter Tryz.func34, Tryz.ntmps34
  go_upto_region 3 with (fail)
  have HT := Lib.hid (txI_start w d)
  generalize (w.alloc (.cells #[.int .i64 0, .int .i64 0, .string ⟨#[]⟩, .slice none 0 0] 26)).alloc (.cells #[.int .i64 d.k, .int .i64 d.n, .string d.t, .slice d.a d.m d.c] 26) = w0 at HT ⊢
  replace a0 := (HARG.out w0 HT.out.below (o)).trans a0
  replace a1 := (HARG.out w0 HT.out.below (o + 1)).trans a1
  replace a2 := (HARG.out w0 HT.out.below (o + 2)).trans a2
  replace a3 := (HARG.out w0 HT.out.below (o + 3)).trans a3
  have r0 : w0.cell? ⟨w.heap.size, 0, none⟩ = some (.int .i64 0) := blk_cell HT.out.res 0
  have s0 := blk_frozen HT.out.res 0
  have r1 : w0.cell? ⟨w.heap.size, 1, none⟩ = some (.int .i64 0) := blk_cell HT.out.res 1
  have s1 := blk_frozen HT.out.res 1
  have r2 : w0.cell? ⟨w.heap.size, 2, none⟩ = some (.string ⟨#[]⟩) := blk_cell HT.out.res 2
  have s2 := blk_frozen HT.out.res 2
  have r3 : w0.cell? ⟨w.heap.size, 3, none⟩ = some (.slice none 0 0) := blk_cell HT.out.res 3
  have s3 := blk_frozen HT.out.res 3
  have l0 : w0.cell? ⟨w.heap.size + 1, 0, none⟩ = some (.int .i64 d.k) := blk_cell HT.out.last 0
  have l1 : w0.cell? ⟨w.heap.size + 1, 1, none⟩ = some (.int .i64 d.n) := blk_cell HT.out.last 1
  have l2 : w0.cell? ⟨w.heap.size + 1, 2, none⟩ = some (.string d.t) := blk_cell HT.out.last 2
  have l3 : w0.cell? ⟨w.heap.size + 1, 3, none⟩ = some (.slice d.a d.m d.c) := blk_cell HT.out.last 3
  go_wp2_with fail
  refine (symbol_any _ _).mono ?_
  rintro e' w2 ⟨rfl, hb2⟩
  rw [HS.out]
  have HT2 := Lib.hid (HT.out.step hb2)
  clear r0 r1 r2 r3 s0 s1 s2 s3 hb2
  have r0 : w2.cell? ⟨w.heap.size, 0, none⟩ = some (.int .i64 0) := blk_cell HT2.out.res 0
  have s0 := blk_frozen HT2.out.res 0
  have r1 : w2.cell? ⟨w.heap.size, 1, none⟩ = some (.int .i64 0) := blk_cell HT2.out.res 1
  have s1 := blk_frozen HT2.out.res 1
  have r2 : w2.cell? ⟨w.heap.size, 2, none⟩ = some (.string ⟨#[]⟩) := blk_cell HT2.out.res 2
  have s2 := blk_frozen HT2.out.res 2
  have r3 : w2.cell? ⟨w.heap.size, 3, none⟩ = some (.slice none 0 0) := blk_cell HT2.out.res 3
  have s3 := blk_frozen HT2.out.res 3
  go_wp2_with fail
  have H4 := dat_put HT2.out.res (5) (0) (d.t)
  have HB4 := Lib.hid (below_put HT2.out.below (5) (0) (d.t))
  have q0 := blk_cell H4 0
  have q1 := blk_cell H4 1
  have q2 := blk_cell H4 2
  have q3 := blk_cell H4 3
  clear r0 r1 r2 r3 s0 s1 s2 s3
  (try simp only [Exit.inBlock, Exit.then])
  refine bodyPost_ret (by simp [results, Tryz.results34, go_sem, q0, q1, q2, q3]; rfl) rfl ?_
  exact ⟨rfl, HB4.out⟩
set_option maxRecDepth 100000 in
set_option maxHeartbeats 4000000 in
theorem text_37a (d : Nd) (v : Value) (w : World) (hA : ArgsAt [d] v w) (h : symL d.t.data.toList = false) : Calls Tryz.prog 34 #[.string ⟨#[115, 116, 114, 105, 110, 103, 45, 62, 115, 121, 109, 98, 111, 108]⟩, v] w (Giv (.tuple #[datV 0 0 ⟨#[]⟩, kindV 9]) w) := by
  obtain ⟨A, cap, rfl, hc⟩ := hA.row
  obtain ⟨g, o, rfl, hg, a0, a1, a2, a3⟩ := hc 0 (by simp)
  replace a0 : w.cell? ⟨g, o, none⟩ = some (.int .i64 d.k) := a0
  replace a1 : w.cell? ⟨g, o + 1, none⟩ = some (.int .i64 d.n) := a1
  replace a2 : w.cell? ⟨g, o + 2, none⟩ = some (.string d.t) := a2
  replace a3 : w.cell? ⟨g, o + 3, none⟩ = some (.slice d.a d.m d.c) := a3
  have hlen : [d].length = 1 := rfl
  rw [hlen]
  clear hc hA hlen
  have HS := Lib.hid h
  clear h
  have HARG := Lib.hid (fun (w2 : World) (hb : Below w.heap.size w w2) (i : Nat) => hb.cell (p := ⟨g, i, none⟩) hg)
  go_enter Tryz.func34, Tryz.ntmps34
  go_upto_region 3 with (fail)
  have HT := Lib.hid (txI_start w d)
  generalize (w.alloc (.cells #[.int .i64 0, .int .i64 0, .string ⟨#[]⟩, .slice none 0 0] 26)).alloc (.cells #[.int .i64 d.k, .int .i64 d.n, .string d.t, .slice d.a d.m d.c] 26) = w0 at HT ⊢
  replace a0 := (HARG.out w0 HT.out.below (o)).trans a0
  replace a1 := (HARG.out w0 HT.out.below (o + 1)).trans a1
  replace a2 := (HARG.out w0 HT.out.below (o + 2)).trans a2
  replace a3 := (HARG.out w0 HT.out.below (o + 3)).trans a3
  have r0 : w0.cell? ⟨w.heap.size, 0, none⟩ = some (.int .i64 0) := blk_cell HT.out.res 0
  have s0 := blk_frozen HT.out.res 0
  have r1 : w0.cell? ⟨w.heap.size, 1, none⟩ = some (.int .i64 0) := blk_cell HT.out.res 1
  have s1 := blk_frozen HT.out.res 1
  have r2 : w0.cell? ⟨w.heap.size, 2, none⟩ = some (.string ⟨#[]⟩) := blk_cell HT.out.res 2
  have s2 := blk_frozen HT.out.res 2
  have r3 : w0.cell? ⟨w.heap.size, 3, none⟩ = some (.slice none 0 0) := blk_cell HT.out.res 3
  have s3 := blk_frozen HT.out.res 3
  have l0 : w0.cell? ⟨w.heap.size + 1, 0, none⟩ = some (.int .i64 d.k) := blk_cell HT.out.last 0
  have l1 : w0.cell? ⟨w.heap.size + 1, 1, none⟩ = some (.int .i64 d.n) := blk_cell HT.out.last 1
  have l2 : w0.cell? ⟨w.heap.size + 1, 2, none⟩ = some (.string d.t) := blk_cell HT.out.last 2
  have l3 : w0.cell? ⟨w.heap.size + 1, 3, none⟩ = some (.slice d.a d.m d.c) := blk_cell HT.out.last 3
  go_wp2_with fail
  refine (symbol_any _ _).mono ?_
  rintro e' w2 ⟨rfl, hb2⟩
  rw [HS.out]
  have HT2 := Lib.hid (HT.out.step hb2)
  clear r0 r1 r2 r3 s0 s1 s2 s3 hb2
  have r0 : w2.cell? ⟨w.heap.size, 0, none⟩ = some (.int .i64 0) := blk_cell HT2.out.res 0
  have s0 := blk_frozen HT2.out.res 0
  have r1 : w2.cell? ⟨w.heap.size, 1, none⟩ = some (.int .i64 0) := blk_cell HT2.out.res 1
  have s1 := blk_frozen HT2.out.res 1
  have r2 : w2.cell? ⟨w.heap.size, 2, none⟩ = some (.string ⟨#[]⟩) := blk_cell HT2.out.res 2
  have s2 := blk_frozen HT2.out.res 2
  have r3 : w2.cell? ⟨w.heap.size, 3, none⟩ = some (.slice none 0 0) := blk_cell HT2.out.res 3
  have s3 := blk_frozen HT2.out.res 3
  go_wp2_with fail
  have H4 := dat_put HT2.out.res (0) (0) (⟨#[]⟩)
  have HB4 := Lib.hid (below_put HT2.out.below (0) (0) (⟨#[]⟩))
  have q0 := blk_cell H4 0
  have q1 := blk_cell H4 1
  have q2 := blk_cell H4 2
  have q3 := blk_cell H4 3
  clear r0 r1 r2 r3 s0 s1 s2 s3
  (try simp only [Exit.inBlock, Exit.then])
  refine bodyPost_ret (by simp [results, Tryz.results34, go_sem, q0, q1, q2, q3]; rfl) rfl ?_
  exact ⟨rfl, HB4.out⟩
set_option maxRecDepth 100000 in
set_option maxHeartbeats 4000000 in
theorem text_38 (d : Nd) (v : Value) (w : World) (hA : ArgsAt [d] v w) : Calls Tryz.prog 34 #[.string ⟨#[99, 104, 97, 114, 45, 62, 105, 110, 116, 101, 103, 101, 114]⟩, v] w (Giv (.tuple #[datV 1 d.n ⟨#[]⟩, .nilIface]) w) := by
  obtain ⟨A, cap, rfl, hc⟩ := hA.row
  obtain ⟨g, o, rfl, hg, a0, a1, a2, a3⟩ := hc 0 (by simp)
  replace a0 : w.cell? ⟨g, o, none⟩ = some (.int .i64 d.k) := a0
  replace a1 : w.cell? ⟨g, o + 1, none⟩ = some (.int .i64 d.n) := a1
  replace a2 : w.cell? ⟨g, o + 2, none⟩ = some (.string d.t) := a2
  replace a3 : w.cell? ⟨g, o + 3, none⟩ = some (.slice d.a d.m d.c) := a3
  have hlen : [d].length = 1 := rfl
  rw [hlen]
  clear hc hA hlen

  have HARG := Lib.hid (fun (w2 : World) (hb : Below w.heap.size w w2) (i : Nat) => hb.cell (p := ⟨g, i, none⟩) hg)
  go_enter Tryz.func34, Tryz.ntmps34
  go_upto_region 3 with (fail)
  have HT := Lib.hid (txI_start w d)
  generalize (w.alloc (.cells #[.int .i64 0, .int .i64 0, .string ⟨#[]⟩, .slice none 0 0] 26)).alloc (.cells #[.int .i64 d.k, .int .i64 d.n, .string d.t, .slice d.a d.m d.c] 26) = w0 at HT ⊢
  replace a0 := (HARG.out w0 HT.out.below (o)).trans a0
  replace a1 := (HARG.out w0 HT.out.below (o + 1)).trans a1
  replace a2 := (HARG.out w0 HT.out.below (o + 2)).trans a2
  replace a3 := (HARG.out w0 HT.out.below (o + 3)).trans a3
  have r0 : w0.cell? ⟨w.heap.size, 0, none⟩ = some (.int .i64 0) := blk_cell HT.out.res 0
  have s0 := blk_frozen HT.out.res 0
  have r1 : w0.cell? ⟨w.heap.size, 1, none⟩ = some (.int .i64 0) := blk_cell HT.out.res 1
  have s1 := blk_frozen HT.out.res 1
  have r2 : w0.cell? ⟨w.heap.size, 2, none⟩ = some (.string ⟨#[]⟩) := blk_cell HT.out.res 2
  have s2 := blk_frozen HT.out.res 2
  have r3 : w0.cell? ⟨w.heap.size, 3, none⟩ = some (.slice none 0 0) := blk_cell HT.out.res 3
  have s3 := blk_frozen HT.out.res 3
  have l0 : w0.cell? ⟨w.heap.size + 1, 0, none⟩ = some (.int .i64 d.k) := blk_cell HT.out.last 0
  have l1 : w0.cell? ⟨w.heap.size + 1, 1, none⟩ = some (.int .i64 d.n) := blk_cell HT.out.last 1
  have l2 : w0.cell? ⟨w.heap.size + 1, 2, none⟩ = some (.string d.t) := blk_cell HT.out.last 2
  have l3 : w0.cell? ⟨w.heap.size + 1, 3, none⟩ = some (.slice d.a d.m d.c) := blk_cell HT.out.last 3
  go_wp2_with fail
  have H4 := dat_put HT.out.res (1) (d.n) (⟨#[]⟩)
  have HB4 := Lib.hid (below_put HT.out.below (1) (d.n) (⟨#[]⟩))
  have q0 := blk_cell H4 0
  have q1 := blk_cell H4 1
  have q2 := blk_cell H4 2
  have q3 := blk_cell H4 3
  clear r0 r1 r2 r3 s0 s1 s2 s3
  (try simp only [Exit.inBlock, Exit.then])
  refine bodyPost_ret (by simp [results, Tryz.results34, go_sem, q0, q1, q2, q3]; rfl) rfl ?_
  exact ⟨rfl, HB4.out⟩
set_option maxRecDepth 100000 in
set_option maxHeartbeats 4000000 in
theorem text_39 (d : Nd) (v : Value) (w : World) (hA : ArgsAt [d] v w) (h0 : 0 ≤ d.n) (h1 : d.n ≤ 255) : Calls Tryz.prog 34 #[.string ⟨#[105, 110, 116, 101, 103, 101, 114, 45, 62, 99, 104, 97, 114]⟩, v] w (Giv (.tuple #[datV 3 d.n ⟨#[]⟩, .nilIface]) w) := by
  obtain ⟨A, cap, rfl, hc⟩ := hA.row
  obtain ⟨g, o, rfl, hg, a0, a1, a2, a3⟩ := hc 0 (by simp)
  replace a0 : w.cell? ⟨g, o, none⟩ = some (.int .i64 d.k) := a0
  replace a1 : w.cell? ⟨g, o + 1, none⟩ = some (.int .i64 d.n) := a1
  replace a2 : w.cell? ⟨g, o + 2, none⟩ = some (.string d.t) := a2
  replace a3 : w.cell? ⟨g, o + 3, none⟩ = some (.slice d.a d.m d.c) := a3
  have hlen : [d].length = 1 := rfl
  rw [hlen]
  clear hc hA hlen
  have y0 : decide (d.n < 0) = false := decide_eq_false (by omega)
  have y1 : decide (255 < d.n) = false := decide_eq_false (by omega)
  have HARG := Lib.hid (fun (w2 : World) (hb : Below w.heap.size w w2) (i : Nat) => hb.cell (p := ⟨g, i, none⟩) hg)
  go_enter Tryz.func34, Tryz.ntmps34
  go_upto_region 3 with (fail)
  have HT := Lib.hid (txI_start w d)
  generalize (w.alloc (.cells #[.int .i64 0, .int .i64 0, .string ⟨#[]⟩, .slice none 0 0] 26)).alloc (.cells #[.int .i64 d.k, .int .i64 d.n, .string d.t, .slice d.a d.m d.c] 26) = w0 at HT ⊢
  replace a0 := (HARG.out w0 HT.out.below (o)).trans a0
  replace a1 := (HARG.out w0 HT.out.below (o + 1)).trans a1
  replace a2 := (HARG.out w0 HT.out.below (o + 2)).trans a2
  replace a3 := (HARG.out w0 HT.out.below (o + 3)).trans a3
  have r0 : w0.cell? ⟨w.heap.size, 0, none⟩ = some (.int .i64 0) := blk_cell HT.out.res 0
  have s0 := blk_frozen HT.out.res 0
  have r1 : w0.cell? ⟨w.heap.size, 1, none⟩ = some (.int .i64 0) := blk_cell HT.out.res 1
  have s1 := blk_frozen HT.out.res 1
  have r2 : w0.cell? ⟨w.heap.size, 2, none⟩ = some (.string ⟨#[]⟩) := blk_cell HT.out.res 2
  have s2 := blk_frozen HT.out.res 2
  have r3 : w0.cell? ⟨w.heap.size, 3, none⟩ = some (.slice none 0 0) := blk_cell HT.out.res 3
  have s3 := blk_frozen HT.out.res 3
  have l0 : w0.cell? ⟨w.heap.size + 1, 0, none⟩ = some (.int .i64 d.k) := blk_cell HT.out.last 0
  have l1 : w0.cell? ⟨w.heap.size + 1, 1, none⟩ = some (.int .i64 d.n) := blk_cell HT.out.last 1
  have l2 : w0.cell? ⟨w.heap.size + 1, 2, none⟩ = some (.string d.t) := blk_cell HT.out.last 2
  have l3 : w0.cell? ⟨w.heap.size + 1, 3, none⟩ = some (.slice d.a d.m d.c) := blk_cell HT.out.last 3
  go_wp2_with fail
  have H4 := dat_put HT.out.res (3) (d.n) (⟨#[]⟩)
  have HB4 := Lib.hid (below_put HT.out.below (3) (d.n) (⟨#[]⟩))
  have q0 := blk_cell H4 0
  have q1 := blk_cell H4 1
  have q2 := blk_cell H4 2
  have q3 := blk_cell H4 3
  clear r0 r1 r2 r3 s0 s1 s2 s3
  (try simp only [Exit.inBlock, Exit.then])
  refine bodyPost_ret (by simp [results, Tryz.results34, go_sem, q0, q1, q2, q3]; rfl) rfl ?_
  exact ⟨rfl, HB4.out⟩
set_option maxRecDepth 100000 in
set_option maxHeartbeats 4000000 in
theorem text_39a (d : Nd) (v : Value) (w : World) (hA : ArgsAt [d] v w) (h0 : d.n < 0) : Calls Tryz.prog 34 #[.string ⟨#[105, 110, 116, 101, 103, 101, 114, 45, 62, 99, 104, 97, 114]⟩, v] w (Giv (.tuple #[datV 0 0 ⟨#[]⟩, kindV 13]) w) := by
  obtain ⟨A, cap, rfl, hc⟩ := hA.row
  obtain ⟨g, o, rfl, hg, a0, a1, a2, a3⟩ := hc 0 (by simp)
  replace a0 : w.cell? ⟨g, o, none⟩ = some (.int .i64 d.k) := a0
  replace a1 : w.cell? ⟨g, o + 1, none⟩ = some (.int .i64 d.n) := a1
  replace a2 : w.cell? ⟨g, o + 2, none⟩ = some (.string d.t) := a2
  replace a3 : w.cell? ⟨g, o + 3, none⟩ = some (.slice d.a d.m d.c) := a3
  have hlen : [d].length = 1 := rfl
  rw [hlen]
  clear hc hA hlen
  have y0 : decide (d.n < 0) = true := decide_eq_true h0
  have HARG := Lib.hid (fun (w2 : World) (hb : Below w.heap.size w w2) (i : Nat) => hb.cell (p := ⟨g, i, none⟩) hg)
  go_enter Tryz.func34, Tryz.ntmps34
  go_upto_region 3 with (fail)
  have HT := Lib.hid (txI_start w d)
  generalize (w.alloc (.cells #[.int .i64 0, .int .i64 0, .string ⟨#[]⟩, .slice none 0 0] 26)).alloc (.cells #[.int .i64 d.k, .int .i64 d.n, .string d.t, .slice d.a d.m d.c] 26) = w0 at HT ⊢
  replace a0 := (HARG.out w0 HT.out.below (o)).trans a0
  replace a1 := (HARG.out w0 HT.out.below (o + 1)).trans a1
  replace a2 := (HARG.out w0 HT.out.below (o + 2)).trans a2
  replace a3 := (HARG.out w0 HT.out.below (o + 3)).trans a3
  have r0 : w0.cell? ⟨w.heap.size, 0, none⟩ = some (.int .i64 0) := blk_cell HT.out.res 0
  have s0 := blk_frozen HT.out.res 0
  have r1 : w0.cell? ⟨w.heap.size, 1, none⟩ = some (.int .i64 0) := blk_cell HT.out.res 1
  have s1 := blk_frozen HT.out.res 1
  have r2 : w0.cell? ⟨w.heap.size, 2, none⟩ = some (.string ⟨#[]⟩) := blk_cell HT.out.res 2
  have s2 := blk_frozen HT.out.res 2
  have r3 : w0.cell? ⟨w.heap.size, 3, none⟩ = some (.slice none 0 0) := blk_cell HT.out.res 3
  have s3 := blk_frozen HT.out.res 3
  have l0 : w0.cell? ⟨w.heap.size + 1, 0, none⟩ = some (.int .i64 d.k) := blk_cell HT.out.last 0
  have l1 : w0.cell? ⟨w.heap.size + 1, 1, none⟩ = some (.int .i64 d.n) := blk_cell HT.out.last 1
  have l2 : w0.cell? ⟨w.heap.size + 1, 2, none⟩ = some (.string d.t) := blk_cell HT.out.last 2
  have l3 : w0.cell? ⟨w.heap.size + 1, 3, none⟩ = some (.slice d.a d.m d.c) := blk_cell HT.out.last 3
  go_wp2_with fail
  have H4 := dat_put HT.out.res (0) (0) (⟨#[]⟩)
  have HB4 := Lib.hid (below_put HT.out.below (0) (0) (⟨#[]⟩))
  have q0 := blk_cell H4 0
  have q1 := blk_cell H4 1
  have q2 := blk_cell H4 2
  have q3 := blk_cell H4 3
  clear r0 r1 r2 r3 s0 s1 s2 s3
  (try simp only [Exit.inBlock, Exit.then])
  refine bodyPost_ret (by simp [results, Tryz.results34, go_sem, q0, q1, q2, q3]; rfl) rfl ?_
  exact ⟨rfl, HB4.out⟩
set_option maxRecDepth 100000 in
set_option maxHeartbeats 4000000 in
theorem text_39b (d : Nd) (v : Value) (w : World) (hA : ArgsAt [d] v w) (h1 : 255 < d.n) : Calls Tryz.prog 34 #[.string ⟨#[105, 110, 116, 101, 103, 101, 114, 45, 62, 99, 104, 97, 114]⟩, v] w (Giv (.tuple #[datV 0 0 ⟨#[]⟩, kindV 13]) w) := by
  obtain ⟨A, cap, rfl, hc⟩ := hA.row
  obtain ⟨g, o, rfl, hg, a0, a1, a2, a3⟩ := hc 0 (by simp)
  replace a0 : w.cell? ⟨g, o, none⟩ = some (.int .i64 d.k) := a0
  replace a1 : w.cell? ⟨g, o + 1, none⟩ = some (.int .i64 d.n) := a1
  replace a2 : w.cell? ⟨g, o + 2, none⟩ = some (.string d.t) := a2
  replace a3 : w.cell? ⟨g, o + 3, none⟩ = some (.slice d.a d.m d.c) := a3
  have hlen : [d].length = 1 := rfl
  rw [hlen]
  clear hc hA hlen
  have y0 : decide (d.n < 0) = false := decide_eq_false (by omega)
  have y1 : decide (255 < d.n) = true := decide_eq_true h1
  have HARG := Lib.hid (fun (w2 : World) (hb : Below w.heap.size w w2) (i : Nat) => hb.cell (p := ⟨g, i, none⟩) hg)
  go_enter Tryz.func34, Tryz.ntmps34
  go_upto_region 3 with (fail)
  have HT := Lib.hid (txI_start w d)
  generalize (w.alloc (.cells #[.int .i64 0, .int .i64 0, .string ⟨#[]⟩, .slice none 0 0] 26)).alloc (.cells #[.int .i64 d.k, .int .i64 d.n, .string d.t, .slice d.a d.m d.c] 26) = w0 at HT ⊢
  replace a0 := (HARG.out w0 HT.out.below (o)).trans a0
  replace a1 := (HARG.out w0 HT.out.below (o + 1)).trans a1
  replace a2 := (HARG.out w0 HT.out.below (o + 2)).trans a2
  replace a3 := (HARG.out w0 HT.out.below (o + 3)).trans a3
  have r0 : w0.cell? ⟨w.heap.size, 0, none⟩ = some (.int .i64 0) := blk_cell HT.out.res 0
  have s0 := blk_frozen HT.out.res 0
  have r1 : w0.cell? ⟨w.heap.size, 1, none⟩ = some (.int .i64 0) := blk_cell HT.out.res 1
  have s1 := blk_frozen HT.out.res 1
  have r2 : w0.cell? ⟨w.heap.size, 2, none⟩ = some (.string ⟨#[]⟩) := blk_cell HT.out.res 2
  have s2 := blk_frozen HT.out.res 2
  have r3 : w0.cell? ⟨w.heap.size, 3, none⟩ = some (.slice none 0 0) := blk_cell HT.out.res 3
  have s3 := blk_frozen HT.out.res 3
  have l0 : w0.cell? ⟨w.heap.size + 1, 0, none⟩ = some (.int .i64 d.k) := blk_cell HT.out.last 0
  have l1 : w0.cell? ⟨w.heap.size + 1, 1, none⟩ = some (.int .i64 d.n) := blk_cell HT.out.last 1
  have l2 : w0.cell? ⟨w.heap.size + 1, 2, none⟩ = some (.string d.t) := blk_cell HT.out.last 2
  have l3 : w0.cell? ⟨w.heap.size + 1, 3, none⟩ = some (.slice d.a d.m d.c) := blk_cell HT.out.last 3
  go_wp2_with fail
  have H4 := dat_put HT.out.res (0) (0) (⟨#[]⟩)
  have HB4 := Lib.hid (below_put HT.out.below (0) (0) (⟨#[]⟩))
  have q0 := blk_cell H4 0
  have q1 := blk_cell H4 1
  have q2 := blk_cell H4 2
  have q3 := blk_cell H4 3
  clear r0 r1 r2 r3 s0 s1 s2 s3
  (try simp only [Exit.inBlock, Exit.then])
  refine bodyPost_ret (by simp [results, Tryz.results34, go_sem, q0, q1, q2, q3]; rfl) rfl ?_
  exact ⟨rfl, HB4.out⟩
end Go.Proofs.YtneokkhnjnomdaaGreatDoor
